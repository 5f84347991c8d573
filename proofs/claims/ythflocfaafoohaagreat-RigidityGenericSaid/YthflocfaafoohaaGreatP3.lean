/- A part of the proof. -/
import Derived.Test.YthflocfaafoohaaGreatP2
set_option linter.all false
set_option exponentiation.threshold 5000
set_option maxRecDepth 10000
section
namespace Go.Av
open Go.Proofs
theorem Wv (a b:Rat) (ha:Cd a) (hb:Cd b):Aj Tryz.prog 65 [Ix a,Ix b] Ac.emp fun v m=>v=Eb (Db a b)∧m=Ac.emp:=by
 have hs:=Wc a b ha hb;generalize Db a b=q at *;unfold Ix at hs ⊢;refine Ad Tryz.func65 rfl rfl 11 rfl (Nat.le_of_ble_eq_true rfl) ?_;(repeat refine AW.seq_k fun K hK=>?_);refine AW.rgR [2,3] ?_;simp[Ak];try (refine hK _ rfl ?_;clear hK K)
 refine Af.intro fun b4 _=>?_;refine hK _ rfl ?_;clear hK K;(repeat refine AW.seq_k fun K hK=>?_);refine AW.rg ?_;simp;try (refine hK _ rfl ?_;clear hK K)
 refine Aa.val hs ?_;cases q
 ·simp[Eb,Cn];refine hK _ rfl ?_;clear hK K;exact AW.ret (Dg (b:=b4) _ _ _ _ rfl rfl (by simp<;>exact⟨rfl,rfl,rfl,rfl⟩) rfl (Bd _ _ _) ⟨rfl,rfl⟩)
 ·simp[Eb,Ix];refine hK _ rfl ?_;clear hK K;exact AW.ret (Dg (b:=b4) _ _ _ _ rfl rfl (by simp<;>exact⟨rfl,rfl,rfl,rfl⟩) rfl (Bd _ _ _) ⟨rfl,rfl⟩)
@[simp] theorem Q2l:Ai Tryz.prog 98=some {size:=1,bytes:=8,cls:=.func,zero:=.nfn,fields:=[]}:=by kernel_rfl
@[simp] theorem Ll.agg_func:Ll.func.agg=false:=(rfl)
def kz (e z:Int):Int:=if e=0 then fz z else 0
def ke (e z:Int):Int:=if e=0 then fe z else e
theorem Qko (e z:Int):(kz e z).natAbs<Bh:=by
 unfold kz;split
 ·exact Qpo z
 ·exact Qpo 0 |> fun h=>by simpa[fz,show(0:Int).natAbs<Bh by decide]using h
section
variable {P:Program} {rs:List ResultVar} {R:AV→Ac→Prop} {s:St}
theorem Dl {vs:List AV} (vs':List AV) (b:Nat) (x:Fi) (hs:Dy P s rs=some vs) (hb:s.m b=some x) (h1:∀v∈x.l,v.cells.all AV.one=true) (hv:D9 s.m (Ac.emp.set b x) vs vs') (hR:R (oneOrTup vs') (Ac.emp.set b x)):Ou P rs R .ret s :=
 ⟨vs,hs,_,_,Bn.one hb h1,B2.oneOrTup hv,hR⟩
end
theorem Xi (f:Nat) (b:Nat):Aj Tryz.prog 181 [.fn f [],.ptr b 1 0 0] Ac.emp fun v m=>v=.fn 182 [.ptr b 1 0 0,.rptr [.fn f []]]∧m=Ac.emp:=by
 refine Ad Tryz.func181 rfl rfl 5 rfl (Nat.le_of_ble_eq_true rfl) ?_;(repeat refine AW.seq_k fun K hK=>?_);refine AW.rgR [2] ?_;simp[Ak];try (refine hK _ rfl ?_;clear hK K)
 (repeat refine AW.seq_k fun K hK=>?_);refine AW.rg ?_;simp;try (refine hK _ rfl ?_;clear hK K)
 exact AW.ret (Ag rfl _ (.same _) ⟨rfl,rfl⟩)
theorem F4 (f:Nat) (b:Nat) (e z x y:Int) (hf:Aj Tryz.prog f [Au x,Au y] Ac.emp fun v m=>v=Bv z∧m=Ac.emp) :
  Aj Tryz.prog 182 [Au x,Au y,.ptr b 1 0 0,.rptr [.fn f []]] (Ac.emp.set b ⟨23,1,[.int .i64 e]⟩) fun v m=>v=Au (kz e z)∧m=Ac.emp.set b ⟨23,1,[.int .i64 (ke e z)]⟩:=by
 rw[De]at hf;unfold Au at *;refine Ad Tryz.func182 rfl rfl 21 rfl (Nat.le_of_ble_eq_true rfl) ?_;(repeat refine AW.seq_k fun K hK=>?_);refine AW.rgR [4,5] ?_;simp[Ak];try (refine hK _ rfl ?_;clear hK K)
 refine Af.intro fun b6 hb6=>?_;simp only[An,Ay,and_true]at hb6;refine hK _ rfl ?_;clear hK K;(repeat refine AW.seq_k fun K hK=>?_);refine AW.rg ?_;simp[hb6];try (refine hK _ rfl ?_;clear hK K)
 by_cases he:e=0
 ·subst he;refine AW.no ?_ rfl;refine AW.skip ?_;try simp
  refine hK _ rfl ?_;clear hK K;(repeat refine AW.seq_k fun K hK=>?_);refine AW.rg ?_;simp[hb6];try (refine hK _ rfl ?_;clear hK K)
  refine⟨f,[],⟨rfl,rfl⟩,?_⟩;refine Aa.val hf ?_;simp;refine Af.intro fun b7 hb7=>?_;simp only[An,Ay,and_true]at hb7;try simp[hb6,hb7]
  refine hK _ rfl ?_;clear hK K;(repeat refine AW.seq_k fun K hK=>?_);refine AW.rg ?_;simp[hb6,hb7];try (refine hK _ rfl ?_;clear hK K)
  (repeat refine AW.seq_k fun K hK=>?_);refine AW.rg ?_;simp[hb6,hb7];try (refine hK _ rfl ?_;clear hK K)
  exact AW.ret (Dl (vs:=[.agg [.bool (decide (fz z<0)),Am (Ao (fz z).natAbs)]]) [.agg [.bool (decide (fz z<0)),Am (Ao (fz z).natAbs)]] b ⟨23,1,[.int .i64 (fe z)]⟩ (by simp[hb6,hb7]) (by simp[hb6,hb7]) (by simp) (Bd _ _ _) ⟨rfl,rfl⟩)
 ·refine AW.yes ?_ (by simp[he]);(repeat refine AW.seq_k fun K hK=>?_);refine AW.rg ?_;simp[hb6];try (refine hK _ rfl ?_;clear hK K)
  have k1:kz e z=0:=if_neg he;have k2:ke e z=e:=if_neg he;rw[k1,k2];exact AW.ret (Dl (vs:=[.agg [.bool false,.nil]]) [.agg [.bool false,Am []]] b ⟨23,1,[.int .i64 e]⟩ (by simp[hb6]) (by simp[hb6]) (by simp) (by simp) ⟨by simp[Be],rfl⟩)
end Go.Av
end
section
namespace Go.Av
open Go.Proofs
def opR (q:Option Rat) (N D e:Int):Prop :=
 match q with
 |some q=>e=0∧N.natAbs<Bh∧D.natAbs<Bh∧D≠0∧Rat.divInt N D=q
 |none=>e=2
def Eo (q:Rat):List AV:=[.bool (decide (q.num<0)),Am (Ao q.num.natAbs),.bool false,Am (Ao q.den)]
def Se (b:Nat) (e:Int):Ac:=Ac.emp.set b ⟨23,1,[.int .i64 e]⟩
theorem L7 {z:Int} (h:Cy z=true):kz 0 z=z:=by unfold kz;rw[if_pos rfl,Q6 (Ce.1 h)]
theorem Lo {z:Int} (h:Cy z=true):ke 0 z=0:=by unfold ke;rw[if_pos rfl,R4 (Ce.1 h)]
theorem Rp {z:Int} (h:¬Cy z=true):ke 0 z=2:=by unfold ke fe;rw[if_pos rfl,if_neg (fun h'=>h (Ce.2 h'))]
section
variable {a b:Rat}
theorem Qrb:(a.den:Int)*b.den≠0:=Int.ne_of_gt (Int.mul_pos (by have:=a.den_pos;omega) (by have:=b.den_pos;omega))
theorem Qor {e1 e2:Int} (h1:e1=ke 0 (a.num*b.num)) (h2:e2=ke e1 ((a.den:Int)*b.den)):opR (Ea a b) (kz 0 (a.num*b.num)) (kz e1 ((a.den:Int)*b.den)) e2:=by
 subst h1 h2;by_cases c1:Cy (a.num*b.num)=true
 ·rw[Lo c1];by_cases c2:Cy ((a.den:Int)*b.den)=true
  ·rw[Qr6 c1 c2,L7 c1,L7 c2,Lo c2];exact⟨rfl,Ce.1 c1,Ce.1 c2,Qrb,(Qeu a b).symm⟩
  ·rw[Qof c1 c2,Rp c2];rfl
 ·rw[Qnt c1,Rp c1];rfl
theorem Qod {e1 e2:Int} (h0:b≠0) (h1:e1=ke 0 (a.num*b.den)) (h2:e2=ke e1 ((a.den:Int)*b.num)):opR (Fo a b) (kz 0 (a.num*b.den)) (kz e1 ((a.den:Int)*b.num)) e2:=by
 subst h1 h2;by_cases c1:Cy (a.num*b.den)=true
 ·rw[Lo c1];by_cases c2:Cy ((a.den:Int)*b.num)=true
  ·rw[Qrp c1 c2,L7 c1,L7 c2,Lo c2];exact⟨rfl,Ce.1 c1,Ce.1 c2,Int.mul_ne_zero (by have:=a.den_pos;omega) (fun e=>h0 (Rat.num_eq_zero.1 e)),(Qld a b).symm⟩
  ·rw[Qm5 c1 c2,Rp c2];rfl
 ·rw[Qn0 c1,Rp c1];rfl
theorem Qne {e1 e2 e3 e4:Int} (h1:e1=ke 0 (a.num*b.den)) (h2:e2=ke e1 (b.num*a.den)) (h3:e3=ke e2 (kz 0 (a.num*b.den)+-kz e1 (b.num*a.den))) (h4:e4=ke e3 ((a.den:Int)*b.den)) :
  opR (Db a b) (kz e2 (kz 0 (a.num*b.den)+-kz e1 (b.num*a.den))) (kz e3 ((a.den:Int)*b.den)) e4:=by
 subst h1 h2 h3 h4;by_cases c1:Cy (a.num*b.den)=true
 ·rw[Lo c1,L7 c1];by_cases c2:Cy (b.num*a.den)=true
  ·rw[Lo c2,L7 c2];rw[←Int.sub_eq_add_neg];by_cases c3:Cy (a.num*b.den-b.num*a.den)=true
   ·rw[Lo c3,L7 c3];by_cases c4:Cy ((a.den:Int)*b.den)=true
    ·rw[Qki c1 c2 c3 c4,L7 c4,Lo c4];exact⟨rfl,Ce.1 c3,Ce.1 c4,Qrb,(Qc6 a b).symm⟩
    ·rw[Qfv c1 c2 c3 c4,Rp c4];rfl
   ·rw[Qgd c1 c2 c3,Rp c3];rfl
  ·rw[Qfj c1 c2,Rp c2];rfl
 ·rw[Qf8 c1,Rp c1];rfl
end
theorem Qgz (a b:Rat) (ha:Cd a) (hb:Cd b) (bl:Nat):Aj Tryz.prog 194 [.fn 182 [.ptr bl 1 0 0,.rptr [.fn 183 []]],.fn 182 [.ptr bl 1 0 0,.rptr [.fn 184 []]],.rptr (Eo a),.rptr (Eo b)] (Se bl 0) fun v m=>∃N D e,v=.tup [Au N,Au D]∧m=Se bl e∧opR (Ea a b) N D e:=by
 obtain⟨e1,he1⟩:∃e,e=ke 0 (a.num*b.num):=⟨_,rfl⟩;obtain⟨e2,he2⟩:∃e,e=ke e1 ((a.den:Int)*(b.den:Int)):=⟨_,rfl⟩;have hend:=Qor he1 he2;have m1:=F4 183 bl 0 _ _ _ (G4 (a.num) (b.num) ha.1 hb.1);have m2:=F4 183 bl e1 _ _ _ (G4 ((a.den:Int)) ((b.den:Int)) (Gh ha) (Gh hb));rw[←he1]at m1;rw[←he2]at m2;generalize kz 0 (a.num*b.num)=z1 at *;generalize kz e1 ((a.den:Int)*(b.den:Int))=z2 at *;simp only[Mi]at m1 m2;unfold Au at *;unfold Se Eo;refine Ad Tryz.func194 rfl rfl 21 rfl (Nat.le_of_ble_eq_true rfl) ?_
 (repeat refine AW.seq_k fun K hK=>?_);refine AW.rg ?_;simp[Ak];try (refine hK _ rfl ?_;clear hK K)
 refine Af.intro fun b6 hb6=>?_;simp only[An,Ay,and_true]at hb6;refine Af.intro fun b7 hb7=>?_;simp only[An,Ay,and_true]at hb7;refine hK _ rfl ?_;clear hK K;(repeat refine AW.seq_k fun K hK=>?_);refine AW.rg ?_;simp[hb6,hb7];try (refine hK _ rfl ?_;clear hK K)
 refine⟨182,_,⟨rfl,rfl⟩,?_⟩;refine Aa.grant (R:=fun v x=>v=.agg [.bool (decide (z1<0)),Am (Ao (z1).natAbs)]∧x=⟨23,1,[.int .i64 (e1)]⟩) bl ⟨23,1,[.int .i64 (0)]⟩ (by simp[hb6,hb7]) (by simp[hb6,hb7]) (m1.mono fun v m ⟨h1,h2⟩=>⟨_,⟨h1,rfl⟩,h2⟩) ?_;rintro _ _ ⟨rfl,rfl⟩;simp[hb6,hb7];refine hK _ rfl ?_;clear hK K;(repeat refine AW.seq_k fun K hK=>?_);refine AW.rdT [] [2,3,16,18] [] [b6] [0,1,2,3,4,5,6,7,8] Ds (by simp[hb6,hb7]) (by simp[hb6,hb7]) (by simp[hb6,hb7]) (by simp[hb6,hb7]) (by simp[hb6,hb7]) ?_;simp[hb6,hb7];try (refine hK _ rfl ?_;clear hK K)
 refine⟨182,_,⟨rfl,rfl⟩,?_⟩;refine Aa.grant (R:=fun v x=>v=.agg [.bool (decide (z2<0)),Am (Ao (z2).natAbs)]∧x=⟨23,1,[.int .i64 (e2)]⟩) bl ⟨23,1,[.int .i64 (e1)]⟩ (by simp[hb6,hb7]) (by simp[hb6,hb7]) (m2.mono fun v m ⟨h1,h2⟩=>⟨_,⟨h1,rfl⟩,h2⟩) ?_;rintro _ _ ⟨rfl,rfl⟩;simp[hb6,hb7];refine hK _ rfl ?_;clear hK K;exact AW.ret (Dl (vs:=[.agg [.bool (decide (z1<0)),Am (Ao (z1).natAbs)],.agg [.bool (decide (z2<0)),Am (Ao (z2).natAbs)]]) [.agg [.bool (decide (z1<0)),Am (Ao (z1).natAbs)],.agg [.bool (decide (z2<0)),Am (Ao (z2).natAbs)]] bl ⟨23,1,[.int .i64 e2]⟩ (by simp[hb6,hb7]) (by simp[hb6,hb7]) (by simp) (Bd _ _ _) ⟨z1,z2,e2,rfl,rfl,hend⟩)
theorem Qgv (a b:Rat) (ha:Cd a) (hb:Cd b) (h0:b≠0) (bl:Nat):Aj Tryz.prog 199 [.fn 182 [.ptr bl 1 0 0,.rptr [.fn 183 []]],.fn 182 [.ptr bl 1 0 0,.rptr [.fn 184 []]],.rptr (Eo a),.rptr (Eo b)] (Se bl 0) fun v m=>∃N D e,v=.tup [Au N,Au D]∧m=Se bl e∧opR (Fo a b) N D e:=by
 obtain⟨e1,he1⟩:∃e,e=ke 0 (a.num*(b.den:Int)):=⟨_,rfl⟩;obtain⟨e2,he2⟩:∃e,e=ke e1 ((a.den:Int)*b.num):=⟨_,rfl⟩;have hend:=Qod h0 he1 he2;have m1:=F4 183 bl 0 _ _ _ (G4 (a.num) ((b.den:Int)) ha.1 (Gh hb));have m2:=F4 183 bl e1 _ _ _ (G4 ((a.den:Int)) (b.num) (Gh ha) hb.1);rw[←he1]at m1;rw[←he2]at m2;generalize kz 0 (a.num*(b.den:Int))=z1 at *;generalize kz e1 ((a.den:Int)*b.num)=z2 at *;simp only[Mi]at m1 m2;unfold Au at *;unfold Se Eo;refine Ad Tryz.func199 rfl rfl 21 rfl (Nat.le_of_ble_eq_true rfl) ?_
 (repeat refine AW.seq_k fun K hK=>?_);refine AW.rg ?_;simp[Ak];try (refine hK _ rfl ?_;clear hK K)
 refine Af.intro fun b6 hb6=>?_;simp only[An,Ay,and_true]at hb6;refine Af.intro fun b7 hb7=>?_;simp only[An,Ay,and_true]at hb7;refine hK _ rfl ?_;clear hK K;(repeat refine AW.seq_k fun K hK=>?_);refine AW.rg ?_;simp[hb6,hb7];try (refine hK _ rfl ?_;clear hK K)
 refine⟨182,_,⟨rfl,rfl⟩,?_⟩;refine Aa.grant (R:=fun v x=>v=.agg [.bool (decide (z1<0)),Am (Ao (z1).natAbs)]∧x=⟨23,1,[.int .i64 (e1)]⟩) bl ⟨23,1,[.int .i64 (0)]⟩ (by simp[hb6,hb7]) (by simp[hb6,hb7]) (m1.mono fun v m ⟨h1,h2⟩=>⟨_,⟨h1,rfl⟩,h2⟩) ?_;rintro _ _ ⟨rfl,rfl⟩;simp[hb6,hb7];refine hK _ rfl ?_;clear hK K;(repeat refine AW.seq_k fun K hK=>?_);refine AW.rdT [] [2,3,16,18] [] [b6] [0,1,2,3,4,5,6,7,8] Ds (by simp[hb6,hb7]) (by simp[hb6,hb7]) (by simp[hb6,hb7]) (by simp[hb6,hb7]) (by simp[hb6,hb7]) ?_;simp[hb6,hb7];try (refine hK _ rfl ?_;clear hK K)
 refine⟨182,_,⟨rfl,rfl⟩,?_⟩;refine Aa.grant (R:=fun v x=>v=.agg [.bool (decide (z2<0)),Am (Ao (z2).natAbs)]∧x=⟨23,1,[.int .i64 (e2)]⟩) bl ⟨23,1,[.int .i64 (e1)]⟩ (by simp[hb6,hb7]) (by simp[hb6,hb7]) (m2.mono fun v m ⟨h1,h2⟩=>⟨_,⟨h1,rfl⟩,h2⟩) ?_;rintro _ _ ⟨rfl,rfl⟩;simp[hb6,hb7];refine hK _ rfl ?_;clear hK K;exact AW.ret (Dl (vs:=[.agg [.bool (decide (z1<0)),Am (Ao (z1).natAbs)],.agg [.bool (decide (z2<0)),Am (Ao (z2).natAbs)]]) [.agg [.bool (decide (z1<0)),Am (Ao (z1).natAbs)],.agg [.bool (decide (z2<0)),Am (Ao (z2).natAbs)]] bl ⟨23,1,[.int .i64 e2]⟩ (by simp[hb6,hb7]) (by simp[hb6,hb7]) (by simp) (Bd _ _ _) ⟨z1,z2,e2,rfl,rfl,hend⟩)
theorem Qgq (a b:Rat) (ha:Cd a) (hb:Cd b) (bl:Nat):Aj Tryz.prog 148 [.fn 182 [.ptr bl 1 0 0,.rptr [.fn 183 []]],.fn 182 [.ptr bl 1 0 0,.rptr [.fn 184 []]],.rptr (Eo a),.rptr (Eo b)] (Se bl 0) fun v m=>∃N D e,v=.tup [Au N,Au D]∧m=Se bl e∧opR (Db a b) N D e:=by
 obtain⟨e1,he1⟩:∃e,e=ke 0 (a.num*b.den):=⟨_,rfl⟩;obtain⟨e2,he2⟩:∃e,e=ke e1 (b.num*a.den):=⟨_,rfl⟩;obtain⟨e3,he3⟩:∃e,e=ke e2 (kz 0 (a.num*b.den)+-kz e1 (b.num*a.den)):=⟨_,rfl⟩;obtain⟨e4,he4⟩:∃e,e=ke e3 ((a.den:Int)*b.den):=⟨_,rfl⟩;have hend:=Qne he1 he2 he3 he4;have m1:=F4 183 bl 0 _ _ _ (G4 a.num b.den ha.1 (Gh hb));have m2:=F4 183 bl e1 _ _ _ (G4 b.num a.den hb.1 (Gh ha));have m4:=F4 183 bl e3 _ _ _ (G4 a.den b.den (Gh ha) (Gh hb));have m3:=F4 184 bl e2 _ _ _ (Qg6 (kz 0 (a.num*b.den)) (-kz e1 (b.num*a.den)) (Qko _ _) (by rw[Int.natAbs_neg];exact Qko _ _))
 have hng:=T3 (kz e1 (b.num*a.den)) (Qko _ _);rw[←he1]at m1;rw[←he2]at m2;rw[←he3]at m3;rw[←he4]at m4;generalize kz e2 (kz 0 (a.num*b.den)+-kz e1 (b.num*a.den))=z3 at *;generalize kz e3 ((a.den:Int)*b.den)=z4 at *;clear he1 he2 he3 he4;generalize -kz e1 (b.num*a.den)=ny at *;generalize kz e1 (b.num*a.den)=z2 at *;generalize kz 0 (a.num*b.den)=z1 at *;simp only[Mi]at m1 m2 m4;unfold Au at *;unfold Se Eo;refine Ad Tryz.func148 rfl rfl 34 rfl (Nat.le_of_ble_eq_true rfl) ?_;(repeat refine AW.seq_k fun K hK=>?_);refine AW.rg ?_
 simp[Ak];try (refine hK _ rfl ?_;clear hK K)
 refine Af.intro fun b6 hb6=>?_;simp only[An,Ay,and_true]at hb6;refine Af.intro fun b7 hb7=>?_;simp only[An,Ay,and_true]at hb7;refine hK _ rfl ?_;clear hK K;(repeat refine AW.seq_k fun K hK=>?_);refine AW.rdT [] [2,3,11,13,17,19] [] [] [0,1,2,3,4,6,7,8,9,10,5,11,12,13,14,15] Ds (by simp[hb6,hb7]) (by simp[hb6,hb7]) (by simp[hb6,hb7]) (by simp[hb6,hb7]) (by simp[hb6,hb7]) ?_;simp[hb6,hb7];try (refine hK _ rfl ?_;clear hK K)
 refine⟨182,_,⟨rfl,rfl⟩,?_⟩;refine Aa.grant (R:=fun v x=>v=.agg [.bool (decide (z1<0)),Am (Ao (z1).natAbs)]∧x=⟨23,1,[.int .i64 (e1)]⟩) bl ⟨23,1,[.int .i64 (0)]⟩ (by simp[hb6,hb7]) (by simp[hb6,hb7]) (m1.mono fun v m ⟨h1,h2⟩=>⟨_,⟨h1,rfl⟩,h2⟩) ?_;rintro _ _ ⟨rfl,rfl⟩;simp[hb6,hb7];refine⟨182,_,⟨rfl,rfl⟩,?_⟩;refine Aa.grant (R:=fun v x=>v=.agg [.bool (decide (z2<0)),Am (Ao (z2).natAbs)]∧x=⟨23,1,[.int .i64 (e2)]⟩) bl ⟨23,1,[.int .i64 (e1)]⟩ (by simp[hb6,hb7]) (by simp[hb6,hb7]) (m2.mono fun v m ⟨h1,h2⟩=>⟨_,⟨h1,rfl⟩,h2⟩) ?_
 rintro _ _ ⟨rfl,rfl⟩;simp[hb6,hb7];refine Af.intro fun b8 hb8=>?_;simp only[An,Ay,and_true]at hb8;refine Af.intro fun b9 hb9=>?_;simp only[An,Ay,and_true]at hb9;try simp[hb6,hb7,hb8,hb9]
 refine hK _ rfl ?_;clear hK K;(repeat refine AW.seq_k fun K hK=>?_);refine AW.rdT [] [] [] [b8,b9] [0,1,2,3,4,5] Ds (by simp[hb6,hb7,hb8,hb9]) (by simp[hb6,hb7,hb8,hb9]) (by simp[hb6,hb7,hb8,hb9]) (by simp[hb6,hb7,hb8,hb9]) (by simp[hb6,hb7,hb8,hb9]) ?_;simp[hb6,hb7,hb8,hb9];try (refine hK _ rfl ?_;clear hK K)
 refine Aa.val hng ?_;simp[hb6,hb7,hb8,hb9];refine⟨182,_,⟨rfl,rfl⟩,?_⟩;refine Aa.grant (R:=fun v x=>v=.agg [.bool (decide (z3<0)),Am (Ao (z3).natAbs)]∧x=⟨23,1,[.int .i64 (e3)]⟩) bl ⟨23,1,[.int .i64 (e2)]⟩ (by simp[hb6,hb7,hb8,hb9]) (by simp[hb6,hb7,hb8,hb9]) (m3.mono fun v m ⟨h1,h2⟩=>⟨_,⟨h1,rfl⟩,h2⟩) ?_;rintro _ _ ⟨rfl,rfl⟩;simp[hb6,hb7,hb8,hb9];refine hK _ rfl ?_;clear hK K;(repeat refine AW.seq_k fun K hK=>?_);refine AW.rdT [] [2,3,29,31] [] [b6] [0,1,2,3,4,5,6,7,8] Ds (by simp[hb6,hb7,hb8,hb9]) (by simp[hb6,hb7,hb8,hb9]) (by simp[hb6,hb7,hb8,hb9]) (by simp[hb6,hb7,hb8,hb9]) (by simp[hb6,hb7,hb8,hb9]) ?_
 simp[hb6,hb7,hb8,hb9];try (refine hK _ rfl ?_;clear hK K)
 refine⟨182,_,⟨rfl,rfl⟩,?_⟩;refine Aa.grant (R:=fun v x=>v=.agg [.bool (decide (z4<0)),Am (Ao (z4).natAbs)]∧x=⟨23,1,[.int .i64 (e4)]⟩) bl ⟨23,1,[.int .i64 (e3)]⟩ (by simp[hb6,hb7,hb8,hb9]) (by simp[hb6,hb7,hb8,hb9]) (m4.mono fun v m ⟨h1,h2⟩=>⟨_,⟨h1,rfl⟩,h2⟩) ?_;rintro _ _ ⟨rfl,rfl⟩;simp[hb6,hb7,hb8,hb9];refine hK _ rfl ?_;clear hK K;exact AW.ret (Dl (vs:=[.agg [.bool (decide (z3<0)),Am (Ao (z3).natAbs)],.agg [.bool (decide (z4<0)),Am (Ao (z4).natAbs)]]) [.agg [.bool (decide (z3<0)),Am (Ao (z3).natAbs)],.agg [.bool (decide (z4<0)),Am (Ao (z4).natAbs)]] bl ⟨23,1,[.int .i64 e4]⟩ (by simp[hb6,hb7,hb8,hb9]) (by simp[hb6,hb7,hb8,hb9]) (by simp) (Bd _ _ _) ⟨z3,z4,e4,rfl,rfl,hend⟩)
end Go.Av
end
section
namespace Go.Av
open Go.Proofs
theorem Kk (a b:Rat) (ha:Cd a) (hb:Cd b) (f:Nat) (q:Option Rat)
  (hf:∀bl,Aj Tryz.prog f [.fn 182 [.ptr bl 1 0 0,.rptr [.fn 183 []]],.fn 182 [.ptr bl 1 0 0,.rptr [.fn 184 []]],.rptr (Eo a),.rptr (Eo b)] (Se bl 0) fun v m=>∃N D e,v=.tup [Au N,Au D]∧m=Se bl e∧opR q N D e) :
  Aj Tryz.prog 147 [Ix a,Ix b,.fn f [.rptr (Eo a),.rptr (Eo b)]] Ac.emp fun v m=>v=Eb q∧m=Ac.emp:=by
 have hall:=U7 (A3 a) (A3 b) (Fj a) (Fj b);rw[Ef ha,Ef hb]at hall;simp only[RR.av,A3]at hall;unfold Se Eo at hf;unfold Ix Eo;refine Ad Tryz.func147 rfl rfl 35 rfl (Nat.le_of_ble_eq_true rfl) ?_;(repeat refine AW.seq_k fun K hK=>?_);refine AW.rgR [3,4] ?_;simp[Ak];try (refine hK _ rfl ?_;clear hK K)
 refine Af.intro fun b6 _=>?_;refine hK _ rfl ?_;clear hK K;(repeat refine AW.seq_k fun K hK=>?_);refine AW.rgR [14] ?_;simp;try (refine hK _ rfl ?_;clear hK K)
 refine Aa.val hall ?_;simp;refine hK _ rfl ?_;clear hK K;refine AW.no ?_ rfl;refine AW.skip ?_;try simp
 refine hK _ rfl ?_;clear hK K;(repeat refine AW.seq_k fun K hK=>?_);refine AW.rg ?_;simp;try (refine hK _ rfl ?_;clear hK K)
 refine Af.intro fun b8 hb8=>?_;simp only[An,Ay,and_true]at hb8;try simp[hb8]
 refine hK _ rfl ?_;clear hK K;(repeat refine AW.seq_k fun K hK=>?_);refine AW.rg ?_;simp;try (refine hK _ rfl ?_;clear hK K)
 (repeat refine AW.seq_k fun K hK=>?_);refine AW.rg ?_;simp[hb8];try (refine hK _ rfl ?_;clear hK K)
 refine⟨_,_,⟨rfl,rfl⟩,?_⟩;refine Aa.val (Xi 183 b8) ?_;simp;refine⟨_,_,⟨rfl,rfl⟩,?_⟩;refine Aa.val (Xi 184 b8) ?_;simp;refine⟨_,_,⟨rfl,rfl⟩,?_⟩;refine Aa.grant (R:=fun v x=>∃N D e,v=.tup [Au N,Au D]∧x=⟨23,1,[.int .i64 e]⟩∧opR q N D e) b8 ⟨23,1,[.int .i64 0]⟩ (by simp[hb8]) (by simp[hb8]) ((hf b8).mono fun v m ⟨N,D,e,h1,h2,h3⟩=>⟨_,⟨N,D,e,h1,rfl,h3⟩,h2⟩) ?_;rintro _ _ ⟨N,D,e,rfl,rfl,hR⟩;simp[Au];refine Af.intro fun b10 hb10=>?_;simp only[An,Ay,and_true]at hb10;refine Af.intro fun b11 hb11=>?_
 simp only[An,Ay,and_true]at hb11;try simp[hb8,hb10,hb11]
 refine hK _ rfl ?_;clear hK K;(repeat refine AW.seq_k fun K hK=>?_);refine AW.rg ?_;simp[hb8,hb10,hb11];try (refine hK _ rfl ?_;clear hK K)
 cases q with
 |none =>
  have he:e=2:=hR;subst he;refine AW.yes ?_ rfl;(repeat refine AW.seq_k fun K hK=>?_);refine AW.rdT [(8,b8),(6,b6)] [] [] [b8] [0,1,2,3] Ds (by simp[hb8,hb10,hb11]) (by simp[hb8,hb10,hb11]) (by simp[hb8,hb10,hb11]) (by simp[hb8,hb10,hb11]) (by simp[hb8,hb10,hb11]) ?_;simp[hb8,hb10,hb11];try (refine hK _ rfl ?_;clear hK K)
  exact AW.ret (Dg (b:=b6) (.bool false) (Am []) (.bool false) (Am []) rfl rfl (by simp<;>exact⟨rfl,rfl,rfl,rfl⟩) rfl (by simp) ⟨rfl,rfl⟩)
 |some q =>
  obtain⟨he,g1,g2,g3,g4⟩:=hR;subst he;have hr:=Rz N D g1 g2 g3;rw[g4]at hr;unfold Au Ix at hr;refine AW.no ?_ rfl;refine AW.skip ?_;try simp
  refine hK _ rfl ?_;clear hK K;(repeat refine AW.seq_k fun K hK=>?_);refine AW.rg ?_;simp[hb8,hb10,hb11];try (refine hK _ rfl ?_;clear hK K)
  refine Aa.val hr ?_;simp[hb8,hb10,hb11];refine hK _ rfl ?_;clear hK K;exact AW.ret (Dg (b:=b6) _ _ _ _ rfl rfl (by simp<;>exact⟨rfl,rfl,rfl,rfl⟩) rfl (Bd _ _ _) ⟨rfl,rfl⟩)
theorem Ml (a b:Rat) (ha:Cd a) (hb:Cd b):Aj Tryz.prog 103 [Ix a,Ix b] Ac.emp fun v m=>v=Eb (Db a b)∧m=Ac.emp:=by
 have hs:=Kk a b ha hb 148 (Db a b) (Qgq a b ha hb);generalize Db a b=q at *;unfold Ix Eo at hs;unfold Ix;refine Ad Tryz.func103 rfl rfl 12 rfl (Nat.le_of_ble_eq_true rfl) ?_;(repeat refine AW.seq_k fun K hK=>?_);refine AW.rgR [2,3] ?_;simp[Ak];try (refine hK _ rfl ?_;clear hK K)
 refine Af.intro fun b4 _=>?_;refine hK _ rfl ?_;clear hK K;(repeat refine AW.seq_k fun K hK=>?_);refine AW.rg ?_;simp;try (refine hK _ rfl ?_;clear hK K)
 refine Aa.val hs ?_;cases q
 ·simp[Eb,Cn];refine hK _ rfl ?_;clear hK K;exact AW.ret (Dg (b:=b4) _ _ _ _ rfl rfl (by simp<;>exact⟨rfl,rfl,rfl,rfl⟩) rfl (Bd _ _ _) ⟨rfl,rfl⟩)
 ·simp[Eb,Ix];refine hK _ rfl ?_;clear hK K;exact AW.ret (Dg (b:=b4) _ _ _ _ rfl rfl (by simp<;>exact⟨rfl,rfl,rfl,rfl⟩) rfl (Bd _ _ _) ⟨rfl,rfl⟩)
theorem Qg0 (a b:Rat) (ha:Cd a) (hb:Cd b):Aj Tryz.prog 160 [Ix a,Ix b] Ac.emp fun v m=>v=Eb (Ea a b)∧m=Ac.emp:=by
 have hs:=Kk a b ha hb 194 (Ea a b) (Qgz a b ha hb);generalize Ea a b=q at *;unfold Ix Eo at hs;unfold Ix;refine Ad Tryz.func160 rfl rfl 12 rfl (Nat.le_of_ble_eq_true rfl) ?_;(repeat refine AW.seq_k fun K hK=>?_);refine AW.rgR [2,3] ?_;simp[Ak];try (refine hK _ rfl ?_;clear hK K)
 refine Af.intro fun b4 _=>?_;refine hK _ rfl ?_;clear hK K;(repeat refine AW.seq_k fun K hK=>?_);refine AW.rg ?_;simp;try (refine hK _ rfl ?_;clear hK K)
 refine Aa.val hs ?_;cases q
 ·simp[Eb,Cn];refine hK _ rfl ?_;clear hK K;exact AW.ret (Dg (b:=b4) _ _ _ _ rfl rfl (by simp<;>exact⟨rfl,rfl,rfl,rfl⟩) rfl (Bd _ _ _) ⟨rfl,rfl⟩)
 ·simp[Eb,Ix];refine hK _ rfl ?_;clear hK K;exact AW.ret (Dg (b:=b4) _ _ _ _ rfl rfl (by simp<;>exact⟨rfl,rfl,rfl,rfl⟩) rfl (Bd _ _ _) ⟨rfl,rfl⟩)
theorem Qgt (a b:Rat) (ha:Cd a) (hb:Cd b) (h0:b≠0):Aj Tryz.prog 179 [Ix a,Ix b] Ac.emp fun v m=>v=Eb (Fo a b)∧m=Ac.emp:=by
 have hs:=Kk a b ha hb 199 (Fo a b) (Qgv a b ha hb h0);generalize Fo a b=q at *;have hall:=U7 (A3 a) (A3 b) (Fj a) (Fj b);rw[Ef ha,Ef hb]at hall;simp only[RR.av,A3]at hall;have hz:=J4 (decide (b.num<0)) (Ao b.num.natAbs);have hb0:b.num≠0:=fun e=>h0 (Rat.num_eq_zero.1 e);have hl:¬Ao b.num.natAbs=[]:=by rw[Cq];omega
 unfold Ee at hz;unfold Ix Eo at hs;unfold Ix;refine Ad Tryz.func179 rfl rfl 22 rfl (Nat.le_of_ble_eq_true rfl) ?_;(repeat refine AW.seq_k fun K hK=>?_);refine AW.rgR [2,3] ?_;simp[Ak];try (refine hK _ rfl ?_;clear hK K)
 refine Af.intro fun b4 _=>?_;refine hK _ rfl ?_;clear hK K;(repeat refine AW.seq_k fun K hK=>?_);refine AW.rgR [8] ?_;simp;try (refine hK _ rfl ?_;clear hK K)
 refine Aa.val hall ?_;simp;refine Aa.val hz ?_;simp[hl];refine hK _ rfl ?_;clear hK K;refine AW.no ?_ rfl;refine AW.skip ?_;try simp
 refine hK _ rfl ?_;clear hK K;(repeat refine AW.seq_k fun K hK=>?_);refine AW.rg ?_;simp;try (refine hK _ rfl ?_;clear hK K)
 refine Aa.val hs ?_;cases q
 ·simp[Eb,Cn];refine hK _ rfl ?_;clear hK K;exact AW.ret (Dg (b:=b4) _ _ _ _ rfl rfl (by simp<;>exact⟨rfl,rfl,rfl,rfl⟩) rfl (Bd _ _ _) ⟨rfl,rfl⟩)
 ·simp[Eb,Ix];refine hK _ rfl ?_;clear hK K;exact AW.ret (Dg (b:=b4) _ _ _ _ rfl rfl (by simp<;>exact⟨rfl,rfl,rfl,rfl⟩) rfl (Bd _ _ _) ⟨rfl,rfl⟩)
end Go.Av
end
section
namespace Go.Av
open Go.Proofs
instance:Inhabited RR:=⟨⟨false,[],false,[]⟩⟩
def rr (r:List RR) (i:Nat):RR:=r.getD i default
def Al {α:Type} (m:List (List α)) (i:Nat):List α:=m.getD i []
def B5 (r:List RR):List AV:=r.map RR.av
def A4 (r:List RR):AV:=.sl 4 (B5 r)
def Bc (m:List (List RR)):AV:=.sl 1 (m.map A4)
theorem K8 {r:List RR} {i:Nat} (h:i<r.length):rr r i=r[i]:=by unfold rr;rw[List.getD_eq_getElem?_getD,List.getElem?_eq_getElem h];rfl
theorem Gj {α:Type} {m:List (List α)} {i:Nat} (h:i<m.length):Al m i=m[i]:=by unfold Al;rw[List.getD_eq_getElem?_getD,List.getElem?_eq_getElem h];rfl
@[simp] theorem Qdm (r:List RR):(B5 r).length=r.length:=by simp[B5]
@[simp] theorem Q0d:B5 []=[]:=rfl
@[simp] theorem rrs_get? {r:List RR} {i:Nat} (h:i<r.length):(B5 r)[i]?=some (rr r i).av:=by simp[B5,K8 h,h]
@[simp] theorem Ko (r:List RR) (i:Nat) (x:RR):(B5 r).set i x.av=B5 (r.set i x):=by simp[B5,List.map_set]
@[simp] theorem Qvf (r:RR):r.av.cells=[.bool r.n1,Am r.l1,.bool r.n2,Am r.l2]:=(rfl)
@[simp] theorem Qx3 (r:RR):G2 true 4 [.bool r.n1,Am r.l1,.bool r.n2,Am r.l2] 0=some r.av:=(rfl)
@[simp] theorem Qvc (r:RR):r.av.isAny=false:=(rfl)
@[simp] theorem Qzz (r:RR):(r.av=.any)=False:=by simp[RR.av]
theorem Kd (r:List RR):∀v∈B5 r,v.cells.all AV.one=true:=by
 intro v hv;obtain⟨x,_,rfl⟩:=List.mem_map.1 hv;rfl
@[simp] theorem Qzw (r:List RR):(B5 r).all (fun v=>v.cells.length==4&&v.cells.all AV.one)=true:=by
 rw[List.all_eq_true];intro v hv;obtain⟨x,_,rfl⟩:=List.mem_map.1 hv;rfl
@[simp] theorem Qxr (r:List RR):(A4 r).cells=[A4 r]:=(rfl)
@[simp] theorem Qz9 (r:List RR):(A4 r).one=true:=(rfl)
@[simp] theorem Qxd (r:List RR):(A4 r).isAny=false:=(rfl)
@[simp] theorem Qw6 (m:List (List RR)):(Bc m).isAny=false:=(rfl)
@[simp] theorem Q0k (m:List (List RR)):(Bc m).one=true:=(rfl)
@[simp] theorem Qxl (m:List (List RR)):(Bc m).cells=[Bc m]:=(rfl)
section
variable (size bytes:Nat) (e:TypeId) (zero:AV) (fs:List (Nat × Nat × Option Bool)) (k:IntKind) (n:Int)
@[simp] theorem Qu2 (r:List RR):K9 ⟨size,bytes,.slice e,zero,fs⟩ (A4 r)=some (.int .i64 r.length):=by simp[A4]
@[simp] theorem Qw7 (m:List (List RR)):K9 ⟨size,bytes,.slice e,zero,fs⟩ (Bc m)=some (.int .i64 m.length):=by simp[Bc]
@[simp] theorem Qwq (mm:Ac) (r:List RR):Gu mm 4 (A4 r)=some (B5 r):=by simp[A4,Gu]
@[simp] theorem Qmo (P:Program) (r:List RR):B4 P ⟨size,bytes,.slice e,zero,fs⟩ (A4 r) (.int k n)=(Ai P e).bind fun te=>if 4=te.size∧0≤n∧n<r.length then some (.rptr [.bool (rr r n.toNat).n1,Am (rr r n.toNat).l1,.bool (rr r n.toNat).n2,Am (rr r n.toNat).l2]) else none:=by
 unfold A4;rw[Hr]
 congr 1
 funext te
 rw[Qdm];by_cases h:4=te.size∧0≤n∧n<r.length
 ·rw[if_pos h,if_pos h];have h1:n.toNat<r.length:=by omega
  rw[List.getD_eq_getElem?_getD,rrs_get? h1];rfl
 ·rw[if_neg h,if_neg h]
@[simp] theorem Qmd (P:Program) (m:List (List RR)):B4 P ⟨size,bytes,.slice e,zero,fs⟩ (Bc m) (.int k n)=(Ai P e).bind fun te=>if 1=te.size∧0≤n∧n<m.length then some (.rptr [A4 (Al m n.toNat)]) else none:=by
 unfold Bc;rw[Hr]
 congr 1
 funext te
 rw[List.length_map];by_cases h:1=te.size∧0≤n∧n<m.length
 ·rw[if_pos h,if_pos h];have h1:n.toNat<m.length:=by omega
  rw[List.getD_eq_getElem?_getD,List.getElem?_map,List.getElem?_eq_getElem h1,Gj h1];rfl
 ·rw[if_neg h,if_neg h]
end
def LbM (m:List (List RR)):Prop:=∀r∈m,∀x∈r,x.Lb
theorem Nb {r:List RR} (h:∀x∈r,x.Lb) (i:Nat):(rr r i).Lb:=by
 unfold rr;rw[List.getD_eq_getElem?_getD];cases hr:r[i]? with
 |none=>exact⟨fun x hx=>(by cases hx),fun x hx=>(by cases hx)⟩
 |some x=>exact h x (List.mem_of_getElem? hr)
theorem LbM.row {m:List (List RR)} (h:LbM m) (i:Nat):∀x∈Al m i,x.Lb:=by
 unfold Al;rw[List.getD_eq_getElem?_getD];cases hr:m[i]? with
 |none=>intro x hx;cases hx
 |some r=>exact h r (List.mem_of_getElem? hr)
def Lt (m:List (List RR)):Prop:=∃k,k<m.length∧64<(Al m k).length
def P8 (m:List (List RR)):Prop:=∀k,k<m.length→(Al m k).length=(Al m 0).length∧∀j,j<(Al m k).length→(rr (Al m k) j).ok=true
open Classical in
noncomputable def chk (m:List (List RR)):Int:=if 64<m.length∨Lt m then 2 else if P8 m then 0 else 1
theorem Ya {m:List (List RR)} (h:64<m.length∨Lt m):chk m=2:=if_pos h
theorem Qk3 {m:List (List RR)} (h:¬(64<m.length∨Lt m)) (h2:P8 m):chk m=0:=by unfold chk;rw[if_neg h,if_pos h2]
theorem X9 {m:List (List RR)} (h:¬(64<m.length∨Lt m)) (h2:¬P8 m):chk m=1:=by unfold chk;rw[if_neg h,if_neg h2]
theorem Vb (m:List (List RR)):Aj Tryz.prog 108 [Bc m] Ac.emp fun v mm=>v=.int .i64 ((Al m 0).length:Nat)∧mm=Ac.emp:=by
 refine Ad Tryz.func108 rfl rfl 10 rfl (Nat.le_of_ble_eq_true rfl) ?_;(repeat refine AW.seq_k fun K hK=>?_);refine AW.rg ?_;simp[Ak];try (refine hK _ rfl ?_;clear hK K)
 (repeat refine AW.seq_k fun K hK=>?_);refine AW.rg ?_;simp;try (refine hK _ rfl ?_;clear hK K)
 (repeat refine AW.seq ?_);refine AW.cs (fun h=>?_) (fun h=>?_) rfl<;>(try simp at h)
 ·subst h;(repeat refine AW.seq_k fun K hK=>?_);refine AW.rg ?_;simp;try (refine hK _ rfl ?_;clear hK K)
  exact AW.ret (Ag rfl _ (.same _) ⟨by simp[Al],rfl⟩)
 ·refine AW.skip ?_;try simp
  refine hK _ rfl ?_;clear hK K;have h':0<m.length:=by
   rcases m with _|_
   ·simp at h
   ·simp
  (repeat refine AW.seq_k fun K hK=>?_);refine AW.rg ?_;simp[h'];try (refine hK _ rfl ?_;clear hK K)
  exact AW.ret (Ag rfl _ (.same _) ⟨by rfl,rfl⟩)
theorem Qe8 (m:List (List RR)) (hm:LbM m):Aj Tryz.prog 99 [Bc m] Ac.emp fun v mm=>v=.int .i64 (chk m)∧mm=Ac.emp:=by
 refine Ad Tryz.func99 rfl rfl 46 rfl (Nat.le_of_ble_eq_true rfl) ?_;(repeat refine AW.seq_k fun K hK=>?_);refine AW.rg ?_;simp[Ak];try (refine hK _ rfl ?_;clear hK K)
 (repeat refine AW.seq_k fun K hK=>?_);refine AW.rg ?_;simp;try (refine hK _ rfl ?_;clear hK K)
 (repeat refine AW.seq ?_);refine AW.cs (fun h64=>?_) (fun h64=>?_) rfl<;>(try simp at h64)
 ·(repeat refine AW.seq_k fun K hK=>?_);refine AW.rg ?_;simp;try (refine hK _ rfl ?_;clear hK K)
  exact AW.ret (Ag rfl _ (.same _) ⟨by rw[Ya (.inl h64)];rfl,rfl⟩)
 ·refine AW.skip ?_;try simp
  refine hK _ rfl ?_;clear hK K;refine AW.seq_ex (ι:=Unit) (fun _=>[(0,Bc m)]) (fun _=>Ac.emp) (fun _=>¬Lt m) ?_ ?_
  ·(repeat refine AW.seq_k fun K hK=>?_);refine AW.rg ?_;simp;try (refine hK _ rfl ?_;clear hK K)
   refine AW.block (AW.loopS (ι:=Nat) (fun i=>[(0,Bc m),(12,Bc m),(13,.int .i64 (m.length:Nat)),(14,.int .i64 (i:Nat))]) (fun _=>Ac.emp)
    (fun i=>i≤m.length∧∀k,k<i→¬64<(Al m k).length) (fun i=>m.length-i) 0 ⟨by simp,by simp⟩ rfl (by simp) ?_)
   rintro i ⟨h1,h2⟩;(repeat refine AW.seq_k fun K hK=>?_);refine AW.rg ?_;simp;try (refine hK _ rfl ?_;clear hK K)
   refine AW.seq_k fun K hK=>?_;(repeat refine AW.seq ?_);refine AW.cs (fun hi=>?_) (fun hi=>?_) rfl<;>(try simp at hi)
   ·refine AW.skip ?_;try simp
    refine hK _ rfl ?_;clear hK K;have w1:=Ap (i+1) (by omega);refine AW.seq_ex (ι:=Unit) (fun _=>[(0,Bc m),(12,Bc m),(13,.int .i64 (m.length:Nat)),(14,.int .i64 (i:Nat))]) (fun _=>Ac.emp) (fun _=>¬64<(Al m i).length) ?_ ?_
    ·(repeat refine AW.seq ?_);refine AW.block ?_;(repeat refine AW.seq_k fun K hK=>?_);refine AW.rg ?_;simp[hi];try (refine hK _ rfl ?_;clear hK K)
     (repeat refine AW.seq_k fun K hK=>?_);refine AW.rg ?_;simp;try (refine hK _ rfl ?_;clear hK K)
     (repeat refine AW.seq ?_);refine AW.cs (fun h3=>?_) (fun h3=>?_) rfl<;>(try simp at h3)
     ·(repeat refine AW.seq_k fun K hK=>?_);refine AW.rg ?_;simp;try (refine hK _ rfl ?_;clear hK K)
      exact AW.ret (Ag rfl _ (.same _) ⟨by rw[Ya (.inr ⟨i,hi,h3⟩)];rfl,rfl⟩)
     ·refine AW.skip ?_;try simp
      omega
    ·rintro _ h3;(repeat refine AW.seq_k fun K hK=>?_);refine AW.rg ?_;simp[-Int.natCast_add,w1];try (refine hK _ rfl ?_;clear hK K)
     refine⟨⟨by omega,fun k hk=>?_⟩,by omega⟩;rcases Nat.lt_succ_iff_lt_or_eq.1 hk with h | rfl
     ·have:=h2 k h;omega
     ·omega
   ·refine AW.exit ?_;try simp
    rintro⟨k,hk,h⟩;exact h2 k (by omega) h
  rintro _ hbig;have hnb:¬(64<m.length∨Lt m):=fun h=>h.elim (by omega) hbig;refine AW.seq_ex (ι:=Unit) (fun _=>[]) (fun _=>Ac.emp) (fun _=>P8 m) ?_ ?_
  ·(repeat refine AW.seq_k fun K hK=>?_);refine AW.rg ?_;simp;try (refine hK _ rfl ?_;clear hK K)
   refine AW.block (AW.loopS (ι:=Nat) (fun i=>[(0,Bc m),(22,Bc m),(23,.int .i64 (m.length:Nat)),(24,.int .i64 (i:Nat))]) (fun _=>Ac.emp)
    (fun i=>i≤m.length∧∀k,k<i→(Al m k).length=(Al m 0).length∧∀j,j<(Al m k).length→(rr (Al m k) j).ok=true) (fun i=>m.length-i) 0 ⟨by simp,by simp⟩ rfl (by simp) ?_)
   rintro i ⟨h1,h2⟩;(repeat refine AW.seq_k fun K hK=>?_);refine AW.rg ?_;simp;try (refine hK _ rfl ?_;clear hK K)
   refine AW.seq_k fun K hK=>?_;(repeat refine AW.seq ?_);refine AW.cs (fun hi=>?_) (fun hi=>?_) rfl<;>(try simp at hi)
   ·refine AW.skip ?_;try simp
    refine hK _ rfl ?_;clear hK K;have w1:=Ap (i+1) (by omega);have h0:0<m.length:=by omega
    have hrow:(Al m i).length≤64:=by
     rcases Nat.lt_or_ge 64 (Al m i).length with h|h
     ·exact absurd ⟨i,hi,h⟩ hbig
     ·exact h
    refine AW.seq_ex (ι:=Unit) (fun _=>[(0,Bc m),(22,Bc m),(23,.int .i64 (m.length:Nat)),(24,.int .i64 (i:Nat))]) (fun _=>Ac.emp) (fun _=>(Al m i).length=(Al m 0).length∧∀j,j<(Al m i).length→(rr (Al m i) j).ok=true) ?_ ?_
    ·(repeat refine AW.seq ?_);refine AW.block ?_;(repeat refine AW.seq_k fun K hK=>?_);refine AW.rg ?_;simp[hi];try (refine hK _ rfl ?_;clear hK K)
     refine AW.seq_ex (ι:=Unit) (fun _=>[(0,Bc m),(22,Bc m),(23,.int .i64 (m.length:Nat)),(24,.int .i64 (i:Nat)),(6,A4 (Al m i))]) (fun _=>Ac.emp) (fun _=>(Al m i).length=(Al m 0).length) ?_ ?_
     ·(repeat refine AW.seq_k fun K hK=>?_);refine AW.rg ?_;simp[h0];try (refine hK _ rfl ?_;clear hK K)
      (repeat refine AW.seq ?_);refine AW.cs (fun h4=>?_) (fun h4=>?_) rfl<;>(try simp at h4)
      ·(repeat refine AW.seq_k fun K hK=>?_);refine AW.rg ?_;simp;try (refine hK _ rfl ?_;clear hK K)
       exact AW.ret (Ag rfl _ (.same _) ⟨by rw[X9 hnb (fun h=>h4 (h i hi).1)];rfl,rfl⟩)
      ·refine AW.skip ?_;try simp
       exact h4
     rintro _ h4;(repeat refine AW.seq_k fun K hK=>?_);refine AW.rg ?_;simp;try (refine hK _ rfl ?_;clear hK K)
     refine AW.block (AW.loopS (ι:=Nat) (fun j=>[(0,Bc m),(22,Bc m),(23,.int .i64 (m.length:Nat)),(24,.int .i64 (i:Nat)),(6,A4 (Al m i)),(35,A4 (Al m i)),(36,.int .i64 ((Al m i).length:Nat)),(37,.int .i64 (j:Nat))]) (fun _=>Ac.emp)
      (fun j=>j≤(Al m i).length∧∀k,k<j→(rr (Al m i) k).ok=true) (fun j=>(Al m i).length-j) 0 ⟨by simp,by simp⟩ rfl (by simp) ?_)
     rintro j ⟨g1,g2⟩;(repeat refine AW.seq_k fun K hK=>?_);refine AW.rg ?_;simp;try (refine hK _ rfl ?_;clear hK K)
     refine AW.seq_k fun K hK=>?_;(repeat refine AW.seq ?_);refine AW.cs (fun hj=>?_) (fun hj=>?_) rfl<;>(try simp at hj)
     ·refine AW.skip ?_;try simp
      refine hK _ rfl ?_;clear hK K;have w2:=Ap (j+1) (by omega);have hv:=F3 (rr (Al m i) j) (Nb (hm.row i) j);refine AW.seq_ex (ι:=Unit) (fun _=>[(0,Bc m),(22,Bc m),(23,.int .i64 (m.length:Nat)),(24,.int .i64 (i:Nat)),(6,A4 (Al m i)),(35,A4 (Al m i)),(36,.int .i64 ((Al m i).length:Nat)),(37,.int .i64 (j:Nat))]) (fun _=>Ac.emp) (fun _=>(rr (Al m i) j).ok=true) ?_ ?_
      ·(repeat refine AW.seq ?_);refine AW.block ?_;(repeat refine AW.seq_k fun K hK=>?_);refine AW.rg ?_;simp[hj];try (refine hK _ rfl ?_;clear hK K)
       refine Af.intro fun b8 _=>?_;try simp
       refine hK _ rfl ?_;clear hK K;(repeat refine AW.seq_k fun K hK=>?_);refine AW.rg ?_;simp;try (refine hK _ rfl ?_;clear hK K)
       refine Aa.val hv ?_;simp;refine hK _ rfl ?_;clear hK K;refine AW.toEmp [(0,Bc m),(22,Bc m),(23,.int .i64 (m.length:Nat)),(24,.int .i64 (i:Nat)),(6,A4 (Al m i)),(35,A4 (Al m i)),(36,.int .i64 ((Al m i).length:Nat)),(37,.int .i64 (j:Nat)),(43,.bool (!(rr (Al m i) j).ok))] (by simp) ?_;by_cases h5:(rr (Al m i) j).ok=true
       ·refine AW.no ?_ (by simp[h5]);exact AW.skip ⟨(),h5,rfl,rfl,by simp⟩
       ·refine AW.yes ?_ (by simp[h5]);(repeat refine AW.seq_k fun K hK=>?_);refine AW.rg ?_;simp;try (refine hK _ rfl ?_;clear hK K)
        exact AW.ret (Ag rfl _ (.same _) ⟨by rw[X9 hnb (fun h=>h5 ((h i hi).2 j hj))];rfl,rfl⟩)
      ·rintro _ h5;(repeat refine AW.seq_k fun K hK=>?_);refine AW.rg ?_;simp[-Int.natCast_add,w2];try (refine hK _ rfl ?_;clear hK K)
       refine⟨⟨by omega,fun k hk=>?_⟩,by omega⟩;rcases Nat.lt_succ_iff_lt_or_eq.1 hk with h | rfl
       ·exact g2 k h
       ·exact h5
     ·refine AW.exit ?_;try simp
      exact⟨h4,fun k hk=>g2 k (by omega)⟩
    ·rintro _ h3;(repeat refine AW.seq_k fun K hK=>?_);refine AW.rg ?_;simp[-Int.natCast_add,w1];try (refine hK _ rfl ?_;clear hK K)
     refine⟨⟨by omega,fun k hk=>?_⟩,by omega⟩;rcases Nat.lt_succ_iff_lt_or_eq.1 hk with h | rfl
     ·exact h2 k h
     ·exact h3
   ·refine AW.exit ?_;try simp
    exact fun k hk=>h2 k (by omega)
  rintro _ hok;(repeat refine AW.seq_k fun K hK=>?_);refine AW.rg ?_;simp;try (refine hK _ rfl ?_;clear hK K)
  exact AW.ret (Ag rfl _ (.same _) ⟨by rw[Qk3 hnb hok];rfl,rfl⟩)
end Go.Av
end
section
namespace Go.Av
open Go.Proofs
@[simp] theorem Qn8 (b z i j:Nat):Km (.ptr b z i j)=some (.ptr b z i j):=(rfl)
@[simp] theorem Qmk (l:List AV):Km (.rptr l)=some (.rptr l):=(rfl)
def RR.q (r:RR):Rat:=mkRat (if r.n1=true then -(val r.l1:Int) else val r.l1) (val r.l2)
theorem Hg (q:Rat):(A3 q).q=q:=by
 unfold RR.q A3;simp only[Ax,decide_eq_true_eq];have:(if q.num<0 then -(q.num.natAbs:Int) else (q.num.natAbs:Int))=q.num:=by split<;>omega
 rw[this,Rat.mkRat_self]
theorem E8 {r:RR} (hl:r.Lb) (h:r.ok=true):Cd r.q∧r=A3 r.q:=by
 obtain⟨q,h1,h2⟩:=Qtl hl h;subst h2;rw[Hg];exact⟨h1,rfl⟩
theorem Rv {r:RR} (hl:r.Lb) (h:r.ok=true):r.av=Ix r.q:=by
 have:=(E8 hl h).2
 calc r.av=(A3 r.q).av:=by rw[←this]
  _=Ix r.q:=rfl
def Wf:RR:=⟨false,[],false,[]⟩
theorem Zd:Wf.av=Cn:=rfl
theorem Qnw:Wf.Lb:=⟨fun x hx=>(by cases hx),fun x hx=>(by cases hx)⟩
def Dn (e:Int) (a:RR) (q:Option Rat):Int × RR:=if e=0 then (match q with | some q=>(0,A3 q) | none=>(2,Wf)) else (e,a)
theorem Zb {e:Int} {a:RR} {q:Option Rat} (h:a.Lb):(Dn e a q).2.Lb:=by
 unfold Dn;split
 ·cases q with
  |none=>exact Qnw
  |some q=>exact Fj q
 ·exact h
def Oa (c:Nat) (x:AV):Ac:=Ac.emp.set c ⟨118,1,[x]⟩
def G6 (x:AV) (e:Int):Prop:=x.cells=[.int .i64 e]
theorem N9 (c:Nat) (x:AV) (e f:Int) (hx:G6 x e) (r:RR):Aj Tryz.prog 158 [.ptr c 1 0 0,r.av,.int .i64 f] (Oa c x) fun v m=>v=r.av∧∃x',G6 x' (if e=0 then f else e)∧m=Oa c x':=by
 unfold G6 at hx;unfold RR.av Oa;refine Ad Tryz.func158 rfl rfl 17 rfl (Nat.le_of_ble_eq_true rfl) ?_;(repeat refine AW.seq_k fun K hK=>?_);refine AW.rgR [4] ?_;simp[Ak];try (refine hK _ rfl ?_;clear hK K)
 refine Af.intro fun b6 hb6=>?_;simp only[An,Ay,and_true]at hb6;refine hK _ rfl ?_;clear hK K;refine AW.seq_ex (ι:=AV) (fun x'=>[(0,.ptr c 1 0 0),(4,.rptr [.bool r.n1,Am r.l1,.bool r.n2,Am r.l2]),(6,.ptr b6 4 0 0)]) (fun x'=>(Ac.emp.set c ⟨118,1,[x']⟩).set b6 ⟨44,4,[.agg [.bool false,.nil,.bool false,.nil]]⟩) (fun x'=>G6 x' (if e=0 then f else e)) ?_ ?_
 ·(repeat refine AW.seq_k fun K hK=>?_);refine AW.rg ?_;simp[hb6,hx];try (refine hK _ rfl ?_;clear hK K)
  (repeat refine AW.seq ?_);refine AW.cs (fun he=>?_) (fun he=>?_) rfl<;>(try simp at he)
  ·(repeat refine AW.seq_k fun K hK=>?_);refine AW.rg ?_;simp[hb6,hx];try (refine hK _ rfl ?_;clear hK K)
   refine⟨.int .i64 f,by simp[G6,he],?_⟩;rw[Z9 _ hb6.2]
  ·refine AW.skip ⟨x,?_,rfl,rfl,by simp⟩;simp[G6,he];exact hx
 rintro x' hx';(repeat refine AW.seq_k fun K hK=>?_);refine AW.rg ?_;simp[hb6];try (refine hK _ rfl ?_;clear hK K)
 refine AW.ret (Dl (vs:=[.agg [.bool r.n1,Am r.l1,.bool r.n2,Am r.l2]]) [.agg [.bool r.n1,Am r.l1,.bool r.n2,Am r.l2]] c ⟨118,1,[x']⟩ (by simp[hb6]) (by simp[hb6]) ?_ (Bd _ _ _) ⟨rfl,x',hx',rfl⟩);intro v hv;simp at hv;subst hv;unfold G6 at hx';rw[hx'];rfl
theorem Qhe (c:Nat) (x:AV) (e:Int) (hx:G6 x e) (a b:RR) (ha:a.Lb) (hb:b.Lb) (h:e=0→a.ok=true∧b.ok=true):Aj Tryz.prog 146 [.ptr c 1 0 0,a.av,b.av] (Oa c x) fun v m=>v=(Dn e a (Db a.q b.q)).2.av∧∃x',G6 x' (Dn e a (Db a.q b.q)).1∧m=Oa c x':=by
 have hone:∀x' e',G6 x' e'→∀v∈(⟨118,1,[x']⟩:Fi).l,v.cells.all AV.one=true:=by
  intro x' e' hx' v hv;simp at hv;subst hv;unfold G6 at hx';rw[hx'];rfl
 have hone:=hone;have hx0:=hx;unfold G6 at hx;by_cases he:e=0
 ·obtain⟨o1,o2⟩:=h he;obtain⟨g1,e1⟩:=E8 ha o1;obtain⟨g2,e2⟩:=E8 hb o2;have hr:=Ml a.q b.q g1 g2;rw[←Rv ha o1,←Rv hb o2]at hr;have hk:=N9 c x e;subst he;generalize Db a.q b.q=q at *;unfold Oa at hk ⊢;unfold RR.av at hr ⊢;refine Ad Tryz.func146 rfl rfl 20 rfl (Nat.le_of_ble_eq_true rfl) ?_;(repeat refine AW.seq_k fun K hK=>?_);refine AW.rgR [4,5] ?_;simp[Ak];try (refine hK _ rfl ?_;clear hK K)
  refine Af.intro fun b6 hb6=>?_;simp only[An,Ay,and_true]at hb6;refine hK _ rfl ?_;clear hK K;(repeat refine AW.seq_k fun K hK=>?_);refine AW.rg ?_;simp[hb6,hx];try (refine hK _ rfl ?_;clear hK K)
  refine AW.no ?_ rfl;refine AW.skip ?_;try simp
  refine hK _ rfl ?_;clear hK K;cases q with
  |none =>
   (repeat refine AW.seq_k fun K hK=>?_);refine AW.rg ?_;simp[hb6];try (refine hK _ rfl ?_;clear hK K)
   refine Aa.val hr ?_;simp[Eb,Cn];have hk2:=hk 2 hx0 Wf;refine Aa.grant (R:=fun v y=>v=Wf.av∧∃x',G6 x' 2∧y=⟨118,1,[x']⟩) c ⟨118,1,[x]⟩ (by simp[hb6]) (by simp) (hk2.mono fun v m ⟨h1,x',h2,h3⟩=>⟨_,⟨h1,x',h2,rfl⟩,h3⟩) ?_;rintro _ _ ⟨rfl,x',hx',rfl⟩;simp[hb6,Zd,Cn];refine hK _ rfl ?_;clear hK K;refine AW.ret (Dl (vs:=[Cn]) [Cn] c ⟨118,1,[x']⟩ (by simp[hb6,Cn]) (by simp[hb6]) (hone x' 2 hx') (Bd _ _ _) ⟨rfl,x',hx',rfl⟩)
  |some q =>
   (repeat refine AW.seq_k fun K hK=>?_);refine AW.rg ?_;simp[hb6];try (refine hK _ rfl ?_;clear hK K)
   refine Aa.val hr ?_;simp[Eb];have hk2:=hk 0 hx0 (A3 q);refine Aa.grant (R:=fun v y=>v=(A3 q).av∧∃x',G6 x' 0∧y=⟨118,1,[x']⟩) c ⟨118,1,[x]⟩ (by simp[hb6]) (by simp) (hk2.mono fun v m ⟨h1,x',h2,h3⟩=>⟨_,⟨h1,x',h2,rfl⟩,h3⟩) ?_;rintro _ _ ⟨rfl,x',hx',rfl⟩;simp[hb6];refine hK _ rfl ?_;clear hK K;refine AW.ret (Dl (vs:=[(A3 q).av]) [(A3 q).av] c ⟨118,1,[x']⟩ (by simp[hb6,RR.av]) (by simp[hb6]) (hone x' 0 hx') (Bd _ _ _) ⟨rfl,x',hx',rfl⟩)
 ·have e3:Dn e a (Db a.q b.q)=(e,a):=if_neg he;rw[e3];unfold Oa;unfold RR.av;refine Ad Tryz.func146 rfl rfl 20 rfl (Nat.le_of_ble_eq_true rfl) ?_;(repeat refine AW.seq_k fun K hK=>?_);refine AW.rgR [4,5] ?_;simp[Ak];try (refine hK _ rfl ?_;clear hK K)
  refine Af.intro fun b6 hb6=>?_;simp only[An,Ay,and_true]at hb6;refine hK _ rfl ?_;clear hK K;(repeat refine AW.seq_k fun K hK=>?_);refine AW.rg ?_;simp[hb6,hx];try (refine hK _ rfl ?_;clear hK K)
  refine AW.yes ?_ (by simp[he]);(repeat refine AW.seq_k fun K hK=>?_);refine AW.rg ?_;simp[hb6];try (refine hK _ rfl ?_;clear hK K)
  refine AW.ret (Dl (vs:=[.agg [.bool a.n1,Am a.l1,.bool a.n2,Am a.l2]]) [.agg [.bool a.n1,Am a.l1,.bool a.n2,Am a.l2]] c ⟨118,1,[x]⟩ (by simp[hb6]) (by simp[hb6]) (hone x e hx0) (Bd _ _ _) ⟨rfl,x,hx0,rfl⟩)
theorem Qio (c:Nat) (x:AV) (e:Int) (hx:G6 x e) (a b:RR) (ha:a.Lb) (hb:b.Lb) (h:e=0→a.ok=true∧b.ok=true):Aj Tryz.prog 111 [.ptr c 1 0 0,a.av,b.av] (Oa c x) fun v m=>v=(Dn e a (Ea a.q b.q)).2.av∧∃x',G6 x' (Dn e a (Ea a.q b.q)).1∧m=Oa c x':=by
 have hone:∀x' e',G6 x' e'→∀v∈(⟨118,1,[x']⟩:Fi).l,v.cells.all AV.one=true:=by
  intro x' e' hx' v hv;simp at hv;subst hv;unfold G6 at hx';rw[hx'];rfl
 have hone:=hone;have hx0:=hx;unfold G6 at hx;by_cases he:e=0
 ·obtain⟨o1,o2⟩:=h he;obtain⟨g1,e1⟩:=E8 ha o1;obtain⟨g2,e2⟩:=E8 hb o2;have hr:=Qg0 a.q b.q g1 g2;rw[←Rv ha o1,←Rv hb o2]at hr;have hk:=N9 c x e;subst he;generalize Ea a.q b.q=q at *;unfold Oa at hk ⊢;unfold RR.av at hr ⊢;refine Ad Tryz.func111 rfl rfl 20 rfl (Nat.le_of_ble_eq_true rfl) ?_;(repeat refine AW.seq_k fun K hK=>?_);refine AW.rgR [4,5] ?_;simp[Ak];try (refine hK _ rfl ?_;clear hK K)
  refine Af.intro fun b6 hb6=>?_;simp only[An,Ay,and_true]at hb6;refine hK _ rfl ?_;clear hK K;(repeat refine AW.seq_k fun K hK=>?_);refine AW.rg ?_;simp[hb6,hx];try (refine hK _ rfl ?_;clear hK K)
  refine AW.no ?_ rfl;refine AW.skip ?_;try simp
  refine hK _ rfl ?_;clear hK K;cases q with
  |none =>
   (repeat refine AW.seq_k fun K hK=>?_);refine AW.rg ?_;simp[hb6];try (refine hK _ rfl ?_;clear hK K)
   refine Aa.val hr ?_;simp[Eb,Cn];have hk2:=hk 2 hx0 Wf;refine Aa.grant (R:=fun v y=>v=Wf.av∧∃x',G6 x' 2∧y=⟨118,1,[x']⟩) c ⟨118,1,[x]⟩ (by simp[hb6]) (by simp) (hk2.mono fun v m ⟨h1,x',h2,h3⟩=>⟨_,⟨h1,x',h2,rfl⟩,h3⟩) ?_;rintro _ _ ⟨rfl,x',hx',rfl⟩;simp[hb6,Zd,Cn];refine hK _ rfl ?_;clear hK K;refine AW.ret (Dl (vs:=[Cn]) [Cn] c ⟨118,1,[x']⟩ (by simp[hb6,Cn]) (by simp[hb6]) (hone x' 2 hx') (Bd _ _ _) ⟨rfl,x',hx',rfl⟩)
  |some q =>
   (repeat refine AW.seq_k fun K hK=>?_);refine AW.rg ?_;simp[hb6];try (refine hK _ rfl ?_;clear hK K)
   refine Aa.val hr ?_;simp[Eb];have hk2:=hk 0 hx0 (A3 q);refine Aa.grant (R:=fun v y=>v=(A3 q).av∧∃x',G6 x' 0∧y=⟨118,1,[x']⟩) c ⟨118,1,[x]⟩ (by simp[hb6]) (by simp) (hk2.mono fun v m ⟨h1,x',h2,h3⟩=>⟨_,⟨h1,x',h2,rfl⟩,h3⟩) ?_;rintro _ _ ⟨rfl,x',hx',rfl⟩;simp[hb6];refine hK _ rfl ?_;clear hK K;refine AW.ret (Dl (vs:=[(A3 q).av]) [(A3 q).av] c ⟨118,1,[x']⟩ (by simp[hb6,RR.av]) (by simp[hb6]) (hone x' 0 hx') (Bd _ _ _) ⟨rfl,x',hx',rfl⟩)
 ·have e3:Dn e a (Ea a.q b.q)=(e,a):=if_neg he;rw[e3];unfold Oa;unfold RR.av;refine Ad Tryz.func111 rfl rfl 20 rfl (Nat.le_of_ble_eq_true rfl) ?_;(repeat refine AW.seq_k fun K hK=>?_);refine AW.rgR [4,5] ?_;simp[Ak];try (refine hK _ rfl ?_;clear hK K)
  refine Af.intro fun b6 hb6=>?_;simp only[An,Ay,and_true]at hb6;refine hK _ rfl ?_;clear hK K;(repeat refine AW.seq_k fun K hK=>?_);refine AW.rg ?_;simp[hb6,hx];try (refine hK _ rfl ?_;clear hK K)
  refine AW.yes ?_ (by simp[he]);(repeat refine AW.seq_k fun K hK=>?_);refine AW.rg ?_;simp[hb6];try (refine hK _ rfl ?_;clear hK K)
  refine AW.ret (Dl (vs:=[.agg [.bool a.n1,Am a.l1,.bool a.n2,Am a.l2]]) [.agg [.bool a.n1,Am a.l1,.bool a.n2,Am a.l2]] c ⟨118,1,[x]⟩ (by simp[hb6]) (by simp[hb6]) (hone x e hx0) (Bd _ _ _) ⟨rfl,x,hx0,rfl⟩)
theorem Qip (c:Nat) (x:AV) (e:Int) (hx:G6 x e) (a b:RR) (ha:a.Lb) (hb:b.Lb) (h:e=0→a.ok=true∧b.ok=true∧b.q≠0):Aj Tryz.prog 145 [.ptr c 1 0 0,a.av,b.av] (Oa c x) fun v m=>v=(Dn e a (Fo a.q b.q)).2.av∧∃x',G6 x' (Dn e a (Fo a.q b.q)).1∧m=Oa c x':=by
 have hone:∀x' e',G6 x' e'→∀v∈(⟨118,1,[x']⟩:Fi).l,v.cells.all AV.one=true:=by
  intro x' e' hx' v hv;simp at hv;subst hv;unfold G6 at hx';rw[hx'];rfl
 have hone:=hone;have hx0:=hx;unfold G6 at hx;by_cases he:e=0
 ·obtain⟨o1,o2,o3⟩:=h he;obtain⟨g1,e1⟩:=E8 ha o1;obtain⟨g2,e2⟩:=E8 hb o2;have hr:=Qgt a.q b.q g1 g2 o3;rw[←Rv ha o1,←Rv hb o2]at hr;have hk:=N9 c x e;subst he;generalize Fo a.q b.q=q at *;unfold Oa at hk ⊢;unfold RR.av at hr ⊢;refine Ad Tryz.func145 rfl rfl 20 rfl (Nat.le_of_ble_eq_true rfl) ?_;(repeat refine AW.seq_k fun K hK=>?_);refine AW.rgR [4,5] ?_;simp[Ak];try (refine hK _ rfl ?_;clear hK K)
  refine Af.intro fun b6 hb6=>?_;simp only[An,Ay,and_true]at hb6;refine hK _ rfl ?_;clear hK K;(repeat refine AW.seq_k fun K hK=>?_);refine AW.rg ?_;simp[hb6,hx];try (refine hK _ rfl ?_;clear hK K)
  refine AW.no ?_ rfl;refine AW.skip ?_;try simp
  refine hK _ rfl ?_;clear hK K;cases q with
  |none =>
   (repeat refine AW.seq_k fun K hK=>?_);refine AW.rg ?_;simp[hb6];try (refine hK _ rfl ?_;clear hK K)
   refine Aa.val hr ?_;simp[Eb,Cn];have hk2:=hk 2 hx0 Wf;refine Aa.grant (R:=fun v y=>v=Wf.av∧∃x',G6 x' 2∧y=⟨118,1,[x']⟩) c ⟨118,1,[x]⟩ (by simp[hb6]) (by simp) (hk2.mono fun v m ⟨h1,x',h2,h3⟩=>⟨_,⟨h1,x',h2,rfl⟩,h3⟩) ?_;rintro _ _ ⟨rfl,x',hx',rfl⟩;simp[hb6,Zd,Cn];refine hK _ rfl ?_;clear hK K;refine AW.ret (Dl (vs:=[Cn]) [Cn] c ⟨118,1,[x']⟩ (by simp[hb6,Cn]) (by simp[hb6]) (hone x' 2 hx') (Bd _ _ _) ⟨rfl,x',hx',rfl⟩)
  |some q =>
   (repeat refine AW.seq_k fun K hK=>?_);refine AW.rg ?_;simp[hb6];try (refine hK _ rfl ?_;clear hK K)
   refine Aa.val hr ?_;simp[Eb];have hk2:=hk 0 hx0 (A3 q);refine Aa.grant (R:=fun v y=>v=(A3 q).av∧∃x',G6 x' 0∧y=⟨118,1,[x']⟩) c ⟨118,1,[x]⟩ (by simp[hb6]) (by simp) (hk2.mono fun v m ⟨h1,x',h2,h3⟩=>⟨_,⟨h1,x',h2,rfl⟩,h3⟩) ?_;rintro _ _ ⟨rfl,x',hx',rfl⟩;simp[hb6];refine hK _ rfl ?_;clear hK K;refine AW.ret (Dl (vs:=[(A3 q).av]) [(A3 q).av] c ⟨118,1,[x']⟩ (by simp[hb6,RR.av]) (by simp[hb6]) (hone x' 0 hx') (Bd _ _ _) ⟨rfl,x',hx',rfl⟩)
 ·have e3:Dn e a (Fo a.q b.q)=(e,a):=if_neg he;rw[e3];unfold Oa;unfold RR.av;refine Ad Tryz.func145 rfl rfl 20 rfl (Nat.le_of_ble_eq_true rfl) ?_;(repeat refine AW.seq_k fun K hK=>?_);refine AW.rgR [4,5] ?_;simp[Ak];try (refine hK _ rfl ?_;clear hK K)
  refine Af.intro fun b6 hb6=>?_;simp only[An,Ay,and_true]at hb6;refine hK _ rfl ?_;clear hK K;(repeat refine AW.seq_k fun K hK=>?_);refine AW.rg ?_;simp[hb6,hx];try (refine hK _ rfl ?_;clear hK K)
  refine AW.yes ?_ (by simp[he]);(repeat refine AW.seq_k fun K hK=>?_);refine AW.rg ?_;simp[hb6];try (refine hK _ rfl ?_;clear hK K)
  refine AW.ret (Dl (vs:=[.agg [.bool a.n1,Am a.l1,.bool a.n2,Am a.l2]]) [.agg [.bool a.n1,Am a.l1,.bool a.n2,Am a.l2]] c ⟨118,1,[x]⟩ (by simp[hb6]) (by simp[hb6]) (hone x e hx0) (Bd _ _ _) ⟨rfl,x,hx0,rfl⟩)
end Go.Av
end
section
namespace Go.Av
open Go.Proofs
def Gw (n:Int):Rat:=Rat.divInt n 1
theorem H4:Gw 0=0:=Rat.zero_divInt 1
theorem J0:Gw 1=1:=by decide
theorem Qb {n:Int} (h:n.natAbs<18446744073709551616):Cd (Gw n):=G8 (Vf h) (by decide) (by omega)
theorem Nw (n:Int) (h1:-9223372036854775808≤n) (h2:n<9223372036854775808):Aj Tryz.prog 152 [.int .i64 n] Ac.emp fun v m=>v=(A3 (Gw n)).av∧m=Ac.emp:=by
 have ho:=Qf3 n 1 h1 h2 (by omega) (by omega) (by omega);have e:Rat.divInt n 1=Gw n:=rfl;rw[e,Eb]at ho;generalize Gw n=q at *;rw[D2];unfold Ix at *;refine Ad Tryz.func152 rfl rfl 11 rfl (Nat.le_of_ble_eq_true rfl) ?_;(repeat refine AW.seq_k fun K hK=>?_);refine AW.rg ?_;simp[Ak];try (refine hK _ rfl ?_;clear hK K)
 refine Af.intro fun b2 _=>?_;refine hK _ rfl ?_;clear hK K;(repeat refine AW.seq_k fun K hK=>?_);refine AW.rg ?_;simp;try (refine hK _ rfl ?_;clear hK K)
 refine Aa.val ho ?_;simp;refine Af.intro fun b3 hb3=>?_;simp only[An,Ay,and_true]at hb3;try simp[hb3]
 refine hK _ rfl ?_;clear hK K;(repeat refine AW.seq_k fun K hK=>?_);refine AW.rg ?_;simp[hb3];try (refine hK _ rfl ?_;clear hK K)
 exact AW.ret (Ah (vs:=[.agg [.bool (decide (q.num<0)),Am (Ao q.num.natAbs),.bool false,Am (Ao q.den)]]) [.agg [.bool (decide (q.num<0)),Am (Ao q.num.natAbs),.bool false,Am (Ao q.den)]] (by simp[hb3]) (by simp) ⟨rfl,rfl⟩)
section
variable {P:Program} {av:Nat→Prop} {f:FuncId} {args:List AV} {m:Ac} {k:AV→Ac→Prop}
theorem Aa.make {R:Nat→AV→Fi→Prop} (h:Aj P f args Ac.emp fun v m'=>∃b x,R b v x∧m'=Ac.emp.set b x) (hk:∀b v x,R b v x→m b=none→¬av b→k v (m.set b x)):Aa P av f args m k:=by
 refine .inl ⟨Ac.emp,_,fun c y hy=>(by cases hy),h,?_⟩;rintro v g' ⟨b,x,hr,rfl⟩ hf;have hb:=hf b (by simp);rcases hb with hb | ⟨h1,h2⟩
 ·exact absurd rfl hb
 ·have e:Ey m Ac.emp (Ac.emp.set b x)=m.set b x:=by
   funext c
   unfold Ey;simp only[A9,Ay];by_cases hc:c=b
   ·simp[hc]
   ·simp[hc]
  rw[e];exact hk b v x hr h1 h2
end
def Qlj:AV:=.agg [.bool false,.nil,.bool false,.nil]
def Lh (l:List RR) (i n:Nat):List AV:=B5 (l.take i)++List.replicate (n-i) Qlj
theorem T0 (l:List RR) (n:Nat):Lh l 0 n=List.replicate n Qlj:=by simp[Lh]
theorem Tl (l:List RR):Lh l l.length l.length=B5 l:=by simp[Lh]
theorem Vk (l:List RR) (i:Nat) (h:i<l.length):(Lh l i l.length).set i (rr l i).av=Lh l (i+1) l.length:=by
 unfold Lh;have hl:(B5 (l.take i)).length=i:=by simp;omega
 rw[List.set_append_right _ _ (by omega),hl,Nat.sub_self,show l.length-i=(l.length-(i+1))+1 by omega,List.replicate_succ,List.set_cons_zero];have e:l.take (i+1)=l.take i++[l[i]]:=by rw[List.take_add_one,List.getElem?_eq_getElem h];rfl
 rw[e];simp only[B5,List.map_append,List.append_assoc,List.map_cons,List.map_nil,List.cons_append,List.nil_append,K8 h]
@[simp] theorem fillL_get? {l:List RR} {i:Nat} (h:i<l.length):(Lh l i l.length)[i]?=some Qlj:=by
 unfold Lh;have hl:(B5 (l.take i)).length=i:=by simp;omega
 rw[List.getElem?_append_right (by omega),hl,Nat.sub_self,show l.length-i=(l.length-(i+1))+1 by omega,List.replicate_succ];rfl
theorem Zs (n:Nat) (hn:n<2^40):Aj Tryz.prog 109 [.int .i64 n] Ac.emp fun v m=>∃b x,(v=.osl b 4 0 n∧x=⟨44,4,B5 (List.replicate n (A3 0))⟩)∧m=Ac.emp.set b x:=by
 have hw:=Nw 0 (by omega) (by omega);rw[H4]at hw;generalize hl:List.replicate n (A3 0)=l at *;have hlen:l.length=n:=by rw[←hl];simp
 have hget:∀i,i<n→rr l i=A3 0:=by
  intro i hi;rw[K8 (by omega)];subst hl;simp
 generalize A3 0=z at *;clear hl;subst hlen;refine Ad Tryz.func109 rfl rfl 18 rfl (Nat.le_of_ble_eq_true rfl) ?_;(repeat refine AW.seq_k fun K hK=>?_);refine AW.rg ?_;simp[Ak];try (refine hK _ rfl ?_;clear hK K)
 (repeat refine AW.seq_k fun K hK=>?_);refine AW.rg ?_;simp[-Int.natCast_mul];try (refine hK _ rfl ?_;clear hK K)
 refine⟨by omega,Af.intro fun b _=>?_⟩;refine hK _ rfl ?_;clear hK K;refine AW.seq_has [(3,.osl b 4 0 l.length)] (Ac.emp.set b ⟨44,4,B5 l⟩) ?_ ?_
 ·(repeat refine AW.seq_k fun K hK=>?_);refine AW.rg ?_;simp;try (refine hK _ rfl ?_;clear hK K)
  refine AW.block (AW.loopS (ι:=Nat) (fun i=>[(3,.osl b 4 0 l.length),(8,.int .i64 (l.length:Nat)),(9,.int .i64 (i:Nat))]) (fun i=>Ac.emp.set b ⟨44,4,Lh l i l.length⟩)
   (fun i=>i≤l.length) (fun i=>l.length-i) 0 (by simp) (by rw[T0];rfl) (by simp) ?_)
  intro i h1;(repeat refine AW.seq_k fun K hK=>?_);refine AW.rg ?_;simp;try (refine hK _ rfl ?_;clear hK K)
  refine AW.seq_k fun K hK=>?_;(repeat refine AW.seq ?_);refine AW.cs (fun hi=>?_) (fun hi=>?_) rfl<;>(try simp at hi)
  ·refine AW.skip ?_;try simp
   refine hK _ rfl ?_;clear hK K;have w1:=Ap (i+1) (by omega);(repeat refine AW.seq ?_);refine AW.block ?_;(repeat refine AW.seq_k fun K hK=>?_);refine AW.rg ?_;simp;try (refine hK _ rfl ?_;clear hK K)
   (repeat refine AW.seq_k fun K hK=>?_);refine AW.rg ?_;simp[hi];try (refine hK _ rfl ?_;clear hK K)
   refine Aa.val hw ?_;simp[hi,Qlj];rw[←hget i hi,Vk l i hi];(repeat refine AW.seq_k fun K hK=>?_);refine AW.rg ?_;simp[-Int.natCast_add,w1];try (refine hK _ rfl ?_;clear hK K)
   exact⟨i+1,hi,by omega,rfl,rfl⟩
  ·refine AW.exit ?_;try simp
   have:i=l.length:=by omega
   subst this;rw[Tl]
 (repeat refine AW.seq_k fun K hK=>?_);refine AW.rg ?_;simp;try (refine hK _ rfl ?_;clear hK K)
 exact AW.ret (B9 rfl (Tw (Kd l)) ⟨b,_,⟨rfl,rfl⟩,rfl⟩)
theorem Qby (l:List RR) (hl:∀x∈l,x.l1.length<2^40∧x.l2.length<2^40) (hn:l.length<2^40):Aj Tryz.prog 143 [A4 l] Ac.emp fun v m=>∃b x,(v=.osl b 4 0 l.length∧x=⟨44,4,B5 l⟩)∧m=Ac.emp.set b x:=by
 refine Ad Tryz.func143 rfl rfl 23 rfl (Nat.le_of_ble_eq_true rfl) ?_;(repeat refine AW.seq_k fun K hK=>?_);refine AW.rg ?_;simp[Ak];try (refine hK _ rfl ?_;clear hK K)
 (repeat refine AW.seq_k fun K hK=>?_);refine AW.rg ?_;simp[-Int.natCast_mul];try (refine hK _ rfl ?_;clear hK K)
 refine⟨by omega,Af.intro fun b _=>?_⟩;refine hK _ rfl ?_;clear hK K;refine AW.seq_has [(3,.osl b 4 0 l.length)] (Ac.emp.set b ⟨44,4,B5 l⟩) ?_ ?_
 ·(repeat refine AW.seq_k fun K hK=>?_);refine AW.rg ?_;simp;try (refine hK _ rfl ?_;clear hK K)
  refine AW.block (AW.loopS (ι:=Nat) (fun i=>[(0,A4 l),(3,.osl b 4 0 l.length),(9,.int .i64 (l.length:Nat)),(10,.int .i64 (i:Nat))]) (fun i=>Ac.emp.set b ⟨44,4,Lh l i l.length⟩)
   (fun i=>i≤l.length) (fun i=>l.length-i) 0 (by simp) (by rw[T0];rfl) (by simp) ?_)
  intro i h1;(repeat refine AW.seq_k fun K hK=>?_);refine AW.rg ?_;simp;try (refine hK _ rfl ?_;clear hK K)
  refine AW.seq_k fun K hK=>?_;(repeat refine AW.seq ?_);refine AW.cs (fun hi=>?_) (fun hi=>?_) rfl<;>(try simp at hi)
  ·refine AW.skip ?_;try simp
   refine hK _ rfl ?_;clear hK K;have w1:=Ap (i+1) (by omega);have hx:=hl (rr l i) (by rw[K8 hi];exact List.getElem_mem hi);have ho:=Qjs (rr l i) hx.1 hx.2;(repeat refine AW.seq ?_);refine AW.block ?_;(repeat refine AW.seq_k fun K hK=>?_);refine AW.rg ?_;simp;try (refine hK _ rfl ?_;clear hK K)
   (repeat refine AW.seq_k fun K hK=>?_);refine AW.rg ?_;simp[hi];try (refine hK _ rfl ?_;clear hK K)
   refine Aa.val ho ?_;simp[hi,Qlj];rw[Vk l i hi];(repeat refine AW.seq_k fun K hK=>?_);refine AW.rg ?_;simp[-Int.natCast_add,w1];try (refine hK _ rfl ?_;clear hK K)
   exact⟨i+1,hi,by omega,rfl,rfl⟩
  ·refine AW.exit ?_;try simp
   have:i=l.length:=by omega
   subst this;rw[Tl]
 (repeat refine AW.seq_k fun K hK=>?_);refine AW.rg ?_;simp;try (refine hK _ rfl ?_;clear hK K)
 exact AW.ret (B9 rfl (Tw (Kd l)) ⟨b,_,⟨rfl,rfl⟩,rfl⟩)
end Go.Av
end
section
namespace Go.Av
open Go.Proofs
def Hi (bs:List Nat) (rows:List (List RR)):List AV:=List.zipWith (fun b (r:List RR)=>.osl b 4 0 r.length) bs rows
def nb (bs:List Nat) (i:Nat):Nat:=bs.getD i 0
theorem J7 {bs:List Nat} {i:Nat} (h:i<bs.length):nb bs i=bs[i]:=by unfold nb;rw[List.getD_eq_getElem?_getD,List.getElem?_eq_getElem h];rfl
theorem Fm {bs:List Nat} {i:Nat} (h:i<bs.length):nb bs i∈bs:=by rw[J7 h];exact List.getElem_mem h
theorem Dh {bs:List Nat} {rows:List (List RR)} (h:bs.length=rows.length):(Hi bs rows).length=rows.length:=by simp[Hi,h]
theorem hdrs_get? {bs:List Nat} {rows:List (List RR)} (h:bs.length=rows.length) {i:Nat} (hi:i<rows.length):(Hi bs rows)[i]?=some (.osl (nb bs i) 4 0 (Al rows i).length):=by
 unfold Hi;rw[List.getElem?_zipWith,List.getElem?_eq_getElem (by omega),List.getElem?_eq_getElem hi,J7 (by omega),Gj hi]
structure Eu (M:Ac) (B:Nat) (bs:List Nat) (rows:List (List RR)):Prop where
 top:M B=some ⟨51,1,Hi bs rows⟩
 len:bs.length=rows.length
 row:∀i,i<rows.length→M (nb bs i)=some ⟨44,4,B5 (Al rows i)⟩
 nd:bs.Nodup
 nB:B ∉ bs
theorem Qkq {bs:List Nat} (hnd:bs.Nodup) {i j:Nat} (hi:i<bs.length) (hj:j<bs.length) (h:nb bs i=nb bs j):i=j:=by
 rw[J7 hi,J7 hj]at h;exact(List.getElem_inj hnd).1 h
section
variable {M:Ac} {B:Nat} {bs:List Nat} {rows:List (List RR)}
theorem Eu.ne (h:Eu M B bs rows) {i:Nat} (hi:i<rows.length):nb bs i≠B:=fun e=>h.nB (e ▸ Fm (by rw[h.len];exact hi))
theorem Eu.get (h:Eu M B bs rows) {i:Nat} (hi:i<rows.length):(Hi bs rows)[i]?=some (.osl (nb bs i) 4 0 (Al rows i).length):=hdrs_get? h.len hi
theorem Qh2 {bs:List Nat} {rows:List (List RR)} (i:Nat) (r:List RR) (hr:r.length=(Al rows i).length):Hi bs (rows.set i r)=Hi bs rows:=by
 unfold Hi;refine List.ext_getElem? fun k=>?_;rw[List.getElem?_zipWith,List.getElem?_zipWith,List.getElem?_set];by_cases hk:i=k
 ·subst hk;rw[if_pos rfl];by_cases hi:i<rows.length
  ·rw[if_pos hi,List.getElem?_eq_getElem hi];cases bs[i]? with
   |none=>rfl
   |some b=>simp[hr,Gj hi]
  ·rw[if_neg hi,List.getElem?_eq_none (l:=rows) (by omega)]
 ·rw[if_neg hk]
theorem Hf {α:Type} {rows:List (List α)} {i:Nat} (hi:i<rows.length) (r:List α) (k:Nat):Al (rows.set i r) k=if k=i then r else Al rows k:=by
 unfold Al;rw[List.getD_eq_getElem?_getD,List.getElem?_set];by_cases h:i=k
 ·subst h;simp[hi]
 ·rw[if_neg h,if_neg (Ne.symm h),←List.getD_eq_getElem?_getD]
theorem Eu.setRow (h:Eu M B bs rows) {i:Nat} (hi:i<rows.length) (r:List RR) (hr:r.length=(Al rows i).length):Eu (M.set (nb bs i) ⟨44,4,B5 r⟩) B bs (rows.set i r):=by
 refine⟨?_,by simpa using h.len,fun k hk=>?_,h.nd,h.nB⟩
 ·rw[Qh2 i r hr];simp only[A9];rw[if_neg (Ne.symm (h.ne hi))];exact h.top
 ·have hk':k<rows.length:=by simpa using hk
  simp only[A9];rw[Hf hi];by_cases hki:k=i
  ·subst hki;simp
  ·have:nb bs k≠nb bs i:=fun e=>hki (Qkq h.nd (by rw[h.len];exact hk') (by rw[h.len];exact hi) e);rw[if_neg this,if_neg hki];exact h.row k hk'
theorem Eu.other (h:Eu M B bs rows) {c:Nat} (h1:c≠B) (h2:c ∉ bs) (x:Fi):Eu (M.set c x) B bs rows:=by
 refine⟨?_,h.len,fun k hk=>?_,h.nd,h.nB⟩
 ·simp only[A9];rw[if_neg (Ne.symm h1)];exact h.top
 ·have:nb bs k≠c:=fun e=>h2 (e ▸ Fm (by rw[h.len];exact hk));simp only[A9];rw[if_neg this];exact h.row k hk
theorem Xr (bs:List Nat) (rows:List (List RR)):∀v∈Hi bs rows,v.cells.all AV.one=true:=by
 intro v hv;unfold Hi at hv;obtain⟨k,hk⟩:=List.getElem?_of_mem hv;rw[List.getElem?_zipWith]at hk;cases h1:bs[k]?<;>cases h2:rows[k]?<;>simp[h1,h2]at hk
 subst hk;rfl
theorem Eu.view (h:Eu M B bs rows):B2 M Ac.emp (.osl B 1 0 rows.length) (Bc rows):=by
 refine .osl B 1 0 rows.length _ _ h.top rfl rfl (by simp) (by simp[Dh h.len]) fun k v v' h1 h2=>?_;simp only[Nat.zero_add]at h1;have hk:k<rows.length:=by
  have:=(List.getElem?_eq_some_iff.1 h2).1;simpa using this
 rw[h.get hk]at h1;rw[List.getElem?_map,List.getElem?_eq_getElem hk]at h2;cases h1;cases h2;rw[←Gj hk];refine .osl (nb bs k) 4 0 _ _ _ (h.row k hk) rfl rfl (by simp) (by simp) fun j u u' g1 g2=>?_;simp only[Nat.zero_add]at g1;rw[g1]at g2;cases g2;exact .same _
end
def Dz (M:Ac) (l:List Nat):Prop:=∀b,M b≠none→b∈l
theorem Dz.none {M:Ac} {l:List Nat} (h:Dz M l) {b:Nat} (hb:b ∉ l):M b=Option.none:=by
 cases hx:M b with
 |none=>rfl
 |some x=>exact absurd (h b (by rw[hx];simp)) hb
theorem Eu.ones {M:Ac} {B:Nat} {bs:List Nat} {rows:List (List RR)} (h:Eu M B bs rows) {l:List Nat} (ho:Dz M (l++B::bs)) (hl:∀c∈l,∀x,M c=some x→∀v∈x.l,v.cells.all AV.one=true):∀(b:Nat) (x:Fi),M b=some x→∀v∈x.l,v.cells.all AV.one=true:=by
 intro b x hx;have:=ho b (by rw[hx];simp);rcases List.mem_append.1 this with h1 | h1
 ·exact hl b h1 x hx
 ·rcases List.mem_cons.1 h1 with rfl|h1
  ·rw[h.top]at hx;cases hx;exact Xr bs rows
  ·obtain⟨i,hi⟩:=List.getElem?_of_mem h1;have hib:i<bs.length:=(List.getElem?_eq_some_iff.1 hi).1;have hir:i<rows.length:=by rw[←h.len];exact hib
   have e:nb bs i=b:=by rw[J7 hib];exact(List.getElem?_eq_some_iff.1 hi).2
   have:=h.row i hir;rw[e,hx]at this;cases this;exact Kd _
structure Qhu (M:Ac) (B:Nat) (bs:List Nat) (rows:List (List RR)) (k:Nat):Prop where
 top:M B=some ⟨51,1,Hi bs rows++List.replicate k AV.nil⟩
 len:bs.length=rows.length
 row:∀i,i<rows.length→M (nb bs i)=some ⟨44,4,B5 (Al rows i)⟩
 nd:bs.Nodup
 nB:B ∉ bs
 only:Dz M (B::bs)
theorem Wt {bs:List Nat} {rows:List (List RR)} (h:bs.length=rows.length) (b:Nat) (r:List RR):Hi (bs++[b]) (rows++[r])=Hi bs rows++[.osl b 4 0 r.length]:=by
 unfold Hi;rw[List.zipWith_append h];rfl
theorem Wp {α:Type} (rows:List (List α)) (r:List α) (i:Nat) (hi:i<rows.length+1):Al (rows++[r]) i=if i<rows.length then Al rows i else r:=by
 unfold Al;rw[List.getD_eq_getElem?_getD];by_cases h:i<rows.length
 ·rw[if_pos h,List.getElem?_append_left h,←List.getD_eq_getElem?_getD]
 ·rw[if_neg h,List.getElem?_append_right (by omega),show i-rows.length=0 by omega];rfl
theorem Qfq (bs:List Nat) (b:Nat) (i:Nat) (hi:i<bs.length+1):nb (bs++[b]) i=if i<bs.length then nb bs i else b:=by
 unfold nb;rw[List.getD_eq_getElem?_getD];by_cases h:i<bs.length
 ·rw[if_pos h,List.getElem?_append_left h,←List.getD_eq_getElem?_getD]
 ·rw[if_neg h,List.getElem?_append_right (by omega),show i-bs.length=0 by omega];rfl
theorem Qhu.step {M:Ac} {B:Nat} {bs:List Nat} {rows:List (List RR)} {k:Nat} (h:Qhu M B bs rows (k+1)) {b:Nat} (hb:M b=none) (r:List RR) :
  Qhu ((M.set b ⟨44,4,B5 r⟩).set B ⟨51,1,(Hi bs rows++List.replicate (k+1) AV.nil).set rows.length (.osl b 4 0 r.length)⟩) B (bs++[b]) (rows++[r]) k:=by
 have hbB:b≠B:=by rintro rfl;rw[h.top]at hb;cases hb
 have hbb:b ∉ bs:=by
  intro hm;obtain⟨i,hi⟩:=List.getElem?_of_mem hm;have hib:i<bs.length:=(List.getElem?_eq_some_iff.1 hi).1;have e:nb bs i=b:=by rw[J7 hib];exact(List.getElem?_eq_some_iff.1 hi).2
  have:=h.row i (by rw[←h.len];exact hib);rw[e,hb]at this;cases this
 refine⟨?_,by simp[h.len],fun i hi=>?_,?_,?_,fun c hc=>?_⟩
 ·simp only[A9,if_true];rw[Wt h.len,List.set_append_right _ _ (by rw[Dh h.len];omega),Dh h.len,Nat.sub_self,List.replicate_succ,List.set_cons_zero];simp
 ·have hi':i<rows.length+1:=by simpa using hi
  rw[Qfq bs b i (by rw[h.len];exact hi'),Wp rows r i hi',h.len];by_cases hlt:i<rows.length
  ·rw[if_pos hlt,if_pos hlt];have n1:nb bs i≠B:=fun e=>h.nB (e ▸ Fm (by rw[h.len];exact hlt));have n2:nb bs i≠b:=fun e=>hbb (e ▸ Fm (by rw[h.len];exact hlt));simp only[A9];rw[if_neg n1,if_neg n2];exact h.row i hlt
  ·rw[if_neg hlt,if_neg hlt];simp[hbB]
 ·rw[List.nodup_append];exact⟨h.nd,by simp,fun x hx y hy=>by simp at hy;subst hy;exact fun e=>hbb (e ▸ hx)⟩
 ·simp only[List.mem_append,List.mem_singleton,not_or];exact⟨h.nB,Ne.symm hbB⟩
 ·simp only[A9]at hc;by_cases h1:c=B
  ·simp[h1]
  ·rw[if_neg h1]at hc;by_cases h2:c=b
   ·simp[h2]
   ·rw[if_neg h2]at hc;have:=h.only c hc;simp at this ⊢;rcases this with h3 | h3
    ·exact absurd h3 h1
    ·exact .inr (.inl h3)
theorem Qhu.full {M:Ac} {B:Nat} {bs:List Nat} {rows:List (List RR)} (h:Qhu M B bs rows 0):Eu M B bs rows∧Dz M (B::bs) :=
 ⟨⟨by rw[h.top];simp,h.len,h.row,h.nd,h.nB⟩,h.only⟩
def Qj3 (m:List (List RR)):Prop:=∀r∈m,∀x∈r,x.l1.length<2^40∧x.l2.length<2^40
theorem Qdi (m:List (List RR)) (hs:Qj3 m) (h1:m.length<2^40) (h2:∀r∈m,r.length<2^40):Aj Tryz.prog 100 [Bc m] Ac.emp fun v M=>∃B bs,v=.osl B 1 0 m.length∧Eu M B bs m∧Dz M (B::bs):=by
 refine Ad Tryz.func100 rfl rfl 23 rfl (Nat.le_of_ble_eq_true rfl) ?_;(repeat refine AW.seq_k fun K hK=>?_);refine AW.rg ?_;simp[Ak];try (refine hK _ rfl ?_;clear hK K)
 (repeat refine AW.seq_k fun K hK=>?_);refine AW.rg ?_;simp;try (refine hK _ rfl ?_;clear hK K)
 refine⟨by omega,Af.intro fun B _=>?_⟩;refine hK _ rfl ?_;clear hK K;refine AW.seq_ex (ι:=Ac × List Nat) (fun z=>[(3,.osl B 1 0 m.length)]) (fun z=>z.1) (fun z=>Eu z.1 B z.2 m∧Dz z.1 (B::z.2)) ?_ ?_
 ·(repeat refine AW.seq_k fun K hK=>?_);refine AW.rg ?_;simp;try (refine hK _ rfl ?_;clear hK K)
  refine AW.block (AW.loopS (ι:=Nat × Ac × List Nat) (fun z=>[(0,Bc m),(3,.osl B 1 0 m.length),(9,.int .i64 (m.length:Nat)),(10,.int .i64 (z.1:Nat))]) (fun z=>z.2.1)
   (fun z=>z.1≤m.length∧Qhu z.2.1 B z.2.2 (m.take z.1) (m.length-z.1)) (fun z=>m.length-z.1) (0,Ac.emp.set B ⟨51,1,List.replicate m.length .nil⟩,[]) ⟨by simp,⟨by simp[Hi],rfl,fun i hi=>(by simp at hi),by simp,by simp,fun b hb=>by
    simp only[A9,Ay]at hb;by_cases h:b=B
    ·simp[h]
    ·simp[h]at hb⟩⟩ rfl (by simp) ?_)
  rintro⟨i,M,bs⟩ ⟨g1,g2⟩;simp only at g1 g2;(repeat refine AW.seq_k fun K hK=>?_);refine AW.rg ?_;simp;try (refine hK _ rfl ?_;clear hK K)
  refine AW.seq_k fun K hK=>?_;(repeat refine AW.seq ?_);refine AW.cs (fun hi=>?_) (fun hi=>?_) rfl<;>(try simp at hi)
  ·refine AW.skip ?_;try simp
   refine hK _ rfl ?_;clear hK K;have w1:=Ap (i+1) (by omega);obtain⟨k,hk⟩:∃k,m.length-i=k+1:=⟨m.length-i-1,by omega⟩;rw[hk]at g2;have hmem:Al m i∈m:=by rw[Gj hi];exact List.getElem_mem hi
   have ho:=Qby (Al m i) (hs _ hmem) (h2 _ hmem);have htl:(m.take i).length=i:=by simp;omega
   have hlen:(Hi bs (m.take i)++List.replicate (k+1) AV.nil)[i]?=some .nil:=by
    rw[List.getElem?_append_right (by rw[Dh g2.len];omega),Dh g2.len,htl,Nat.sub_self];rfl
   (repeat refine AW.seq ?_);refine AW.block ?_;(repeat refine AW.seq_k fun K hK=>?_);refine AW.rg ?_;simp;try (refine hK _ rfl ?_;clear hK K)
   (repeat refine AW.seq_k fun K hK=>?_);refine AW.rg ?_;simp[hi];try (refine hK _ rfl ?_;clear hK K)
   refine Aa.make ho ?_;rintro b _ _ ⟨rfl,rfl⟩ hb _;have hbB:B≠b:=by rintro rfl;rw[g2.top]at hb;cases hb
   simp[hi,hbB,g2.top,hlen];have hst:=g2.step hb (Al m i);rw[htl]at hst;(repeat refine AW.seq_k fun K hK=>?_);refine AW.rg ?_;simp[-Int.natCast_add,w1];try (refine hK _ rfl ?_;clear hK K)
   refine⟨i+1,_,⟨hi,bs++[b],?_⟩,by omega,rfl,rfl⟩;have e:m.take (i+1)=m.take i++[Al m i]:=by rw[List.take_add_one,List.getElem?_eq_getElem hi,Gj hi];rfl
   rw[e,show m.length-(i+1)=k by omega];exact hst
  ·refine AW.exit ?_;try simp
   have:i=m.length:=by omega
   subst this;rw[Nat.sub_self,List.take_length]at g2;exact⟨bs,g2.full⟩
 rintro⟨M,bs⟩ ⟨g1,g2⟩;simp only at g1 g2;(repeat refine AW.seq_k fun K hK=>?_);refine AW.rg ?_;simp;try (refine hK _ rfl ?_;clear hK K)
 refine AW.ret (B9 rfl ?_ ⟨B,bs,rfl,g1,g2⟩);exact g1.ones (l:=[]) g2 (by simp)
end Go.Av
end
section
namespace Go.Av
open Go.Proofs
def A8 {α:Type} (f:Nat→α→Option α):Nat→α→Option α
 |0,s=>some s
 |n+1,s=>(A8 f n s).bind (f n)
theorem C5 {α:Type} (f:Nat→α→Option α) (n:Nat) (s:α):A8 f (n+1) s=(A8 f n s).bind (f n):=rfl
theorem U4 {α:Type} {f:Nat→α→Option α} {n:Nat} {s:α} (h:A8 f n s=none):∀k,A8 f (n+k) s=none
 |0=>h
 |k+1=>by rw[←Nat.add_assoc,C5,U4 h k];rfl
theorem Qb8 {α:Type} {f:Nat→α→Option α} {n m:Nat} {s:α} (h:A8 f n s=none) (hm:n≤m):A8 f m s=none:=by
 have:=U4 h (m-n)
 rwa [Nat.add_sub_cancel' hm]at this
def A2 (r:List Rat) (i:Nat):Rat:=r.getD i 0
def A5 (M:List (List Rat)) (i j:Nat):Rat:=A2 (Al M i) j
def Cj (M:List (List Rat)):List (List RR):=M.map fun r=>r.map A3
def Eg (M:List (List Rat)):Prop:=∀r∈M,∀q∈r,Cd q
def Ca {α:Type} (l:List (List α)) (i j:Nat):List (List α):=(l.set i (Al l j)).set j (Al l i)
def Fu (op:Rat→Nat→Option Rat) (k:Nat) (row:List Rat):Option (List Rat):=(op (A2 row k) k).map (row.set k)
def Ct (d:Rat):Nat→List Rat→Option (List Rat):=Fu fun q _=>Fo q d
def La (a f b:Rat):Option Rat:=(Ea b f).bind (Db a)
def Es (by_:List Rat) (f:Rat):Nat→List Rat→Option (List Rat):=Fu fun q k=>La q f (A2 by_ k)
def Bt (r j i:Nat) (M:List (List Rat)):Option (List (List Rat)) :=
 if i=r∨A5 M i j=0 then some M else (A8 (Es (Al M r) (A5 M i j)) (Al M i).length (Al M i)).map (M.set i)
def Gk (M:List (List Rat)) (j r:Nat):Option (List (List Rat)) :=
 (A8 (Ct (A5 M r j)) (Al M r).length (Al M r)).bind fun row=>A8 (Bt r j) M.length (M.set r row)
def Sk (M:List (List Rat)) (j r:Nat):Option Nat:=(List.range M.length).find? fun i=>decide (r≤i)&&!decide (A5 M i j=0)
def Ch (j:Nat) (z:List (List Rat) × List Nat):Option (List (List Rat) × List Nat) :=
 match Sk z.1 j z.2.length with
 |none=>some z
 |some i=>(Gk (Ca z.1 i z.2.length) j z.2.length).map fun M=>(M,z.2++[j])
def Er (M:List (List Rat)):Option (List (List Rat) × List Nat):=A8 Ch (Al M 0).length (M,[])
/-! ### The numbers in memory -/
theorem Bm (M:List (List Rat)):(Cj M).length=M.length:=by simp[Cj]
theorem Cs (M:List (List Rat)) (i:Nat):Al (Cj M) i=(Al M i).map A3:=by
 unfold Al Cj;rw[List.getD_eq_getElem?_getD,List.getD_eq_getElem?_getD,List.getElem?_map];cases M[i]?<;>rfl
theorem K4 {r:List Rat} {i:Nat} (h:i<r.length):rr (r.map A3) i=A3 (A2 r i):=by
 unfold rr A2;rw[List.getD_eq_getElem?_getD,List.getD_eq_getElem?_getD,List.getElem?_map,List.getElem?_eq_getElem h];rfl
theorem Px (M:List (List Rat)) (i:Nat) (r:List Rat):Cj (M.set i r)=(Cj M).set i (r.map A3):=by simp[Cj,List.map_set]
theorem Qcd (M:List (List Rat)) (i j:Nat):Cj (Ca M i j)=Ca (Cj M) i j:=by
 unfold Ca;rw[Px,Px,Cs,Cs]
theorem Eg.at {M:List (List Rat)} (h:Eg M) {i j:Nat} (hj:j<(Al M i).length):Cd (A5 M i j):=by
 unfold A5 A2;have hi:i<M.length:=by
  rcases Nat.lt_or_ge i M.length with h|h
  ·exact h
  ·unfold Al at hj;rw[List.getD_eq_getElem?_getD,List.getElem?_eq_none h]at hj;simp at hj
 rw[List.getD_eq_getElem?_getD,List.getElem?_eq_getElem hj];refine h (Al M i) ?_ _ (List.getElem_mem hj);rw[Gj hi];exact List.getElem_mem hi
theorem Eg.set {M:List (List Rat)} (h:Eg M) (i:Nat) {r:List Rat} (hr:∀q∈r,Cd q):Eg (M.set i r):=by
 intro x hx q hq;rcases List.mem_or_eq_of_mem_set hx with h1 | rfl
 ·exact h x h1 q hq
 ·exact hr q hq
theorem Eg.row {M:List (List Rat)} (h:Eg M) (i:Nat):∀q∈Al M i,Cd q:=by
 intro q hq;unfold Al at hq;rw[List.getD_eq_getElem?_getD]at hq;cases hm:M[i]? with
 |none=>rw[hm]at hq;cases hq
 |some r=>rw[hm]at hq;exact h r (List.mem_of_getElem? hm) q hq
theorem Qab {r:List Rat} (h:∀q∈r,Cd q) (k:Nat) {x:Rat} (hx:Cd x):∀q∈r.set k x,Cd q:=by
 intro q hq;rcases List.mem_or_eq_of_mem_set hq with h1 | rfl
 ·exact h q h1
 ·exact hx
theorem Eg.swap {M:List (List Rat)} (h:Eg M) (i j:Nat):Eg (Ca M i j):=(h.set i (h.row j)).set j (h.row i)
def Lf {α:Type} (M:List (List α)) (w:Nat):Prop:=∀i,i<M.length→(Al M i).length=w
theorem Lf.set {α:Type} {M:List (List α)} {w:Nat} (h:Lf M w) {i:Nat} {r:List α} (hr:r.length=w):Lf (M.set i r) w:=by
 intro k hk;have hk':k<M.length:=by simpa using hk
 by_cases hi:i<M.length
 ·rw[Hf hi];split
  ·exact hr
  ·exact h k hk'
 ·rw[List.set_eq_of_length_le (by omega)];exact h k hk'
theorem Lf.swap {α:Type} {M:List (List α)} {w:Nat} (h:Lf M w) {i j:Nat} (hi:i<M.length) (hj:j<M.length):Lf (Ca M i j) w:=(h.set (h j hj)).set (h i hi)
theorem Kp {α:Type} (M:List (List α)) (i j:Nat):(Ca M i j).length=M.length:=by simp[Ca]
theorem Qfw {M:List (List Rat)} {w:Nat} (h:Lf M w):Lf (Cj M) w:=by
 intro i hi;rw[Cs,List.length_map];exact h i (by simpa[Cj]using hi)
theorem Ts (M:List (List Rat)):LbM (Cj M):=by
 intro r hr x hx;obtain⟨s,_,rfl⟩:=List.mem_map.1 hr;obtain⟨q,_,rfl⟩:=List.mem_map.1 hx;exact Fj q
theorem LbM.set {M:List (List RR)} (h:LbM M) (i:Nat) {r:List RR} (hr:∀x∈r,x.Lb):LbM (M.set i r):=by
 intro x hx q hq;rcases List.mem_or_eq_of_mem_set hx with h1 | rfl
 ·exact h x h1 q hq
 ·exact hr q hq
theorem Qs2 {r:List RR} (h:∀x∈r,x.Lb) (k:Nat) {y:RR} (hy:y.Lb):∀x∈r.set k y,x.Lb:=by
 intro x hx;rcases List.mem_or_eq_of_mem_set hx with h1 | rfl
 ·exact h x h1
 ·exact hy
theorem LbM.swap {M:List (List RR)} (h:LbM M) (i j:Nat):LbM (Ca M i j):=(h.set i (h.row j)).set j (h.row i)
def Wh (e:Int) (rows:List (List RR)) (X:Option (List (List Rat))):Prop :=
 match X with
 |some M=>e=0∧rows=Cj M∧Eg M
 |none=>e=2
theorem Qj5 {op:Rat→Nat→Option Rat} (hop:∀q k x,op q k=some x→Cd x) {X:Option (List (List Rat))} {n w r k:Nat} {e e':Int} {rows:List (List RR)} {y:RR} (hn:rows.length=n) (hr:r<n) (hd:Lf rows w) (hk:k<w)
  {Z:Option (List (List Rat) × List Rat)} (hZ:X=Z.map fun z=>z.1.set r z.2) (hM:Wh e rows X) (h1:e≠0→e'=e) (h2:e=0→match op (rr (Al rows r) k).q k with | some z=>e'=0∧y=A3 z | none=>e'=2) :
  Wh e' (rows.set r ((Al rows r).set k y)) (Z.bind fun z=>(Fu op k z.2).map fun row=>z.1.set r row):=by
 cases Z with
 |none =>
  subst hZ;have:e=2:=hM;exact(h1 (by omega)).trans this
 |some z =>
  subst hZ;obtain⟨M,row⟩:=z;obtain⟨m1,m2,m3⟩:e=0∧rows=Cj (M.set r row)∧Eg (M.set r row):=hM;have hMl:M.length=n:=by rw[m2]at hn;simpa[Cj]using hn
  have hrow:Al rows r=row.map A3:=by rw[m2,Cs,Hf (by omega),if_pos rfl]
  have hkr:k<row.length:=by
   have:=hd r (by omega);rw[hrow,List.length_map]at this;omega
  have hq:(rr (Al rows r) k).q=A2 row k:=by rw[hrow,K4 hkr,Hg]
  have h2:=h2 m1;rw[hq]at h2;show Wh e' _ ((Fu op k row).map fun row=>M.set r row)
  unfold Fu;cases ho:op (A2 row k) k with
  |none=>rw[ho]at h2;exact h2
  |some z =>
   rw[ho]at h2;obtain⟨e1,e2⟩:=h2;refine⟨e1,?_,?_⟩
   ·rw[e2,hrow,m2,Px,Px,List.set_set,List.map_set]
   ·have:=m3.set r (r:=row.set k z) (Qab (by have:=m3.row r;rwa [Hf (by omega),if_pos rfl]at this) k (hop _ _ _ ho))
    rwa [List.set_set]at this
theorem N5 {q:Rat}:Qfz q=0↔q=0:=by
 unfold Qfz;constructor
 ·intro h;split at h
  ·cases h
  ·split at h
   ·rename_i h2;exact Rat.num_eq_zero.1 h2
   ·cases h
 ·rintro rfl;rfl
def Qcy (rows:List (List RR)) (j r:Nat):Option Nat:=(List.range rows.length).find? fun i=>decide (r≤i)&&!decide (Dx (rr (Al rows i) j)=0)
theorem Ui {α:Type} {p q:α→Bool}:∀{l:List α},(∀x∈l,p x=q x)→l.find? p=l.find? q
 |[],_=>rfl
 |a::l,h=>by
  rw[List.find?_cons,List.find?_cons,h a (by simp),Ui fun x hx=>h x (by simp[hx])]
theorem Qkm {M:List (List Rat)} (hg:Eg M) {w j:Nat} (hd:Lf M w) (hj:j<w) (r:Nat):Qcy (Cj M) j r=Sk M j r:=by
 unfold Qcy Sk;rw[Bm];refine Ui ?_;intro i hi;have hi':i<M.length:=List.mem_range.1 hi;have hl:j<(Al M i).length:=by rw[hd i hi'];exact hj
 rw[Cs,K4 hl,show A2 (Al M i) j=A5 M i j from rfl,Qn (hg.at hl)]
 congr 2
 simp only[N5]
theorem Oh {n:Nat} {p:Nat→Bool} {i:Nat} (h:(List.range n).find? p=some i):i<n∧p i=true∧∀k,k<i→p k=false:=by
 rw[List.find?_range_eq_some]at h;exact⟨List.mem_range.1 h.2.1,h.1,fun k hk=>by simpa using h.2.2 k hk⟩
end Go.Av
end
section
namespace Go.Av
open Go.Proofs
section
variable {P:Program} {av:Nat→Prop} {f:FuncId} {args:List AV} {m:Ac} {k:AV→Ac→Prop}
def Ac.only (m:Ac) (l:List Nat):Ac:=fun b=>if b∈l then m b else none
def Ac.back (m:Ac) (l:List Nat) (g:Ac):Ac:=fun b=>match g b with
 |some x=>some x
 |none=>if b∈l then none else m b
theorem B8 {l:List Nat} {b:Nat} (h:b∈l):m.only l b=m b:=if_pos h
theorem B1 {l:List Nat} {b:Nat} (h:b ∉ l):m.only l b=none:=if_neg h
theorem Wu {l:List Nat} {g:Ac} {b:Nat} {x:Fi} (h:g b=some x):m.back l g b=some x:=by unfold Ac.back;rw[h]
theorem Iu {l:List Nat} {g:Ac} {b:Nat} (h:g b=none) (hb:b ∉ l):m.back l g b=m b:=by unfold Ac.back;rw[h];exact if_neg hb
theorem Qfm {l:List Nat} {g:Ac} {b:Nat} (hb:b∈l):m.back l g b=g b:=by
 unfold Ac.back;cases h:g b with
 |none=>exact if_pos hb
 |some x=>rfl
theorem Aa.hand {R:AV→Ac→Prop} (l:List Nat) (hl:∀b∈l,¬av b) (h:Aj P f args (m.only l) R) (hk:∀v g,R v g→(∀b,g b≠none→b∈l∨(m b=none∧¬av b))→k v (m.back l g)):Aa P av f args m k:=by
 refine .inl ⟨m.only l,R,fun c y hy=>?_,h,?_⟩
 ·by_cases hc:c∈l
  ·rw[B8 hc]at hy;exact⟨hy,hl c hc⟩
  ·rw[B1 hc]at hy;cases hy
 ·intro v g hr hf;have e:Ey m (m.only l) g=m.back l g:=by
   funext c
   unfold Ey Ac.back;cases g c with
   |some x=>rfl
   |none =>
    by_cases hc:c∈l
    ·rw[B8 hc,if_pos hc];cases hm:m c<;>rfl
    ·rw[B1 hc,if_neg hc]
  rw[e];refine hk v g hr fun b hb=>?_;rcases hf b hb with h1 | h1
  ·by_cases hc:b∈l
   ·exact .inl hc
   ·exact absurd (B1 hc) h1
  ·exact .inr h1
end
theorem Eu.only {M:Ac} {B:Nat} {bs:List Nat} {rows:List (List RR)} (h:Eu M B bs rows) {l:List Nat} (hl:∀b,b=B∨b∈bs→b∈l):Eu (M.only l) B bs rows :=
 ⟨by rw[B8 (hl B (.inl rfl))];exact h.top,h.len,fun i hi=>by rw[B8 (hl _ (.inr (Fm (by rw[h.len];exact hi))))];exact h.row i hi,h.nd,h.nB⟩
theorem Qej (M:Ac) (l:List Nat):Dz (M.only l) l:=by
 intro b hb;rcases Classical.em (b∈l)with h | h
 ·exact h
 ·exact absurd (B1 h) hb
theorem Eu.back {M g:Ac} {B:Nat} {bs:List Nat} {rows:List (List RR)} (h:Eu g B bs rows) (l:List Nat):Eu (M.back l g) B bs rows :=
 ⟨Wu h.top,h.len,fun i hi=>Wu (h.row i hi),h.nd,h.nB⟩
theorem Qie {M:Ac} {l:List Nat} (h:Dz M l):M.only l=M:=by
 funext b
 by_cases hb:b∈l
 ·exact B8 hb
 ·rw[B1 hb,h.none hb]
def F8 (bs:List Nat) (i r:Nat):List Nat:=(bs.set i (nb bs r)).set r (nb bs i)
theorem Qk8 {bs:List Nat} {i:Nat} (hi:i<bs.length) (b k:Nat):nb (bs.set i b) k=if k=i then b else nb bs k:=by
 unfold nb;rw[List.getD_eq_getElem?_getD,List.getElem?_set];by_cases h:i=k
 ·subst h;simp[hi]
 ·rw[if_neg h,if_neg (Ne.symm h),←List.getD_eq_getElem?_getD]
theorem I7 {bs:List Nat} {i r:Nat} (hi:i<bs.length) (hr:r<bs.length) (k:Nat):nb (F8 bs i r) k=if k=r then nb bs i else if k=i then nb bs r else nb bs k:=by
 unfold F8;rw[Qk8 (by simpa using hr),Qk8 hi]
theorem J6 {α:Type} {rows:List (List α)} {i r:Nat} (hi:i<rows.length) (hr:r<rows.length) (k:Nat):Al (Ca rows i r) k=if k=r then Al rows i else if k=i then Al rows r else Al rows k:=by
 unfold Ca;rw[Hf (by simpa using hr),Hf hi]
theorem Mp {bs:List Nat} {i r:Nat} (hi:i<bs.length) (hr:r<bs.length) (b:Nat):b∈F8 bs i r↔b∈bs:=by
 have hl:(F8 bs i r).length=bs.length:=by simp[F8]
 constructor
 ·intro h;obtain⟨k,hk,e⟩:=List.mem_iff_getElem.1 h;rw[←e,←J7 hk,I7 hi hr];rw[hl]at hk;split
  ·exact Fm hi
  ·split
   ·exact Fm hr
   ·exact Fm hk
 ·intro h;obtain⟨k,hk,e⟩:=List.mem_iff_getElem.1 h;rw[←e,←J7 hk];have key:∀k',k'<bs.length→nb (F8 bs i r) k'∈F8 bs i r:=fun k' h'=>Fm (by rw[hl];exact h');by_cases h1:k=i
  ·have:=key r hr;rw[I7 hi hr,if_pos rfl]at this;rw[h1];exact this
  ·by_cases h2:k=r
   ·have:=key i hi;rw[I7 hi hr]at this;rw[h2];by_cases h3:i=r
    ·rw[if_pos h3]at this;rw[←h3];rw[←h3]at this;exact this
    ·rw[if_neg h3,if_pos rfl]at this;exact this
   ·have:=key k hk
    rwa [I7 hi hr,if_neg h2,if_neg h1]at this
theorem Qlz {bs:List Nat} {i r:Nat} (hi:i<bs.length) (hr:r<bs.length) (h:bs.Nodup):(F8 bs i r).Nodup:=by
 have hl:(F8 bs i r).length=bs.length:=by simp[F8]
 unfold List.Nodup;rw[List.pairwise_iff_getElem];intro x y hx hy hxy;rw[←J7 hx,←J7 hy,I7 hi hr,I7 hi hr];rw[hl]at hy hx;intro e;have inj:∀{a b},a<bs.length→b<bs.length→nb bs a=nb bs b→a=b:=fun ha hb=>Qkq h ha hb;split at e<;>split at e<;>(try split at e)<;>(try split at e)<;>have:=inj (by omega) (by omega) e<;>omega
theorem Qi0 {bs:List Nat} {rows:List (List RR)} (h:bs.length=rows.length) {i r:Nat} (hi:i<rows.length) (hr:r<rows.length) :
  ((Hi bs rows).set i (.osl (nb bs r) 4 0 (Al rows r).length)).set r (.osl (nb bs i) 4 0 (Al rows i).length)=Hi (F8 bs i r) (Ca rows i r):=by
 have hl:(F8 bs i r).length=(Ca rows i r).length:=by simp[F8,Ca,h]
 have h0:(Ca rows i r).length=rows.length:=Kp _ _ _;refine List.ext_getElem? fun k=>?_;by_cases hk:k<rows.length
 ·rw[hdrs_get? hl (by rw[h0];exact hk),I7 (by omega) (by omega),J6 hi hr,List.getElem?_set,List.getElem?_set,hdrs_get? h hk];have e:=Dh h;simp only[List.length_set,e,hi,hr,if_true];by_cases h1:r=k
  ·subst h1;simp
  ·rw[if_neg h1,if_neg (Ne.symm h1),if_neg (Ne.symm h1)];by_cases h2:i=k
   ·subst h2;simp
   ·rw[if_neg h2,if_neg (Ne.symm h2),if_neg (Ne.symm h2)]
 ·rw[List.getElem?_eq_none (by simp[Dh h];omega),List.getElem?_eq_none (by rw[Dh hl,h0];omega)]
theorem Eu.swap {M:Ac} {B:Nat} {bs:List Nat} {rows:List (List RR)} (h:Eu M B bs rows) {i r:Nat} (hi:i<rows.length) (hr:r<rows.length) :
  Eu (M.set B ⟨51,1,((Hi bs rows).set i (.osl (nb bs r) 4 0 (Al rows r).length)).set r (.osl (nb bs i) 4 0 (Al rows i).length)⟩) B (F8 bs i r) (Ca rows i r):=by
 have h0:(Ca rows i r).length=rows.length:=Kp _ _ _;have hi':i<bs.length:=by rw[h.len];exact hi
 have hr':r<bs.length:=by rw[h.len];exact hr
 refine⟨by rw[Qi0 h.len hi hr];simp,by rw[h0,←h.len];simp[F8],fun k hk=>?_,Qlz hi' hr' h.nd,fun hm=>h.nB ((Mp hi' hr' B).1 hm)⟩;rw[h0]at hk;rw[I7 hi' hr',J6 hi hr];have key:∀k,k<rows.length→(M.set B ⟨51,1,((Hi bs rows).set i (.osl (nb bs r) 4 0 (Al rows r).length)).set r (.osl (nb bs i) 4 0 (Al rows i).length)⟩) (nb bs k)=some ⟨44,4,B5 (Al rows k)⟩:=fun k hk=>by
  simp only[A9];rw[if_neg (h.ne hk)];exact h.row k hk
 split
 ·exact key i hi
 ·split
  ·exact key r hr
  ·exact key k hk
attribute [simp high] rrs_get?
theorem Dz.set {M:Ac} {l:List Nat} (h:Dz M l) {b:Nat} (hb:b∈l) (x:Fi):Dz (M.set b x) l:=by
 intro c hc;simp only[A9]at hc;by_cases e:c=b
 ·rw[e];exact hb
 ·rw[if_neg e]at hc;exact h c hc
theorem Dz.sub {M:Ac} {l l':List Nat} (h:Dz M l) (hs:∀b∈l,b∈l'):Dz M l':=fun c hc=>hs c (h c hc)
theorem Qhh {rows:List (List RR)} {j r:Nat} (h:∀k,r≤k→k<rows.length→Dx (rr (Al rows k) j)=0):Qcy rows j r=none:=by
 unfold Qcy;rw[List.find?_eq_none];intro k hk;have hk:=List.mem_range.1 hk;by_cases hr:r≤k
 ·simp[h k hr hk]
 ·simp[hr]
theorem Qhn {rows:List (List RR)} {j r i:Nat} (h:∀k,r≤k→k<i→Dx (rr (Al rows k) j)=0) (hr:r≤i) (hi:i<rows.length) (hs:¬Dx (rr (Al rows i) j)=0):Qcy rows j r=some i:=by
 unfold Qcy;rw[List.find?_range_eq_some];refine⟨by simp[hr,hs],List.mem_range.2 hi,fun k hk=>?_⟩;by_cases hrk:r≤k
 ·simp[h k hrk hk]
 ·simp[hrk]
def Yg (M:Ac) (B:Nat) (bs:List Nat) (rows:List (List RR)) (j r:Nat) (v:AV) (M':Ac):Prop :=
 match Qcy rows j r with
 |none=>v=.tup [.bool false,.bool false]∧M'=M
 |some i=>v=.tup [.bool true,.bool (decide (i≠r))]∧Eu M' B (F8 bs i r) (Ca rows i r)∧Dz M' (B::bs)
theorem Qec (M:Ac) (B:Nat) (bs:List Nat) (rows:List (List RR)) (hM:Eu M B bs rows) (hO:Dz M (B::bs)) (hlb:LbM rows) (w j r:Nat) (hd:Lf rows w) (hj:j<w) (h1:rows.length<2^40) (h2:w<2^40) (h3:r<2^40) :
  Aj Tryz.prog 144 [.osl B 1 0 rows.length,.int .i64 j,.int .i64 r] M (Yg M B bs rows j r):=by
 have hones:=hM.ones (l:=[]) hO (by simp);refine Ad Tryz.func144 rfl rfl 42 rfl (Nat.le_of_ble_eq_true rfl) ?_;(repeat refine AW.seq_k fun K hK=>?_);refine AW.rg ?_;simp[Ak];try (refine hK _ rfl ?_;clear hK K)
 refine AW.scope (AW.seq (AW.label ?_));intro _;refine AW.seq_ex (ι:=Unit) (fun _=>[]) (fun _=>M) (fun _=>∀k,r≤k→k<rows.length→Dx (rr (Al rows k) j)=0) ?_ ?_
 ·(repeat refine AW.seq_k fun K hK=>?_);refine AW.rg ?_;simp;try (refine hK _ rfl ?_;clear hK K)
  refine AW.block (AW.loopS (ι:=Nat) (fun i=>[(0,.osl B 1 0 rows.length),(1,.int .i64 j),(2,.int .i64 r),(8,.int .i64 (i:Nat))]) (fun _=>M) (fun i=>r≤i∧∀k,r≤k→k<i→Dx (rr (Al rows k) j)=0) (fun i=>rows.length-i) r ⟨by omega,by omega⟩ rfl (by simp) ?_);rintro i ⟨g1,g2⟩;(repeat refine AW.seq_k fun K hK=>?_);refine AW.rg ?_;simp;try (refine hK _ rfl ?_;clear hK K)
  (repeat refine AW.seq ?_);refine AW.cs (fun hi=>?_) (fun hi=>?_) rfl<;>(try simp at hi)
  ·refine AW.skip ?_;try simp
   refine hK _ rfl ?_;clear hK K;have w1:=Ap (i+1) (by omega);have hri:r<rows.length:=by omega
   have hwi:=hd i hi;refine AW.seq_ex (ι:=Unit) (fun _=>[(0,.osl B 1 0 rows.length),(1,.int .i64 j),(2,.int .i64 r),(8,.int .i64 (i:Nat))]) (fun _=>M) (fun _=>Dx (rr (Al rows i) j)=0) ?_ ?_
   ·(repeat refine AW.seq ?_);refine AW.block ?_;have hs:=N3 (rr (Al rows i) j) (Nb (hlb.row i) j);refine AW.seq_ex (ι:=Unit) (fun _=>[(0,.osl B 1 0 rows.length),(1,.int .i64 j),(2,.int .i64 r),(8,.int .i64 (i:Nat))]) (fun _=>M) (fun _=>¬Dx (rr (Al rows i) j)=0) ?_ ?_
    ·(repeat refine AW.seq_k fun K hK=>?_);refine AW.rg ?_;simp[hi,hM.top,↓hM.get hi,hM.row i hi,hwi,hj];try (refine hK _ rfl ?_;clear hK K)
     refine Aa.val hs ?_;simp;refine hK _ rfl ?_;clear hK K;(repeat refine AW.seq ?_);refine AW.cs (fun h0=>?_) (fun h0=>?_) rfl<;>(try simp at h0)
     ·refine AW.exit ?_;try simp
      exact h0
     ·refine AW.skip ?_;try simp
      exact h0
    rintro _ h0;(repeat refine AW.seq_k fun K hK=>?_);refine AW.rdA B [0,1,2,3,4,5,6,7,8,9,10,11,12,13,14,15] Ds (by simp[hi,hri,hM.top,↓hM.get hi,↓hM.get hri,Dh hM.len]) ?_;simp[hi,hri,hM.top,↓hM.get hi,↓hM.get hri,Dh hM.len];try (refine hK _ rfl ?_;clear hK K)
    (repeat refine AW.seq_k fun K hK=>?_);refine AW.rg ?_;simp;try (refine hK _ rfl ?_;clear hK K)
    have hO':Dz (M.set B ⟨51,1,((Hi bs rows).set i (.osl (nb bs r) 4 0 (Al rows r).length)).set r (.osl (nb bs i) 4 0 (Al rows i).length)⟩) (B::bs):=hO.set (by simp) _;have hb:∀b,b∈B::F8 bs i r↔b∈B::bs:=fun b=>by simp[Mp (bs:=bs) (i:=i) (r:=r) (by rw[hM.len];exact hi) (by rw[hM.len];exact hri) b]
    refine AW.ret (B9 rfl ?_ ?_)
    ·exact(hM.swap hi hri).ones (l:=[]) (hO'.sub fun b h=>(hb b).2 h) (by simp)
    ·unfold Yg;rw[Qhn g2 g1 hi h0];refine⟨?_,hM.swap hi hri,hO'⟩;by_cases e:i=r
     ·simp[e]
     ·simp[e]
   ·rintro _ h0;(repeat refine AW.seq_k fun K hK=>?_);refine AW.rg ?_;simp[-Int.natCast_add,w1];try (refine hK _ rfl ?_;clear hK K)
    refine⟨⟨by omega,fun k hk1 hk2=>?_⟩,by omega⟩;rcases Nat.lt_succ_iff_lt_or_eq.1 hk2 with h | rfl
    ·exact g2 k hk1 h
    ·exact h0
  ·refine AW.exit ?_;try simp
   exact fun k a b=>g2 k a (by omega)
 rintro _ hno;(repeat refine AW.seq_k fun K hK=>?_);refine AW.rg ?_;simp;try (refine hK _ rfl ?_;clear hK K)
 refine AW.ret (B9 rfl hones ?_);unfold Yg;rw[Qhh hno];exact⟨rfl,rfl⟩
end Go.Av
end
section
namespace Go.Av
open Go.Proofs
theorem Bn.sub {m m':Ac} (h:∀b x,m' b=some x→m b=some x∧∀v∈x.l,v.cells.all AV.one=true):Bn m m':=by
 refine⟨fun c y hy=>⟨y,(h c y hy).1,rfl,rfl,rfl,fun k v v' q1 q2=>?_⟩⟩;rw[q1]at q2;cases q2;exact⟨.same _,(h c y hy).2 v (List.mem_of_getElem? q1)⟩
theorem Bn.drop {m:Ac} {b:Nat} {x:Fi} (hb:m b=none) (h1:∀c y,m c=some y→∀v∈y.l,v.cells.all AV.one=true):Bn (m.set b x) m :=
 Bn.sub fun c y hy=>⟨by
  simp only[A9];rw[if_neg (by rintro rfl;rw[hb]at hy;cases hy)];exact hy,h1 c y hy⟩
theorem H5 {M:Ac} {b z:Nat} {e:TypeId} {cs:List AV} (hb:M b=none):B2 (M.set b ⟨e,z,[.agg cs]⟩) M (.ptr b z 0 0) (.rptr cs) :=
 B2.ptr b z 0 0 ⟨e,z,[.agg cs]⟩ (.agg cs) (Ac.set_same _ _ _) hb rfl rfl
section
variable {av:Nat→Prop} {m:Ac} {k:AV→Ac→Prop} {c:Nat} {x:AV} {e:Int} {a b:RR}
theorem Qmb (hc:m c=some ⟨118,1,[x]⟩) (hv:¬av c) (hx:G6 x e) (ha:a.Lb) (hb:b.Lb) (h:e=0→a.ok=true∧b.ok=true) (hk:∀x',G6 x' (Dn e a (Db a.q b.q)).1→k (Dn e a (Db a.q b.q)).2.av (m.set c ⟨118,1,[x']⟩)):Aa Tryz.prog av 146 [.ptr c 1 0 0,a.av,b.av] m k :=
 Aa.grant (R:=fun v y=>v=(Dn e a (Db a.q b.q)).2.av∧∃x',G6 x' (Dn e a (Db a.q b.q)).1∧y=⟨118,1,[x']⟩) c _ hc hv ((Qhe c x e hx a b ha hb h).mono fun v m ⟨h1,x',h2,h3⟩=>⟨_,⟨h1,x',h2,rfl⟩,h3⟩) (by rintro _ _ ⟨rfl,x',hx',rfl⟩;exact hk x' hx')
theorem Qsc (hc:m c=some ⟨118,1,[x]⟩) (hv:¬av c) (hx:G6 x e) (ha:a.Lb) (hb:b.Lb) (h:e=0→a.ok=true∧b.ok=true) (hk:∀x',G6 x' (Dn e a (Ea a.q b.q)).1→k (Dn e a (Ea a.q b.q)).2.av (m.set c ⟨118,1,[x']⟩)):Aa Tryz.prog av 111 [.ptr c 1 0 0,a.av,b.av] m k :=
 Aa.grant (R:=fun v y=>v=(Dn e a (Ea a.q b.q)).2.av∧∃x',G6 x' (Dn e a (Ea a.q b.q)).1∧y=⟨118,1,[x']⟩) c _ hc hv ((Qio c x e hx a b ha hb h).mono fun v m ⟨h1,x',h2,h3⟩=>⟨_,⟨h1,x',h2,rfl⟩,h3⟩) (by rintro _ _ ⟨rfl,x',hx',rfl⟩;exact hk x' hx')
theorem Qt7 (hc:m c=some ⟨118,1,[x]⟩) (hv:¬av c) (hx:G6 x e) (ha:a.Lb) (hb:b.Lb) (h:e=0→a.ok=true∧b.ok=true∧b.q≠0) (hk:∀x',G6 x' (Dn e a (Fo a.q b.q)).1→k (Dn e a (Fo a.q b.q)).2.av (m.set c ⟨118,1,[x']⟩)):Aa Tryz.prog av 145 [.ptr c 1 0 0,a.av,b.av] m k :=
 Aa.grant (R:=fun v y=>v=(Dn e a (Fo a.q b.q)).2.av∧∃x',G6 x' (Dn e a (Fo a.q b.q)).1∧y=⟨118,1,[x']⟩) c _ hc hv ((Qip c x e hx a b ha hb h).mono fun v m ⟨h1,x',h2,h3⟩=>⟨_,⟨h1,x',h2,rfl⟩,h3⟩) (by rintro _ _ ⟨rfl,x',hx',rfl⟩;exact hk x' hx')
end
theorem Y9 {e:Int} {rows:List (List RR)} {Z:Option (List (List Rat))} (h:Wh e rows Z) (he:e=0) {i j:Nat} (hj:j<(Al rows i).length):(rr (Al rows i) j).ok=true:=by
 cases Z with
 |none=>have:e=2:=h;omega
 |some M =>
  obtain⟨_,m2,m3⟩:e=0∧rows=Cj M∧Eg M:=h;subst m2;rw[Cs,List.length_map]at hj;rw[Cs,K4 hj];exact Ef (m3.at hj)
theorem Mr {e:Int} {a:RR} {q:Option Rat} (h:e≠0):Dn e a q=(e,a):=if_neg h
theorem Qf7 {e:Int} {a:RR} {q:Option Rat} (h:e=0):match q with | some z=>(Dn e a q).1=0∧(Dn e a q).2=A3 z | none=>(Dn e a q).1=2:=by
 unfold Dn;rw[if_pos h];cases q with
 |none=>rfl
 |some z=>exact⟨rfl,rfl⟩
theorem Qv {e:Int} {a:RR} (h:e=0):Dn e a none=(2,Wf):=if_pos h
theorem Me {e:Int} {a:RR} {z:Rat} (h:e=0):Dn e a (some z)=(0,A3 z):=if_pos h
def Ar (l:List Nat):List AV:=l.map fun p=>.int .i64 (p:Nat)
@[simp] theorem Lr (l:List Nat):(Ar l).length=l.length:=by simp[Ar]
theorem C3 (l:List Nat):∀v∈Ar l,v.cells.all AV.one=true:=by
 intro v hv;obtain⟨p,_,rfl⟩:=List.mem_map.1 hv;rfl
theorem Em (l:List Nat) (p:Nat):Ar (l++[p])=Ar l++[.int .i64 (p:Nat)]:=by simp[Ar]
def Yy (M:Ac) (pv:AV) (pb ps:List Nat):Prop :=
 (ps=[]∧pb=[]∧pv=.nil)∨∃b,pb=[b]∧pv=.osl b 1 0 ps.length∧M b=some ⟨3,1,Ar ps⟩
theorem Yy.keep {M M':Ac} {pv:AV} {pb ps:List Nat} (h:Yy M pv pb ps) (hm:∀b∈pb,M' b=M b):Yy M' pv pb ps:=by
 rcases h with h|⟨b,h1,h2,h3⟩
 ·exact .inl h
 ·exact .inr ⟨b,h1,h2,by rw[hm b (by simp[h1])];exact h3⟩
theorem Yy.len {M:Ac} {pv:AV} {pb ps:List Nat} (h:Yy M pv pb ps) (size bytes:Nat) (e:TypeId) (zero:AV) (fs:List (Nat × Nat × Option Bool)):K9 ⟨size,bytes,.slice e,zero,fs⟩ pv=some (.int .i64 ps.length):=by
 rcases h with⟨rfl,_,rfl⟩|⟨b,_,rfl,_⟩
 ·simp
 ·simp
theorem Yy.view {M:Ac} {pv:AV} {pb ps:List Nat} (h:Yy M pv pb ps):B2 M Ac.emp pv (.sl 1 (Ar ps)):=by
 rcases h with⟨rfl,_,rfl⟩|⟨b,_,rfl,h⟩
 ·exact .nilsl 1
 ·refine .osl b 1 0 ps.length _ _ h rfl rfl (by simp) (by simp) fun j u u' g1 g2=>?_;simp only[Nat.zero_add]at g1;rw[g1]at g2;cases g2;exact .same _
structure D5 (M:Ac) (c B:Nat) (bs:List Nat) (rows:List (List RR)) (x pv:AV) (pb ps:List Nat):Prop where
 mat:Eu M B bs rows
 cell:M c=some ⟨118,1,[x]⟩
 piv:Yy M pv pb ps
 only:Dz M (c::B::(bs++pb))
 cB:c≠B
 cb:c ∉ bs
 pB:B ∉ pb
 pc:c ∉ pb
 pd:∀b∈pb,b ∉ bs
section
variable {M:Ac} {c B:Nat} {bs:List Nat} {rows:List (List RR)} {x pv:AV} {pb ps:List Nat}
theorem Qf5 {x:AV} {e:Int} (h:G6 x e):x.cells.all AV.one=true:=by unfold G6 at h;rw[h];rfl
theorem D5.nc (h:D5 M c B bs rows x pv pb ps) {i:Nat} (hi:i<rows.length):nb bs i≠c:=fun e=>h.cb (e ▸ Fm (by rw[h.mat.len];exact hi))
theorem D5.np (h:D5 M c B bs rows x pv pb ps) {i:Nat} (hi:i<rows.length):nb bs i ∉ pb:=fun e=>h.pd _ e (Fm (by rw[h.mat.len];exact hi))
theorem D5.setE (h:D5 M c B bs rows x pv pb ps) (x':AV):D5 (M.set c ⟨118,1,[x']⟩) c B bs rows x' pv pb ps :=
 ⟨h.mat.other h.cB h.cb _,by simp,h.piv.keep fun b hb=>by simp only[A9];rw[if_neg (by rintro rfl;exact h.pc hb)],h.only.set (by simp) _,h.cB,h.cb,h.pB,h.pc,h.pd⟩
theorem D5.setRow (h:D5 M c B bs rows x pv pb ps) {i:Nat} (hi:i<rows.length) (r:List RR) (hr:r.length=(Al rows i).length):D5 (M.set (nb bs i) ⟨44,4,B5 r⟩) c B bs (rows.set i r) x pv pb ps :=
 ⟨h.mat.setRow hi r hr,by simp only[A9];rw[if_neg (Ne.symm (h.nc hi))];exact h.cell,h.piv.keep fun b hb=>by simp only[A9];rw[if_neg (by rintro rfl;exact h.np hi hb)],
  h.only.set (by simp[Fm (show i<bs.length by rw[h.mat.len];exact hi)]) _,h.cB,h.cb,h.pB,h.pc,h.pd⟩
theorem D5.ones (h:D5 M c B bs rows x pv pb ps) {e:Int} (hx:G6 x e):∀(b:Nat) (y:Fi),M b=some y→∀v∈y.l,v.cells.all AV.one=true:=by
 refine h.mat.ones (l:=c::pb) (h.only.sub fun b hb=>by simp at hb ⊢;rcases hb with h | h | h | h<;>simp[h]) fun b hb y hy=>?_
 rcases List.mem_cons.1 hb with rfl|hb
 ·rw[h.cell]at hy;cases hy;intro v hv;simp at hv;subst hv;exact Qf5 hx
 ·rcases h.piv with⟨_,h1,_⟩|⟨b',h1,_,h3⟩
  ·rw[h1]at hb;cases hb
  ·rw[h1]at hb;simp at hb;subst hb;rw[h3]at hy;cases hy;exact C3 ps
theorem D5.back (h:D5 M c B bs rows x pv pb ps) {g:Ac} {bs':List Nat} {rows':List (List RR)} (hg:Eu g B bs' rows') (ho:Dz g (B::bs)) (hb:∀b,b∈bs'↔b∈bs):D5 (M.back (B::bs) g) c B bs' rows' x pv pb ps:=by
 have hout:∀b,b ∉ B::bs→(M.back (B::bs) g) b=M b:=fun b hb=>Iu (ho.none hb) hb;refine⟨hg.back _,by rw[hout c (by simp[h.cB,h.cb])];exact h.cell,h.piv.keep fun b hb'=>hout b ?_,fun b hb'=>?_,h.cB,fun hh=>h.cb ((hb _).1 hh),h.pB,h.pc,fun b h1 h2=>h.pd b h1 ((hb _).1 h2)⟩
 ·simp only[List.mem_cons,not_or];exact⟨by rintro rfl;exact h.pB hb',h.pd b hb'⟩
 ·by_cases hm:b∈B::bs
  ·simp only[List.mem_cons,List.mem_append,hb]at hm ⊢;rcases hm with h | h<;>simp[h]
  ·rw[hout b hm]at hb';have:=h.only b hb';simp only[List.mem_cons,List.mem_append,hb]at this ⊢;exact this
theorem D5.matOnly (h:D5 M c B bs rows x pv pb ps):Eu (M.only (B::bs)) B bs rows∧Dz (M.only (B::bs)) (B::bs) :=
 ⟨h.mat.only fun b hb=>by simpa using hb,Qej _ _⟩
theorem D5.fresh (h:D5 M c B bs rows x pv pb ps) {b:Nat} (hb:M b=none):b≠c∧b≠B∧b ∉ bs∧b ∉ pb:=by
 refine⟨(by rintro rfl;rw[h.cell]at hb;cases hb),(by rintro rfl;rw[h.mat.top]at hb;cases hb),fun hm=>?_,fun hm=>?_⟩
 ·obtain⟨i,hi,e⟩:=List.mem_iff_getElem.1 hm;rw[←J7 hi]at e;have:=h.mat.row i (by rw[←h.mat.len];exact hi);rw[e,hb]at this;cases this
 ·rcases h.piv with⟨_,h1,_⟩|⟨b',h1,_,h3⟩
  ·rw[h1]at hm;cases hm
  ·rw[h1]at hm;simp at hm;subst hm;rw[h3]at hb;cases hb
theorem D5.push0 (h:D5 M c B bs rows x .nil [] []) {b:Nat} (hb:M b=none) (j:Nat):D5 (M.set b ⟨3,1,[.int .i64 (j:Nat)]⟩) c B bs rows x (.osl b 1 0 1) [b] [j]:=by
 obtain⟨f1,f2,f3,_⟩:=h.fresh hb;refine⟨h.mat.other f2 f3 _,by simp only[A9];rw[if_neg (Ne.symm f1)];exact h.cell,.inr ⟨b,rfl,rfl,by simp[Ar]⟩,?_,h.cB,h.cb,by simpa using Ne.symm f2,by simpa using Ne.symm f1,by simpa using f3⟩;exact(h.only.sub fun a ha=>by simp at ha ⊢;rcases ha with h | h | h<;>simp[h]).set (by simp) _
theorem D5.push1 {b0:Nat} (h:D5 M c B bs rows x (.osl b0 1 0 ps.length) [b0] ps) {b:Nat} (hb:(M.del b0) b=none) (j:Nat):D5 ((M.del b0).set b ⟨3,1,Ar ps++[.int .i64 (j:Nat)]⟩) c B bs rows x (.osl b 1 0 (ps.length+1)) [b] (ps++[j]):=by
 have hB:B≠b0:=by have:=h.pB;simpa using this
 have hc:c≠b0:=by have:=h.pc;simpa using this
 have hd:b0 ∉ bs:=h.pd b0 (by simp);have hh:D5 (M.del b0) c B bs rows x .nil [] []:=by
  have hdel:∀a,a≠b0→(M.del b0) a=M a:=fun a ha=>if_neg ha;refine⟨⟨by rw[hdel B hB];exact h.mat.top,h.mat.len,fun i hi=>?_,h.mat.nd,h.mat.nB⟩,by rw[hdel c hc];exact h.cell,.inl ⟨rfl,rfl,rfl⟩,fun a ha=>?_,h.cB,h.cb,by simp,by simp,by simp⟩
  ·rw[hdel _ (fun e=>hd (e ▸ Fm (by rw[h.mat.len];exact hi)))];exact h.mat.row i hi
  ·have h1:a≠b0:=by
    rintro rfl;exact ha (if_pos rfl)
   rw[hdel a h1]at ha;have:=h.only a ha;simp at this ⊢;rcases this with h | h | h | h
   ·exact .inl h
   ·exact .inr (.inl h)
   ·exact .inr (.inr h)
   ·exact absurd h h1
 obtain⟨f1,f2,f3,_⟩:=hh.fresh hb;refine⟨hh.mat.other f2 f3 _,by simp only[A9];rw[if_neg (Ne.symm f1)];exact hh.cell,.inr ⟨b,rfl,by simp,by simp[Em]⟩,?_,h.cB,h.cb,by simpa using Ne.symm f2,by simpa using Ne.symm f1,by simpa using f3⟩;exact(hh.only.sub fun a ha=>by simp at ha ⊢;rcases ha with h | h | h<;>simp[h]).set (by simp) _
end
end Go.Av
end
section
namespace Go.Av
open Go.Proofs
theorem Qg2 (M:Ac) (l:List Nat):M.back l (M.only l)=M:=by
 funext b
 by_cases hb:b∈l
 ·rw[Qfm hb,B8 hb]
 ·rw[Iu (B1 hb) hb]
def Qjg (c B:Nat) (X0:List (List Rat)) (v:AV) (M':Ac):Prop :=
 ∃x',M' c=some ⟨118,1,[x']⟩∧(∀b y,M' b=some y→∀v∈y.l,v.cells.all AV.one=true)∧match Er X0 with
 |none=>G6 x' 2
 |some z=>G6 x' 0∧∃bs' pb,D5 M' c B bs' (Cj z.1) x' v pb z.2
structure Quc where
 X:List (List Rat)
 ps:List Nat
 M:Ac
 bs:List Nat
 pv:AV
 pb:List Nat
 x:AV
structure X7 where
 M:Ac
 rows:List (List RR)
 x:AV
 e:Int
def Qy7 (X0:List (List Rat)) (c B w j:Nat) (s:Quc):Prop :=
 A8 Ch j (X0,[])=some (s.X,s.ps)∧Eg s.X∧Lf s.X w∧s.X.length=X0.length∧s.ps.length≤j∧D5 s.M c B s.bs (Cj s.X) s.x s.pv s.pb s.ps∧G6 s.x 0
def Le (c B:Nat) (bs:List Nat) (pv:AV) (pb ps:List Nat) (w n:Nat) (Z:Option (List (List Rat))) (s:X7):Prop :=
 D5 s.M c B bs s.rows s.x pv pb ps∧G6 s.x s.e∧LbM s.rows∧Lf s.rows w∧s.rows.length=n∧Wh s.e s.rows Z
theorem Le.row {op:Rat→Nat→Option Rat} (hop:∀q k x,op q k=some x→Cd x) {c B:Nat} {bs:List Nat} {pv:AV} {pb ps:List Nat} {w n:Nat} {Z0:Option (List (List Rat))} {s:X7} (h:Le c B bs pv pb ps w n Z0 s) {i k:Nat} (hi:i<n) (hk:k<w)
  {Z:Option (List (List Rat) × List Rat)} (hZ:Z0=Z.map fun z=>z.1.set i z.2) {e':Int} {y:RR} {x':AV} (hx:G6 x' e') (hy:y.Lb) (h1:s.e≠0→e'=s.e) (h2:s.e=0→match op (rr (Al s.rows i) k).q k with | some z=>e'=0∧y=A3 z | none=>e'=2) :
  Le c B bs pv pb ps w n (Z.bind fun z=>(Fu op k z.2).map fun row=>z.1.set i row) ⟨(s.M.set c ⟨118,1,[x']⟩).set (nb bs i) ⟨44,4,B5 ((Al s.rows i).set k y)⟩,s.rows.set i ((Al s.rows i).set k y),x',e'⟩:=by
 obtain⟨g1,g2,g3,g4,g5,g6⟩:=h;exact⟨(g1.setE x').setRow (by omega) _ (by simp),hx,g3.set i (Qs2 (g3.row i) k hy),g4.set (by rw[List.length_set];exact g4 i (by omega)),by simp[g5],Qj5 hop g5 hi g4 hk hZ g6 h1 h2⟩
theorem Wh.mono {e:Int} {rows:List (List RR)} {Z Z':Option (List (List Rat))} (h:Wh e rows Z) (hZ:Z'=Z):Wh e rows Z':=hZ ▸ h
theorem Le.to {c B:Nat} {bs:List Nat} {pv:AV} {pb ps:List Nat} {w n:Nat} {Z Z':Option (List (List Rat))} {s:X7} (h:Le c B bs pv pb ps w n Z s) (hZ:Z'=Z):Le c B bs pv pb ps w n Z' s:=hZ ▸ h
theorem Ql7 {e:Int} {a b f:RR} {bq fq:Rat} (hb:e=0→b.q=bq∧f.q=fq) {e1:Int} {p:RR} (hp:Dn e b (Ea b.q f.q)=(e1,p)) :
  (e≠0→(Dn e1 a (Db a.q p.q)).1=e)∧(e=0→match La a.q fq bq with | some z=>(Dn e1 a (Db a.q p.q)).1=0∧(Dn e1 a (Db a.q p.q)).2=A3 z | none=>(Dn e1 a (Db a.q p.q)).1=2):=by
 constructor
 ·intro he;rw[Mr he]at hp;cases hp;rw[Mr he]
 ·intro he;obtain⟨h1,h2⟩:=hb he;unfold La;rw[h1,h2]at hp;cases hm:Ea bq fq with
  |none =>
   rw[hm,Qv he]at hp;cases hp;show(Dn 2 a _).1=2
   rw[Mr (by omega)]
  |some m =>
   rw[hm,Me he]at hp;cases hp;rw[Hg];exact Qf7 rfl
theorem Qm7 {e:Int} {b f:RR} (hg:∀z,Ea b.q f.q=some z→Cd z) {e1:Int} {p:RR} (hp:Dn e b (Ea b.q f.q)=(e1,p)) (h1:e1=0):e=0∧p.ok=true:=by
 by_cases he:e=0
 ·refine⟨he,?_⟩;cases hm:Ea b.q f.q with
  |none=>rw[hm,Qv he]at hp;cases hp;omega
  |some m =>
   rw[hm,Me he]at hp;cases hp;exact Ef (hg m hm)
 ·rw[Mr he]at hp;cases hp;exact absurd h1 he
theorem Xb {a f b c:Rat} (h:La a f b=some c):Cd c:=by
 unfold La at h;cases hm:Ea b f with
 |none=>rw[hm]at h;cases h
 |some m=>rw[hm]at h;exact Ps h
theorem Qu {M:List (List Rat)} {j r i:Nat} (h:Sk M j r=some i):i<M.length∧r≤i∧A5 M i j≠0:=by
 obtain⟨h1,h2,_⟩:=Oh h;simp at h2;exact⟨h1,h2.1,h2.2⟩
theorem Yt (M0:Ac) (c B:Nat) (bs0:List Nat) (X0:List (List Rat)) (x0:AV) (w:Nat) (hR0:D5 M0 c B bs0 (Cj X0) x0 .nil [] []) (hx0:G6 x0 0) (hg0:Eg X0) (hd0:Lf X0 w) (hw:w=(Al X0 0).length) (hn:X0.length<2^40) (hw2:w<2^40) :
  Aj Tryz.prog 101 [.ptr c 1 0 0,.osl B 1 0 X0.length] M0 (Qjg c B X0):=by
 have hwid:=Vb (Cj X0);have e0:(Al (Cj X0) 0).length=w:=by rw[Cs,List.length_map,hw]
 have hv0:=hR0.mat.view;rw[Bm]at hv0;rw[e0]at hwid;have hq:Er X0=A8 Ch w (X0,[]):=by unfold Er;rw[hw]
 generalize hN:X0.length=n at *;refine Ad Tryz.func101 rfl rfl 129 rfl (Nat.le_of_ble_eq_true rfl) ?_;(repeat refine AW.seq_k fun K hK=>?_);refine AW.rg ?_;simp[Ak];try (refine hK _ rfl ?_;clear hK K)
 refine AW.scope ?_;(repeat refine AW.seq_k fun K hK=>?_);refine AW.rg ?_;simp;try (refine hK _ rfl ?_;clear hK K)
 refine AW.seq (AW.label ?_);intro _;refine AW.seq_ex (ι:=Ac × AV) (fun z=>[(5,z.2)]) (fun z=>z.1) (fun z=>Qjg c B X0 z.2 z.1) ?_ ?_
 ·(repeat refine AW.seq_k fun K hK=>?_);refine AW.rg ?_;simp;try (refine hK _ rfl ?_;clear hK K)
  refine Aa.borrow [Bc (Cj X0)] (by simpa using hv0) hwid ?_;rintro _ rfl;refine⟨rfl,?_⟩;simp;refine hK _ rfl ?_;clear hK K;refine AW.block (AW.loopS (ι:=Nat × Quc) (fun z=>[(0,.ptr c 1 0 0),(1,.osl B 1 0 n),(5,z.2.pv),(16,.int .i64 w),(17,.int .i64 (z.1:Nat))]) (fun z=>z.2.M) (fun z=>z.1≤w∧Qy7 X0 c B w z.1 z.2) (fun z=>w-z.1) (0,⟨X0,[],M0,bs0,.nil,[],x0⟩) ⟨by simp,rfl,hg0,hd0,rfl,by simp,hR0,hx0⟩ rfl (by simp) ?_);rintro⟨j,X,ps,M,bs,pv,pb,x⟩ ⟨hjw,i1,i2,i3,i4,i5,i6,i7⟩;simp only at hjw i1 i2 i3 i4 i5 i6 i7;rw[hN]at i4;simp only
  (repeat refine AW.seq_k fun K hK=>?_);refine AW.rg ?_;simp;try (refine hK _ rfl ?_;clear hK K)
  (repeat refine AW.seq ?_);refine AW.cs (fun hj=>?_) (fun hj=>?_) rfl<;>(try simp at hj)
  ·refine AW.skip ?_;try simp
   have w1:=Ap (j+1) (by omega);have hlen:=i6.piv.len;refine AW.seq_ex (ι:=Quc) (fun s=>[(0,.ptr c 1 0 0),(1,.osl B 1 0 n),(5,s.pv),(16,.int .i64 w),(17,.int .i64 (j:Nat))]) (fun s=>s.M) (fun s=>Qy7 X0 c B w (j+1) s) ?_ ?_
   ·(repeat refine AW.seq ?_);refine AW.block ?_;(repeat refine AW.seq_k fun K hK=>?_);refine AW.rg ?_;simp;try (refine hK _ rfl ?_;clear hK K)
    (repeat refine AW.seq_k fun K hK=>?_);refine AW.rg ?_;simp[hlen];try (refine hK _ rfl ?_;clear hK K)
    have hp:=Qec _ B bs (Cj X) i6.matOnly.1 i6.matOnly.2 (Ts X) w j ps.length (Qfw i3) hj (by rw[Bm];omega) hw2 (by omega);rw[Bm,i4]at hp;(repeat refine AW.seq_k fun K hK=>?_);refine AW.rg ?_;simp;try (refine hK _ rfl ?_;clear hK K)
    refine Aa.hand (B::bs) (by simp) hp ?_;intro v g hv _;unfold Yg at hv;rw[Qkm i2 i3 hj]at hv;have hcol:A8 Ch (j+1) (X0,[])=Ch j (X,ps):=by rw[C5,i1];rfl
    cases hpq:Sk X j ps.length with
    |none =>
     rw[hpq]at hv;obtain⟨rfl,rfl⟩:=hv;rw[Qg2];simp;refine hK _ rfl ?_;clear hK K;(repeat refine AW.seq_k fun K hK=>?_);refine AW.rg ?_;simp;try (refine hK _ rfl ?_;clear hK K)
     refine AW.yes ?_ rfl;refine AW.exit ?_;try simp
     refine⟨⟨X,ps,M,bs,pv,pb,x⟩,⟨?_,i2,i3,by rw[hN];exact i4,by show ps.length≤j+1;omega,i6,i7⟩,by simp⟩;rw[hcol];unfold Ch;simp only[hpq]
    |some i =>
     rw[hpq]at hv;obtain⟨rfl,hg1,hg2⟩:=hv;obtain⟨p1,p2,p3⟩:=Qu hpq;rw[i4]at p1;have hr:ps.length<n:=by omega
     have hR1:=i6.back hg1 hg2 (fun b=>Mp (bs:=bs) (i:=i) (r:=ps.length) (by rw[i6.mat.len,Bm,i4];exact p1) (by rw[i6.mat.len,Bm,i4];exact hr) b);rw[←Qcd]at hR1;have hcol:A8 Ch (j+1) (X0,[])=(Gk (Ca X i ps.length) j ps.length).map fun M=>(M,ps++[j]):=by rw[hcol];unfold Ch;simp only[hpq]
     have hX1:Eg (Ca X i ps.length):=i2.swap _ _;have hd1:Lf (Ca X i ps.length) w:=i3.swap (by omega) (by omega);have hn1:(Ca X i ps.length).length=n:=by rw[Kp,i4]
     have hdq:A5 (Ca X i ps.length) ps.length j≠0:=by
      unfold A5;rw[J6 (by omega) (by omega),if_pos rfl];exact p3
     generalize Ca X i ps.length=X1 at *;generalize M.back (B::bs) g=M1 at *;generalize F8 bs i ps.length=bs1 at *;generalize decide (i≠ps.length)=sw;simp;refine hK _ rfl ?_;clear hK K;(repeat refine AW.seq_k fun K hK=>?_);refine AW.rg ?_;simp;try (refine hK _ rfl ?_;clear hK K)
     refine AW.no ?_ rfl;refine AW.skip ?_;try simp
     refine hK _ rfl ?_;clear hK K;have hrl:(Al (Cj X1) ps.length).length=w:=by rw[Cs,List.length_map];exact hd1 _ (by omega)
     have hre:ps.length<(Cj X1).length:=by rw[Bm,hn1];exact hr
     have hde:rr (Al (Cj X1) ps.length) j=A3 (A5 X1 ps.length j):=by rw[Cs,K4 (by rw[hd1 _ (by omega)];exact hj)];rfl
     have hd0:Cd (A5 X1 ps.length j):=hX1.at (by rw[hd1 _ (by omega)];exact hj);(repeat refine AW.seq_k fun K hK=>?_);refine AW.rg ?_;simp[hr,hR1.mat.top,↓hR1.mat.get hre,hR1.mat.row ps.length hre,hrl,hj];try (refine hK _ rfl ?_;clear hK K)
     refine Af.intro fun b10 hb10=>?_;refine hK _ rfl ?_;clear hK K;have hdlb:(rr (Al (Cj X1) ps.length) j).Lb:=Nb ((Ts X1).row _) j;generalize hrr:ps.length=r at *;generalize hdr:rr (Al (Cj X1) r) j=dr at *;refine AW.turn [(0,.ptr c 1 0 0),(1,.osl B 1 0 n),(5,pv),(16,.int .i64 w),(17,.int .i64 (j:Nat)),(6,.int .i64 (j:Nat)),(7,.int .i64 r),(10,.rptr [.bool dr.n1,Am dr.l1,.bool dr.n2,Am dr.l2])] M1 (Bn.drop hb10 (hR1.ones i7)) ?_ ?_
     ·simp[H5 hb10]
     generalize hrow0:Al X1 r=row0 at *;generalize hd:A5 X1 r j=d at *;refine AW.seq_ex (ι:=X7) (fun s=>[(0,.ptr c 1 0 0),(1,.osl B 1 0 n),(5,pv),(16,.int .i64 w),(17,.int .i64 (j:Nat)),(6,.int .i64 (j:Nat)),(7,.int .i64 r),(10,.rptr [.bool dr.n1,Am dr.l1,.bool dr.n2,Am dr.l2])]) (fun s=>s.M) (fun s=>Le c B bs1 pv pb ps w n ((A8 (Ct d) w row0).map fun row=>X1.set r row) s) ?_ ?_
     ·(repeat refine AW.seq_k fun K hK=>?_);refine AW.rg ?_;simp[hr,hR1.mat.top,↓hR1.mat.get hre,hrl];try (refine hK _ rfl ?_;clear hK K)
      refine AW.block (AW.loopS (ι:=Nat × X7) (fun z=>[(0,.ptr c 1 0 0),(1,.osl B 1 0 n),(5,pv),(16,.int .i64 w),(17,.int .i64 (j:Nat)),(6,.int .i64 (j:Nat)),(7,.int .i64 r),(10,.rptr [.bool dr.n1,Am dr.l1,.bool dr.n2,Am dr.l2]),(42,.int .i64 w),(43,.int .i64 (z.1:Nat))]) (fun z=>z.2.M) (fun z=>z.1≤w∧Le c B bs1 pv pb ps w n ((A8 (Ct d) z.1 row0).map fun row=>X1.set r row) z.2) (fun z=>w-z.1) (0,⟨M1,Cj X1,x,0⟩) ⟨by simp,hR1,i7,Ts X1,Qfw hd1,by rw[Bm,hn1],?_⟩ rfl (by simp) ?_)
      ·show Wh 0 (Cj X1) (some (X1.set r row0))
       rw[←hrow0,Gj (by omega),List.set_getElem_self];exact⟨rfl,rfl,hX1⟩
      rintro⟨k,M,rows,x,e⟩ ⟨g1,g2,g3,g4,g5,g6,g7⟩;simp only at g1 g2 g3 g4 g5 g6 g7;(repeat refine AW.seq_k fun K hK=>?_);refine AW.rg ?_;simp;try (refine hK _ rfl ?_;clear hK K)
      (repeat refine AW.seq ?_);refine AW.cs (fun hk=>?_) (fun hk=>?_) rfl<;>(try simp at hk)
      ·refine AW.skip ?_;try simp
       (repeat refine AW.seq ?_);refine AW.block ?_;(repeat refine AW.seq_k fun K hK=>?_);refine AW.rg ?_;simp;try (refine hK _ rfl ?_;clear hK K)
       have hrr':r<rows.length:=by omega
       have hlr:=g5 r hrr';(repeat refine AW.seq_k fun K hK=>?_);refine AW.rdT [] [10] [] [B,nb bs1 r] [0,1,2,3,4,5,6,7,8,9,10,11,12,13,14,15,16] Ds (by simp[hr,hk,g2.mat.top,↓g2.mat.get hrr',g2.mat.row r hrr',hlr]) (by simp[hr,hk,g2.mat.top,↓g2.mat.get hrr',g2.mat.row r hrr',hlr]) (by simp[hr,hk,g2.mat.top,↓g2.mat.get hrr',g2.mat.row r hrr',hlr]) (by simp[hr,hk,g2.mat.top,↓g2.mat.get hrr',g2.mat.row r hrr',hlr]) (by simp[hr,hk,g2.mat.top,↓g2.mat.get hrr',g2.mat.row r hrr',hlr]) ?_;simp[hr,hk,g2.mat.top,↓g2.mat.get hrr',g2.mat.row r hrr',hlr]
       try (refine hK _ rfl ?_;clear hK K)
       have nB:=Ne.symm g2.cB;have nR:=g2.nc hrr';have n0:=g2.mat.ne hrr';refine Qt7 (a:=rr (Al rows r) k) (b:=dr) g2.cell (by simp[nB,Ne.symm nR,g2.cB]) g3 (Nb (g4.row r) k) hdlb (fun he=>⟨Y9 g7 he (by rw[hlr];exact hk),by rw[hde];exact Ef hd0,by rw[hde,Hg];exact hdq⟩) ?_;intro x' hx';simp[hr,hk,nR,n0,g2.mat.row r hrr',hlr];have w2:=Ap (k+1) (by omega);(repeat refine AW.seq_k fun K hK=>?_);refine AW.rg ?_;simp[-Int.natCast_add,w2];try (refine hK _ rfl ?_;clear hK K)
       have hs:=Le.row (op:=fun q _=>Fo q d) (y:=(Dn e (rr (Al rows r) k) (Fo (rr (Al rows r) k).q dr.q)).2) (fun q k x hx=>Pc hdq hx) (s:=⟨M,rows,x,e⟩) ⟨g2,g3,g4,g5,g6,g7⟩ hr hk (Z:=(A8 (Ct d) k row0).map fun row=>(X1,row)) (by cases A8 (Ct d) k row0<;>rfl) hx' (Zb (Nb (g4.row r) k)) (fun he=>by rw[Mr he]) (fun he=>by
        have:=Qf7 (a:=rr (Al rows r) k) (q:=Fo (rr (Al rows r) k).q dr.q) he;rw[hde,Hg]at this ⊢;exact this)
       exact⟨k+1,_,⟨hk,hs.to (by rw[C5];cases A8 (Ct d) k row0<;>rfl)⟩,by omega,rfl,rfl⟩
      ·refine AW.exit ?_;try simp
       have:k=w:=by omega
       subst this;exact⟨⟨M,rows,x,e⟩,⟨g2,g3,g4,g5,g6,g7⟩,rfl⟩
     rintro⟨M2,rows2,x2,e2⟩ hs2;simp only;refine AW.seq_ex (ι:=X7) (fun s=>[(0,.ptr c 1 0 0),(1,.osl B 1 0 n),(5,pv),(16,.int .i64 w),(17,.int .i64 (j:Nat)),(6,.int .i64 (j:Nat)),(7,.int .i64 r),(10,.rptr [.bool dr.n1,Am dr.l1,.bool dr.n2,Am dr.l2])]) (fun s=>s.M) (fun s=>Le c B bs1 pv pb ps w n ((A8 (Ct d) w row0).bind fun row=>A8 (Bt r j) n (X1.set r row)) s) ?_ ?_
     ·(repeat refine AW.seq_k fun K hK=>?_);refine AW.rg ?_;simp;try (refine hK _ rfl ?_;clear hK K)
      refine AW.block (AW.loopS (ι:=Nat × X7) (fun z=>[(0,.ptr c 1 0 0),(1,.osl B 1 0 n),(5,pv),(16,.int .i64 w),(17,.int .i64 (j:Nat)),(6,.int .i64 (j:Nat)),(7,.int .i64 r),(10,.rptr [.bool dr.n1,Am dr.l1,.bool dr.n2,Am dr.l2]),(64,.int .i64 n),(65,.int .i64 (z.1:Nat))]) (fun z=>z.2.M) (fun z=>z.1≤n∧Le c B bs1 pv pb ps w n ((A8 (Ct d) w row0).bind fun row=>A8 (Bt r j) z.1 (X1.set r row)) z.2) (fun z=>n-z.1) (0,⟨M2,rows2,x2,e2⟩) ⟨by simp,hs2.to (by cases A8 (Ct d) w row0<;>rfl)⟩ rfl (by simp) ?_)
      rintro⟨i,M,rows,x,e⟩ ⟨g1,g2,g3,g4,g5,g6,g7⟩;simp only at g1 g2 g3 g4 g5 g6 g7;generalize hZ:((A8 (Ct d) w row0).bind fun row=>A8 (Bt r j) i (X1.set r row))=Z at g7;have hZ1:((A8 (Ct d) w row0).bind fun row=>A8 (Bt r j) (i+1) (X1.set r row))=Z.bind (Bt r j i):=by
       rw[←hZ];cases A8 (Ct d) w row0<;>rfl
      (repeat refine AW.seq_k fun K hK=>?_);refine AW.rg ?_;simp;try (refine hK _ rfl ?_;clear hK K)
      (repeat refine AW.seq ?_);refine AW.cs (fun hi=>?_) (fun hi=>?_) rfl<;>(try simp at hi)
      ·refine AW.skip ?_;try simp
       have hi':i<rows.length:=by omega
       have hr':r<rows.length:=by omega
       have hli:=g5 i hi';have hlr:=g5 r hr';have w3:=Ap (i+1) (by omega);refine AW.seq_ex (ι:=X7) (fun s=>[(0,.ptr c 1 0 0),(1,.osl B 1 0 n),(5,pv),(16,.int .i64 w),(17,.int .i64 (j:Nat)),(6,.int .i64 (j:Nat)),(7,.int .i64 r),(10,.rptr [.bool dr.n1,Am dr.l1,.bool dr.n2,Am dr.l2]),(64,.int .i64 n),(65,.int .i64 (i:Nat))]) (fun s=>s.M) (fun s=>Le c B bs1 pv pb ps w n ((A8 (Ct d) w row0).bind fun row=>A8 (Bt r j) (i+1) (X1.set r row)) s) ?_ ?_
       ·(repeat refine AW.seq ?_);refine AW.block ?_;(repeat refine AW.seq_k fun K hK=>?_);refine AW.rg ?_;simp;try (refine hK _ rfl ?_;clear hK K)
        (repeat refine AW.seq_k fun K hK=>?_);refine AW.rg ?_;simp[hi,g2.mat.top,↓g2.mat.get hi',g2.mat.row i hi',hli,hj];try (refine hK _ rfl ?_;clear hK K)
        refine Af.intro fun b13 hb13=>?_;refine hK _ rfl ?_;clear hK K;have hflb:(rr (Al rows i) j).Lb:=Nb (g4.row i) j;have hfq:∀X',Z=some X'→rr (Al rows i) j=A3 (A5 X' i j)∧Cd (A5 X' i j):=by
         intro X' hX';subst hX';obtain⟨_,m2,m3⟩:e=0∧rows=Cj X'∧Eg X':=g7;subst m2;have hjl:j<(Al X' i).length:=by rw[Cs,List.length_map]at hli;omega
         exact⟨by rw[Cs,K4 hjl];rfl,m3.at hjl⟩
        have hsg:=N3 _ hflb;generalize hfr:rr (Al rows i) j=fr at *;refine AW.turn [(0,.ptr c 1 0 0),(1,.osl B 1 0 n),(5,pv),(16,.int .i64 w),(17,.int .i64 (j:Nat)),(6,.int .i64 (j:Nat)),(7,.int .i64 r),(10,.rptr [.bool dr.n1,Am dr.l1,.bool dr.n2,Am dr.l2]),(64,.int .i64 n),(65,.int .i64 (i:Nat)),(12,.int .i64 (i:Nat)),(13,.rptr [.bool fr.n1,Am fr.l1,.bool fr.n2,Am fr.l2])] M (Bn.drop hb13 (g2.ones g3)) ?_ ?_
        ·simp[H5 hb13]
        have hskip:i=r∨Dx fr=0→((A8 (Ct d) w row0).bind fun row=>A8 (Bt r j) (i+1) (X1.set r row))=Z:=by
         intro h;rw[hZ1];cases Z with
         |none=>rfl
         |some X' =>
          obtain⟨q1,q2⟩:=hfq X' rfl;have:i=r∨A5 X' i j=0:=h.imp id fun h=>by rw[q1,Qn q2]at h;exact N5.1 h
          exact if_pos this
        refine AW.seq_ex (ι:=Unit) (fun _=>[(0,.ptr c 1 0 0),(1,.osl B 1 0 n),(5,pv),(16,.int .i64 w),(17,.int .i64 (j:Nat)),(6,.int .i64 (j:Nat)),(7,.int .i64 r),(10,.rptr [.bool dr.n1,Am dr.l1,.bool dr.n2,Am dr.l2]),(64,.int .i64 n),(65,.int .i64 (i:Nat)),(12,.int .i64 (i:Nat)),(13,.rptr [.bool fr.n1,Am fr.l1,.bool fr.n2,Am fr.l2])]) (fun _=>M) (fun _=>i≠r∧Dx fr≠0) ?_ ?_
        ·by_cases hir:i=r
         ·(repeat refine AW.seq_k fun K hK=>?_);refine AW.rg ?_;simp[hir];try (refine hK _ rfl ?_;clear hK K)
          refine AW.yes ?_ rfl;refine AW.exit ?_;try simp
          exact⟨⟨M,rows,x,e⟩,Le.to ⟨g2,g3,g4,g5,g6,g7⟩ (hskip (.inl hir)),by simp[hir]⟩
         ·(repeat refine AW.seq_k fun K hK=>?_);refine AW.rg ?_;simp[hir];try (refine hK _ rfl ?_;clear hK K)
          refine Aa.val hsg ?_;simp;refine hK _ rfl ?_;clear hK K;(repeat refine AW.seq ?_);refine AW.cs (fun h0=>?_) (fun h0=>?_) rfl<;>(try simp at h0)
          ·refine AW.exit ?_;try simp
           exact⟨⟨M,rows,x,e⟩,Le.to ⟨g2,g3,g4,g5,g6,g7⟩ (hskip (.inr h0)),by simp⟩
          ·refine AW.skip ?_;try simp
           exact⟨hir,h0⟩
        rintro _ ⟨h1,h2⟩;have hgo:∀X',Z=some X'→Bt r j i X'=(A8 (Es (Al X' r) (A5 X' i j)) (Al X' i).length (Al X' i)).map (X'.set i):=by
         intro X' hX';obtain⟨q1,q2⟩:=hfq X' hX';refine if_neg ?_;rintro(h | h)
         ·exact h1 h
         ·exact h2 (by rw[q1,Qn q2];exact N5.2 h)
        clear hskip;have hZl:∀X',Z=some X'→X'.length=n∧∀k,k<n→(Al X' k).length=w:=by
         intro X' hX';subst hX';obtain⟨_,m2,_⟩:e=0∧rows=Cj X'∧Eg X':=g7;subst m2;rw[Bm]at g6;exact⟨g6,fun k hk=>by have:=g5 k (by rw[Bm];omega);rwa [Cs,List.length_map]at this⟩
        have hend:((A8 (Ct d) w row0).bind fun row=>A8 (Bt r j) (i+1) (X1.set r row))=Z.bind fun X'=>(A8 (Es (Al X' r) (A5 X' i j)) w (Al X' i)).map (X'.set i):=by
         rw[hZ1];cases hZ2:Z with
         |none=>rfl
         |some X' =>
          show Bt r j i X'=_
          rw[hgo X' hZ2,(hZl X' hZ2).2 i hi];rfl
        have hbeg:(Z.bind fun X'=>(A8 (Es (Al X' r) (A5 X' i j)) 0 (Al X' i)).map (X'.set i))=Z:=by
         cases hZ2:Z with
         |none=>rfl
         |some X' =>
          have:=(hZl X' hZ2).1;show some (X'.set i (Al X' i))=some X'
          rw[Gj (by omega),List.set_getElem_self]
        (repeat refine AW.seq_k fun K hK=>?_);refine AW.rg ?_;simp[hi,g2.mat.top,↓g2.mat.get hi',hli];try (refine hK _ rfl ?_;clear hK K)
        refine AW.block (AW.loopS (ι:=Nat × X7) (fun z=>[(0,.ptr c 1 0 0),(1,.osl B 1 0 n),(5,pv),(16,.int .i64 w),(17,.int .i64 (j:Nat)),(6,.int .i64 (j:Nat)),(7,.int .i64 r),(10,.rptr [.bool dr.n1,Am dr.l1,.bool dr.n2,Am dr.l2]),(64,.int .i64 n),(65,.int .i64 (i:Nat)),(12,.int .i64 (i:Nat)),(13,.rptr [.bool fr.n1,Am fr.l1,.bool fr.n2,Am fr.l2]),(87,.int .i64 w),(88,.int .i64 (z.1:Nat))]) (fun z=>z.2.M) (fun z=>z.1≤w∧Le c B bs1 pv pb ps w n (Z.bind fun X'=>(A8 (Es (Al X' r) (A5 X' i j)) z.1 (Al X' i)).map (X'.set i)) z.2) (fun z=>w-z.1) (0,⟨M,rows,x,e⟩) ⟨by simp,Le.to ⟨g2,g3,g4,g5,g6,g7⟩ hbeg⟩ rfl (by simp) ?_)
        clear hbeg;clear g2 g3 g4 g5 g6 hi' hr' hli hlr;rintro⟨k,M,rows,x,e⟩ ⟨g1,g2,g3,g4,g5,g6,g8⟩;simp only at g1 g2 g3 g4 g5 g6 g8;(repeat refine AW.seq_k fun K hK=>?_);refine AW.rg ?_;simp;try (refine hK _ rfl ?_;clear hK K)
        (repeat refine AW.seq ?_);refine AW.cs (fun hk=>?_) (fun hk=>?_) rfl<;>(try simp at hk)
        ·refine AW.skip ?_;try simp
         (repeat refine AW.seq ?_);refine AW.block ?_;(repeat refine AW.seq_k fun K hK=>?_);refine AW.rg ?_;simp;try (refine hK _ rfl ?_;clear hK K)
         have hi':i<rows.length:=by omega
         have hr':r<rows.length:=by omega
         have hli:=g5 i hi';have hlr:=g5 r hr';have nB:=Ne.symm g2.cB;have nI:=g2.nc hi';have nR:=g2.nc hr';have n0:=g2.mat.ne hi';have hb:e=0→(rr (Al rows r) k).q=A2 (Al (Z.getD []) r) k∧fr.q=A5 (Z.getD []) i j:=by
          intro he;cases hZ2:Z with
          |none=>rw[hZ2]at g8;have:e=2:=g8;omega
          |some X' =>
           rw[hZ2]at g8;obtain⟨q1,q2⟩:=hfq X' hZ2;show _=A2 (Al X' r) k∧fr.q=A5 X' i j
           refine⟨?_,by rw[q1,Hg]⟩;replace g8:Wh e rows ((A8 (Es (Al X' r) (A5 X' i j)) k (Al X' i)).map (X'.set i)):=g8;cases hit:A8 (Es (Al X' r) (A5 X' i j)) k (Al X' i)with
           |none=>rw[hit]at g8;have:e=2:=g8;omega
           |some row =>
            rw[hit]at g8;obtain⟨_,m2,_⟩:e=0∧rows=Cj (X'.set i row)∧Eg (X'.set i row):=g8;rw[m2,Cs,Hf (by rw[(hZl X' hZ2).1];exact hi),if_neg (Ne.symm h1),K4 (by rw[(hZl X' hZ2).2 r hr];exact hk),Hg]
         (repeat refine AW.seq_k fun K hK=>?_);refine AW.rdT [] [13] [] [B,nb bs1 i,nb bs1 r] [0,1,2,3,4,5,6,7,8,9,10,11,12,13,14,15,16,17,18,19,20,21,22,23,24,25] Ds (by simp[hi,hr,hk,g2.mat.top,↓g2.mat.get hi',↓g2.mat.get hr',g2.mat.row i hi',g2.mat.row r hr',hli,hlr]) (by simp[hi,hr,hk,g2.mat.top,↓g2.mat.get hi',↓g2.mat.get hr',g2.mat.row i hi',g2.mat.row r hr',hli,hlr]) (by simp[hi,hr,hk,g2.mat.top,↓g2.mat.get hi',↓g2.mat.get hr',g2.mat.row i hi',g2.mat.row r hr',hli,hlr]) (by simp[hi,hr,hk,g2.mat.top,↓g2.mat.get hi',↓g2.mat.get hr',g2.mat.row i hi',g2.mat.row r hr',hli,hlr]) (by simp[hi,hr,hk,g2.mat.top,↓g2.mat.get hi',↓g2.mat.get hr',g2.mat.row i hi',g2.mat.row r hr',hli,hlr]) ?_
         simp[hi,hr,hk,g2.mat.top,↓g2.mat.get hi',↓g2.mat.get hr',g2.mat.row i hi',g2.mat.row r hr',hli,hlr];try (refine hK _ rfl ?_;clear hK K)
         have hfok:e=0→fr.ok=true:=by
          intro he;cases hZ2:Z with
          |none=>rw[hZ2]at g8;have:e=2:=g8;omega
          |some X'=>obtain⟨q1,q2⟩:=hfq X' hZ2;rw[q1];exact Ef q2
         refine Qsc (a:=rr (Al rows r) k) (b:=fr) g2.cell (by simp[nB,Ne.symm nR,Ne.symm nI,g2.cB]) g3 (Nb (g4.row r) k) hflb (fun he=>⟨Y9 g8 he (by rw[hlr];exact hk),hfok he⟩) ?_;intro x1 hx1;have hplb:(Dn e (rr (Al rows r) k) (Ea (rr (Al rows r) k).q fr.q)).2.Lb:=Zb (Nb (g4.row r) k);have hlo:=Ql7 (a:=rr (Al rows i) k) hb (e1:=(Dn e (rr (Al rows r) k) (Ea (rr (Al rows r) k).q fr.q)).1) (p:=(Dn e (rr (Al rows r) k) (Ea (rr (Al rows r) k).q fr.q)).2) rfl;have hlk:=Qm7 (b:=rr (Al rows r) k) (f:=fr) (e:=e) (fun z hz=>Qk5 hz) (e1:=(Dn e (rr (Al rows r) k) (Ea (rr (Al rows r) k).q fr.q)).1) (p:=(Dn e (rr (Al rows r) k) (Ea (rr (Al rows r) k).q fr.q)).2) rfl
         generalize(Dn e (rr (Al rows r) k) (Ea (rr (Al rows r) k).q fr.q))=ep at *;obtain⟨e1,p⟩:=ep;simp only at hx1 hplb hlo hlk;simp;refine Qmb (a:=rr (Al rows i) k) (b:=p) (Ac.set_same _ _ _) (by simp[nB,Ne.symm nR,Ne.symm nI,g2.cB]) hx1 (Nb (g4.row i) k) hplb (fun he=>⟨Y9 g8 (hlk he).1 (by rw[hli];exact hk),(hlk he).2⟩) ?_;intro x2 hx2;simp[hi,hk,nI,nR,n0,g2.mat.row i hi',hli];have w2:=Ap (k+1) (by omega);(repeat refine AW.seq_k fun K hK=>?_);refine AW.rg ?_;simp[-Int.natCast_add,w2];try (refine hK _ rfl ?_;clear hK K)
         have hs:=Le.row (op:=fun q k=>La q (A5 (Z.getD []) i j) (A2 (Al (Z.getD []) r) k)) (y:=(Dn e1 (rr (Al rows i) k) (Db (rr (Al rows i) k).q p.q)).2) (fun q k x hx=>Xb hx) (s:=⟨M,rows,x,e⟩) ⟨g2,g3,g4,g5,g6,g8⟩ hi hk (Z:=Z.bind fun X'=>(A8 (Es (Al X' r) (A5 X' i j)) k (Al X' i)).map fun row=>(X',row)) (by
          cases Z with
          |none=>rfl
          |some X' =>
           show(A8 _ k (Al X' i)).map _=_
           cases hit:A8 (Es (Al X' r) (A5 X' i j)) k (Al X' i)<;>simp[hit]) hx2 (Zb (Nb (g4.row i) k)) hlo.1 hlo.2
         exact⟨k+1,_,⟨hk,hs.to (by
          cases Z with
          |none=>rfl
          |some X' =>
           show(A8 _ (k+1) (Al X' i)).map _=_
           rw[C5];cases hit:A8 (Es (Al X' r) (A5 X' i j)) k (Al X' i)with
           |none=>simp[hit]
           |some row=>simp[hit];rfl)⟩,by omega,rfl,rfl⟩
        ·refine AW.exit ?_;try simp
         have:k=w:=by omega
         subst this;exact⟨⟨M,rows,x,e⟩,Le.to ⟨g2,g3,g4,g5,g6,g8⟩ hend,rfl⟩
       rintro⟨M3,rows3,x3,e3⟩ hs3;(repeat refine AW.seq_k fun K hK=>?_);refine AW.rg ?_;simp[-Int.natCast_add,w3];try (refine hK _ rfl ?_;clear hK K)
       exact⟨i+1,⟨M3,rows3,x3,e3⟩,⟨hi,hs3⟩,by omega,rfl,rfl⟩
      ·refine AW.exit ?_;try simp
       have:i=n:=by omega
       subst this;exact⟨⟨M,rows,x,e⟩,⟨g2,g3,g4,g5,g6,hZ ▸ g7⟩,rfl⟩
     rintro⟨M3,rows3,x3,e3⟩ ⟨g1,g2,g3,g4,g5,g6⟩;simp only at g1 g2 g3 g4 g5 g6;simp only;have hcl:Gk X1 j r=(A8 (Ct d) w row0).bind fun row=>A8 (Bt r j) n (X1.set r row):=by
      unfold Gk;rw[hd,hrow0,hn1,show row0.length=w by rw[←hrow0];exact hd1 r (by omega)]
     rw[hcl]at hcol;refine AW.seq_ex (ι:=Ac × Nat) (fun z=>[(0,.ptr c 1 0 0),(1,.osl B 1 0 n),(5,.osl z.2 1 0 (r+1)),(16,.int .i64 w),(17,.int .i64 (j:Nat))]) (fun z=>z.1) (fun z=>D5 z.1 c B bs1 rows3 x3 (.osl z.2 1 0 (r+1)) [z.2] (ps++[j])) ?_ ?_
     ·rcases g1.piv with⟨z1,z2,z3⟩|⟨b0,z2,z3,z4⟩
      ·subst z1 z2 z3;have hr0:r=0:=hrr.symm;subst hr0;(repeat refine AW.seq_k fun K hK=>?_);refine AW.rgR [120] ?_;simp;try (refine hK _ rfl ?_;clear hK K)
       exact⟨by unfold maxLen;omega,Af.intro fun b hb=>g1.push0 hb j⟩
      ·subst z2 z3;have hps:ps.length<2^40:=by omega
       (repeat refine AW.seq_k fun K hK=>?_);refine AW.rgR [120] ?_;simp[z4];try (refine hK _ rfl ?_;clear hK K)
       refine⟨by omega,by unfold maxLen;omega,Af.intro fun b hb=>⟨_,b,?_,rfl,rfl,hrr⟩⟩;have:=g1.push1 hb j
       rwa [hrr]at this
     rintro⟨M4,b4⟩ hR4;simp only at hR4;have hx3:x3.cells=[.int .i64 e3]:=g2;(repeat refine AW.seq_k fun K hK=>?_);refine AW.rg ?_;simp[hR4.cell,hx3];try (refine hK _ rfl ?_;clear hK K)
     (repeat refine AW.seq ?_);refine AW.cs (fun he=>?_) (fun he=>?_) rfl<;>(try simp at he)
     ·refine AW.exit ?_;try simp
      have hno:A8 Ch (j+1) (X0,[])=none:=by
       rw[hcol];generalize((A8 (Ct d) w row0).bind fun row=>A8 (Bt r j) n (X1.set r row))=Z at g6;cases Z with
       |none=>rfl
       |some Y=>exact absurd g6.1 he
      have he2:e3=2:=by
       generalize((A8 (Ct d) w row0).bind fun row=>A8 (Bt r j) n (X1.set r row))=Z at g6;cases Z with
       |none=>exact g6
       |some Y=>exact absurd g6.1 he
      refine⟨x3,hR4.cell,hR4.ones g2,?_⟩;rw[hq,Qb8 hno (by omega)];rw[he2]at g2;exact g2
     ·refine AW.skip ?_;try simp
      generalize((A8 (Ct d) w row0).bind fun row=>A8 (Bt r j) n (X1.set r row))=Z at g6 hcol;cases Z with
      |none=>have:e3=2:=g6;omega
      |some Y =>
       obtain⟨_,m2,m3⟩:e3=0∧rows3=Cj Y∧Eg Y:=g6;subst m2;refine⟨⟨Y,ps++[j],M4,bs1,.osl b4 1 0 (r+1),[b4],x3⟩,⟨hcol,m3,?_,?_,by simp[hrr];omega,hR4,he ▸ g2⟩,rfl,rfl⟩
       ·intro i hi;have:=g4 i (by rw[Bm];exact hi)
        rwa [Cs,List.length_map]at this
       ·rw[Bm]at g5;rw[hN];exact g5
   rintro⟨X,ps,M,bs,pv,pb,x⟩ hs;(repeat refine AW.seq_k fun K hK=>?_);refine AW.rg ?_;simp[-Int.natCast_add,w1];try (refine hK _ rfl ?_;clear hK K)
   exact⟨j+1,⟨X,ps,M,bs,pv,pb,x⟩,⟨hj,hs⟩,by omega,by simp⟩
  ·refine AW.exit ?_;try simp
   have:j=w:=by omega
   subst this;refine⟨x,i6.cell,i6.ones i7,?_⟩;rw[hq,i1];exact⟨i7,bs,pb,i6⟩
 rintro⟨M,pv⟩ hs;(repeat refine AW.seq_k fun K hK=>?_);refine AW.rg ?_;simp;try (refine hK _ rfl ?_;clear hK K)
 obtain⟨x',h1,h2,h3⟩:=hs;exact AW.ret (B9 rfl h2 ⟨x',h1,h2,h3⟩)
end Go.Av
end
section
namespace Go.Av
open Go.Proofs
section
variable {P:Program} {av:Nat→Prop} {f:FuncId} {args:List AV} {m:Ac} {k:AV→Ac→Prop}
theorem Aa.news {R:AV→Ac→Prop} (h:Aj P f args Ac.emp R) (hk:∀v g,R v g→(∀b,g b≠none→m b=none∧¬av b)→k v (m.back [] g)):Aa P av f args m k:=by
 have e:m.only []=Ac.emp:=by funext b;rfl
 refine Aa.hand [] (by simp) (by rw[e];exact h) fun v g hr hf=>hk v g hr fun b hb=>?_;rcases hf b hb with h | h
 ·cases h
 ·exact h
theorem Aa.whole {R:AV→Ac→Prop} (hav:∀b,¬av b) (h:Aj P f args m R) (hk:∀v g,R v g→k v g):Aa P av f args m k:=by
 refine .inl ⟨m,R,fun c y hy=>⟨hy,hav c⟩,h,fun v g hr _=>?_⟩;have e:Ey m m g=g:=by
  funext c
  unfold Ey;cases g c with
  |some x=>rfl
  |none=>cases hm:m c<;>rfl
 rw[e];exact hk v g hr
end
def Zh (m:List (List RR)):List (List Rat):=m.map fun r=>r.map RR.q
theorem Ky (m:List (List RR)):(Zh m).length=m.length:=by simp[Zh]
theorem Ms (m:List (List RR)) (i:Nat):Al (Zh m) i=(Al m i).map RR.q:=by
 unfold Al Zh;rw[List.getD_eq_getElem?_getD,List.getD_eq_getElem?_getD,List.getElem?_map];cases m[i]?<;>rfl
theorem Qlf {m:List (List RR)} (h:chk m=0):¬(64<m.length∨Lt m)∧P8 m:=by
 by_cases h1:64<m.length∨Lt m
 ·rw[Ya h1]at h;omega
 ·refine⟨h1,?_⟩;by_cases h2:P8 m
  ·exact h2
  ·rw[X9 h1 h2]at h;omega
theorem Qgi {m:List (List RR)} {r:List RR} (h:r∈m):∃i,i<m.length∧Al m i=r:=by
 obtain⟨i,hi,e⟩:=List.mem_iff_getElem.1 h;exact⟨i,hi,by rw[Gj hi,e]⟩
theorem Qt8 {r:List RR} {x:RR} (h:x∈r):∃j,j<r.length∧rr r j=x:=by
 obtain⟨j,hj,e⟩:=List.mem_iff_getElem.1 h;exact⟨j,hj,by rw[K8 hj,e]⟩
theorem Qfp {m:List (List RR)} (hm:LbM m) (h:chk m=0):m=Cj (Zh m)∧Eg (Zh m)∧Lf (Zh m) (Al (Zh m) 0).length∧m.length≤64∧(Al (Zh m) 0).length≤64:=by
 obtain⟨h1,h2⟩:=Qlf h;have hok:∀r∈m,∀x∈r,x.ok=true:=by
  intro r hr x hx;obtain⟨i,hi,rfl⟩:=Qgi hr;obtain⟨j,hj,rfl⟩:=Qt8 hx;exact(h2 i hi).2 j hj
 refine⟨?_,?_,?_,?_,?_⟩
 ·unfold Cj Zh;rw[List.map_map]
  conv=>lhs;rw[←List.map_id m]
  refine List.map_congr_left fun r hr=>?_;show r=(r.map RR.q).map A3
  rw[List.map_map]
  conv=>lhs;rw[←List.map_id r]
  refine List.map_congr_left fun x hx=>?_;exact(E8 (hm r hr x hx) (hok r hr x hx)).2
 ·intro r hr q hq;obtain⟨s,hs,rfl⟩:=List.mem_map.1 hr;obtain⟨x,hx,rfl⟩:=List.mem_map.1 hq;exact(E8 (hm s hs x hx) (hok s hs x hx)).1
 ·intro i hi;rw[Ms,Ms,List.length_map,List.length_map];exact(h2 i (by rwa [Ky]at hi)).1
 ·rcases Nat.lt_or_ge 64 m.length with h|h
  ·exact absurd (.inl h) h1
  ·exact h
 ·rw[Ms,List.length_map];rcases Nat.lt_or_ge 64 (Al m 0).length with h | h
  ·rcases Nat.eq_zero_or_pos m.length with h0|h0
   ·have:m=[]:=List.eq_nil_of_length_eq_zero h0;subst this;simp[Al]at h
   ·exact absurd (.inr ⟨0,h0,h⟩) h1
  ·exact h
/-! ### What the steps keep -/
def Fv (r:List Rat):Prop:=∀q∈r,Cd q
theorem Js {α:Type} {f:Nat→α→Option α} {p:α→Prop} (h:∀i s t,p s→f i s=some t→p t):∀{n:Nat} {s t:α},p s→A8 f n s=some t→p t
 |0,s,t,hs,he=>by cases he;exact hs
 |n+1,s,t,hs,he=>by
  rw[C5]at he;cases hm:A8 f n s with
  |none=>rw[hm]at he;cases he
  |some u=>rw[hm]at he;exact h n u t (Js h hs hm) he
theorem Hs {op:Rat→Nat→Option Rat} (hop:∀q k x,op q k=some x→Cd x) {w k:Nat} {row row':List Rat} (h:Fv row∧row.length=w) (he:Fu op k row=some row'):Fv row'∧row'.length=w:=by
 unfold Fu at he;cases ho:op (A2 row k) k with
 |none=>rw[ho]at he;cases he
 |some z=>rw[ho]at he;cases he;exact⟨Qab h.1 k (hop _ _ _ ho),by simpa using h.2⟩
def Bu (n w:Nat) (M:List (List Rat)):Prop:=Eg M∧Lf M w∧M.length=n
theorem Bu.set {n w:Nat} {M:List (List Rat)} (h:Bu n w M) (i:Nat) {r:List Rat} (hr:Fv r∧r.length=w):Bu n w (M.set i r) :=
 ⟨h.1.set i hr.1,h.2.1.set hr.2,by simpa using h.2.2⟩
theorem Bu.row {n w:Nat} {M:List (List Rat)} (h:Bu n w M) {i:Nat} (hi:i<n):Fv (Al M i)∧(Al M i).length=w:=⟨h.1.row i,h.2.1 i (by rw[h.2.2];exact hi)⟩
theorem Bu.swap {n w:Nat} {M:List (List Rat)} (h:Bu n w M) {i j:Nat} (hi:i<n) (hj:j<n):Bu n w (Ca M i j):=(h.set i (h.row hj)).set j (h.row hi)
theorem Qc {n w r j i:Nat} {M M':List (List Rat)} (hi:i<n) (h:Bu n w M) (he:Bt r j i M=some M'):Bu n w M':=by
 unfold Bt at he;split at he
 ·cases he;exact h
 ·cases hm:A8 (Es (Al M r) (A5 M i j)) (Al M i).length (Al M i)with
  |none=>rw[hm]at he;cases he
  |some row =>
   rw[hm]at he;cases he;exact h.set i (Js (p:=fun row=>Fv row∧row.length=w) (fun k s t hs hst=>Hs (fun q k x hx=>Xb hx) hs hst) (h.row hi) hm)
theorem Uz {α:Type} {f:Nat→α→Option α} {p:α→Prop}:∀{n:Nat} (h:∀i s t,i<n→p s→f i s=some t→p t) {s t:α},p s→A8 f n s=some t→p t
 |0,_,s,t,hs,he=>by cases he;exact hs
 |n+1,h,s,t,hs,he=>by
  rw[C5]at he;cases hm:A8 f n s with
  |none=>rw[hm]at he;cases he
  |some u=>rw[hm]at he;exact h n u t (by omega) (Uz (fun i s t hi=>h i s t (by omega)) hs hm) he
theorem Us {n w r j:Nat} {M M':List (List Rat)} (hr:r<n) (h:Bu n w M) (hd:A5 M r j≠0) (he:Gk M j r=some M'):Bu n w M':=by
 unfold Gk at he;cases hm:A8 (Ct (A5 M r j)) (Al M r).length (Al M r)with
 |none=>rw[hm]at he;cases he
 |some row =>
  rw[hm]at he;have h1:=Js (p:=fun row=>Fv row∧row.length=w) (fun k s t hs hst=>Hs (fun q k x hx=>Pc hd hx) hs hst) (h.row hr) hm;have he':A8 (Bt r j) n (M.set r row)=some M':=by rw[←h.2.2];exact he
  exact Uz (p:=Bu n w) (fun i s t hi hs hst=>Qc hi hs hst) (h.set r h1) he'
def K5 (n w j:Nat) (z:List (List Rat) × List Nat):Prop:=Bu n w z.1∧z.2.length≤n∧z.2.length≤j∧∀p∈z.2,p<j
theorem Qj9 {n w j:Nat} {z z':List (List Rat) × List Nat} (h:K5 n w j z) (he:Ch j z=some z'):K5 n w (j+1) z':=by
 obtain⟨h1,h2,h3,h4⟩:=h;unfold Ch at he;cases hp:Sk z.1 j z.2.length with
 |none=>simp only[hp]at he;cases he;exact⟨h1,h2,by omega,fun p hp=>by have:=h4 p hp;omega⟩
 |some i =>
  simp only[hp]at he;obtain⟨p1,p2,p3⟩:=Qu hp;rw[h1.2.2]at p1;have hr:z.2.length<n:=by omega
  cases hc:Gk (Ca z.1 i z.2.length) j z.2.length with
  |none=>rw[hc]at he;cases he
  |some M =>
   rw[hc]at he;cases he;refine⟨Us hr (h1.swap p1 hr) ?_ hc,by simp;omega,by simp;omega,fun p hp=>?_⟩
   ·unfold A5;rw[J6 (by rw[h1.2.2];exact p1) (by rw[h1.2.2];exact hr),if_pos rfl];exact p3
   ·simp at hp;rcases hp with hp | rfl
    ·have:=h4 p hp;omega
    ·omega
theorem Qy {n w:Nat} {z0:List (List Rat) × List Nat} (h:K5 n w 0 z0):∀{j:Nat} {z:List (List Rat) × List Nat},A8 Ch j z0=some z→K5 n w j z
 |0,z,he=>by cases he;exact h
 |j+1,z,he=>by
  rw[C5]at he;cases hm:A8 Ch j z0 with
  |none=>rw[hm]at he;cases he
  |some u=>rw[hm]at he;exact Qj9 (Qy h hm) he
theorem R7 {n w:Nat} {M:List (List Rat)} (h:Bu n w M) {z:List (List Rat) × List Nat} (he:Er M=some z):K5 n (w) ((Al M 0).length) z :=
 Qy (z0:=(M,[])) ⟨h,by simp,by simp,by simp⟩ he
/-! ### Reduce -/
theorem Qif {X:List (List Rat)} (h:Eg X):Qj3 (Cj X):=by
 intro r hr x hx;obtain⟨s,hs,rfl⟩:=List.mem_map.1 hr;obtain⟨q,hq,rfl⟩:=List.mem_map.1 hx;have:=h s hs q hq;have key:∀n,n<Bh→(Ao n).length<2^40:=fun n hn=>by
  have:=Bg hn;omega
 exact⟨key _ this.1,key _ this.2⟩
noncomputable def Gd (m:List (List RR)):Int × List (List Rat) × List Nat :=
 if chk m≠0 then (chk m,[],[]) else match Er (Zh m)with
  |none=>(2,[],[])
  |some z=>(0,z.1,z.2)
theorem D5.start {X:List (List Rat)} {c:Nat} {x:AV} {g:Ac} {B:Nat} {bs:List Nat} (hg:Eu g B bs (Cj X)) (ho:Dz g (B::bs)) (hf:∀b,g b≠none→(Ac.emp.set c ⟨118,1,[x]⟩) b=none) :
  D5 ((Ac.emp.set c ⟨118,1,[x]⟩).back [] g) c B bs (Cj X) x .nil [] []:=by
 have hc:g c=none:=by
  cases h:g c with
  |none=>rfl
  |some y=>have:=hf c (by rw[h];simp);simp at this
 refine⟨hg.back _,by rw[Iu hc (by simp)];simp,.inl ⟨rfl,rfl,rfl⟩,fun b hb=>?_,?_,fun hm=>?_,by simp,by simp,by simp⟩
 ·cases h:g b with
  |some y=>have:=ho b (by rw[h];simp);simp at this ⊢;exact .inr this
  |none =>
   rw[Iu h (by simp)]at hb;by_cases e:b=c
   ·simp[e]
   ·simp[e]at hb
 ·rintro rfl;rw[hg.top]at hc;cases hc
 ·obtain⟨i,hi,e⟩:=List.mem_iff_getElem.1 hm;rw[←J7 hi]at e;have:=hg.row i (by rw[←hg.len];exact hi);rw[e,hc]at this;cases this
theorem Pa (m:List (List RR)) (hm:LbM m):Aj Tryz.prog 66 [Bc m] Ac.emp fun v mm=>v=.tup [Bc (Cj (Gd m).2.1),.sl 1 (Ar (Gd m).2.2),.int .i64 (Gd m).1]∧mm=Ac.emp:=by
 have hck:=Qe8 m hm;by_cases h0:chk m=0
 ·obtain⟨h1,h2,h3,h4,h5⟩:=Qfp hm h0;have hR:Gd m=match Er (Zh m)with
   |none=>(2,[],[])
   |some z=>(0,z.1,z.2):=by unfold Gd;rw[if_neg (by simp[h0])]
  have hlen:=Ky m;rw[h0]at hck;have hcl:=Qdi m (by rw[h1];exact Qif h2) (by omega) (fun r hr=>by
   obtain⟨i,hi,rfl⟩:=Qgi hr;have:=h3 i (by rw[hlen];exact hi);rw[Ms,List.length_map]at this;omega)
  rw[hR];clear hR;generalize Zh m=X at *;subst h1;rw[Bm]at *;have hrd:=fun(M0:Ac) (c B:Nat) (bs0:List Nat) (x0:AV) (hR0:D5 M0 c B bs0 (Cj X) x0 .nil [] []) (hx0:G6 x0 0)=>Yt M0 c B bs0 X x0 _ hR0 hx0 h2 h3 rfl (by omega) (by omega);refine Ad Tryz.func66 rfl rfl 32 rfl (Nat.le_of_ble_eq_true rfl) ?_;(repeat refine AW.seq_k fun K hK=>?_);refine AW.rg ?_;simp[Ak];try (refine hK _ rfl ?_;clear hK K)
  (repeat refine AW.seq_k fun K hK=>?_);refine AW.rg ?_;simp;try (refine hK _ rfl ?_;clear hK K)
  refine Aa.val hck ?_;simp;refine hK _ rfl ?_;clear hK K;(repeat refine AW.seq_k fun K hK=>?_);refine AW.rg ?_;simp;try (refine hK _ rfl ?_;clear hK K)
  refine AW.no ?_ rfl;refine AW.skip ?_;try simp
  refine hK _ rfl ?_;clear hK K;(repeat refine AW.seq_k fun K hK=>?_);refine AW.rg ?_;simp;try (refine hK _ rfl ?_;clear hK K)
  refine Af.intro fun c hc=>?_;refine hK _ rfl ?_;clear hK K;(repeat refine AW.seq_k fun K hK=>?_);refine AW.rg ?_;simp;try (refine hK _ rfl ?_;clear hK K)
  refine Aa.news hcl ?_;rintro _ g ⟨B,bs,rfl,g1,g2⟩ hf;have hM:=D5.start g1 g2 (c:=c) (x:=.agg [.int .i64 0]) (fun b hb=>(hf b hb).1);generalize(Ac.emp.set c ⟨118,1,[.agg [.int .i64 0]]⟩).back [] g=M at *;simp;refine hK _ rfl ?_;clear hK K;(repeat refine AW.seq_k fun K hK=>?_);refine AW.rg ?_;simp;try (refine hK _ rfl ?_;clear hK K)
  refine Aa.whole (by simp) (hrd M c B bs _ hM rfl) ?_;rintro v M' ⟨x',q1,q2,q3⟩;simp;refine hK _ rfl ?_;clear hK K;cases hq:Er X with
  |none =>
   rw[hq]at q3;have hx':x'.cells=[.int .i64 2]:=q3;(repeat refine AW.seq_k fun K hK=>?_);refine AW.rg ?_;simp[q1,hx'];try (refine hK _ rfl ?_;clear hK K)
   refine AW.yes ?_ rfl;(repeat refine AW.seq_k fun K hK=>?_);refine AW.rdA c [0,1,2,3,4,5,6] Ds (by simp[q1,hx']) ?_;simp[q1,hx'];try (refine hK _ rfl ?_;clear hK K)
   exact AW.ret (Ah [Bc [],.sl 1 [],.int .i64 2] rfl ⟨.nilsl 1,.nilsl 1,.same _,trivial⟩ ⟨rfl,rfl⟩)
  |some z =>
   obtain⟨Y,ps⟩:=z;rw[hq]at q3;obtain⟨q3,bs',pb,q4⟩:=q3;have hx':x'.cells=[.int .i64 0]:=q3;(repeat refine AW.seq_k fun K hK=>?_);refine AW.rg ?_;simp[q1,hx'];try (refine hK _ rfl ?_;clear hK K)
   refine AW.no ?_ rfl;refine AW.skip ?_;try simp
   refine hK _ rfl ?_;clear hK K;(repeat refine AW.seq_k fun K hK=>?_);refine AW.rg ?_;simp;try (refine hK _ rfl ?_;clear hK K)
   have hk:=R7 ⟨h2,h3,rfl⟩ hq;have hv:=q4.mat.view;rw[Bm,hk.1.2.2]at hv;exact AW.ret (Ah [Bc (Cj Y),.sl 1 (Ar ps),.int .i64 0] rfl ⟨hv,q4.piv.view,.same _,trivial⟩ ⟨rfl,rfl⟩)
 ·have hR:Gd m=(chk m,[],[]):=by unfold Gd;rw[if_pos h0]
  rw[hR];generalize chk m=e at *;refine Ad Tryz.func66 rfl rfl 32 rfl (Nat.le_of_ble_eq_true rfl) ?_;(repeat refine AW.seq_k fun K hK=>?_);refine AW.rg ?_;simp[Ak];try (refine hK _ rfl ?_;clear hK K)
  (repeat refine AW.seq_k fun K hK=>?_);refine AW.rg ?_;simp;try (refine hK _ rfl ?_;clear hK K)
  refine Aa.val hck ?_;simp;refine hK _ rfl ?_;clear hK K;(repeat refine AW.seq_k fun K hK=>?_);refine AW.rg ?_;simp[h0];try (refine hK _ rfl ?_;clear hK K)
  refine AW.yes ?_ rfl;(repeat refine AW.seq_k fun K hK=>?_);refine AW.rg ?_;simp;try (refine hK _ rfl ?_;clear hK K)
  exact AW.ret (Ah [Bc [],.sl 1 [],.int .i64 e] rfl ⟨.nilsl 1,.nilsl 1,.same _,trivial⟩ ⟨rfl,rfl⟩)
theorem Qeq (m:List (List RR)) (hm:LbM m):Aj Tryz.prog 31 [Bc m] Ac.emp fun v mm=>v=.tup [.int .i64 (Gd m).2.2.length,.int .i64 (Gd m).1]∧mm=Ac.emp:=by
 have hr:=Pa m hm;generalize Gd m=z at *;obtain⟨e,Y,ps⟩:=z;simp only at hr ⊢;refine Ad Tryz.func31 rfl rfl 16 rfl (Nat.le_of_ble_eq_true rfl) ?_;(repeat refine AW.seq_k fun K hK=>?_);refine AW.rg ?_;simp[Ak];try (refine hK _ rfl ?_;clear hK K)
 (repeat refine AW.seq_k fun K hK=>?_);refine AW.rg ?_;simp;try (refine hK _ rfl ?_;clear hK K)
 refine Aa.val hr ?_;simp;refine hK _ rfl ?_;clear hK K;(repeat refine AW.seq_k fun K hK=>?_);refine AW.rg ?_;simp;try (refine hK _ rfl ?_;clear hK K)
 exact AW.ret (Ah [.int .i64 ps.length,.int .i64 e] rfl (by simp) ⟨rfl,rfl⟩)
end Go.Av
end
section
namespace Go.Av
open Go.Proofs
@[simp high] theorem Qlb (P:Program) (size bytes:Nat) (e:TypeId) (zero:AV) (fs:List (Nat × Nat × Option Bool)) (k:IntKind) (n:Int) (l:List Nat):B4 P ⟨size,bytes,.slice e,zero,fs⟩ (.sl 1 (Ar l)) (.int k n)=(Ai P e).bind fun te=>if 1=te.size∧0≤n∧n<l.length then some (.rptr [.int .i64 ((l.getD n.toNat 0:Nat):Int)]) else none:=by
 rw[Hr]
 congr 1
 funext te
 rw[Lr];by_cases h:1=te.size∧0≤n∧n<l.length
 ·rw[if_pos h,if_pos h];have h1:n.toNat<l.length:=by omega
  unfold Ar;rw[List.getD_eq_getElem?_getD,List.getD_eq_getElem?_getD,List.getElem?_map,List.getElem?_eq_getElem h1];rfl
 ·rw[if_neg h,if_neg h]
theorem Z6 {M M':Ac} {b n:Nat} {e:TypeId} {r:List RR} (hb:M b=some ⟨e,4,B5 r⟩) (hb':M' b=none) (hn:r.length=n):B2 M M' (.osl b 4 0 n) (A4 r):=by
 refine .osl b 4 0 n _ _ hb hb' rfl (by simp[hn]) (by simp[hn]) fun j u u' g1 g2=>?_;simp only[Nat.zero_add]at g1;rw[g1]at g2;cases g2;exact .same _
theorem Ac.set_self {m:Ac} {b:Nat} {x:Fi} (h:m b=some x):m.set b x=m:=by
 funext k
 simp only[A9];split
 ·rename_i e;rw[e,h]
 ·rfl
theorem Vr {m:Ac} {b c:Nat} (h:c≠b) (x x' y y':Fi):(((m.set c x).set b y).set c x').set b y'=(m.set c x').set b y':=by
 funext k
 simp only[A9];by_cases h1:k=b
 ·simp[h1]
 ·by_cases h2:k=c
  ·subst h2;simp[h]
  ·simp[h1,h2]
def L8 (M:Ac) (ty:TypeId) (z:Nat) (ov:AV) (ob:List Nat) (l:List AV):Prop :=
 (l=[]∧ob=[]∧ov=.nil)∨∃b,ob=[b]∧ov=.osl b z 0 l.length∧M b=some ⟨ty,z,l⟩
theorem L8.keep {M M':Ac} {ty:TypeId} {z:Nat} {ov:AV} {ob:List Nat} {l:List AV} (h:L8 M ty z ov ob l) (hm:∀b∈ob,M' b=M b):L8 M' ty z ov ob l:=by
 rcases h with h|⟨b,h1,h2,h3⟩
 ·exact .inl h
 ·exact .inr ⟨b,h1,h2,by rw[hm b (by simp[h1])];exact h3⟩
theorem L8.len {M:Ac} {ty:TypeId} {z:Nat} {ov:AV} {ob:List Nat} {l:List AV} (h:L8 M ty z ov ob l) (size bytes:Nat) (e:TypeId) (zero:AV) (fs:List (Nat × Nat × Option Bool)):K9 ⟨size,bytes,.slice e,zero,fs⟩ ov=some (.int .i64 l.length):=by
 rcases h with⟨rfl,_,rfl⟩|⟨b,_,rfl,_⟩
 ·simp
 ·simp
theorem L8.view {M M':Ac} {ty:TypeId} {z:Nat} {ov:AV} {ob:List Nat} {l:List AV} (h:L8 M ty z ov ob l) (hm:∀b∈ob,M' b=none):B2 M M' ov (.sl z l):=by
 rcases h with⟨rfl,_,rfl⟩|⟨b,h1,rfl,h⟩
 ·exact .nilsl z
 ·refine .osl b z 0 l.length _ _ h (hm b (by simp[h1])) rfl rfl (by simp) fun j u u' g1 g2=>?_;simp only[Nat.zero_add]at g1;rw[g1]at g2;cases g2;exact .same _
structure Jr (M:Ac) (c:Nat) (x:AV) (ty:TypeId) (z:Nat) (ov:AV) (ob:List Nat) (l:List AV):Prop where
 cell:M c=some ⟨118,1,[x]⟩
 lst:L8 M ty z ov ob l
 only:Dz M (c::ob)
 pc:c ∉ ob
section
variable {M:Ac} {c:Nat} {x ov:AV} {ty:TypeId} {z:Nat} {ob:List Nat} {l:List AV}
theorem Jr.setE (h:Jr M c x ty z ov ob l) (x':AV):Jr (M.set c ⟨118,1,[x']⟩) c x' ty z ov ob l :=
 ⟨by simp,h.lst.keep fun b hb=>by simp only[A9];rw[if_neg (by rintro rfl;exact h.pc hb)],h.only.set (by simp) _,h.pc⟩
theorem Jr.fresh (h:Jr M c x ty z ov ob l) {b:Nat} (hb:M b=none):b≠c∧b ∉ ob:=by
 refine⟨(by rintro rfl;rw[h.cell]at hb;cases hb),fun hm=>?_⟩;rcases h.lst with⟨_,h1,_⟩ | ⟨b',h1,_,h3⟩
 ·rw[h1]at hm;cases hm
 ·rw[h1]at hm;simp at hm;subst hm;rw[h3]at hb;cases hb
theorem Jr.ones (h:Jr M c x ty z ov ob l) {e:Int} (hx:G6 x e) (hl:∀v∈l,v.cells.all AV.one=true):∀(b:Nat) (y:Fi),M b=some y→∀v∈y.l,v.cells.all AV.one=true:=by
 intro b y hy;have:=h.only b (by rw[hy];simp);rcases List.mem_cons.1 this with rfl | hb
 ·rw[h.cell]at hy;cases hy;intro v hv;simp at hv;subst hv;exact Qf5 hx
 ·rcases h.lst with⟨_,h1,_⟩|⟨b',h1,_,h3⟩
  ·rw[h1]at hb;cases hb
  ·rw[h1]at hb;simp at hb;subst hb;rw[h3]at hy;cases hy;exact hl
theorem Jr.start (c:Nat) (x:AV) (ty:TypeId) (z:Nat):Jr (Ac.emp.set c ⟨118,1,[x]⟩) c x ty z .nil [] [] :=
 ⟨by simp,.inl ⟨rfl,rfl,rfl⟩,fun b hb=>by
  by_cases e:b=c
  ·simp[e]
  ·simp[e]at hb,by simp⟩
theorem Jr.push0 (h:Jr M c x ty z .nil [] []) {b:Nat} (hb:M b=none) (v:AV):Jr (M.set b ⟨ty,z,[v]⟩) c x ty z (.osl b z 0 1) [b] [v]:=by
 obtain⟨f1,_⟩:=h.fresh hb;refine⟨by simp only[A9];rw[if_neg (Ne.symm f1)];exact h.cell,.inr ⟨b,rfl,rfl,by simp⟩,?_,by simpa using Ne.symm f1⟩;exact(h.only.sub fun a ha=>by simp at ha ⊢;exact .inl ha).set (by simp) _
theorem Jr.push1 {b0:Nat} (h:Jr M c x ty z (.osl b0 z 0 l.length) [b0] l) {b:Nat} (hb:(M.del b0) b=none) (v:AV):Jr ((M.del b0).set b ⟨ty,z,l++[v]⟩) c x ty z (.osl b z 0 (l.length+1)) [b] (l++[v]):=by
 have hc:c≠b0:=by have:=h.pc;simpa using this
 have hh:Jr (M.del b0) c x ty z .nil [] []:=by
  have hdel:∀a,a≠b0→(M.del b0) a=M a:=fun a ha=>if_neg ha;refine⟨by rw[hdel c hc];exact h.cell,.inl ⟨rfl,rfl,rfl⟩,fun a ha=>?_,by simp⟩;have h1:a≠b0:=by
   rintro rfl;exact ha (if_pos rfl)
  rw[hdel a h1]at ha;have:=h.only a ha;simp at this ⊢;exact this.resolve_right h1
 obtain⟨f1,_⟩:=hh.fresh hb;refine⟨by simp only[A9];rw[if_neg (Ne.symm f1)];exact hh.cell,.inr ⟨b,rfl,by simp,by simp⟩,?_,by simpa using Ne.symm f1⟩;exact(hh.only.sub fun a ha=>by simp at ha ⊢;exact .inl ha).set (by simp) _
end
/-! ### The kernel -/
def Sq (Y:List (List Rat)) (ps:List Nat) (j:Nat):Nat→List Rat→List Rat
 |0,v=>v
 |k+1,v=>(Sq Y ps j k v).set (ps.getD k 0) (-(A5 Y k j))
def J8 (Y:List (List Rat)) (ps:List Nat) (w j:Nat):List Rat:=Sq Y ps j ps.length ((List.replicate w 0).set j 1)
def Je (Y:List (List Rat)) (ps:List Nat) (w j:Nat):List (List Rat):=((List.range j).filter fun i=>decide (i ∉ ps)).map (J8 Y ps w)
theorem P5 (Y:List (List Rat)) (ps:List Nat) (w j:Nat):Je Y ps w (j+1)=if j∈ps then Je Y ps w j else Je Y ps w j++[J8 Y ps w j]:=by
 unfold Je;rw[List.range_succ,List.filter_append];by_cases h:j∈ps
 ·rw[if_pos h];simp[h]
 ·rw[if_neg h];simp[h]
theorem Hc (Y:List (List Rat)) (ps:List Nat) (j:Nat) (v:List Rat):∀k,(Sq Y ps j k v).length=v.length
 |0=>rfl
 |k+1=>by unfold Sq;rw[List.length_set,Hc]
theorem Z1 (Y:List (List Rat)) (ps:List Nat) (w j:Nat):(J8 Y ps w j).length=w:=by unfold J8;rw[Hc];simp
noncomputable def Up (m:List (List RR)):Int × List (List Rat) :=
 if (Gd m).1≠0 then ((Gd m).1,[]) else (0,Je (Gd m).2.1 (Gd m).2.2 (Al m 0).length (Al m 0).length)
theorem R8 {n w:Nat} {z0:List (List Rat) × List Nat} (h:K5 n w 0 z0) (hs:z0.2.Pairwise (·<·)):∀{j:Nat} {z:List (List Rat) × List Nat},A8 Ch j z0=some z→z.2.Pairwise (·<·)
 |0,z,he=>by cases he;exact hs
 |j+1,z,he=>by
  rw[C5]at he;cases hm:A8 Ch j z0 with
  |none=>rw[hm]at he;cases he
  |some u =>
   rw[hm]at he;have h1:=R8 h hs hm;have h2:=Qy h hm;replace he:Ch j u=some z:=he;unfold Ch at he;cases hp:Sk u.1 j u.2.length with
   |none=>simp only[hp]at he;cases he;exact h1
   |some i =>
    simp only[hp]at he;cases hc:Gk (Ca u.1 i u.2.length) j u.2.length with
    |none=>rw[hc]at he;cases he
    |some M =>
     rw[hc]at he;cases he;rw[List.pairwise_append];exact⟨h1,by simp,fun a ha b hb=>by simp at hb;subst hb;exact h2.2.2.2 a ha⟩
theorem Qja {q:Rat} (h:Cd q):Db 0 q=some (-q)∧Cd (-q):=by
 have hg:Cd (-q):=by
  unfold Cd at h ⊢;rw[Rat.neg_num,Rat.neg_den,Int.natAbs_neg];exact h
 refine⟨?_,hg⟩;unfold Db;rw[Rat.sub_eq_add_neg,Rat.zero_add];have n0:(0:Rat).num=0:=rfl;have d0:(0:Rat).den=1:=rfl;have hb:0<Bh:=by unfold Bh;exact Nat.pow_pos (by omega)
 have h1:=h.1;have h2:=h.2;rw[n0,d0,if_pos];unfold Cy;generalize Bh=b at *;simp only[Bool.and_eq_true,decide_eq_true_eq,Int.zero_mul,Int.natAbs_zero];refine⟨⟨⟨hb,?_⟩,?_⟩,?_⟩<;>omega
theorem Xq:Cd 0:=by rw[←H4];exact Qb (by decide)
theorem Z4:Cd 1:=by rw[←J0];exact Qb (by decide)
structure Qop where
 next:Nat
 x:AV
 M:Ac
 ov:AV
 ob:List Nat
def Quu (c:Nat) (Y:List (List Rat)) (ps:List Nat) (w j:Nat) (s:Qop):Prop :=
 Jr s.M c s.x 51 1 s.ov s.ob ((Cj (Je Y ps w j)).map A4)∧G6 s.x 0∧s.next≤ps.length∧(∀i,i<s.next→ps.getD i 0<j)∧∀i,s.next≤i→i<ps.length→j≤ps.getD i 0
theorem Yx {ps:List Nat} (h:ps.Pairwise (·<·)) {i j:Nat} (hij:i<j) (hj:j<ps.length):ps.getD i 0<ps.getD j 0:=by
 rw[List.getD_eq_getElem?_getD,List.getD_eq_getElem?_getD,List.getElem?_eq_getElem hj,List.getElem?_eq_getElem (by omega)];exact List.pairwise_iff_getElem.1 h i j (by omega) hj hij
theorem Yh (m:List (List RR)) (hm:LbM m):Aj Tryz.prog 106 [Bc m] Ac.emp fun v mm=>v=.tup [Bc (Cj (Up m).2),.int .i64 (Up m).1]∧mm=Ac.emp:=by
 have hr:=Pa m hm;have hwid:=Vb m;by_cases h0:(Gd m).1=0
 ·have hck:chk m=0:=by
   by_cases h:chk m=0
   ·exact h
   ·unfold Gd at h0;rw[if_pos h]at h0;exact absurd h0 h
  have hK:Up m=(0,Je (Gd m).2.1 (Gd m).2.2 (Al m 0).length (Al m 0).length):=if_neg (by simp[h0]);obtain⟨h1,h2,h3,h4,h5⟩:=Qfp hm hck;have hcol:∃Y ps,Gd m=(0,Y,ps)∧K5 m.length (Al m 0).length (Al m 0).length (Y,ps)∧ps.Pairwise (·<·):=by
   unfold Gd at h0 ⊢;rw[if_neg (by simp[hck])]at h0 ⊢;cases hq:Er (Zh m)with
   |none=>rw[hq]at h0;exact absurd h0 (by simp)
   |some z =>
    have e0:(Al (Zh m) 0).length=(Al m 0).length:=by rw[Ms,List.length_map]
    have k1:=R7 (n:=m.length) (w:=(Al m 0).length) ⟨h2,e0 ▸ h3,Ky m⟩ hq;rw[e0]at k1;refine⟨z.1,z.2,rfl,k1,?_⟩;exact R8 (n:=m.length) (w:=(Al m 0).length) (z0:=(Zh m,[])) ⟨⟨h2,e0 ▸ h3,Ky m⟩,by simp,by simp,by simp⟩ (by simp) hq
  obtain⟨Y,ps,hred,⟨⟨y1,y2,y3⟩,y4,y5,y6⟩,y7⟩:=hcol;simp only at y1 y2 y3 y4 y5 y6;rw[hK];rw[hred]at hr ⊢;simp only at hr ⊢;have h5:(Al m 0).length≤64:=by rw[Ms,List.length_map]at h5;exact h5
  clear h1 h2 h3 hK;generalize hw:(Al m 0).length=w at *;have hvec:=Zs w (by omega);have hone:=Nw 1 (by omega) (by omega);have hzero:=Nw 0 (by omega) (by omega);rw[J0]at hone;rw[H4]at hzero;refine Ad Tryz.func106 rfl rfl 87 rfl (Nat.le_of_ble_eq_true rfl) ?_;(repeat refine AW.seq_k fun K hK=>?_);refine AW.rg ?_;simp[Ak];try (refine hK _ rfl ?_;clear hK K)
  (repeat refine AW.seq_k fun K hK=>?_);refine AW.rg ?_;simp;try (refine hK _ rfl ?_;clear hK K)
  refine Aa.val hr ?_;simp;refine hK _ rfl ?_;clear hK K;(repeat refine AW.seq_k fun K hK=>?_);refine AW.rg ?_;simp;try (refine hK _ rfl ?_;clear hK K)
  refine AW.no ?_ rfl;refine AW.skip ?_;try simp
  refine hK _ rfl ?_;clear hK K;(repeat refine AW.seq_k fun K hK=>?_);refine AW.rg ?_;simp;try (refine hK _ rfl ?_;clear hK K)
  refine Af.intro fun c hc=>?_;refine hK _ rfl ?_;clear hK K;(repeat refine AW.seq_k fun K hK=>?_);refine AW.rg ?_;simp;try (refine hK _ rfl ?_;clear hK K)
  (repeat refine AW.seq_k fun K hK=>?_);refine AW.rg ?_;simp;try (refine hK _ rfl ?_;clear hK K)
  refine AW.seq_ex (ι:=Ac × AV × AV × List Nat) (fun z=>[(7,.ptr c 1 0 0),(8,z.2.2.1)]) (fun z=>z.1) (fun z=>Jr z.1 c z.2.1 51 1 z.2.2.1 z.2.2.2 ((Cj (Je Y ps w w)).map A4)∧G6 z.2.1 0) ?_ ?_
  ·(repeat refine AW.seq_k fun K hK=>?_);refine AW.rg ?_;simp;try (refine hK _ rfl ?_;clear hK K)
   refine Aa.val hwid ?_;simp;refine hK _ rfl ?_;clear hK K;refine AW.block (AW.loopS (ι:=Nat × Qop) (fun z=>[(0,Bc m),(4,Bc (Cj Y)),(5,.sl 1 (Ar ps)),(7,.ptr c 1 0 0),(8,z.2.ov),(9,.int .i64 (z.2.next:Nat)),(26,.int .i64 w),(27,.int .i64 (z.1:Nat))]) (fun z=>z.2.M) (fun z=>z.1≤w∧Quu c Y ps w z.1 z.2) (fun z=>w-z.1) (0,⟨0,.agg [.int .i64 0],Ac.emp.set c ⟨118,1,[.agg [.int .i64 0]]⟩,.nil,[]⟩) ⟨by simp,Jr.start _ _ _ _,rfl,by simp,by simp,by simp⟩ rfl (by simp) ?_);rintro⟨j,next,x,M,ov,ob⟩ ⟨g1,g2,g3,g4,g5,g6⟩;simp only at g1 g2 g3 g4 g5 g6
   simp only;(repeat refine AW.seq_k fun K hK=>?_);refine AW.rg ?_;simp;try (refine hK _ rfl ?_;clear hK K)
   (repeat refine AW.seq ?_);refine AW.cs (fun hj=>?_) (fun hj=>?_) rfl<;>(try simp at hj)
   ·refine AW.skip ?_;try simp
    have w1:=Ap (j+1) (by omega);have w2:=Ap (next+1) (by omega);refine AW.seq_ex (ι:=Qop) (fun s=>[(0,Bc m),(4,Bc (Cj Y)),(5,.sl 1 (Ar ps)),(7,.ptr c 1 0 0),(8,s.ov),(9,.int .i64 (s.next:Nat)),(26,.int .i64 w),(27,.int .i64 (j:Nat))]) (fun s=>s.M) (fun s=>Quu c Y ps w (j+1) s) ?_ ?_
    ·(repeat refine AW.seq ?_);refine AW.block ?_;(repeat refine AW.seq_k fun K hK=>?_);refine AW.rg ?_;simp;try (refine hK _ rfl ?_;clear hK K)
     refine AW.seq_ex (ι:=Unit) (fun _=>[(0,Bc m),(4,Bc (Cj Y)),(5,.sl 1 (Ar ps)),(7,.ptr c 1 0 0),(8,ov),(9,.int .i64 (next:Nat)),(10,.int .i64 (j:Nat)),(26,.int .i64 w),(27,.int .i64 (j:Nat))]) (fun _=>M) (fun _=>j ∉ ps∧∀i,next≤i→i<ps.length→j+1≤ps.getD i 0) ?_ ?_
     ·by_cases hn:next<ps.length
      ·have hgn:ps.getD next 0=ps[next]:=by rw[List.getD_eq_getElem?_getD,List.getElem?_eq_getElem hn];rfl
       by_cases hp:ps[next]=j
       ·(repeat refine AW.seq_k fun K hK=>?_);refine AW.rg ?_;simp[hn,hp];try (refine hK _ rfl ?_;clear hK K)
        refine AW.yes ?_ rfl;(repeat refine AW.seq_k fun K hK=>?_);refine AW.rg ?_;simp[-Int.natCast_add,w2];try (refine hK _ rfl ?_;clear hK K)
        refine AW.exit ?_;try simp[-Int.natCast_add]
        have hmem:j∈ps:=by rw[←hp];exact List.getElem_mem hn
        rw[←hgn]at hp;refine⟨⟨next+1,x,M,ov,ob⟩,⟨?_,g3,hn,fun i hi=>?_,fun i hi hi2=>?_⟩,by simp⟩
        ·rw[P5,if_pos hmem];exact g2
        ·rcases Nat.lt_succ_iff_lt_or_eq.1 hi with h|rfl
         ·have:=g5 i h;omega
         ·omega
        ·have hi:next+1≤i:=hi;have:=Yx y7 (i:=next) (j:=i) (by omega) hi2;omega
       ·(repeat refine AW.seq_k fun K hK=>?_);refine AW.rg ?_;simp[hn,hp];try (refine hK _ rfl ?_;clear hK K)
        refine AW.no ?_ rfl;refine AW.skip ?_;try simp
        have hge:∀i,next≤i→i<ps.length→j+1≤ps.getD i 0:=fun i hi hi2=>by
         have h1:=g6 next (by omega) hn;rw[←hgn]at hp;rcases Nat.lt_or_eq_of_le hi with h | h
         ·have:=Yx y7 (i:=next) (j:=i) h hi2;omega
         ·subst h;omega
        refine⟨fun hm=>?_,hge⟩;obtain⟨i,hi,e⟩:=List.mem_iff_getElem.1 hm;have e:ps.getD i 0=j:=by rw[List.getD_eq_getElem?_getD,List.getElem?_eq_getElem hi];exact e
        rcases Nat.lt_or_ge i next with h|h
        ·have:=g5 i h;omega
        ·have:=hge i h hi;omega
      ·(repeat refine AW.seq_k fun K hK=>?_);refine AW.rg ?_;simp[hn];try (refine hK _ rfl ?_;clear hK K)
       refine AW.no ?_ rfl;refine AW.skip ?_;try simp
       refine⟨fun hm=>?_,fun i hi hi2=>by omega⟩;obtain⟨i,hi,e⟩:=List.mem_iff_getElem.1 hm;have e:ps.getD i 0=j:=by rw[List.getD_eq_getElem?_getD,List.getElem?_eq_getElem hi];exact e
       have:=g5 i (by omega);omega
     rintro _ ⟨hnm,hge⟩;(repeat refine AW.seq_k fun K hK=>?_);refine AW.rg ?_;simp;try (refine hK _ rfl ?_;clear hK K)
     refine Aa.val hwid ?_;simp;refine Aa.make hvec ?_;rintro bv _ _ ⟨rfl,rfl⟩ hbv _;simp;refine hK _ rfl ?_;clear hK K;obtain⟨nbc,nbo⟩:=g2.fresh hbv;(repeat refine AW.seq_k fun K hK=>?_);refine AW.rg ?_;simp;try (refine hK _ rfl ?_;clear hK K)
     refine Aa.val hone ?_;simp[hj];refine hK _ rfl ?_;clear hK K;generalize hv0:(List.replicate w (0:Rat)).set j 1=v0 at *;have hv0l:v0.length=w:=by rw[←hv0];simp
     have hv0e:(B5 (List.replicate w (A3 0))).set j (A3 1).av=B5 (v0.map A3):=by
      rw[Ko,←hv0,List.map_set,List.map_replicate]
     refine AW.seq_ex (ι:=AV) (fun x=>[(0,Bc m),(4,Bc (Cj Y)),(5,.sl 1 (Ar ps)),(7,.ptr c 1 0 0),(8,ov),(9,.int .i64 (next:Nat)),(10,.int .i64 (j:Nat)),(11,.osl bv 4 0 w),(26,.int .i64 w),(27,.int .i64 (j:Nat))]) (fun x=>(M.set c ⟨118,1,[x]⟩).set bv ⟨44,4,B5 ((J8 Y ps w j).map A3)⟩) (fun x=>G6 x 0) ?_ ?_
     ·(repeat refine AW.seq_k fun K hK=>?_);refine AW.rg ?_;simp;try (refine hK _ rfl ?_;clear hK K)
      refine AW.block (AW.loopS (ι:=Nat × AV) (fun z=>[(0,Bc m),(4,Bc (Cj Y)),(5,.sl 1 (Ar ps)),(7,.ptr c 1 0 0),(8,ov),(9,.int .i64 (next:Nat)),(10,.int .i64 (j:Nat)),(11,.osl bv 4 0 w),(26,.int .i64 w),(27,.int .i64 (j:Nat)),(51,.sl 1 (Ar ps)),(52,.int .i64 ps.length),(53,.int .i64 (z.1:Nat))]) (fun z=>(M.set c ⟨118,1,[z.2]⟩).set bv ⟨44,4,B5 ((Sq Y ps j z.1 v0).map A3)⟩) (fun z=>z.1≤ps.length∧G6 z.2 0) (fun z=>ps.length-z.1) (0,x) ⟨by simp,g3⟩ ?_ (by simp) ?_)
      ·show M.set bv _=(M.set c _).set bv _
       rw[Ac.set_self g2.cell];rw[Ko]at hv0e;rw[hv0e];rfl
      rintro⟨k,x⟩ ⟨q1,q2⟩;simp only at q1 q2;(repeat refine AW.seq_k fun K hK=>?_);refine AW.rg ?_;simp;try (refine hK _ rfl ?_;clear hK K)
      (repeat refine AW.seq ?_);refine AW.cs (fun hk=>?_) (fun hk=>?_) rfl<;>(try simp at hk)
      ·refine AW.skip ?_;try simp
       (repeat refine AW.seq ?_);refine AW.block ?_;(repeat refine AW.seq_k fun K hK=>?_);refine AW.rg ?_;simp[hk];try (refine hK _ rfl ?_;clear hK K)
       have hkY:k<Y.length:=by omega
       have hkE:k<(Cj Y).length:=by rw[Bm];exact hkY
       have hlk:(Al (Cj Y) k).length=w:=by rw[Cs,List.length_map];exact y2 k hkY
       have hjl:j<(Al Y k).length:=by rw[y2 k hkY];exact hj
       have hel:rr (Al (Cj Y) k) j=A3 (A5 Y k j):=by rw[Cs,K4 hjl];rfl
       have hgd:Cd (A5 Y k j):=y1.at hjl;obtain⟨n1,n2⟩:=Qja hgd;have hpk:ps.getD k 0=ps[k]:=by rw[List.getD_eq_getElem?_getD,List.getElem?_eq_getElem hk];rfl
       have hpw:ps[k]<w:=y6 _ (List.getElem_mem hk);have hlf:(Sq Y ps j k v0).length=w:=by rw[Hc,hv0l]
       have w3:=Ap (k+1) (by omega);(repeat refine AW.seq_k fun K hK=>?_);refine AW.rd [0,1,2,4,5,6,7,8,9,10,3,11,12,13] Ds ?_;simp[hkE,hlk,hj,hel];try (refine hK _ rfl ?_;clear hK K)
       refine Aa.val hzero ?_;simp;refine Qmb (c:=c) (x:=x) (e:=0) (a:=A3 0) (b:=A3 (A5 Y k j)) (by simp[Ne.symm nbc]) (by simp) q2 (Fj _) (Fj _) (fun _=>⟨Ef Xq,Ef hgd⟩) ?_;rw[Hg,Hg,n1,Me rfl];intro x' hx';simp[hpw,hlf,nbc];(repeat refine AW.seq_k fun K hK=>?_);refine AW.rg ?_;simp[-Int.natCast_add,w3];try (refine hK _ rfl ?_;clear hK K)
       refine⟨k+1,x',⟨hk,hx'⟩,by omega,?_,rfl⟩;rw[Vr (Ne.symm nbc)];rw[show Sq Y ps j (k+1) v0=(Sq Y ps j k v0).set (ps.getD k 0) (-(A5 Y k j)) from rfl,hpk,List.map_set]
      ·refine AW.exit ?_;try simp
       have:k=ps.length:=by omega
       subst this;exact⟨x,q2,by unfold J8;rw[hv0]⟩
     rintro x' hx';have g2':=g2.setE x';have hM':(M.set c ⟨118,1,[x']⟩) bv=none:=by simp only[A9];rw[if_neg nbc];exact hbv
     refine AW.turn [(0,Bc m),(4,Bc (Cj Y)),(5,.sl 1 (Ar ps)),(7,.ptr c 1 0 0),(8,ov),(9,.int .i64 (next:Nat)),(10,.int .i64 (j:Nat)),(11,A4 ((J8 Y ps w j).map A3)),(26,.int .i64 w),(27,.int .i64 (j:Nat))] (M.set c ⟨118,1,[x']⟩) (Bn.drop hM' (g2'.ones hx' ?_)) ?_ ?_
     ·intro v hv;obtain⟨r,_,rfl⟩:=List.mem_map.1 hv;rfl
     ·simp;exact Z6 (Ac.set_same _ _ _) hM' (by rw[List.length_map,Z1])
     have hfin:∀s:Qop,s.next=next→G6 s.x 0→Jr s.M c s.x 51 1 s.ov s.ob ((Cj (Je Y ps w j)).map A4++[A4 ((J8 Y ps w j).map A3)])→Quu c Y ps w (j+1) s:=by
      intro s h1 h2 h3;refine⟨?_,h2,by rw[h1];exact g4,fun i hi=>?_,by rw[h1];exact hge⟩
      ·rw[P5,if_neg hnm];simpa[Cj]using h3
      ·rw[h1]at hi;have:=g5 i hi;omega
     have hll:((Cj (Je Y ps w j)).map A4).length≤j:=by
      rw[List.length_map,Bm];unfold Je;rw[List.length_map];exact Nat.le_trans (List.length_filter_le _ _) (by simp)
     generalize(Cj (Je Y ps w j)).map A4=l at *;generalize M.set c ⟨118,1,[x']⟩=M' at *;rcases g2'.lst with⟨z1,z2,z3⟩ | ⟨b0,z2,z3,z4⟩
     ·subst z1 z2 z3;(repeat refine AW.seq_k fun K hK=>?_);refine AW.rgR [74] ?_;simp;try (refine hK _ rfl ?_;clear hK K)
      exact⟨by unfold maxLen;omega,Af.intro fun b hb=>⟨⟨next,x',_,_,[b]⟩,hfin _ rfl hx' (g2'.push0 hb _),rfl,rfl,rfl⟩⟩
     ·subst z2 z3;have hl2:l.length<2^40:=by omega
      (repeat refine AW.seq_k fun K hK=>?_);refine AW.rgR [74] ?_;simp[z4];try (refine hK _ rfl ?_;clear hK K)
      exact⟨by omega,by unfold maxLen;omega,Af.intro fun b hb=>⟨⟨next,x',_,_,[b]⟩,hfin _ rfl hx' (g2'.push1 hb _),rfl,rfl,rfl⟩⟩
    rintro⟨next,x,M,ov,ob⟩ hs;(repeat refine AW.seq_k fun K hK=>?_);refine AW.rg ?_;simp[-Int.natCast_add,w1];try (refine hK _ rfl ?_;clear hK K)
    exact⟨j+1,⟨next,x,M,ov,ob⟩,⟨hj,hs⟩,by omega,by simp⟩
   ·refine AW.exit ?_;try simp
    have:j=w:=by omega
    subst this;exact⟨x,⟨ob,g2⟩,g3⟩
  rintro⟨M,x,ov,ob⟩ ⟨g1,g2⟩;simp only at g1 g2;have hx:x.cells=[.int .i64 0]:=g2;(repeat refine AW.seq_k fun K hK=>?_);refine AW.rg ?_;simp[g1.cell,hx];try (refine hK _ rfl ?_;clear hK K)
  refine AW.no ?_ rfl;refine AW.skip ?_;try simp
  refine hK _ rfl ?_;clear hK K;(repeat refine AW.seq_k fun K hK=>?_);refine AW.rg ?_;simp;try (refine hK _ rfl ?_;clear hK K)
  have hv:=g1.lst.view (M':=Ac.emp) (fun _ _=>rfl);exact AW.ret (Ah [Bc (Cj (Je Y ps w w)),.int .i64 0] rfl ⟨hv,.same _,trivial⟩ ⟨rfl,rfl⟩)
 ·have hK:Up m=((Gd m).1,[]):=if_pos h0;rw[hK];generalize Gd m=z at *;obtain⟨e,Y,ps⟩:=z;simp only at h0 hr ⊢;refine Ad Tryz.func106 rfl rfl 87 rfl (Nat.le_of_ble_eq_true rfl) ?_;(repeat refine AW.seq_k fun K hK=>?_);refine AW.rg ?_;simp[Ak];try (refine hK _ rfl ?_;clear hK K)
  (repeat refine AW.seq_k fun K hK=>?_);refine AW.rg ?_;simp;try (refine hK _ rfl ?_;clear hK K)
  refine Aa.val hr ?_;simp;refine hK _ rfl ?_;clear hK K;(repeat refine AW.seq_k fun K hK=>?_);refine AW.rg ?_;simp[h0];try (refine hK _ rfl ?_;clear hK K)
  refine AW.yes ?_ rfl;(repeat refine AW.seq_k fun K hK=>?_);refine AW.rg ?_;simp;try (refine hK _ rfl ?_;clear hK K)
  exact AW.ret (Ah [Bc [],.int .i64 e] rfl ⟨.nilsl 1,.same _,trivial⟩ ⟨rfl,rfl⟩)
end Go.Av
end
section
namespace Go.Av
open Go.Proofs
def A7:Nat→(Nat→Rat)→Rat
 |0,_=>0
 |n+1,f=>A7 n f+f n
theorem Bo (n:Nat) (f:Nat→Rat):A7 (n+1) f=A7 n f+f n:=rfl
theorem Az {n:Nat} {f g:Nat→Rat} (h:∀i,i<n→f i=g i):A7 n f=A7 n g:=by
 induction n with
 |zero=>rfl
 |succ n ih=>rw[Bo,Bo,ih (fun i hi=>h i (by omega)),h n (by omega)]
theorem Fc {n:Nat} {f:Nat→Rat} (h:∀i,i<n→f i=0):A7 n f=0:=by
 induction n with
 |zero=>rfl
 |succ n ih=>rw[Bo,ih (fun i hi=>h i (by omega)),h n (by omega)];grind
theorem Gf (n:Nat) (f g:Nat→Rat):A7 n (fun i=>f i+g i)=A7 n f+A7 n g:=by
 induction n with
 |zero=>show(0:Rat)=0+0;grind
 |succ n ih=>rw[Bo,Bo,Bo,ih];grind
theorem Df (n:Nat) (c:Rat) (f:Nat→Rat):A7 n (fun i=>c*f i)=c*A7 n f:=by
 induction n with
 |zero=>show(0:Rat)=c*0;grind
 |succ n ih=>rw[Bo,Bo,ih];grind
theorem Bs {n k:Nat} {f:Nat→Rat} (hk:k<n) (h:∀i,i<n→i≠k→f i=0):A7 n f=f k:=by
 induction n with
 |zero=>omega
 |succ n ih =>
  rw[Bo];by_cases e:k=n
  ·subst e;rw[Fc fun i hi=>h i (by omega) (by omega)];grind
  ·rw[ih (by omega) fun i hi=>h i (by omega),h n (by omega) (fun h=>e h.symm)];grind
theorem Qa (n m:Nat) (f:Nat→Nat→Rat):A7 n (fun i=>A7 m (f i))=A7 m fun j=>A7 n fun i=>f i j:=by
 induction n with
 |zero=>exact(Fc fun _ _=>rfl).symm
 |succ n ih =>
  rw[Bo,ih,←Gf];rfl
def Cl (w:Nat) (r v:Nat→Rat):Rat:=A7 w fun l=>r l*v l
theorem E1 {w:Nat} {r r' v v':Nat→Rat} (h:∀l,l<w→r l=r' l) (h2:∀l,l<w→v l=v' l):Cl w r v=Cl w r' v':=Az fun l hl=>by rw[h l hl,h2 l hl]
theorem Qjr (w:Nat) (r s v:Nat→Rat) (c:Rat):Cl w (fun l=>r l-s l*c) v=Cl w r v-c*Cl w s v:=by
 unfold Cl;rw[←Df];have:A7 w (fun l=>(r l-s l*c)*v l)=A7 w (fun l=>r l*v l+(-1)*(c*(s l*v l))):=Az fun l _=>by grind
 rw[this,Gf,Df];grind
theorem Qag (w:Nat) (r v:Nat→Rat) (c:Rat):Cl w (fun l=>r l / c) v=Cl w r v / c:=by
 unfold Cl;have:A7 w (fun l=>r l / c*v l)=A7 w (fun l=>c⁻¹*(r l*v l)):=Az fun l _=>by grind
 rw[this,Df];grind
/-! ### Exact results -/
theorem Qog {a b c:Rat} (h:Db a b=some c):c=a-b:=by unfold Db at h;split at h<;>cases h;rfl
theorem Qo3 {a b c:Rat} (h:Ea a b=some c):c=a*b:=by unfold Ea at h;split at h<;>cases h;rfl
theorem Qgh {a b c:Rat} (h:Fo a b=some c):c=a / b:=by unfold Fo at h;split at h<;>cases h;rfl
theorem Qj2 {a f b c:Rat} (h:La a f b=some c):c=a-b*f:=by
 unfold La at h;cases hm:Ea b f with
 |none=>rw[hm]at h;cases h
 |some p=>rw[hm]at h;rw[Qog h,Qo3 hm]
theorem E7 {r:List Rat} {k:Nat} (hk:k<r.length) (x:Rat) (i:Nat):A2 (r.set k x) i=if i=k then x else A2 r i:=by
 unfold A2;rw[List.getD_eq_getElem?_getD,List.getElem?_set];by_cases e:k=i
 ·subst e;rw[if_pos rfl,if_pos hk,if_pos rfl];rfl
 ·rw[if_neg e,if_neg (Ne.symm e),←List.getD_eq_getElem?_getD]
theorem Pt {op:Rat→Nat→Option Rat} {f:Nat→List Rat→Option (List Rat)} {o:Nat} (hf:∀t r,f t r=Fu op (o+t) r):∀{n:Nat} {row row':List Rat},o+n≤row.length→A8 f n row=some row' →
  row'.length=row.length∧(∀k,k<n→op (A2 row (o+k)) (o+k)=some (A2 row' (o+k)))∧∀k,k<o∨o+n≤k→A2 row' k=A2 row k
 |0,row,row',_,h=>by cases h;exact⟨rfl,fun k hk=>by omega,fun _ _=>rfl⟩
 |n+1,row,row',hl,h=>by
  rw[C5]at h;cases hs:A8 f n row with
  |none=>rw[hs]at h;cases h
  |some u =>
   rw[hs]at h;obtain⟨h1,h2,h3⟩:=Pt hf (by omega) hs;replace h:f n u=some row':=h;rw[hf]at h;unfold Fu at h;cases ho:op (A2 u (o+n)) (o+n)with
   |none=>rw[ho]at h;cases h
   |some x =>
    rw[ho]at h;cases h;have hk:o+n<u.length:=by omega
    refine⟨by rw[List.length_set,h1],fun k hk'=>?_,fun k hk'=>?_⟩
    ·rw[E7 hk];by_cases e:k=n
     ·subst e;rw[if_pos rfl,←h3 (o+k) (by omega)];exact ho
     ·rw[if_neg (by omega)];exact h2 k (by omega)
    ·rw[E7 hk,if_neg (by omega)];exact h3 k (by omega)
theorem Y8 {M:List (List Rat)} {i:Nat} (hi:i<M.length) (r:List Rat) (a b:Nat):A5 (M.set i r) a b=if a=i then A2 r b else A5 M a b:=by
 unfold A5;rw[Hf hi];split<;>rfl
theorem Ph {M:List (List Rat)} {i r:Nat} (hi:i<M.length) (hr:r<M.length) (a b:Nat):A5 (Ca M i r) a b=if a=r then A5 M i b else if a=i then A5 M r b else A5 M a b:=by
 unfold A5;rw[J6 hi hr];split
 ·rfl
 ·split<;>rfl
theorem Xm {n w r j i:Nat} {M M':List (List Rat)} (h:Bu n w M) (hi:i<n) (he:Bt r j i M=some M'):M'.length=n∧∀a b,b<w→A5 M' a b=if a=i∧i≠r then A5 M a b-A5 M r b*A5 M a j else A5 M a b:=by
 unfold Bt at he;by_cases hc:i=r∨A5 M i j=0
 ·rw[if_pos hc]at he;cases he;refine⟨h.2.2,fun a b hb=>?_⟩;split
  ·rename_i hh
   rw[hh.1,hc.resolve_left hh.2];grind
  ·rfl
 ·rw[if_neg hc]at he;have hl:(Al M i).length=w:=(h.row hi).2;rw[hl]at he;cases hm:A8 (Es (Al M r) (A5 M i j)) w (Al M i)with
  |none=>rw[hm]at he;cases he
  |some row =>
   rw[hm]at he;cases he;obtain⟨k1,k2,k3⟩:=Pt (o:=0) (op:=fun q k=>La q (A5 M i j) (A2 (Al M r) k)) (fun t r=>by rw[Nat.zero_add];rfl) (by omega) hm;refine⟨by rw[List.length_set];exact h.2.2,fun a b hb=>?_⟩;rw[Y8 (by rw[h.2.2];exact hi)];by_cases e:a=i
   ·subst e;rw[if_pos rfl,if_pos ⟨rfl,fun h=>hc (.inl h)⟩];have:=k2 b hb;rw[Nat.zero_add]at this;exact Qj2 this
   ·rw[if_neg e,if_neg (fun h=>e h.1)]
theorem T4 {n w r j:Nat} {M Y:List (List Rat)} (h:Bu n w M) (hr:r<n) (hd:A5 M r j≠0) (hj:j<w) (he:Gk M j r=some Y):Bu n w Y∧∀a b,a<n→b<w→A5 Y a b=if a=r then A5 M r b / A5 M r j else A5 M a b-A5 M r b / A5 M r j*A5 M a j:=by
 refine⟨Us hr h hd he,?_⟩;unfold Gk at he;have hl:(Al M r).length=w:=(h.row hr).2;rw[hl]at he;cases hm:A8 (Ct (A5 M r j)) w (Al M r)with
 |none=>rw[hm]at he;cases he
 |some row =>
  rw[hm]at he;replace he:A8 (Bt r j) M.length (M.set r row)=some Y:=he;rw[h.2.2]at he;obtain⟨k1,k2,k3⟩:=Pt (o:=0) (op:=fun q _=>Fo q (A5 M r j)) (fun t r=>by rw[Nat.zero_add];rfl) (by omega) hm;have hrow:∀b,b<w→A2 row b=A5 M r b / A5 M r j:=fun b hb=>by
   have:=k2 b hb;rw[Nat.zero_add]at this;exact Qgh this
  have hg1:Bu n w (M.set r row):=h.set r (Js (p:=fun row=>Fv row∧row.length=w) (fun k s t hs hst=>Hs (fun q k x hx=>Pc hd hx) hs hst) (h.row hr) hm);have h1:∀a b,A5 (M.set r row) a b=if a=r then A2 row b else A5 M a b:=fun a b=>Y8 (by rw[h.2.2];exact hr) row a b
  have key:∀(i:Nat) (Z:List (List Rat)),i≤n→A8 (Bt r j) i (M.set r row)=some Z→Bu n w Z∧∀a b,b<w→A5 Z a b=if a=r then A2 row b else if a<i then A5 M a b-A2 row b*A5 M a j else A5 M a b:=by
   intro i
   induction i with
   |zero =>
    intro Z _ hZ;cases hZ;refine⟨hg1,fun a b _=>?_⟩;rw[h1,if_neg (show ¬a<0 by omega)]
   |succ i ih =>
    intro Z hi hZ;rw[C5]at hZ;cases hs:A8 (Bt r j) i (M.set r row)with
    |none=>rw[hs]at hZ;cases hZ
    |some U =>
     rw[hs]at hZ;obtain⟨g1,g2⟩:=ih U (by omega) hs;have hZ':Bt r j i U=some Z:=hZ;refine⟨Qc (by omega) g1 hZ',fun a b hb=>?_⟩;rw[(Xm g1 (by omega) hZ').2 a b hb];by_cases e:a=i∧i≠r
     ·obtain⟨rfl,e2⟩:=e;rw[if_pos ⟨rfl,e2⟩,if_neg e2,if_pos (by omega),g2 a b hb,g2 r b hb,g2 a j hj,if_neg e2,if_neg (by omega),if_pos rfl,if_neg e2,if_neg (by omega)]
     ·rw[if_neg e,g2 a b hb];by_cases e1:a=r
      ·rw[if_pos e1,if_pos e1]
      ·rw[if_neg e1,if_neg e1];by_cases e2:a<i
       ·rw[if_pos e2,if_pos (by omega)]
       ·rw[if_neg e2,if_neg];intro h3;exact e ⟨by omega,by omega⟩
  intro a b ha hb;rw[(key n Y (Nat.le_refl _) he).2 a b hb];by_cases e:a=r
  ·rw[if_pos e,if_pos e,hrow b hb]
  ·rw[if_neg e,if_neg e,if_pos ha,hrow b hb]
end Go.Av
end
section
namespace Go.Av
open Go.Proofs
theorem Un {n k l:Nat} {f:Nat→Rat} (hk:k<n) (hl:l<n) (hne:k≠l) (h:∀i,i<n→i≠k→i≠l→f i=0):A7 n f=f k+f l:=by
 have e:A7 n f=A7 n (fun i=>(if i=k then f k else 0)+if i=l then f l else 0):=Az fun i hi=>by
  by_cases h1:i=k
  ·subst h1;rw[if_pos rfl,if_neg hne];grind
  ·by_cases h2:i=l
   ·subst h2;rw[if_neg h1,if_pos rfl];grind
   ·rw[if_neg h1,if_neg h2,h i hi h1 h2];grind
 rw[e,Gf,Bs hk fun i _ h=>if_neg h,Bs hl fun i _ h=>if_neg h,if_pos rfl,if_pos rfl]
abbrev MF:=Nat→Nat→Rat
def Jz (i:Nat):Rat:=if i % 2=0 then 1 else -1
theorem Qg4 (i:Nat):Jz (i+1)=-Jz i:=by
 unfold Jz;by_cases h:i % 2=0
 ·rw[if_pos h,if_neg (by omega)]
 ·rw[if_neg h,if_pos (by omega)];grind
def Bp (i a:Nat):Nat:=if a<i then a else a+1
def Cf (i:Nat) (M:MF):MF:=fun a b=>M (Bp i a) (b+1)
def Cb:Nat→MF→Rat
 |0,_=>1
 |n+1,M=>A7 (n+1) fun i=>Jz i*M i 0*Cb n (Cf i M)
theorem Fx {n i a:Nat} (h:a<n):Bp i a<n+1:=by unfold Bp;split<;>omega
theorem Qga (i a:Nat):Bp i a≠i:=by unfold Bp;split<;>omega
theorem Bz:∀{n:Nat} {M M':MF},(∀a b,a<n→b<n→M a b=M' a b)→Cb n M=Cb n M'
 |0,_,_,_=>rfl
 |n+1,M,M',h=>Az fun i hi=>by
  rw[h i 0 hi (by omega),Bz (n:=n) (M:=Cf i M) (M':=Cf i M') fun a b ha hb=>h _ _ (Fx ha) (by omega)]
structure Oc (n:Nat) (F:MF→Rat):Prop where
 congr:∀{M M':MF},(∀a b,a<n→b<n→M a b=M' a b)→F M=F M'
 lin:∀{r:Nat} {c:Rat} {M U V:MF},r<n→(∀b,b<n→M r b=c*U r b+V r b)→(∀a b,a<n→b<n→a≠r→U a b=M a b)→(∀a b,a<n→b<n→a≠r→V a b=M a b)→F M=c*F U+F V
 alt:∀{r s:Nat} {M:MF},r<n→s<n→r≠s→(∀b,b<n→M r b=M s b)→F M=0
theorem Ju:∀{n:Nat} {r:Nat} {c:Rat} {M U V:MF},r<n→(∀b,b<n→M r b=c*U r b+V r b)→(∀a b,a<n→b<n→a≠r→U a b=M a b)→(∀a b,a<n→b<n→a≠r→V a b=M a b)→Cb n M=c*Cb n U+Cb n V
 |0,r,c,M,U,V,hr,_,_,_=>by omega
 |n+1,r,c,M,U,V,hr,h,hU,hV=>by
  show A7 (n+1) (fun i=>Jz i*M i 0*Cb n (Cf i M))=c*A7 (n+1) (fun i=>Jz i*U i 0*Cb n (Cf i U))+A7 (n+1) (fun i=>Jz i*V i 0*Cb n (Cf i V))
  rw[←Df,←Gf];refine Az fun i hi=>?_;by_cases e:i=r
  ·subst e;have e1:Cb n (Cf i U)=Cb n (Cf i M):=Bz fun a b ha hb=>hU _ _ (Fx ha) (by omega) (Qga i a);have e2:Cb n (Cf i V)=Cb n (Cf i M):=Bz fun a b ha hb=>hV _ _ (Fx ha) (by omega) (Qga i a);rw[e1,e2,h 0 (by omega)];grind
  ·have e1:Cb n (Cf i M)=c*Cb n (Cf i U)+Cb n (Cf i V):=by
    have hs:Bp i (if r<i then r else r-1)=r:=by
     by_cases q:r<i
     ·rw[if_pos q];exact if_pos q
     ·rw[if_neg q];unfold Bp;rw[if_neg (by omega)];omega
    refine Ju (r:=if r<i then r else r-1) (by split<;>omega) (fun b hb=>?_) (fun a b ha hb hne=>?_) (fun a b ha hb hne=>?_)
    ·show M (Bp i _) (b+1)=c*U (Bp i _) (b+1)+V (Bp i _) (b+1)
     rw[hs];exact h _ (by omega)
    ·refine hU _ _ (Fx ha) (by omega) fun e3=>hne ?_;unfold Bp at e3;split at e3<;>split<;>omega
    ·refine hV _ _ (Fx ha) (by omega) fun e3=>hne ?_;unfold Bp at e3;split at e3<;>split<;>omega
   rw[e1,hU i 0 hi (by omega) e,hV i 0 hi (by omega) e];grind
theorem T8:∀{n:Nat} {r:Nat} {M:MF},r+1<n→(∀b,b<n→M r b=M (r+1) b)→Cb n M=0
 |0,r,M,hr,_=>by omega
 |n+1,r,M,hr,h=>by
  show A7 (n+1) (fun i=>Jz i*M i 0*Cb n (Cf i M))=0
  rw[Un (k:=r) (l:=r+1) (by omega) hr (by omega) fun i hi h1 h2=>by
   have:Cb n (Cf i M)=0:=by
    refine T8 (r:=if i<r then r-1 else r) (by split<;>omega) fun b hb=>?_
    show M (Bp i _) (b+1)=M (Bp i _) (b+1)
    by_cases e:i<r
    ·rw[if_pos e];have e1:Bp i (r-1)=r:=by unfold Bp;split<;>omega
     have e2:Bp i (r-1+1)=r+1:=by unfold Bp;split<;>omega
     rw[e1,e2];exact h _ (by omega)
    ·rw[if_neg e];have e1:Bp i r=r:=by unfold Bp;split<;>omega
     have e2:Bp i (r+1)=r+1:=by unfold Bp;split<;>omega
     rw[e1,e2];exact h _ (by omega)
   rw[this];grind]
  have e:Cb n (Cf r M)=Cb n (Cf (r+1) M):=Bz fun a b ha hb=>by
   show M (Bp r a) (b+1)=M (Bp (r+1) a) (b+1)
   by_cases e:a=r
   ·subst e;have e1:Bp a a=a+1:=by unfold Bp;split<;>omega
    have e2:Bp (a+1) a=a:=by unfold Bp;split<;>omega
    rw[e1,e2];exact(h _ (by omega)).symm
   ·have e1:Bp r a=Bp (r+1) a:=by unfold Bp;split<;>split<;>omega
    rw[e1]
  rw[e,Qg4,h 0 (by omega)];grind
def Iq (M:MF) (r s:Nat):MF:=fun a b=>if a=r then M s b else if a=s then M r b else M a b
theorem Rk {n r s:Nat} {F:MF→Rat} (hr:r<n) (hs:s<n) (hne:r≠s) (congr:∀{M M':MF},(∀a b,a<n→b<n→M a b=M' a b)→F M=F M')
  (lin:∀{r:Nat} {c:Rat} {M U V:MF},r<n→(∀b,b<n→M r b=c*U r b+V r b)→(∀a b,a<n→b<n→a≠r→U a b=M a b)→(∀a b,a<n→b<n→a≠r→V a b=M a b)→F M=c*F U+F V)
  (alt:∀M:MF,(∀b,b<n→M r b=M s b)→F M=0) (M:MF):F (Iq M r s)=-F M:=by
 have W:=fun(x y:Nat→Rat) (a b:Nat)=>if a=r then x b else if a=s then y b else M a b
 let W:(Nat→Rat)→(Nat→Rat)→MF:=fun x y a b=>if a=r then x b else if a=s then y b else M a b
 let u:=M r
 let v:=M s
 let t:Nat→Rat:=fun b=>M r b+M s b
 have l1:∀z,F (W t z)=F (W u z)+F (W v z):=fun z=>by
  have:=lin (r:=r) (c:=1) (M:=W t z) (U:=W u z) (V:=W v z) hr (fun b _=>by simp only[W,if_pos,u,v,t];grind) (fun a b _ _ hn=>by simp only[W,if_neg hn]) (fun a b _ _ hn=>by simp only[W,if_neg hn]);rw[this];grind
 have l2:∀z,F (W z t)=F (W z u)+F (W z v):=fun z=>by
  have:=lin (r:=s) (c:=1) (M:=W z t) (U:=W z u) (V:=W z v) hs (fun b _=>by simp only[W,if_neg (Ne.symm hne),if_pos,u,v,t];grind) (fun a b _ _ hn=>by simp only[W,if_neg hn]) (fun a b _ _ hn=>by simp only[W,if_neg hn]);rw[this];grind
 have z:∀x,F (W x x)=0:=fun x=>alt _ fun b _=>by simp only[W,if_pos,if_neg (Ne.symm hne)]
 have e1:F (W u v)=F M:=congr fun a b _ _=>by
  simp only[W,u,v];by_cases h1:a=r
  ·rw[if_pos h1,h1]
  ·rw[if_neg h1];by_cases h2:a=s
   ·rw[if_pos h2,h2]
   ·rw[if_neg h2]
 have e2:F (W v u)=F (Iq M r s):=congr fun a b _ _=>rfl;have h1:=l1 t;rw[z t,l2 u,l2 v,z u,z v,e1,e2]at h1;grind
theorem Y6:∀{n:Nat} (k:Nat) {r:Nat} {M:MF},r+k+1<n→(∀b,b<n→M r b=M (r+k+1) b)→Cb n M=0
 |n,0,r,M,hr,h=>T8 hr h
 |n,k+1,r,M,hr,h=>by
  have hs:=Rk (F:=Cb n) (r:=r+k+1) (s:=r+k+2) (by omega) (by omega) (by omega) Bz Ju (fun M hM=>T8 (r:=r+k+1) (by omega) hM) M;have h0:Cb n (Iq M (r+k+1) (r+k+2))=0:=Y6 k (r:=r) (by omega) fun b hb=>by
   unfold Iq;rw[if_neg (by omega),if_neg (by omega),if_pos rfl];exact h b hb
  rw[h0]at hs;grind
theorem G7 (n:Nat):Oc n (Cb n) where
 congr:=Bz
 lin:=Ju
 alt:=fun {r s M} hr hs hne h=>by
  rcases Nat.lt_or_gt_of_ne hne with hl|hl
  ·exact Y6 (s-r-1) (r:=r) (by omega) fun b hb=>by rw[show r+(s-r-1)+1=s by omega];exact h b hb
  ·exact Y6 (r-s-1) (r:=s) (by omega) fun b hb=>by rw[show s+(r-s-1)+1=r by omega];exact(h b hb).symm
theorem Oc.swap {n:Nat} {F:MF→Rat} (h:Oc n F) {r s:Nat} (hr:r<n) (hs:s<n) (hne:r≠s) (M:MF):F (Iq M r s)=-F M :=
 Rk hr hs hne h.congr h.lin (fun M hM=>h.alt hr hs hne hM) M
def Qj:MF:=fun a b=>if a=b then 1 else 0
theorem Sw:∀n,Cb n Qj=1
 |0=>rfl
 |n+1=>by
  show A7 (n+1) (fun i=>Jz i*Qj i 0*Cb n (Cf i Qj))=1
  rw[Bs (k:=0) (by omega) fun i _ hi=>by unfold Qj;rw[if_neg hi];grind];rw[Bz (M':=Qj) fun a b ha hb=>by
   show Qj (Bp 0 a) (b+1)=Qj a b
   rw[show Bp 0 a=a+1 from if_neg (by omega)];unfold Qj;by_cases e:a=b
   ·rw[if_pos e,if_pos (by omega)]
   ·rw[if_neg e,if_neg (by omega)],Sw n]
  unfold Jz Qj;simp
def setF (M:MF) (r:Nat) (u:Nat→Rat):MF:=fun a b=>if a=r then u b else M a b
def eF (j:Nat):Nat→Rat:=fun b=>if b=j then 1 else 0
theorem Oc.sum {n:Nat} {F:MF→Rat} (h:Oc n F) {k:Nat} (hk:k<n) (M:MF):F M=A7 n fun j=>M k j*F (setF M k (eF j)):=by
 have key:∀t,F (setF M k fun b=>if b<t then M k b else 0)=A7 t fun j=>M k j*F (setF M k (eF j)):=by
  intro t
  induction t with
  |zero =>
   have:=h.lin (r:=k) (c:=1) (M:=setF M k fun b=>if b<0 then M k b else 0) (U:=setF M k fun b=>if b<0 then M k b else 0) (V:=setF M k fun b=>if b<0 then M k b else 0) hk (fun b _=>by unfold setF;rw[if_pos rfl];dsimp only;rw[if_neg (by omega)];grind) (fun _ _ _ _ _=>rfl) (fun _ _ _ _ _=>rfl);show _=(0:Rat)
   grind
  |succ t ih =>
   rw[Bo,←ih];have:=h.lin (r:=k) (c:=M k t) (M:=setF M k fun b=>if b<t+1 then M k b else 0) (U:=setF M k (eF t)) (V:=setF M k fun b=>if b<t then M k b else 0) hk (fun b _=>by
    unfold setF eF;rw[if_pos rfl,if_pos rfl,if_pos rfl]
    dsimp only
    by_cases e:b=t
    ·subst e;rw[if_pos (by omega),if_pos rfl,if_neg (by omega)];grind
    ·rw[if_neg e];by_cases e2:b<t
     ·rw[if_pos (by omega),if_pos e2];grind
     ·rw[if_neg (by omega),if_neg e2];grind) (fun a b _ _ hn=>by unfold setF;rw[if_neg hn,if_neg hn]) (fun a b _ _ hn=>by unfold setF;rw[if_neg hn,if_neg hn])
   rw[this];grind
 rw[←key n];refine h.congr fun a b _ hb=>?_;unfold setF;by_cases e:a=k
 ·rw[if_pos e];dsimp only;rw[if_pos hb,e]
 ·rw[if_neg e]
theorem Qj6:∀(m:Nat) (f:Nat→Nat),(∀i,i≤m→f i<m)→∃i j,i<j∧j≤m∧f i=f j
 |0,f,h=>by have:=h 0 (by omega);omega
 |m+1,f,h=>by
  by_cases e:∃i,i≤m∧f i=f (m+1)
  ·obtain⟨i,hi,he⟩:=e;exact⟨i,m+1,by omega,by omega,he⟩
  ·have hne:∀i,i≤m→f i≠f (m+1):=fun i hi he=>e ⟨i,hi,he⟩;obtain⟨i,j,h1,h2,h3⟩:=Qj6 m (fun i=>if f (m+1)<f i then f i-1 else f i) fun i hi=>by
    have:=h i (by omega);have:=h (m+1) (by omega);have:=hne i hi;split<;>omega
   refine⟨i,j,h1,by omega,?_⟩;have a1:=hne i (by omega);have a2:=hne j h2;split at h3<;>split at h3<;>omega
def M8 (c:Nat→Nat):MF:=fun a b=>if b=c a then 1 else 0
theorem Oc.unit {n:Nat} {F:MF→Rat} (h:Oc n F):∀(j k:Nat),k+j=n→∀c:Nat→Nat,(∀a,a<n→c a<n)→(∀r,r<k→c r=r)→F (M8 c)=F Qj*Cb n (M8 c)
 |0,k,hk,c,hc,hr=>by
  have e:∀a b,a<n→b<n→M8 c a b=Qj a b:=fun a b ha _=>by
   unfold M8 Qj;rw[hr a (by omega)];by_cases e:b=a
   ·rw[if_pos e,if_pos e.symm]
   ·rw[if_neg e,if_neg (Ne.symm e)]
  rw[h.congr e,Bz e,Sw];grind
 |j+1,k,hk,c,hc,hr=>by
  by_cases hex:∃s,k≤s∧s<n∧c s=k
  ·obtain⟨s,hs1,hs2,hs3⟩:=hex;by_cases e:s=k
   ·subst e;exact h.unit j (s+1) (by omega) c hc fun r hr'=>by
     by_cases e:r=s
     ·rw[e];exact hs3
     ·exact hr r (by omega)
   ·let c':Nat→Nat:=fun a=>if a=k then c s else if a=s then c k else c a
    have hsw:∀a b,a<n→b<n→M8 c a b=Iq (M8 c') k s a b:=fun a b _ _=>by
     unfold Iq M8;by_cases h1:a=k
     ·rw[if_pos h1];simp only[c',if_neg e,if_pos,h1]
     ·rw[if_neg h1];by_cases h2:a=s
      ·rw[if_pos h2];simp only[c',if_pos,h2]
      ·rw[if_neg h2];simp only[c',if_neg h1,if_neg h2]
    rw[h.congr hsw,Bz hsw,h.swap (by omega) hs2 (Ne.symm e),(G7 n).swap (by omega) hs2 (Ne.symm e),h.unit j (k+1) (by omega) c' (fun a ha=>by
     simp only[c'];split
     ·exact hc s hs2
     ·split
      ·exact hc k (by omega)
      ·exact hc a ha) (fun r hr'=>by
     simp only[c'];by_cases h1:r=k
     ·rw[if_pos h1,hs3,h1]
     ·rw[if_neg h1,if_neg (by omega)];exact hr r (by omega))]
    grind
  ·have hno:∀a,a<n→c a≠k:=fun a ha he=>by
    rcases Nat.lt_or_ge a k with h1|h1
    ·have:=hr a h1;omega
    ·exact hex ⟨a,h1,ha,he⟩
   obtain⟨p,q,h1,h2,h3⟩:=Qj6 (n-1) (fun a=>if k<c a then c a-1 else c a) fun a ha=>by
    have:=hc a (by omega);have:=hno a (by omega);split<;>omega
   have hpq:c p=c q:=by
    have:=hno p (by omega);have:=hno q (by omega);split at h3<;>split at h3<;>omega
   rw[h.alt (r:=p) (s:=q) (by omega) (by omega) (by omega) fun b _=>by unfold M8;rw[hpq],(G7 n).alt (r:=p) (s:=q) (by omega) (by omega) (by omega) fun b _=>by unfold M8;rw[hpq]];grind
theorem Oc.step {n:Nat} {F:MF→Rat} (h:Oc n F):∀k,k≤n→∀M:MF,(∀r,k≤r→r<n→∃c,c<n∧∀b,b<n→M r b=if b=c then 1 else 0)→F M=F Qj*Cb n M
 |0,_,M,hM=>by
  have hM':∀r,∃c,r<n→c<n∧∀b,b<n→M r b=if b=c then 1 else 0:=fun r=>by
   by_cases hr:r<n
   ·obtain⟨c,hc⟩:=hM r (by omega) hr;exact⟨c,fun _=>hc⟩
   ·exact⟨0,fun h=>absurd h hr⟩
  have e:∀a b,a<n→b<n→M a b=M8 (fun r=>(hM' r).choose) a b:=fun a b ha hb=>((hM' a).choose_spec ha).2 b hb;rw[h.congr e,Bz e];exact h.unit n 0 (by omega) _ (fun a ha=>((hM' a).choose_spec ha).1) fun r hr=>by omega
 |k+1,hk,M,hM=>by
  rw[h.sum (k:=k) (by omega) M,(G7 n).sum (k:=k) (by omega) M,←Df];refine Az fun j hj=>?_;rw[h.step k (by omega) (setF M k (eF j)) fun r hr hrn=>by
   by_cases e:r=k
   ·exact⟨j,hj,fun b _=>by unfold setF eF;rw[if_pos e]⟩
   ·obtain⟨c,h1,h2⟩:=hM r (by omega) hrn;exact⟨c,h1,fun b hb=>by unfold setF;rw[if_neg e];exact h2 b hb⟩]
  grind
theorem Oc.uniq {n:Nat} {F:MF→Rat} (h:Oc n F) (M:MF):F M=F Qj*Cb n M:=h.step n (Nat.le_refl _) M fun r h1 h2=>by omega
def Qdz (n:Nat) (A B:MF):MF:=fun i j=>A7 n fun k=>A i k*B k j
theorem Qju (n:Nat) (B:MF):Oc n fun A=>Cb n (Qdz n A B) where
 congr:=fun {M M'} h=>Bz fun a b ha hb=>Az fun k hk=>by rw[h a k ha hk]
 lin:=fun {r c M U V} hr h hU hV=>Ju hr (fun b hb=>by
  unfold Qdz;rw[←Df,←Gf];exact Az fun k hk=>by rw[h k hk];grind) (fun a b ha hb hn=>Az fun k hk=>by rw[hU a k ha hk hn]) (fun a b ha hb hn=>Az fun k hk=>by rw[hV a k ha hk hn])
 alt:=fun {r s M} hr hs hne h=>(G7 n).alt hr hs hne fun b hb=>Az fun k hk=>by rw[h k hk]
theorem Qkj (n:Nat) (A B:MF):Cb n (Qdz n A B)=Cb n A*Cb n B:=by
 have:=(Qju n B).uniq A;have e:Cb n (Qdz n Qj B)=Cb n B:=Bz fun a b ha hb=>by
  unfold Qdz;rw[Bs (k:=a) ha fun i _ hne=>by unfold Qj;rw[if_neg (Ne.symm hne)];grind];unfold Qj;rw[if_pos rfl];grind
 rw[this,e];grind
def Ss (M:MF):MF:=fun i j=>M j i
theorem Ws:∀{n:Nat} {r:Nat} {c:Rat} {M U V:MF},r<n→(∀a,a<n→M a r=c*U a r+V a r)→(∀a b,a<n→b<n→b≠r→U a b=M a b)→(∀a b,a<n→b<n→b≠r→V a b=M a b)→Cb n M=c*Cb n U+Cb n V
 |0,r,c,M,U,V,hr,_,_,_=>by omega
 |n+1,r,c,M,U,V,hr,h,hU,hV=>by
  show A7 (n+1) (fun i=>Jz i*M i 0*Cb n (Cf i M))=c*A7 (n+1) (fun i=>Jz i*U i 0*Cb n (Cf i U))+A7 (n+1) (fun i=>Jz i*V i 0*Cb n (Cf i V))
  rw[←Df,←Gf];refine Az fun i hi=>?_;by_cases e:r=0
  ·subst e;have e1:Cb n (Cf i U)=Cb n (Cf i M):=Bz fun a b ha hb=>hU _ _ (Fx ha) (by omega) (by omega);have e2:Cb n (Cf i V)=Cb n (Cf i M):=Bz fun a b ha hb=>hV _ _ (Fx ha) (by omega) (by omega);rw[e1,e2,h i hi];grind
  ·have e1:Cb n (Cf i M)=c*Cb n (Cf i U)+Cb n (Cf i V):=by
    refine Ws (r:=r-1) (by omega) (fun a ha=>?_) (fun a b ha hb hne=>hU _ _ (Fx ha) (by omega) (by omega)) (fun a b ha hb hne=>hV _ _ (Fx ha) (by omega) (by omega));show M (Bp i a) (r-1+1)=c*U (Bp i a) (r-1+1)+V (Bp i a) (r-1+1)
    rw[show r-1+1=r by omega];exact h _ (Fx ha)
   rw[e1,hU i 0 hi (by omega) (Ne.symm e),hV i 0 hi (by omega) (Ne.symm e)];grind
theorem Qls {n r s:Nat} {M:MF} (hr:r<n) (hs:s<n) (hne:r≠s) (h:∀a,a<n→M a r=M a s):Cb n M=0:=by
 have e:=Qkj n M (Iq Qj r s);rw[(G7 n).swap hr hs hne,Sw]at e;have e2:Cb n (Qdz n M (Iq Qj r s))=Cb n M:=Bz fun a b ha hb=>by
  unfold Qdz;by_cases e1:b=r
  ·rw[Bs (k:=s) hs fun i hi hn=>by
    unfold Iq Qj;by_cases q1:i=r
    ·rw[if_pos q1,if_neg (by omega)];grind
    ·rw[if_neg q1,if_neg hn,if_neg (by omega)];grind]
   unfold Iq Qj;rw[if_neg (Ne.symm hne),if_pos rfl,if_pos e1.symm,←h a ha,e1];grind
  ·by_cases e3:b=s
   ·rw[Bs (k:=r) hr fun i hi hn=>by
     unfold Iq Qj;rw[if_neg hn];by_cases q1:i=s
     ·rw[if_pos q1,if_neg (by omega)];grind
     ·rw[if_neg q1,if_neg (by omega)];grind]
    unfold Iq Qj;rw[if_pos rfl,if_pos e3.symm,h a ha,e3];grind
   ·rw[Bs (k:=b) hb fun i hi hn=>by
     unfold Iq Qj;by_cases q1:i=r
     ·rw[if_pos q1,if_neg (by omega)];grind
     ·rw[if_neg q1];by_cases q2:i=s
      ·rw[if_pos q2,if_neg (by omega)];grind
      ·rw[if_neg q2,if_neg hn];grind]
    unfold Iq Qj;rw[if_neg e1,if_neg e3,if_pos rfl];grind
 rw[e2]at e;grind
theorem Qnr (n:Nat):Oc n fun A=>Cb n (Ss A) where
 congr:=fun {M M'} h=>Bz fun a b ha hb=>h b a hb ha
 lin:=fun {r c M U V} hr h hU hV=>Ws hr (fun a ha=>h a ha) (fun a b ha hb hn=>hU b a hb ha hn) (fun a b ha hb hn=>hV b a hb ha hn)
 alt:=fun {r s M} hr hs hne h=>Qls hr hs hne fun a ha=>h a ha
theorem Oy (n:Nat) (A:MF):Cb n (Ss A)=Cb n A:=by
 have:=(Qnr n).uniq A;have e:Cb n (Ss Qj)=1:=by
  rw[←Sw n];exact Bz fun a b _ _=>by
   unfold Ss Qj;by_cases e:a=b
   ·rw[if_pos e,if_pos e.symm]
   ·rw[if_neg e,if_neg (Ne.symm e)]
 rw[this,e];grind
theorem Qcz {n r:Nat} {M Y:MF} (hr:r<n) (c:Rat) (hrow:∀b,b<n→Y r b=c*M r b) (h:∀a b,a<n→b<n→a≠r→Y a b=M a b):Cb n Y=c*Cb n M:=by
 have h0:Cb n (fun a b=>if a=r then 0 else M a b)=0:=by
  have:=Ju (n:=n) (r:=r) (c:=1) (M:=fun a b=>if a=r then 0 else M a b) (U:=fun a b=>if a=r then 0 else M a b) (V:=fun a b=>if a=r then 0 else M a b) hr (fun b _=>by simp only[if_pos];grind) (fun _ _ _ _ _=>rfl) (fun _ _ _ _ _=>rfl);grind
 have:=Ju (n:=n) (r:=r) (c:=c) (M:=Y) (U:=M) (V:=fun a b=>if a=r then 0 else M a b) hr (fun b hb=>by simp only[if_pos];rw[hrow b hb];grind) (fun a b ha hb hn=>(h a b ha hb hn).symm) (fun a b ha hb hn=>by simp only[if_neg hn];exact(h a b ha hb hn).symm);rw[this,h0];grind
end Go.Av
end
section
namespace Go.Av
open Go.Proofs
def Fg (n w:Nat) (M:List (List Rat)) (v:Nat→Rat):Prop:=∀i,i<n→Cl w (A5 M i) v=0
theorem Qg3 {n w:Nat} {M:List (List Rat)} {i r:Nat} (hM:M.length=n) (hi:i<n) (hr:r<n) (v:Nat→Rat):Fg n w (Ca M i r) v↔Fg n w M v:=by
 have e:∀a,Cl w (A5 (Ca M i r) a) v=if a=r then Cl w (A5 M i) v else if a=i then Cl w (A5 M r) v else Cl w (A5 M a) v:=fun a=>by
  have:A5 (Ca M i r) a=fun b=>if a=r then A5 M i b else if a=i then A5 M r b else A5 M a b:=funext fun b=>Ph (by omega) (by omega) a b
  rw[this];split
  ·rfl
  ·split<;>rfl
 constructor
 ·intro h a ha;by_cases e1:a=r
  ·by_cases e2:i=r
   ·have:=h r hr;rw[e,if_pos rfl,e2]at this;rw[e1];exact this
   ·have:=h i hi;rw[e,if_neg e2,if_pos rfl]at this;rw[e1];exact this
  ·by_cases e2:a=i
   ·have:=h r hr;rw[e,if_pos rfl]at this;rw[e2];exact this
   ·have:=h a ha;rw[e,if_neg e1,if_neg e2]at this;exact this
 ·intro h a ha;rw[e];split
  ·exact h i hi
  ·split
   ·exact h r hr
   ·exact h a ha
theorem Qew {n w r j:Nat} {M Y:List (List Rat)} (hr:r<n) (hd:A5 M r j≠0) (hs:∀a b,a<n→b<w→A5 Y a b=if a=r then A5 M r b / A5 M r j else A5 M a b-A5 M r b / A5 M r j*A5 M a j) (v:Nat→Rat):Fg n w Y v↔Fg n w M v:=by
 have e1:Cl w (A5 Y r) v=Cl w (A5 M r) v / A5 M r j:=by
  rw[←Qag];exact E1 (fun l hl=>by rw[hs r l hr hl,if_pos rfl]) fun _ _=>rfl
 have e2:∀a,a<n→a≠r→Cl w (A5 Y a) v=Cl w (A5 M a) v-A5 M a j*(Cl w (A5 M r) v / A5 M r j):=fun a ha hne=>by
  rw[←Qag,←Qjr];exact E1 (fun l hl=>by rw[hs a l ha hl,if_neg hne]) fun _ _=>rfl
 constructor
 ·intro h a ha;have h0:Cl w (A5 M r) v=0:=by have:=h r hr;rw[e1]at this;grind
  by_cases e:a=r
  ·rw[e];exact h0
  ·have:=h a ha;rw[e2 a ha e,h0]at this;grind
 ·intro h a ha;by_cases e:a=r
  ·subst e;rw[e1,h a ha];grind
  ·rw[e2 a ha e,h a ha,h r hr];grind
theorem Qhz {M:List (List Rat)} {j r:Nat} (h:Sk M j r=none):∀i,r≤i→i<M.length→A5 M i j=0:=by
 unfold Sk at h;rw[List.find?_eq_none]at h;intro i hr hi;have:=h i (List.mem_range.2 hi);simp[hr]at this;exact this
structure Hk (n w j:Nat) (M:List (List Rat)) (ps:List Nat):Prop where
 good:Bu n w M
 len:ps.length≤n
 srt:ps.Pairwise (·<·)
 lt:∀p∈ps,p<j
 one:∀k,k<ps.length→∀i,i<n→A5 M i (ps.getD k 0)=if i=k then 1 else 0
 zer:∀i,i<n→∀c,c<j→(i<ps.length→c<ps.getD i 0)→A5 M i c=0
theorem Gb {ps:List Nat} {k:Nat} (h:k<ps.length):ps.getD k 0∈ps:=by rw[List.getD_eq_getElem?_getD,List.getElem?_eq_getElem h];exact List.getElem_mem h
theorem H7 (ps:List Nat) (j k:Nat):(ps++[j]).getD k 0=if k<ps.length then ps.getD k 0 else if k=ps.length then j else 0:=by
 rw[List.getD_eq_getElem?_getD];by_cases h:k<ps.length
 ·rw[if_pos h,List.getElem?_append_left h,←List.getD_eq_getElem?_getD]
 ·rw[if_neg h,List.getElem?_append_right (by omega)];by_cases e:k=ps.length
  ·rw[if_pos e,e,Nat.sub_self];rfl
  ·rw[if_neg e,List.getElem?_eq_none (by simp;omega)];rfl
theorem Hk.start {n w:Nat} {M:List (List Rat)} (h:Bu n w M):Hk n w 0 M [] :=
 ⟨h,Nat.zero_le _,List.Pairwise.nil,fun p hp=>(by cases hp),fun k hk=>(by cases hk),fun i _ c hc=>by omega⟩
theorem Hk.step {n w j:Nat} {M:List (List Rat)} {ps:List Nat} (h:Hk n w j M ps) (hj:j<w) {z:List (List Rat) × List Nat} (he:Ch j (M,ps)=some z):Hk n w (j+1) z.1 z.2∧∀v,Fg n w z.1 v↔Fg n w M v:=by
 have hl:=h.good.2.2;unfold Ch at he;simp only at he;cases hp:Sk M j ps.length with
 |none =>
  rw[hp]at he;simp only[Option.some.injEq]at he;subst he;have h0:=Qhz hp;show Hk n w (j+1) M ps∧_
  refine⟨⟨h.good,h.len,h.srt,fun p hp=>by have:=h.lt p hp;omega,h.one,fun i hi c hc hcl=>?_⟩,fun _=>Iff.rfl⟩;by_cases e:c=j
  ·subst e;by_cases hil:i<ps.length
   ·have:=hcl hil;have:=h.lt _ (Gb hil);omega
   ·exact h0 i (by omega) (by omega)
  ·exact h.zer i hi c (by omega) hcl
 |some i0 =>
  rw[hp]at he;obtain⟨p1,p2,p3⟩:=Qu hp;rw[hl]at p1;have hr:ps.length<n:=by omega
  simp only at he;cases hc:Gk (Ca M i0 ps.length) j ps.length with
  |none=>rw[hc]at he;cases he
  |some Y =>
   rw[hc]at he;cases he;have hG:=h.good.swap p1 hr;have hsw:∀a b,A5 (Ca M i0 ps.length) a b=if a=ps.length then A5 M i0 b else if a=i0 then A5 M ps.length b else A5 M a b:=fun a b=>Ph (by omega) (by omega) a b
   have hd:A5 (Ca M i0 ps.length) ps.length j≠0:=by rw[hsw,if_pos rfl];exact p3
   obtain⟨hY,hs⟩:=T4 hG hr hd hj hc;refine⟨⟨hY,by simp;omega,?_,fun p hp=>?_,fun k hk i hi=>?_,fun i hi c hc hcl=>?_⟩,fun v=>?_⟩
   ·rw[List.pairwise_append];exact⟨h.srt,by simp,fun a ha b hb=>by simp at hb;subst hb;exact h.lt a ha⟩
   ·simp at hp;rcases hp with hp | rfl
    ·have:=h.lt p hp;omega
    ·omega
   ·rw[H7];by_cases hkl:k<ps.length
    ·rw[if_pos hkl];have hpj:=h.lt _ (Gb hkl);have o:=h.one k hkl;have z1:A5 (Ca M i0 ps.length) ps.length (ps.getD k 0)=0:=by rw[hsw,if_pos rfl,o i0 p1,if_neg (by omega)]
     rw[hs i _ hi (by omega),z1];by_cases e1:i=ps.length
     ·rw[if_pos e1,if_neg (by omega)];grind
     ·rw[if_neg e1,hsw,if_neg e1];by_cases e2:i=i0
      ·rw[if_pos e2,o _ hr,if_neg (by omega),if_neg (by omega)];grind
      ·rw[if_neg e2,o i hi];grind
    ·have hk2:k=ps.length:=by simp at hk;omega
     rw[if_neg hkl,if_pos hk2,hs i j hi hj];by_cases e1:i=ps.length
     ·rw[if_pos e1,if_pos (by omega)];grind
     ·rw[if_neg e1,if_neg (by omega)];grind
   ·have hcj:c<j∨c=j:=by omega
    have zr:c<j→A5 (Ca M i0 ps.length) ps.length c=0:=fun hc=>by
     rw[hsw,if_pos rfl];exact h.zer i0 p1 c hc (fun h=>by omega)
    rw[hs i c hi (by omega)];by_cases e1:i=ps.length
    ·have:c<j:=by
      have:=hcl (by simp;omega);rw[H7,if_neg (by omega),if_pos e1]at this;exact this
     rw[if_pos e1,zr this];grind
    ·rw[if_neg e1];rcases hcj with hcj | hcj
     ·rw[zr hcj,hsw,if_neg e1];have hz:i≠i0→A5 M i c=0:=fun hne=>h.zer i hi c hcj fun hil=>by
       have:=hcl (by simp;omega)
       rwa [H7,if_pos hil]at this
      by_cases e2:i=i0
      ·rw[if_pos e2,h.zer _ hr c hcj (fun h=>by omega)];grind
      ·rw[if_neg e2,hz e2];grind
     ·subst hcj;have:¬i<ps.length:=fun hil=>by
       have h1:=hcl (by simp;omega);rw[H7,if_pos hil]at h1;have:=h.lt _ (Gb hil);omega
      grind
   ·rw[Qew hr hd hs v,Qg3 hl p1 hr v]
end Go.Av
end
section
namespace Go.Av
open Go.Proofs
theorem Qs:∀{n k0:Nat} (g:Nat→Rat),k0≤n→A7 (n+1) g=g k0+A7 n fun k=>g (Bp k0 k)
 |0,k0,g,h=>by
  have:k0=0:=by omega
  subst this;show 0+g 0=g 0+0
  grind
 |n+1,k0,g,h=>by
  rw[Bo];by_cases e:k0=n+1
  ·subst e;rw[Az (f:=fun k=>g (Bp (n+1) k)) (g:=g) fun k hk=>by
    show g (Bp (n+1) k)=g k
    rw[show Bp (n+1) k=k from if_pos hk]]
   grind
  ·rw[Qs g (show k0≤n by omega),Bo];rw[show Bp k0 n=n+1 from if_neg (by omega)];grind
theorem O0:∀(m n:Nat) (A:Nat→Nat→Rat),m<n→∃u:Nat→Rat,(∃k,k<n∧u k≠0)∧∀i,i<m→A7 n (fun k=>A i k*u k)=0
 |0,n,A,h=>⟨fun k=>if k=0 then 1 else 0,⟨0,h,by dsimp only;rw[if_pos rfl];decide⟩,fun i hi=>by omega⟩
 |m+1,n,A,h=>by
  by_cases hz:∃k,k<n∧A m k≠0
  ·obtain⟨k0,hk0,hne⟩:=hz;obtain⟨u',⟨k1,hk1,hu1⟩,hu2⟩:=O0 m (n-1) (fun i k=>A i (Bp k0 k)-A i k0 / A m k0*A m (Bp k0 k)) (by omega)
   let c:Rat:=-(A7 (n-1) fun k=>A m (Bp k0 k)*u' k) / A m k0
   have hn:n=n-1+1:=by omega
   have hsk:∀k,(if Bp k0 k=k0 then c else u' (if Bp k0 k<k0 then Bp k0 k else Bp k0 k-1))=u' k:=fun k=>by
    by_cases q:k<k0
    ·rw[show Bp k0 k=k from if_pos q,if_neg (by omega),if_pos q]
    ·rw[show Bp k0 k=k+1 from if_neg q,if_neg (by omega),if_neg (by omega),Nat.add_sub_cancel]
   refine⟨fun k=>if k=k0 then c else u' (if k<k0 then k else k-1),⟨Bp k0 k1,by rw[hn];exact Fx hk1,by dsimp only;rw[hsk];exact hu1⟩,fun i hi=>?_⟩;have hsum:∀i,A7 n (fun k=>A i k*if k=k0 then c else u' (if k<k0 then k else k-1))=A i k0*c+A7 (n-1) fun k=>A i (Bp k0 k)*u' k:=fun i=>by
    conv=>lhs;rw[hn]
    rw[Qs (k0:=k0) _ (by omega),if_pos rfl]
    congr 1
    exact Az fun k _=>by rw[hsk]
   rw[hsum];by_cases e:i=m
   ·rw[e];simp only[c];grind
   ·have h3:=hu2 i (by omega);have h4:A7 (n-1) (fun k=>(A i (Bp k0 k)-A i k0 / A m k0*A m (Bp k0 k))*u' k)=A7 (n-1) (fun k=>A i (Bp k0 k)*u' k)+(-(A i k0 / A m k0))*A7 (n-1) (fun k=>A m (Bp k0 k)*u' k):=by
     rw[←Df,←Gf];exact Az fun k _=>by grind
    rw[h4]at h3;simp only[c];grind
  ·obtain⟨u,h1,h2⟩:=O0 m n A (by omega);refine⟨u,h1,fun i hi=>?_⟩;by_cases e:i=m
   ·subst e;exact Fc fun k hk=>by
     have:A i k=0:=Decidable.not_not.1 fun hne=>hz ⟨k,hk,hne⟩;rw[this];grind
   ·exact h2 i (by omega)
theorem Oc.comb {n:Nat} {F:MF→Rat} (h:Oc n F) {k:Nat} (hk:k<n) (u:Nat→Rat) (M:MF):F (setF M k fun b=>A7 n fun i=>u i*M i b)=u k*F M:=by
 have key:∀t,t≤n→F (setF M k fun b=>A7 t fun i=>u i*M i b)=A7 t fun i=>u i*F (setF M k (M i)):=by
  intro t
  induction t with
  |zero =>
   intro _;have:=h.lin (r:=k) (c:=1) (M:=setF M k fun b=>A7 0 fun i=>u i*M i b) (U:=setF M k fun b=>A7 0 fun i=>u i*M i b) (V:=setF M k fun b=>A7 0 fun i=>u i*M i b) hk (fun b _=>by
    unfold setF;rw[if_pos rfl];show(0:Rat)=1*0+0
    grind) (fun _ _ _ _ _=>rfl) (fun _ _ _ _ _=>rfl)
   show _=(0:Rat)
   grind
  |succ t ih =>
   intro ht;rw[Bo,←ih (by omega)];have:=h.lin (r:=k) (c:=u t) (M:=setF M k fun b=>A7 (t+1) fun i=>u i*M i b) (U:=setF M k (M t)) (V:=setF M k fun b=>A7 t fun i=>u i*M i b) hk (fun b _=>by
    unfold setF;rw[if_pos rfl,if_pos rfl,if_pos rfl]
    dsimp only
    rw[Bo];grind) (fun a b _ _ hn=>by unfold setF;rw[if_neg hn,if_neg hn]) (fun a b _ _ hn=>by unfold setF;rw[if_neg hn,if_neg hn])
   rw[this];grind
 rw[key n (Nat.le_refl _),Bs hk fun i hi hn=>by
  rw[h.alt (M:=setF M k (M i)) hk hi (Ne.symm hn) fun b _=>by unfold setF;rw[if_pos rfl,if_neg hn]];grind]
 congr 1
 exact h.congr fun a b _ _=>by
  unfold setF;by_cases e:a=k
  ·rw[if_pos e,e]
  ·rw[if_neg e]
theorem Qks {n:Nat} {T:MF} (h:Cb n T≠0) {u:Nat→Rat} (hu:∀i,i<n→Cl n (T i) u=0):∀k,k<n→u k=0:=by
 intro k hk;have h1:=(G7 n).comb hk u (Ss T);rw[Oy]at h1;have h2:Cb n (setF (Ss T) k fun b=>A7 n fun i=>u i*Ss T i b)=0:=by
  have:=Qcz (n:=n) (r:=k) (M:=setF (Ss T) k fun b=>A7 n fun i=>u i*Ss T i b) (Y:=setF (Ss T) k fun b=>A7 n fun i=>u i*Ss T i b) hk 0 (fun b hb=>by
   have e:(setF (Ss T) k fun b=>A7 n fun i=>u i*Ss T i b) k b=0:=by
    unfold setF;rw[if_pos rfl]
    dsimp only
    rw[←hu b hb];unfold Cl Ss;exact Az fun i _=>by grind
   rw[e];grind) (fun _ _ _ _ _=>rfl)
  grind
 rw[h2]at h1;rcases Rat.mul_eq_zero.1 h1.symm with h3 | h3
 ·exact h3
 ·exact absurd h3 h
theorem Qnq {w p:Nat} (R:Nat→Rat) {v:List Rat} (hp:p<w) (hv:p<v.length) (x:Rat):Cl w R (A2 (v.set p x))=Cl w R (A2 v)+R p*(x-A2 v p):=by
 have e1:Cl w R (A2 (v.set p x))=A7 w (fun l=>R l*A2 v l+if l=p then R p*(x-A2 v p) else 0):=Az fun l _=>by
  show R l*A2 (v.set p x) l=_
  rw[E7 hv];by_cases e:l=p
  ·subst e;rw[if_pos rfl,if_pos rfl];grind
  ·rw[if_neg e,if_neg e];grind
 rw[e1,Gf]
 congr 1
 rw[Bs hp fun i _ hne=>if_neg hne,if_pos rfl]
theorem P7 {Y:List (List Rat)} {ps:List Nat} {j:Nat} {v:List Rat} (hl:∀p∈ps,p<v.length) {p:Nat}:∀k,k≤ps.length→(∀i,i<k→ps.getD i 0≠p)→A2 (Sq Y ps j k v) p=A2 v p
 |0,_,_=>rfl
 |k+1,h,hp=>by
  show A2 ((Sq Y ps j k v).set (ps.getD k 0) (-(A5 Y k j))) p=A2 v p
  rw[E7 (by rw[Hc];exact hl _ (Gb (by omega))),if_neg (Ne.symm (hp k (by omega)))];exact P7 hl k (by omega) fun i hi=>hp i (by omega)
theorem Qfr {Y:List (List Rat)} {ps:List Nat} {j w:Nat} {v:List Rat} (R:Nat→Rat) (hv:v.length=w) (hs:ps.Pairwise (·<·)) (hl:∀p∈ps,p<w) (hz:∀p∈ps,A2 v p=0) :
  ∀k,k≤ps.length→Cl w R (A2 (Sq Y ps j k v))=Cl w R (A2 v)-A7 k fun i=>R (ps.getD i 0)*A5 Y i j
 |0,_=>by show Cl w R (A2 v)=Cl w R (A2 v)-0;grind
 |k+1,h=>by
  show Cl w R (A2 ((Sq Y ps j k v).set (ps.getD k 0) (-(A5 Y k j))))=_
  have hm:=Gb (ps:=ps) (k:=k) (by omega);rw[Qnq R (hl _ hm) (by rw[Hc,hv];exact hl _ hm),Qfr R hv hs hl hz k (by omega),Bo,
   P7 (fun p hp=>by rw[hv];exact hl p hp) k (by omega) (fun i hi=>by have:=Yx hs hi (show k<ps.length by omega);omega),hz _ hm]
  grind
theorem Hk.ker {n w:Nat} {Y:List (List Rat)} {ps:List Nat} (h:Hk n w w Y ps) {j:Nat} (hj:j<w) (hn:j ∉ ps):Fg n w Y (A2 (J8 Y ps w j)):=by
 intro i hi;have hv:((List.replicate w (0:Rat)).set j 1).length=w:=by simp
 have h0:∀p,A2 ((List.replicate w (0:Rat)).set j 1) p=if p=j then 1 else 0:=fun p=>by
  rw[E7 (by simpa using hj)];split
  ·rfl
  ·unfold A2;by_cases e:p<w
   ·rw[List.getD_eq_getElem?_getD,List.getElem?_replicate,if_pos e];rfl
   ·rw[List.getD_eq_getElem?_getD,List.getElem?_replicate,if_neg e];rfl
 have h1:Cl w (A5 Y i) (A2 ((List.replicate w (0:Rat)).set j 1))=A5 Y i j:=by
  unfold Cl;rw[Bs hj fun l _ hne=>by rw[h0,if_neg hne];grind,h0,if_pos rfl];grind
 unfold J8;rw[Qfr _ hv h.srt (fun p hp=>h.lt p hp) (fun p hp=>by rw[h0,if_neg (fun e=>hn (by rw[←e];exact hp))]) _ (Nat.le_refl _),h1];by_cases hil:i<ps.length
 ·rw[Bs hil fun k hk hne=>by rw[h.one k hk i hi,if_neg (Ne.symm hne)];grind,h.one i hil i hi,if_pos rfl];grind
 ·rw[Fc fun k hk=>by rw[h.one k hk i hi,if_neg (by omega)];grind,h.zer i hi j hj (fun h=>absurd h hil)];grind
theorem Qiw {ps:List Nat} (h:ps.Pairwise (·<·)) (j:Nat):(ps.filter (·<j+1)).length=(ps.filter (·<j)).length+if j∈ps then 1 else 0:=by
 induction ps with
 |nil=>rfl
 |cons p l ih =>
  rw[List.pairwise_cons]at h;have ih:=ih h.2;rcases Nat.lt_trichotomy p j with e | e | e
  ·rw[List.filter_cons_of_pos (by simp;omega),List.filter_cons_of_pos (by simp;omega),List.length_cons,List.length_cons,ih];have:(j∈p::l)↔j∈l:=by rw[List.mem_cons];exact⟨fun h=>h.resolve_left (by omega),.inr⟩
   simp only[this];omega
  ·subst e;have hn:p ∉ l:=fun hm=>by have:=h.1 p hm;omega
   rw[if_neg hn]at ih;rw[List.filter_cons_of_pos (by simp),List.filter_cons_of_neg (by simp),List.length_cons,ih,if_pos (by simp)]
  ·rw[List.filter_cons_of_neg (by simp;omega),List.filter_cons_of_neg (by simp;omega),ih];have:(j∈p::l)↔j∈l:=by rw[List.mem_cons];exact⟨fun h=>h.resolve_left (by omega),.inr⟩
   simp only[this]
theorem Xw {Y:List (List Rat)} {ps:List Nat} {w:Nat} (h:ps.Pairwise (·<·)):∀j,(Je Y ps w j).length+(ps.filter (·<j)).length=j
 |0=>by
  rw[show ps.filter (·<0)=[] by rw[List.filter_eq_nil_iff];intro a _;simp];rfl
 |j+1=>by
  have ih:=Xw (Y:=Y) (w:=w) h j;rw[P5,Qiw h];by_cases e:j∈ps
  ·rw[if_pos e,if_pos e];omega
  ·rw[if_neg e,if_neg e,List.length_append,List.length_singleton];omega
theorem Hk.count {n w:Nat} {Y:List (List Rat)} {ps:List Nat} (h:Hk n w w Y ps):(Je Y ps w w).length+ps.length=w:=by
 have:=Xw (Y:=Y) (w:=w) h.srt w
 rwa [List.filter_eq_self.2 fun p hp=>by simpa using h.lt p hp]at this
end Go.Av
end
section
namespace Go.Av
open Go.Proofs
def G5 (B:Nat) (q:Rat):Prop:=∃z:Int,q=(z:Rat)∧z.natAbs≤B
theorem S1 {A B:Nat} {a b:Rat} (ha:G5 A a) (hb:G5 B b):G5 (A*B) (a*b):=by
 obtain⟨x,rfl,hx⟩:=ha;obtain⟨y,rfl,hy⟩:=hb;exact⟨x*y,by rw[Rat.intCast_mul],by rw[Int.natAbs_mul];exact Nat.mul_le_mul hx hy⟩
theorem Qgn {A B:Nat} {a b:Rat} (ha:G5 A a) (hb:G5 B b):G5 (A+B) (a+b):=by
 obtain⟨x,rfl,hx⟩:=ha;obtain⟨y,rfl,hy⟩:=hb;exact⟨x+y,by rw[Rat.intCast_add],Nat.le_trans (Int.natAbs_add_le _ _) (Nat.add_le_add hx hy)⟩
theorem Qf1 {A:Nat} {a:Rat} (ha:G5 A a):G5 A (-a):=by
 obtain⟨x,rfl,hx⟩:=ha;exact⟨-x,by rw[Rat.intCast_neg],by rw[Int.natAbs_neg];exact hx⟩
theorem Pr {A B:Nat} {a b:Rat} (ha:G5 A a) (hb:G5 B b):G5 (A+B) (a-b):=by
 rw[Rat.sub_eq_add_neg];exact Qgn ha (Qf1 hb)
theorem Ei {A B:Nat} {a:Rat} (h:A≤B) (ha:G5 A a):G5 B a:=by
 obtain⟨x,h1,hx⟩:=ha;exact⟨x,h1,Nat.le_trans hx h⟩
theorem Pj (A:Nat):G5 A 0:=⟨0,rfl,by simp⟩
theorem Sy:G5 1 1:=⟨1,rfl,by simp⟩
theorem Yp {B:Nat} {f:Nat→Rat}:∀{n:Nat},(∀i,i<n→G5 B (f i))→G5 (n*B) (A7 n f)
 |0,_=>Pj _
 |n+1,h=>by
  rw[Bo,Nat.succ_mul];exact Qgn (Yp fun i hi=>h i (by omega)) (h n (by omega))
theorem Qoq (i:Nat):G5 1 (Jz i):=by
 unfold Jz;split
 ·exact Sy
 ·exact Qf1 Sy
def Qc5 (A:Nat):Nat→Nat
 |0=>1
 |k+1=>(k+1)*(A*Qc5 A k)
theorem Yu {A:Nat}:∀{k:Nat} {M:MF},(∀a b,a<k→b<k→G5 A (M a b))→G5 (Qc5 A k) (Cb k M)
 |0,M,_=>Sy
 |k+1,M,h=>by
  show G5 ((k+1)*(A*Qc5 A k)) (A7 (k+1) fun i=>Jz i*M i 0*Cb k (Cf i M))
  refine Yp fun i hi=>?_;have h1:=S1 (S1 (Qoq i) (h i 0 hi (by omega))) (Yu (k:=k) (M:=Cf i M) fun a b ha hb=>h _ _ (Fx ha) (by omega))
  rwa [Nat.one_mul]at h1
def Sz (K:Nat) (q:Rat):Prop:=q.num.natAbs≤K∧q.den≤K
theorem Wn {K:Nat} {n d:Int} (hn:n.natAbs≤K) (hd:d.natAbs≤K) (h0:d≠0):Sz K (Rat.divInt n d):=by
 have key:∀{n d:Int},n.natAbs≤K→d.natAbs≤K→0<d→Sz K (Rat.divInt n d):=by
  intro n d hn hd h0;refine⟨?_,?_⟩
  ·rw[Nn h0];exact Nat.le_trans (Int.natAbs_ediv_le_natAbs _ _) hn
  ·rw[Nm h0];exact Nat.le_trans (Nat.div_le_self _ _) hd
 rcases Int.lt_or_gt_of_ne h0 with h|h
 ·have:=key (n:=-n) (d:=-d) (by omega) (by omega) (by omega)
  rwa [Rat.neg_divInt_neg]at this
 ·exact key hn hd h
theorem Qfg {K:Nat} {z d:Rat} (hz:G5 K z) (hd:G5 K d) (h0:d≠0):Sz K (z / d):=by
 obtain⟨x,rfl,hx⟩:=hz;obtain⟨y,rfl,hy⟩:=hd;rw[←Rat.divInt_eq_div];exact Wn hx hy fun e=>h0 (by rw[e];rfl)
theorem P0 {K L:Nat} {q:Rat} (h:K≤L) (hq:Sz K q):Sz L q:=⟨Nat.le_trans hq.1 h,Nat.le_trans hq.2 h⟩
theorem Qrk {K L:Nat} {a b:Rat} (ha:Sz K a) (hb:Sz L b):Sz (K*L) (a*b):=by
 rw[Qeu];refine Wn (by rw[Int.natAbs_mul];exact Nat.mul_le_mul ha.1 hb.1) (by rw[Int.natAbs_mul];exact Nat.mul_le_mul ha.2 hb.2) ?_;have:=a.den_nz;have:=b.den_nz;exact Int.mul_ne_zero (by omega) (by omega)
theorem Qgx {K L:Nat} {a b:Rat} (ha:Sz K a) (hb:Sz L b) (h:K*L<Bh):Ea a b=some (a*b):=by
 unfold Ea;rw[if_pos];simp only[Bool.and_eq_true,Ce,Int.natAbs_mul,Int.natAbs_natCast];exact⟨Nat.lt_of_le_of_lt (Nat.mul_le_mul ha.1 hb.1) h,Nat.lt_of_le_of_lt (Nat.mul_le_mul ha.2 hb.2) h⟩
theorem Qgr {K L:Nat} {a b:Rat} (ha:Sz K a) (hb:Sz L b) (h:K*L<Bh):Fo a b=some (a / b):=by
 unfold Fo;rw[if_pos];simp only[Bool.and_eq_true,Ce,Int.natAbs_mul,Int.natAbs_natCast];exact⟨Nat.lt_of_le_of_lt (Nat.mul_le_mul ha.1 hb.2) h,Nat.lt_of_le_of_lt (Nat.mul_le_mul ha.2 hb.1) h⟩
theorem Wl {K L:Nat} {a b:Rat} (ha:Sz K a) (hb:Sz L b) (h:2*(K*L)<Bh):Db a b=some (a-b):=by
 have h1:=Nat.mul_le_mul ha.1 hb.2;have h2:=Nat.mul_le_mul ha.2 hb.1;have h3:=Nat.mul_le_mul ha.2 hb.2;have h4:=Int.natAbs_sub_le (a.num*b.den) (b.num*a.den);simp only[Int.natAbs_mul,Int.natAbs_natCast]at h4;rw[Nat.mul_comm b.num.natAbs]at h4;unfold Db;rw[if_pos];simp only[Bool.and_eq_true,Ce,Int.natAbs_mul,Int.natAbs_natCast];rw[Nat.mul_comm b.num.natAbs];generalize a.num.natAbs*b.den=p at *;generalize a.den*b.num.natAbs=q at *;generalize a.den*b.den=r at *;generalize K*L=s at *;omega
end Go.Av
end
section
namespace Go.Av
open Go.Proofs
theorem Tt (n:Nat) (f:Nat→Rat):A7 (n+1) f=f 0+A7 n fun k=>f (k+1):=by
 rw[Qs (k0:=0) f (by omega)];rfl
theorem Pb:∀(n:Nat) (f:Nat→Rat),A7 n f=A7 n fun i=>f (n-1-i)
 |0,f=>rfl
 |n+1,f=>by
  rw[Tt,Pb n (fun k=>f (k+1)),Bo];have e:A7 n (fun i=>f (n-1-i+1))=A7 n fun i=>f (n+1-1-i):=Az fun i hi=>by rw[show n-1-i+1=n+1-1-i by omega]
  rw[e,show n+1-1-n=0 by omega];grind
def Ig (X:List (List Rat)) (ps:List Nat) (σ:Nat→Nat):MF:=fun a b=>A5 X (σ (ps.length-1-a)) (ps.getD (ps.length-1-b) 0)
structure Pf (n w:Nat) (X M:List (List Rat)) (ps:List Nat) (σ:Nat→Nat):Prop where
 rep:∀a b,a<n→b<w→A5 X (σ a) b=(if a<ps.length then 0 else A5 M a b)+A7 ps.length fun m=>A5 X (σ a) (ps.getD m 0)*A5 M m b
 lt:∀a,a<n→σ a<n
 inj:∀a b,a<n→b<n→σ a=σ b→a=b
 det:Cb ps.length (Ig X ps σ)≠0
theorem Pf.start (n w:Nat) (M:List (List Rat)):Pf n w M M [] id where
 rep a b _ _:=by
  rw[if_neg (by simp)];show _=A5 M a b+0
  simp only[id];grind
 lt a h:=h
 inj a b _ _ h:=h
 det:=by show(1:Rat)≠0;decide
theorem Pf.step {n w j:Nat} {X M:List (List Rat)} {ps:List Nat} {σ:Nat→Nat} (h:Hk n w j M ps) (hB:Pf n w X M ps σ) (hj:j<w) {z:List (List Rat) × List Nat} (he:Ch j (M,ps)=some z):∃σ',Pf n w X z.1 z.2 σ':=by
 have hl:=h.good.2.2;unfold Ch at he;simp only at he;cases hp:Sk M j ps.length with
 |none =>
  rw[hp]at he;simp only[Option.some.injEq]at he;subst he;exact⟨σ,hB⟩
 |some i =>
  rw[hp]at he;simp only at he;obtain⟨q1,q2,_⟩:=Oh hp;rw[hl]at q1;simp only[Bool.and_eq_true,decide_eq_true_eq,Bool.not_eq_true',decide_eq_false_iff_not]at q2;obtain⟨Y,hY,rfl⟩:=Option.map_eq_some_iff.1 he;obtain⟨r,hr⟩:∃r,ps.length=r:=⟨_,rfl⟩;rw[hr]at hY q2;have hrn:r<n:=by omega
  have hM1:=h.good.swap q1 hrn;have hsw:∀a b,A5 (Ca M i r) a b=if a=r then A5 M i b else if a=i then A5 M r b else A5 M a b:=fun a b=>Ph (by omega) (by omega) a b
  have hd:A5 (Ca M i r) r j≠0:=by rw[hsw,if_pos rfl];exact q2.2
  obtain⟨_,hs⟩:=T4 hM1 hrn hd hj hY
  let τ:Nat→Nat:=fun a=>σ (if a=r then i else if a=i then r else a)
  have hτ:∀a,a<n→(if a=r then i else if a=i then r else a)<n:=fun a ha=>by split<;>(try split)<;>omega
  have rep1:∀a b,a<n→b<w→A5 X (τ a) b=(if a<r then 0 else A5 (Ca M i r) a b)+A7 r fun m=>A5 X (τ a) (ps.getD m 0)*A5 (Ca M i r) m b:=fun a b ha hb=>by
   have h1:=hB.rep (if a=r then i else if a=i then r else a) b (hτ a ha) hb;rw[hr]at h1;have h2:A7 r (fun m=>A5 X (τ a) (ps.getD m 0)*A5 (Ca M i r) m b)=A7 r fun m=>A5 X (τ a) (ps.getD m 0)*A5 M m b:=Az fun m hm=>by
    rw[hsw,if_neg (by omega),if_neg (by omega)]
   rw[h2];have h3:(if a<r then 0 else A5 (Ca M i r) a b)=if (if a=r then i else if a=i then r else a)<r then 0 else A5 M (if a=r then i else if a=i then r else a) b:=by
    by_cases e1:a=r
    ·subst e1;rw[if_neg (by omega),hsw,if_pos rfl,if_pos rfl,if_neg (by omega)]
    ·by_cases e2:a=i
     ·subst e2;rw[if_neg (by omega),hsw,if_neg e1,if_pos rfl,if_neg e1,if_pos rfl,if_neg (by omega)]
     ·rw[if_neg e1,if_neg e2,hsw,if_neg e1,if_neg e2]
   rw[h3];exact h1
  generalize Ca M i r=M1 at *;have hlen:(ps++[j]).length=r+1:=by simp[hr]
  have hgd:∀m,m<r→(ps++[j]).getD m 0=ps.getD m 0:=fun m hm=>by rw[H7,if_pos (by omega)]
  have hgr:(ps++[j]).getD r 0=j:=by rw[H7,if_neg (by omega),if_pos hr.symm]
  refine⟨τ,?_,fun a ha=>hB.lt _ (hτ a ha),fun a b ha hb hab=>?_,?_⟩
  ·intro a b ha hb;simp only;rw[hlen,Bo,hgr];have e1:A7 r (fun m=>A5 X (τ a) ((ps++[j]).getD m 0)*A5 Y m b)=A7 r (fun m=>A5 X (τ a) (ps.getD m 0)*A5 M1 m b)+(-(A5 M1 r b / A5 M1 r j))*A7 r (fun m=>A5 X (τ a) (ps.getD m 0)*A5 M1 m j):=by
    rw[←Df,←Gf];refine Az fun m hm=>?_;rw[hgd m hm,hs m b (by omega) hb,if_neg (by omega)];grind
   have r1:=rep1 a b ha hb;have r2:=rep1 a j ha hj;rw[e1,hs r b hrn hb,if_pos rfl];generalize A7 r (fun m=>A5 X (τ a) (ps.getD m 0)*A5 M1 m b)=S at *;generalize A7 r (fun m=>A5 X (τ a) (ps.getD m 0)*A5 M1 m j)=S' at *;rcases Nat.lt_trichotomy a r with hlt | heq | hgt
   ·rw[if_pos hlt]at r1 r2;rw[if_pos (by omega)];grind
   ·subst heq;rw[if_neg (by omega)]at r1 r2;rw[if_pos (by omega)];grind
   ·rw[if_neg (by omega)]at r1 r2;rw[if_neg (by omega),hs a b ha hb,if_neg (by omega)];grind
  ·have:=hB.inj _ _ (hτ a ha) (hτ b hb) hab
   revert this
   (repeat' split)<;>intro this<;>omega
  ·simp only;rw[hlen];have hP:∀a b,a<r+1→b<r+1→Ig X (ps++[j]) τ a b=A5 X (τ (r-a)) ((ps++[j]).getD (r-b) 0):=fun a b _ _=>by unfold Ig;rw[hlen];rfl
   let Q:MF:=fun a b=>if a=0 then (if b=0 then 1 else 0) else Ig X (ps++[j]) τ b a
   let u:Nat→Rat:=fun k=>if k=0 then A5 M1 r j else A5 M1 (r-k) j
   have hN:∀a b,a<r+1→b<r+1→Ss (Ig X (ps++[j]) τ) a b=setF Q 0 (fun b=>A7 (r+1) fun i=>u i*Q i b) a b:=fun a b ha hb=>by
    unfold setF;by_cases e:a=0
    ·subst e;rw[if_pos rfl];show Ig X (ps++[j]) τ b 0=A7 (r+1) fun i=>u i*Q i b
     rw[hP b 0 hb (by omega),Nat.sub_zero,hgr,Tt];have r2:=rep1 (r-b) j (by omega) hj;have e1:A7 r (fun k=>u (k+1)*Q (k+1) b)=A7 r fun m=>A5 X (τ (r-b)) (ps.getD m 0)*A5 M1 m j:=by
      rw[Pb r (fun m=>A5 X (τ (r-b)) (ps.getD m 0)*A5 M1 m j)];refine Az fun k hk=>?_;show A5 M1 (r-(k+1)) j*Ig X (ps++[j]) τ b (k+1)=_
      rw[hP b (k+1) hb (by omega),hgd _ (by omega),show r-(k+1)=r-1-k by omega];grind
     rw[e1,r2];show _=A5 M1 r j*(if b=0 then 1 else 0)+_
     by_cases eb:b=0
     ·subst eb;rw[if_neg (by omega),if_pos rfl,Nat.sub_zero];grind
     ·rw[if_pos (by omega),if_neg eb];grind
    ·rw[if_neg e];show Ig X (ps++[j]) τ b a=if a=0 then _ else _
     rw[if_neg e]
   rw[←Oy,Bz hN,(G7 (r+1)).comb (by omega) u Q,←Oy];have hQ:Cb (r+1) (Ss Q)=Cb r (Ig X ps σ):=by
    show A7 (r+1) (fun i=>Jz i*Ss Q i 0*Cb r (Cf i (Ss Q)))=_
    rw[Bs (k:=0) (by omega) fun i hi hne=>by
     show Jz i*(if i=0 then 1 else 0)*_=0
     rw[if_neg hne];grind]
    have e1:Cb r (Cf 0 (Ss Q))=Cb r (Ig X ps σ):=Bz fun a b ha hb=>by
     have e0:Cf 0 (Ss Q) a b=Ig X (ps++[j]) τ (Bp 0 a) (b+1):=by
      show(if b+1=0 then (if Bp 0 a=0 then (1:Rat) else 0) else Ig X (ps++[j]) τ (Bp 0 a) (b+1))=_
      exact if_neg (by omega)
     rw[e0,show Bp 0 a=a+1 from rfl,hP (a+1) (b+1) (by omega) (by omega),hgd _ (by omega)];unfold Ig;rw[hr,show r-(a+1)=r-1-a by omega,show r-(b+1)=r-1-b by omega];show A5 X (σ _) _=_
     rw[if_neg (by omega),if_neg (by omega)]
    rw[e1];show Jz 0*(if 0=0 then 1 else 0)*_=_
    rw[if_pos rfl,show Jz 0=1 from rfl];grind
   rw[hQ];have hdet:=hB.det;rw[hr]at hdet;intro h0;rcases Rat.mul_eq_zero.1 h0 with h1 | h1
   ·exact hd h1
   ·exact hdet h1
end Go.Av
end
section
namespace Go.Av
open Go.Proofs
theorem Pf.cramer {n w A:Nat} {X M:List (List Rat)} {ps:List Nat} {σ:Nat→Nat} (hB:Pf n w X M ps σ) (hn:ps.length≤n) (hps:∀p∈ps,p<w) (hA:∀a b,a<n→b<w→G5 A (A5 X a b)) :
  ∃d:Rat,d≠0∧G5 (Qc5 A ps.length) d∧∀m b,m<ps.length→b<w→G5 (Qc5 A ps.length) (A5 M m b*d):=by
 obtain⟨k,hk⟩:∃k,ps.length=k:=⟨_,rfl⟩;have hdet:=hB.det;rw[hk]at hdet hn ⊢;have hP:∀a b,Ig X ps σ a b=A5 X (σ (k-1-a)) (ps.getD (k-1-b) 0):=fun a b=>by unfold Ig;rw[hk]
 have hPI:∀a b,a<k→b<k→G5 A (Ig X ps σ a b):=fun a b ha hb=>by
  rw[hP];exact hA _ _ (hB.lt _ (by omega)) (hps _ (Gb (by omega)))
 refine⟨Cb k (Ig X ps σ),hdet,Yu hPI,fun m b hm hb=>?_⟩;have hc:=(G7 k).comb (k:=k-1-m) (by omega) (fun i=>A5 M (k-1-i) b) (Ss (Ig X ps σ));rw[Oy]at hc;rw[show k-1-(k-1-m)=m by omega]at hc;rw[←hc];refine Yu fun a c ha hcc=>?_;unfold setF;by_cases e:a=k-1-m
 ·rw[if_pos e];have hr:=hB.rep (k-1-c) b (by omega) hb;rw[hk,if_pos (by omega)]at hr;have e1:A7 k (fun i=>A5 M (k-1-i) b*Ss (Ig X ps σ) i c)=A5 X (σ (k-1-c)) b:=by
   rw[hr,Pb k (fun m=>A5 X (σ (k-1-c)) (ps.getD m 0)*A5 M m b)];have e2:A7 k (fun i=>A5 M (k-1-i) b*Ss (Ig X ps σ) i c)=A7 k fun i=>A5 X (σ (k-1-c)) (ps.getD (k-1-i) 0)*A5 M (k-1-i) b:=Az fun i hi=>by
    show _*Ig X ps σ c i=_
    rw[hP];grind
   rw[e2];grind
  show G5 A (A7 k fun i=>A5 M (k-1-i) b*Ss (Ig X ps σ) i c)
  rw[e1];exact hA _ _ (hB.lt _ (by omega)) hb
 ·rw[if_neg e];exact hPI c a hcc ha
theorem Pf.size {n w A:Nat} {X M:List (List Rat)} {ps:List Nat} {σ:Nat→Nat} (hB:Pf n w X M ps σ) (hn:ps.length≤n) (hps:∀p∈ps,p<w) (hA:∀a b,a<n→b<w→G5 A (A5 X a b)) (hA1:1≤A) {F:Nat} (hF:Qc5 A ps.length≤F) :
  ∃d:Rat,d≠0∧G5 ((ps.length+1)*(A*F)) d∧∀a b,a<n→b<w→G5 ((ps.length+1)*(A*F)) (A5 M a b*d):=by
 obtain⟨d,h0,h1,h2⟩:=hB.cramer hn hps hA;have hFA:F≤A*F:=Nat.le_mul_of_pos_left _ (by omega);have hK:A*F≤(ps.length+1)*(A*F):=Nat.le_mul_of_pos_left _ (by omega);refine⟨d,h0,Ei (Nat.le_trans hF (Nat.le_trans hFA hK)) h1,fun a b ha hb=>?_⟩;by_cases hlt:a<ps.length
 ·exact Ei (Nat.le_trans hF (Nat.le_trans hFA hK)) (h2 a b hlt hb)
 ·have hr:=hB.rep a b ha hb;rw[if_neg hlt]at hr;have e1:A5 M a b*d=A5 X (σ a) b*d-A7 ps.length fun m=>A5 X (σ a) (ps.getD m 0)*(A5 M m b*d):=by
   have e2:A7 ps.length (fun m=>A5 X (σ a) (ps.getD m 0)*(A5 M m b*d))=d*A7 ps.length fun m=>A5 X (σ a) (ps.getD m 0)*A5 M m b:=by
    rw[←Df];exact Az fun m _=>by grind
   rw[e2];grind
  rw[e1];have i1:=S1 (hA (σ a) b (hB.lt a ha) hb) (Ei hF h1);have i2:=Yp (B:=A*F) (n:=ps.length) (f:=fun m=>A5 X (σ a) (ps.getD m 0)*(A5 M m b*d)) fun m hm=>S1 (hA _ _ (hB.lt a ha) (hps _ (Gb hm))) (Ei hF (h2 m b hm hb));refine Ei ?_ (Pr i1 i2);rw[Nat.succ_mul];omega
theorem Kh {op:Rat→Nat→Option Rat} {f:Nat→List Rat→Option (List Rat)} (hf:∀t r,f t r=Fu op t r) {row:List Rat}:∀{n:Nat},n≤row.length→(∀k,k<n→op (A2 row k) k≠none)→A8 f n row≠none
 |0,_,_=>by simp[A8]
 |n+1,hl,h=>by
  rw[C5];cases hs:A8 f n row with
  |none=>exact absurd hs (Kh hf (by omega) fun k hk=>h k (by omega))
  |some u =>
   obtain⟨_,_,h3⟩:=Pt (o:=0) (fun t r=>by rw[hf,Nat.zero_add]) (by omega) hs;have e:=h3 n (.inr (by omega));show f n u≠none
   rw[hf];unfold Fu;rw[e];cases ho:op (A2 row n) n with
   |none=>exact absurd ho (h n (by omega))
   |some x=>simp
theorem Qef {n w r j K:Nat} {M:List (List Rat)} (h:Bu n w M) (hr:r<n) (hd:A5 M r j≠0) (hj:j<w) (hK:2*(K*(K*K*K))<Bh) (hs:∀a b,a<n→b<w→Sz K (A5 M a b)) (hs2:∀b,b<w→Sz K (A5 M r b / A5 M r j)):Gk M j r≠none:=by
 have hK1:1≤K:=Nat.le_trans (A5 M r j).den_pos (hs r j hr hj).2;have hKK:K*K≤K*(K*K*K):=Nat.mul_le_mul_left _ (Nat.le_trans (Nat.le_mul_of_pos_left K (by omega)) (Nat.le_mul_of_pos_right _ (by omega)));have hl:(Al M r).length=w:=(h.row hr).2;unfold Gk;rw[hl];have hdv:A8 (Ct (A5 M r j)) w (Al M r)≠none:=Kh (op:=fun q _=>Fo q (A5 M r j)) (fun t r=>rfl) (by omega) fun k hk=>by
  show Fo (A5 M r k) (A5 M r j)≠none
  rw[Qgr (hs r k hr hk) (hs r j hr hj) (by omega)];simp
 cases hm:A8 (Ct (A5 M r j)) w (Al M r)with
 |none=>exact absurd hm hdv
 |some row =>
  show A8 (Bt r j) M.length (M.set r row)≠none
  rw[h.2.2];obtain⟨k1,k2,k3⟩:=Pt (o:=0) (op:=fun q _=>Fo q (A5 M r j)) (fun t r=>by rw[Nat.zero_add];rfl) (by omega) hm;have hrow:∀b,b<w→A2 row b=A5 M r b / A5 M r j:=fun b hb=>by
   have:=k2 b hb;rw[Nat.zero_add]at this;exact Qgh this
  have hg1:Bu n w (M.set r row):=h.set r (Js (p:=fun row=>Fv row∧row.length=w) (fun k s t hs hst=>Hs (fun q k x hx=>Pc hd hx) hs hst) (h.row hr) hm);have h1:∀a b,A5 (M.set r row) a b=if a=r then A2 row b else A5 M a b:=fun a b=>Y8 (by rw[h.2.2];exact hr) row a b
  have key:∀i,i≤n→∃Z,A8 (Bt r j) i (M.set r row)=some Z∧Bu n w Z∧∀a b,(a=r∨i≤a)→b<w→A5 Z a b=if a=r then A2 row b else A5 M a b:=by
   intro i
   induction i with
   |zero =>
    intro _;exact⟨_,rfl,hg1,fun a b _ _=>h1 a b⟩
   |succ i ih =>
    intro hi;obtain⟨U,g0,g1,g2⟩:=ih (by omega);have hZ:Bt r j i U≠none:=by
     unfold Bt;by_cases hc:i=r∨A5 U i j=0
     ·rw[if_pos hc];simp
     ·rw[if_neg hc];have hil:(Al U i).length=w:=(g1.row (by omega)).2;have hir:i≠r:=fun e=>hc (.inl e);have hsub:A8 (Es (Al U r) (A5 U i j)) (Al U i).length (Al U i)≠none:=by
       rw[hil];refine Kh (op:=fun q k=>La q (A5 U i j) (A2 (Al U r) k)) (fun t r=>rfl) (by omega) fun k hk=>?_;have e1:A2 (Al U i) k=A5 M i k:=by
        have:=g2 i k (.inr (by omega)) hk;rw[if_neg hir]at this;exact this
       have e2:A5 U i j=A5 M i j:=by
        have:=g2 i j (.inr (by omega)) hj;rw[if_neg hir]at this;exact this
       have e3:A2 (Al U r) k=A5 M r k / A5 M r j:=by
        have:=g2 r k (.inl rfl) hk;rw[if_pos rfl,hrow k hk]at this;exact this
       show La (A2 (Al U i) k) (A5 U i j) (A2 (Al U r) k)≠none
       rw[e1,e2,e3];unfold La;have z1:=hs2 k hk;have z2:=hs i j (by omega) hj;have z3:=hs i k (by omega) hk;rw[Qgx z1 z2 (by omega),Option.bind_some,Wl z3 (Qrk z1 z2) (by
        have:K*(K*K)≤K*(K*K*K):=Nat.mul_le_mul_left _ (Nat.le_mul_of_pos_right _ (by omega));omega)]
       simp
      cases hq:A8 (Es (Al U r) (A5 U i j)) (Al U i).length (Al U i)with
      |none=>exact absurd hq hsub
      |some x=>simp
    cases hz:Bt r j i U with
    |none=>exact absurd hz hZ
    |some Z =>
     refine⟨Z,by rw[C5,g0];exact hz,Qc (by omega) g1 hz,fun a b ha hb=>?_⟩;rw[(Xm g1 (by omega) hz).2 a b hb,if_neg (by omega)];exact g2 a b (by omega) hb
  obtain⟨Z,hZ,_⟩:=key n (Nat.le_refl _);rw[hZ];simp
theorem Qrs:∀k,k<20→Qc5 256 k≤2^230:=by decide +kernel
structure Iv (n w:Nat) (X:List (List Rat)) (z:List (List Rat) × List Nat) (σ:Nat→Nat):Prop where
 rref:Hk n w w z.1 z.2
 null:∀v,Fg n w z.1 v↔Fg n w X v
 bare:Pf n w X z.1 z.2 σ
 size:∃d:Rat,d≠0∧G5 (2^244) d∧∀a b,a<n→b<w→G5 (2^244) (A5 z.1 a b*d)
theorem Pd {n w:Nat} {X:List (List Rat)} (hX:Bu n w X) (hn:n≤19) (hA:∀a b,a<n→b<w→G5 256 (A5 X a b)):∀j,j≤w →
  ∃z σ,A8 Ch j (X,[])=some z∧Hk n w j z.1 z.2∧(∀v,Fg n w z.1 v↔Fg n w X v)∧Pf n w X z.1 z.2 σ∧∃d:Rat,d≠0∧G5 (2^244) d∧∀a b,a<n→b<w→G5 (2^244) (A5 z.1 a b*d):=by
 have hsize:∀{M:List (List Rat)} {ps:List Nat} {σ:Nat→Nat},Pf n w X M ps σ→ps.length≤n→(∀p∈ps,p<w)→∃d:Rat,d≠0∧G5 (2^244) d∧∀a b,a<n→b<w→G5 (2^244) (A5 M a b*d):=fun {M ps σ} hB hl hps=>by
  obtain⟨d,h0,h1,h2⟩:=hB.size hl hps hA (by omega) (Qrs ps.length (by omega));have hle:(ps.length+1)*(256*2^230)≤2^244:=by
   have:(ps.length+1)*(256*2^230)≤20*(256*2^230):=Nat.mul_le_mul_right _ (by omega);refine Nat.le_trans this ?_;decide +kernel
  exact⟨d,h0,Ei hle h1,fun a b ha hb=>Ei hle (h2 a b ha hb)⟩
 intro j
 induction j with
 |zero =>
  intro _;refine⟨(X,[]),id,rfl,Hk.start hX,fun _=>Iff.rfl,Pf.start n w X,hsize (Pf.start n w X) (by simp) (by simp)⟩
 |succ j ih =>
  intro hj;obtain⟨⟨M,ps⟩,σ,h1,h2,h3,h4,d,d0,d1,d2⟩:=ih (by omega);have hq:∀a b,a<n→b<w→A5 M a b=A5 M a b*d / d:=fun a b _ _=>by grind
  have hsz:∀a b,a<n→b<w→Sz (2^244) (A5 M a b):=fun a b ha hb=>by
   rw[hq a b ha hb];exact Qfg (d2 a b ha hb) d1 d0
  have hst:Ch j (M,ps)≠none:=by
   unfold Ch;simp only;cases hp:Sk M j ps.length with
   |none=>simp
   |some i =>
    simp only;have hl:=h2.good.2.2;simp only at hl;obtain⟨q1,q2,_⟩:=Oh hp;rw[hl]at q1;simp only[Bool.and_eq_true,decide_eq_true_eq,Bool.not_eq_true',decide_eq_false_iff_not]at q2;have hrn:ps.length<n:=by omega
    have hsw:∀a b,A5 (Ca M i ps.length) a b=if a=ps.length then A5 M i b else if a=i then A5 M ps.length b else A5 M a b:=fun a b=>Ph (by omega) (by omega) a b
    have hd:A5 (Ca M i ps.length) ps.length j≠0:=by rw[hsw,if_pos rfl];exact q2.2
    have:=Qef (K:=2^244) (h2.good.swap q1 hrn) hrn hd (by omega) (by unfold Bh;decide +kernel) (fun a b ha hb=>by
     rw[hsw];split
     ·exact hsz i b q1 hb
     ·split
      ·exact hsz _ b hrn hb
      ·exact hsz a b ha hb) (fun b hb=>by
     rw[hsw,if_pos rfl,hsw,if_pos rfl];have e:A5 M i b / A5 M i j=A5 M i b*d / (A5 M i j*d):=by
      have hne:=q2.2;grind
     rw[e];exact Qfg (d2 i b q1 hb) (d2 i j q1 (by omega)) fun h0=>by
      rcases Rat.mul_eq_zero.1 h0 with h'|h'
      ·exact q2.2 h'
      ·exact d0 h')
    cases hc:Gk (Ca M i ps.length) j ps.length with
    |none=>exact absurd hc this
    |some Y=>simp
  cases hz:Ch j (M,ps)with
  |none=>exact absurd hz hst
  |some z =>
   obtain⟨g1,g2⟩:=h2.step (by omega) hz;obtain⟨τ,g3⟩:=h4.step h2 (by omega) hz;refine⟨z,τ,by rw[C5,h1];exact hz,g1,fun v=>(g2 v).trans (h3 v),g3,hsize g3 g1.len fun p hp=>by have:=g1.lt p hp;omega⟩
theorem Wr {n w:Nat} {X:List (List Rat)} (hX:Bu n w X) (hw:(Al X 0).length=w) (hn:n≤19) (hA:∀a b,a<n→b<w→G5 256 (A5 X a b)):∃z σ,Er X=some z∧Iv n w X z σ:=by
 obtain⟨z,σ,h1,h2,h3,h4,h5⟩:=Pd hX hn hA w (Nat.le_refl _);exact⟨z,σ,by unfold Er;rw[hw];exact h1,h2,h3,h4,h5⟩
end Go.Av
end
section
namespace Go.Av
open Go.Proofs
section
variable {n w:Nat} {X:List (List Rat)} {z:List (List Rat) × List Nat} {σ:Nat→Nat}
theorem Iv.indep (h:Iv n w X z σ) {c:Nat→Rat} (hc:∀b,b<w→A7 z.2.length (fun l=>c l*A5 X (σ l) b)=0):∀l,l<z.2.length→c l=0:=by
 intro l hl;obtain⟨r,hr⟩:∃r,z.2.length=r:=⟨_,rfl⟩;have hdet:=h.bare.det;rw[hr]at hdet hl hc;rw[←Oy]at hdet;have:=Qks hdet (u:=fun a=>c (r-1-a)) (fun b hb=>by
  have h1:=hc (z.2.getD (r-1-b) 0) (h.rref.lt _ (Gb (by omega)));rw[Pb]at h1;rw[←h1];unfold Cl Ss Ig;rw[hr];exact Az fun a ha=>by grind) (r-1-l) (by omega)
 rwa [show r-1-(r-1-l)=l by omega]at this
theorem Iv.rep (h:Iv n w X z σ) {a b:Nat} (ha:a<n) (hb:b<w):A5 X (σ a) b=A7 z.2.length fun m=>A5 X (σ a) (z.2.getD m 0)*A5 z.1 m b:=by
 have h1:=h.bare.rep a b ha hb;by_cases hlt:a<z.2.length
 ·rw[if_pos hlt]at h1;rw[h1];grind
 ·rw[if_neg hlt,h.rref.zer a ha b hb (fun h'=>absurd h' hlt)]at h1;rw[h1];grind
theorem Hk.inj {Y:List (List Rat)} {ps:List Nat} (h:Hk n w w Y ps) {v:Nat→Rat} (hv:Fg n w Y v) (h0:∀l,l<w→l ∉ ps→v l=0):∀l,l<w→v l=0:=by
 intro l hl;by_cases hm:l∈ps
 ·obtain⟨k,hk,rfl⟩:=List.getElem_of_mem hm;have hpk:ps.getD k 0=ps[k]:=by rw[List.getD_eq_getElem?_getD,List.getElem?_eq_getElem hk];rfl
  have h1:=hv k (Nat.lt_of_lt_of_le hk h.len);unfold Cl at h1;rw[Bs hl fun i hi hne=>by
   by_cases him:i∈ps
   ·obtain⟨k',hk',rfl⟩:=List.getElem_of_mem him;have hpk':ps.getD k' 0=ps[k']:=by rw[List.getD_eq_getElem?_getD,List.getElem?_eq_getElem hk'];rfl
    have h2:=h.one k' hk' k (Nat.lt_of_lt_of_le hk h.len);rw[hpk']at h2;rw[h2,if_neg (fun e=>hne (by subst e;rfl))];grind
   ·rw[h0 i hi him];grind]at h1
  have h2:=h.one k hk k (Nat.lt_of_lt_of_le hk h.len);rw[hpk,if_pos rfl]at h2;rw[h2]at h1;grind
 ·exact h0 l hl hm
def X4 (w:Nat) (ps:List Nat):List Nat:=(List.range w).filter fun i=>decide (i ∉ ps)
theorem Yj {ps:List Nat} {i:Nat}:i∈X4 w ps↔i<w∧i ∉ ps:=by simp[X4]
theorem Ks {Y:List (List Rat)} {ps:List Nat} (h:Hk n w w Y ps):(X4 w ps).length+ps.length=w:=by
 have:=h.count;unfold Je at this;rw[List.length_map]at this;exact this
theorem Hk.full {Y:List (List Rat)} {ps:List Nat} (h:Hk n w w Y ps) {v:Nat→Rat} (hv:Fg n w Y v) (hl:ps.length=w):∀l,l<w→v l=0:=by
 have hf:=Ks h;have h0:X4 w ps=[]:=List.length_eq_zero_iff.1 (by omega);refine h.inj hv fun l hl hm=>?_;have:l∈X4 w ps:=Yj.2 ⟨hl,hm⟩;rw[h0]at this;cases this
theorem Hk.few {Y:List (List Rat)} {ps:List Nat} (h:Hk n w w Y ps) {k:Nat} {V:Nat→Nat→Rat} (hV:∀i,i<k→Fg n w Y (V i)) (hi:∀c:Nat→Rat,(∀l,l<w→A7 k (fun i=>c i*V i l)=0)→∀i,i<k→c i=0):k+ps.length≤w:=by
 have hf:=Ks h;rcases Nat.lt_or_ge w (k+ps.length)with hlt | hge
 ·exfalso
  obtain⟨c,⟨i,hik,hne⟩,h2⟩:=O0 (X4 w ps).length k (fun m i=>V i ((X4 w ps).getD m 0)) (by omega);refine hne (hi c (fun l hl=>?_) i hik);refine h.inj (v:=fun l=>A7 k fun i=>c i*V i l) (fun a ha=>?_) (fun l hl hm=>?_) l hl
  ·have e:Cl w (A5 Y a) (fun l=>A7 k fun i=>c i*V i l)=A7 k fun i=>c i*Cl w (A5 Y a) (V i):=by
    unfold Cl;have e1:A7 w (fun l=>A5 Y a l*A7 k fun i=>c i*V i l)=A7 w fun l=>A7 k fun i=>A5 Y a l*(c i*V i l):=Az fun l _=>by rw[Df]
    rw[e1,Qa];refine Az fun i _=>?_;rw[←Df];exact Az fun l _=>by grind
   rw[e];exact Fc fun i hi'=>by rw[hV i hi' a ha];grind
  ·obtain⟨m,hm',e⟩:=List.getElem_of_mem (Yj.2 ⟨hl,hm⟩);have h3:=h2 m hm';rw[List.getD_eq_getElem?_getD,List.getElem?_eq_getElem hm']at h3;simp only[Option.getD_some,e]at h3;show A7 k (fun i=>c i*V i l)=0
   rw[←h3];exact Az fun i _=>by grind
 ·exact hge
theorem Qff {Y:List (List Rat)} {ps:List Nat} (h:Hk n w w Y ps) {j i:Nat} (hj:j<w) (hi:i<w) (him:i ∉ ps):A2 (J8 Y ps w j) i=if i=j then 1 else 0:=by
 unfold J8;rw[P7 (fun p hp=>by simp;exact h.lt p hp) ps.length (Nat.le_refl _) fun k hk e=>him (by rw[←e];exact Gb hk),E7 (by simpa using hj)];split
 ·rfl
 ·unfold A2;rw[List.getD_eq_getElem?_getD,List.getElem?_replicate];split<;>rfl
theorem Hk.many {Y:List (List Rat)} {ps:List Nat} (h:Hk n w w Y ps) {q:Nat} (hq:q+1+ps.length≤w) (P:Nat→Nat→Rat):∃v:Nat→Rat,Fg n w Y v∧(∃l,l<w∧v l≠0)∧∀i,i<q→Cl w (P i) v=0:=by
 have hf:=Ks h;have hg:∀m,m<q+1→∃j,(X4 w ps).getD m 0=j∧j<w∧j ∉ ps:=fun m hm=>by
  have hm':m<(X4 w ps).length:=by omega
  refine⟨_,rfl,?_⟩;have:=List.getElem_mem hm';rw[List.getD_eq_getElem?_getD,List.getElem?_eq_getElem hm'];exact Yj.1 this
 have hnd:(X4 w ps).Nodup:=List.nodup_range.filter _;obtain⟨c,⟨m,hm,hne⟩,h2⟩:=O0 q (q+1) (fun i m=>Cl w (P i) (A2 (J8 Y ps w ((X4 w ps).getD m 0)))) (by omega);have lin:∀R:Nat→Rat,Cl w R (fun l=>A7 (q+1) fun m=>c m*A2 (J8 Y ps w ((X4 w ps).getD m 0)) l)=A7 (q+1) fun m=>c m*Cl w R (A2 (J8 Y ps w ((X4 w ps).getD m 0))):=fun R=>by
  unfold Cl;have e1:A7 w (fun l=>R l*A7 (q+1) fun m=>c m*A2 (J8 Y ps w ((X4 w ps).getD m 0)) l)=A7 w fun l=>A7 (q+1) fun m=>R l*(c m*A2 (J8 Y ps w ((X4 w ps).getD m 0)) l):=Az fun l _=>by rw[Df]
  rw[e1,Qa];refine Az fun i _=>?_;rw[←Df];exact Az fun l _=>by grind
 refine⟨fun l=>A7 (q+1) fun m=>c m*A2 (J8 Y ps w ((X4 w ps).getD m 0)) l,fun a ha=>?_,?_,fun i hi=>?_⟩
 ·rw[lin];refine Fc fun m hm=>?_;obtain⟨j,hj,j1,j2⟩:=hg m hm;rw[hj,h.ker j1 j2 a ha];grind
 ·obtain⟨j,hj,j1,j2⟩:=hg m hm;refine⟨j,j1,?_⟩;show A7 (q+1) (fun m=>c m*A2 (J8 Y ps w ((X4 w ps).getD m 0)) j)≠0
  rw[Bs hm fun i hi' hne'=>by
   obtain⟨j',hj',j1',j2'⟩:=hg i hi';show c i*A2 (J8 Y ps w ((X4 w ps).getD i 0)) j=0
   rw[hj',Qff h j1' j1 j2,if_neg]
   ·grind
   ·intro e;rw[←hj,←hj']at e;have hm1:m<(X4 w ps).length:=by omega
    have hi1:i<(X4 w ps).length:=by omega
    rw[List.getD_eq_getElem?_getD,List.getD_eq_getElem?_getD,List.getElem?_eq_getElem hm1,List.getElem?_eq_getElem hi1]at e;simp only[Option.getD_some]at e;rcases Nat.lt_or_ge m i with h' | h'
    ·exact List.pairwise_iff_getElem.1 hnd m i hm1 hi1 h' e
    ·exact List.pairwise_iff_getElem.1 hnd i m hi1 hm1 (by omega) e.symm]
  rw[hj,Qff h j1 j1 j2,if_pos rfl];grind
 ·rw[lin,←h2 i hi];exact Az fun m _=>by grind
end
end Go.Av
end
section
namespace Go.Av
section
variable {P:Program} {cf:D7} {ops:Array Oper}
def Qap (ro:Nat→Bool) (o:Oper):Bool:=match o.op,o.dst with
 |.buildSlice _ _ _,some d=>ro d
 |_,_=>false
theorem Qln {o:Oper} (h:Qap cf.ro o=true) (s:St):∃(C:Prop) (v:AV),∀(m:Ac) (k:AV→Ac→Prop),Ew P cf o {s with m:=m} k↔C∧k v m:=by
 unfold Qap at h;split at h
 ·rename_i t len parts d ho hd
  have hev:∀(m:Ac) (x:Operand),({s with m:=m}:St).ev x=s.ev x:=fun m x=>by cases x<;>rfl
  by_cases hc:∃ti e te,Ai P t=some ti∧ti.cls=.slice e∧Ai P e=some te∧0<te.size∧len*te.size≤16777216 ∧
   parts.toList.map (·.1)=List.range len∧((parts.toList.map fun(p:Nat × Operand)=>s.ev p.2).all fun v=>v.cells.length==te.size&&v.cells.all AV.one)=true
  ·obtain⟨ti,e,te,c1,c2,c3,c4,c5,c6,c7⟩:=hc;refine⟨True,.sl te.size (parts.toList.map fun(p:Nat × Operand)=>s.ev p.2),fun m k=>?_⟩;unfold Ew;simp only[ho,hd,h,if_true,hev,true_and];constructor
   ·rintro⟨ti',e',te',d1,d2,d3,d4,d5,d6,d7,d8⟩;rw[c1]at d1;cases d1;rw[c2]at d2;cases d2;rw[c3]at d3;cases d3;exact d8
   ·intro hk;exact⟨ti,e,te,c1,c2,c3,c4,c5,c6,c7,hk⟩
  ·refine⟨False,.any,fun m k=>⟨fun hk=>?_,fun hk=>hk.1.elim⟩⟩;unfold Ew at hk;simp only[ho,hd,h,if_true,hev]at hk;obtain⟨ti,e,te,d1,d2,d3,d4,d5,d6,d7,d8⟩:=hk;exact absurd ⟨ti,e,te,d1,d2,d3,d4,d5,d6,d7⟩ hc
 ·cases h
theorem Qib {o:Oper} (h:Qap cf.ro o=true) (s:St):∃(C:Prop) (v:AV),∀(m:Ac) (k:AV→Ac→Prop),C8 P cf ops o {s with m:=m} k↔C∧k v m:=by
 rcases Ih (P:=P) (cf:=cf) (ops:=ops) o s with c|c|c
 ·obtain⟨C,v,e⟩:=Qln (P:=P) h s;exact⟨C,v,fun m k=>(c m k).trans (e m k)⟩
 ·exact⟨True,.tup [],fun m k=>by rw[c];simp⟩
 ·exact⟨False,.any,fun m k=>⟨fun hk=>(c m k hk).elim,fun hk=>hk.1.elim⟩⟩
theorem Qix {o1 o2:Oper} (h1:Qap cf.ro o1=true) (s:St) (m0:Ac) (k:AV→AV→Ac→Prop)
  (h:C8 P cf ops o1 {s with m:=m0} fun v1 m1=>C8 P cf ops o2 {s with m:=m1} fun v2 m2=>k v1 v2 m2) :
  C8 P cf ops o2 {s with m:=m0} fun v2 m2=>C8 P cf ops o1 {s with m:=m2} fun v1 m1=>k v1 v2 m1:=by
 obtain⟨C,v,e⟩:=Qib (P:=P) (ops:=ops) h1 s;rw[e]at h;exact Br (fun v2 m2 hk=>(e m2 _).2 ⟨h.1,hk⟩) h.2
def O3 (P:Program) (ro:Nat→Bool) (q:Hv) (ops:Array Oper) (j i:Nat):Bool :=
 match ops[j]?,ops[i]? with
 |some oj,some oi=>oj.apart ops oi&&((Bl oj).comm (Bl oi)&&(Bl oj != .z || zOk P ro oj)&&(Bl oi != .z || zOk P ro oi) || Uo q oj oi || Qap ro oj)
 |_,_=>false
theorem Qkz (hdm:cf.dm=true) {q:Hv} {blk:Nat→Nat} (hdst:∀(i:Nat) (o:Oper),ops[i]?=some o→K1 q o=true) {i:Nat} {K:St→Prop}:∀(R1 R2:List Nat) (s:St),J1 q blk cf.av s→(∀j∈R1,O3 P cf.ro q ops j i=true)→Cg P cf ops (R1++i::R2) K s→Cg P cf ops (i::(R1++R2)) K s
 |[],R2,s,_,_,h=>h
 |j::R1,R2,s,hsep,hp,h=>by
  have hj:=hp j (by simp);unfold O3 at hj;simp only[List.cons_append]at h ⊢;unfold Cg at h;split at h
  ·rename_i oj hoj
   simp only[hoj]at hj;cases hoi:ops[i]? with
   |none=>simp[hoi]at hj
   |some oi =>
    simp only[hoi,Bool.and_eq_true,Bool.or_eq_true,bne_iff_ne]at hj;obtain⟨p1,p2⟩:=hj;have h2:Cm P cf ops oj (Cm P cf ops oi (Cg P cf ops (R1++R2) K)) s:=by
     refine Br (fun v m hk=>?_) (hsep.step (hdst j oj hoj) h);have:=Qkz hdm hdst R1 R2 _ hk.1 (fun j' hj'=>hp j' (by simp[hj'])) hk.2;unfold Cg at this;simpa only[hoi]using this
    have h3:Cm P cf ops oi (Cm P cf ops oj (Cg P cf ops (R1++R2) K)) s:=by
     rcases p2 with(⟨⟨p2,p3⟩,p4⟩|p2)|p2
     ·exact W8 hdm p1 p2 (fun e=>p3.resolve_left (fun h=>h e)) (fun e=>p4.resolve_left (fun h=>h e)) h2
     ·exact L9 p1 (fun k hk=>Z5 hdm p2 hsep s.m k hk) h2
     ·exact L9 p1 (fun k hk=>Qix p2 s s.m k hk) h2
    unfold Cg;simp only[hoi];refine Br (fun v m hk=>?_) h3;unfold Cg;simpa only[hoj]using hk
  ·exact h.elim
def Mq (P:Program) (ro:Nat→Bool) (q:Hv) (ops:Array Oper) (plan:List Nat):Bool :=
 ops.toList.all (K1 q)&&(
 (List.range ops.size).all (fun i=>plan.contains i)&&plan.all (fun i=>Nat.blt i ops.size)&&decide (plan.Nodup∧plan.length≤ops.size) &&
 (plan.zipIdx.all fun(i,k)=>(plan.take k).all fun j=>!Ic ops ops.size j i&&(Ic ops ops.size i j || O3 P ro q ops j i)) &&
 ops.toList.zipIdx.all fun(o,i)=>o.after.toList.all fun e=>!Region.binds .any e || (Nat.blt e.on ops.size&&e.on != i))
theorem Yv (hdm:cf.dm=true) {q:Hv} {blk:Nat→Nat} {plan:List Nat} (hp:Mq P cf.ro q ops plan=true) {K:St→Prop}:∀(fuel:Nat) (listed:Array Bool) (s:St),J1 q blk cf.av s→listed.size=ops.size→Mu ops listed →
  (plan.filter fun i=>!listed.getD i true).length≤fuel→Cg P cf ops (plan.filter fun i=>!listed.getD i true) K s→Mx P cf ops K fuel listed s:=by
 unfold Mq at hp;simp only[Bool.and_eq_true]at hp;obtain⟨p0,⟨⟨⟨p1,p2⟩,p3⟩,p4⟩,p5⟩:=hp;have hdst:∀(i:Nat) (o:Oper),ops[i]?=some o→K1 q o=true:=fun i o ho=>List.all_eq_true.1 p0 o (List.mem_of_getElem? (by rw[Array.getElem?_toList];exact ho));have hnd:plan.Nodup:=(of_decide_eq_true p3).1;have hall:∀i,i<ops.size→i∈plan:=fun i hi=>by
  have:=List.all_eq_true.1 p1 i (List.mem_range.2 hi);simpa using this
 have hlt:∀i∈plan,i<ops.size:=fun i hi=>by
  have:=List.all_eq_true.1 p2 i hi;simpa[Nat.blt_eq]using this
 have hpair:∀R1 R2 i,plan=R1++i::R2→∀j∈R1,Ic ops ops.size j i=false∧(Ic ops ops.size i j=true∨O3 P cf.ro q ops j i=true):=by
  intro R1 R2 i hpl j hj;have h1:=List.all_eq_true.1 p4 (i,R1.length) (by
   rw[List.mem_iff_getElem?];refine⟨R1.length,?_⟩;rw[List.getElem?_zipIdx,hpl];simp)
  have h2:=List.all_eq_true.1 h1 j (by simp[hpl,hj]);simpa using h2
 have hedge:∀i o,ops[i]?=some o→∀e∈o.after.toList,Region.binds .any e=true→e.on<ops.size∧e.on≠i:=by
  intro i o ho e he hb;have h1:=List.all_eq_true.1 p5 (o,i) (by
   rw[List.mem_iff_getElem?];refine⟨i,?_⟩;rw[List.getElem?_zipIdx,Array.getElem?_toList,ho];simp)
  have h2:=List.all_eq_true.1 h1 e he;simpa[hb,Nat.blt_eq]using h2
 -- with nothing ready all has been done
 have hdone:∀(listed:Array Bool),listed.size=ops.size→Region.ready .any ops listed=[]→(plan.filter fun i=>!listed.getD i true)=[]:=by
  intro listed hsz hr;cases hf:plan.filter fun i=>!listed.getD i true with
  |nil=>rfl
  |cons h rest =>
   exfalso
   have hmem:h∈plan.filter fun i=>!listed.getD i true:=by rw[hf];simp
   have hh:=List.mem_filter.1 hmem;have hready:h∈Region.ready .any ops listed:=by
    rw[D6];refine⟨hlt h hh.1,by simpa using hh.2,fun o ho e he hb=>?_⟩;obtain⟨e1,e2⟩:=hedge h o ho e he hb
    -- what is needed stands ahead in the plan
    cases hl:listed.getD e.on false with
    |true=>rfl
    |false =>
     exfalso
     have hl':listed.getD e.on true=false:=by
      rw[Array.getD_eq_getD_getElem?,Array.getElem?_eq_getElem (by rw[hsz];exact e1)]at hl ⊢;exact hl
     have hin:e.on∈plan.filter fun i=>!listed.getD i true:=List.mem_filter.2 ⟨hall _ e1,by simp[hl']⟩;rw[hf]at hin;have hin2:e.on∈rest:=by
      rcases List.mem_cons.1 hin with q|q
      ·exact absurd q e2
      ·exact q
     -- h stands ahead of e.on in the plan,yet needs it
     obtain⟨A,B,hAB⟩:=List.append_of_mem hin2;have hsub:List.Sublist (h::e.on::[]) plan:=by
      have s1:List.Sublist (h::e.on::[]) (h::rest):=by
       rw[hAB];exact List.Sublist.cons_cons h ((List.Sublist.cons_cons e.on (List.nil_sublist B)).trans (List.sublist_append_right A _))
      rw[←hf]at s1;exact s1.trans List.filter_sublist
     obtain⟨R1,R2,q1⟩:=List.append_of_mem (hall _ e1);have hin1:h∈R1:=by
      rw[q1]at hsub hnd;have:=hnd;rw[List.nodup_append]at this;obtain⟨n1,n2,n3⟩:=this;rcases List.sublist_append_iff.1 hsub with⟨l1,l2,hl12,s1,s2⟩
      cases l1 with
      |cons x xs =>
       have:x=h:=by simp at hl12;exact hl12.1.symm
       subst this;exact s1.subset (by simp)
      |nil =>
       simp at hl12;subst hl12;have hn2:=List.nodup_cons.1 n2;rcases List.sublist_cons_iff.1 s2 with s3 | ⟨r,hr',s3⟩
       ·exact absurd (s3.subset (by simp)) hn2.1
       ·simp at hr';obtain⟨hh1,hh2⟩:=hr';exact absurd hh1.symm (by intro q;exact e2 q)
     have:=(hpair R1 R2 e.on q1 h hin1).1;have hreach:Ic ops ops.size h e.on=true:=by
      have hpos:0<ops.size:=by omega
      obtain⟨f,hf'⟩:∃f,ops.size=f+1:=⟨ops.size-1,by omega⟩;rw[hf'];unfold Ic;rw[ho];simp only[Bool.or_eq_true,List.any_eq_true];exact .inl ⟨e,he,by simp[hb]⟩
     rw[hreach]at this;cases this
   rw[hr]at hready;cases hready
 intro fuel
 induction fuel with
 |zero =>
  intro listed s hsep hsz hc hle hk;have hnil:(plan.filter fun i=>!listed.getD i true)=[]:=List.eq_nil_of_length_eq_zero (by omega);refine⟨?_,by rw[hnil]at hk;exact hk⟩;cases hr:Region.ready .any ops listed with
  |nil=>rfl
  |cons i rest =>
   exfalso
   have hi:i∈Region.ready .any ops listed:=by rw[hr];simp
   rw[D6]at hi;have:i∈plan.filter fun i=>!listed.getD i true:=List.mem_filter.2 ⟨hall i hi.1,by simp[hi.2.1]⟩;rw[hnil]at this;cases this
 |succ fuel ih =>
  intro listed s hsep hsz hc hle hk;refine⟨fun hr=>by rw[hdone listed hsz hr]at hk;exact hk,fun i hi=>?_⟩;have hi':=D6.1 hi;have hin:i∈plan.filter fun i=>!listed.getD i true:=List.mem_filter.2 ⟨hall i hi'.1,by simp[hi'.2.1]⟩;obtain⟨R1,R2,hR⟩:=List.append_of_mem hin;have hpass:∀j∈R1,O3 P cf.ro q ops j i=true:=by
   intro j hj;have hjf:j∈plan.filter fun i=>!listed.getD i true:=by rw[hR];simp[hj]
   have hjl:=List.mem_filter.1 hjf
   -- j stands ahead of i in the plan
   have hsub:List.Sublist (j::i::[]) plan:=by
    have s1:List.Sublist (j::i::[]) (R1++i::R2):=by
     obtain⟨A,B,hAB⟩:=List.append_of_mem hj;rw[hAB,List.append_assoc];refine List.Sublist.trans ?_ (List.sublist_append_right A _);exact List.Sublist.cons_cons j ((List.Sublist.cons_cons i (List.nil_sublist R2)).trans (List.sublist_append_right B _))
    rw[←hR]at s1;exact s1.trans List.filter_sublist
   have hij:j≠i:=by
    have hndf:(plan.filter fun i=>!listed.getD i true).Nodup:=List.Nodup.sublist List.filter_sublist hnd;rw[hR,List.nodup_append]at hndf;exact fun e=>hndf.2.2 j hj i (by simp) e
   obtain⟨Q1,Q2,q1⟩:=List.append_of_mem (hall i hi'.1);have hin1:j∈Q1:=by
    have hnd':=hnd;rw[q1]at hsub hnd';rw[List.nodup_append]at hnd';obtain⟨n1,n2,n3⟩:=hnd';rcases List.sublist_append_iff.1 hsub with⟨l1,l2,hl12,s1,s2⟩
    cases l1 with
    |cons x xs =>
     have:x=j:=by simp at hl12;exact hl12.1.symm
     subst this;exact s1.subset (by simp)
    |nil =>
     simp at hl12;subst hl12;have hn2:=List.nodup_cons.1 n2;rcases List.sublist_cons_iff.1 s2 with s3 | ⟨r,hr',s3⟩
     ·exact absurd (s3.subset (by simp)) hn2.1
     ·simp at hr';exact absurd hr'.1 hij
   rcases(hpair Q1 Q2 i q1 j hin1).2 with hreach|hp
   ·have:=Ku hsz hc ops.size i j hi'.2.2 hreach;have hjs:j<listed.size:=by rw[hsz];exact hlt j hjl.1
    rw[Array.getD_eq_getD_getElem?,Array.getElem?_eq_getElem hjs]at this;have h2:=hjl.2;rw[Array.getD_eq_getD_getElem?,Array.getElem?_eq_getElem hjs]at h2;simp at this h2;rw[this]at h2;cases h2
   ·exact hp
  rw[hR]at hk;have hfront:=Qkz hdm hdst R1 R2 s hsep hpass hk;unfold Cg at hfront;cases hoi:ops[i]? with
  |none=>simp[hoi]at hfront
  |some o =>
   simp only[hoi]at hfront ⊢;refine Br (fun v m hk3=>?_) (hsep.step (hdst i o hoi) hfront);have hk2:=hk3.2;have hil:i<listed.size:=by rw[hsz];exact hi'.1
   have hfil:(plan.filter fun j=>!(listed.setIfInBounds i true).getD j true)=R1++R2:=by
    have e1:(plan.filter fun j=>!(listed.setIfInBounds i true).getD j true)=(plan.filter fun j=>!listed.getD j true).filter fun j=>j != i:=by
     rw[List.filter_filter];refine List.filter_congr fun j _=>?_;rw[F0 hil];by_cases h:j=i<;>simp[h]
    have hndf:(plan.filter fun i=>!listed.getD i true).Nodup:=List.Nodup.sublist List.filter_sublist hnd;rw[e1,hR];rw[hR,List.nodup_append]at hndf;obtain⟨n1,n2,n3⟩:=hndf;rw[List.filter_append,List.filter_cons];have f1:R1.filter (fun j=>j != i)=R1:=List.filter_eq_self.2 fun j hj=>by
     have:=n3 j hj i (by simp);simpa using this
    have f2:R2.filter (fun j=>j != i)=R2:=List.filter_eq_self.2 fun j hj=>by
     have:=(List.nodup_cons.1 n2).1;have hne:j≠i:=fun e=>this (e ▸ hj);simpa using hne
    rw[f1,f2];simp
   refine ih _ _ hk3.1 (by simpa using hsz) (fun i' o' ho' hl' e he hb=>?_) (by rw[hfil];rw[hR]at hle;simp at hle ⊢;omega) (by rw[hfil];exact hk2);rw[F0 hil]at hl' ⊢;by_cases h1:e.on=i
   ·rw[if_pos h1]
   ·rw[if_neg h1];by_cases h2:i'=i
    ·subst h2;rw[hoi]at ho';cases ho';exact hi'.2.2 o hoi e he hb
    ·rw[if_neg h2]at hl';exact hc i' o' ho' hl' e he hb
theorem AW.drawV {Q:Exit→St→Prop} {s:St} {id:Nat} {ops:Array Oper} (ro:Nat→Bool) (q:Hv) (blk:Nat→Nat) (av:Nat→Prop) (hsep:J1 q blk av s) (plan:List Nat) (hm:P.follows .mixedOrders=true) (hok:B3 s.n ops=true) (hp:Mq P ro q ops plan=true)
  (hav:∀b,av b→s.m b≠none) (h:Cg P ⟨ro,av,true⟩ ops plan (Q .normal) s):AW P (.region id ops true) Q s:=by
 intro F G w0 a w hr;refine wp_region_any hm ?_;have hok':∀i o,ops[i]?=some o→(Gp s.n o&&I5 ops s.n o)=true:=fun i o ho=>by
  unfold B3 at hok;exact List.all_eq_true.1 hok o (List.mem_of_getElem? (by rw[Array.getElem?_toList];exact ho))
 have hfil:(plan.filter fun i=>!(Array.replicate ops.size false).getD i true)=plan:=by
  refine List.filter_eq_self.2 fun i hi=>?_;have hlt:i<ops.size:=by
   unfold Mq at hp;simp only[Bool.and_eq_true]at hp;have:=List.all_eq_true.1 hp.2.1.1.1.2 i hi;simpa[Nat.blt_eq]using this
  simp[hlt]
 have hlen:plan.length≤ops.size:=by
  unfold Mq at hp;simp only[Bool.and_eq_true]at hp;exact(of_decide_eq_true hp.2.1.1.2).2
 have hany:Mx P ⟨ro,av,true⟩ ops (Q .normal) ops.size (Array.replicate ops.size false) s:=by
  have hcl:Mu ops (Array.replicate ops.size false):=fun i o ho hl e he hb=>by
   have hi:i<ops.size:=(Array.getElem?_eq_some_iff.1 ho).1;rw[Array.getD_eq_getD_getElem?,Array.getElem?_replicate,if_pos hi]at hl;cases hl
  refine Yv (cf:=⟨ro,av,true⟩) rfl hp ops.size _ s hsep Array.size_replicate hcl ?_ ?_
  ·rw[hfil];exact hlen
  ·rw[hfil];exact h
 have hav':∀b,av b→b<w.heap.size:=fun b hb=>hr.lt (hav b hb);have hd:Ec F G w0 s a {w with drawn:=w.drawn+1}:=hr.drew;exact Kv (F:=F) (G:=G) (w0:=w0) (cf:=⟨ro,av,true⟩) s.n w.heap.size hav' (fun a w h=>h) hok' ops.size _ s a {w with drawn:=w.drawn+1} (Nat.le_refl _) rfl hd hany
theorem AW.rdV {Q:Exit→St→Prop} {s:St} {id:Nat} {ops:Array Oper} (ro:List Nat) (plan:List Nat) (hm:P.follows .mixedOrders=true) (h:Cg P ⟨roL ro,fun _=>False,true⟩ ops plan (Q .normal) s)
  (hok:B3 s.n ops=true:=by kernel_rfl) (hp:Mq P (roL ro) Hv.no ops plan=true:=by kernel_rfl):AW P (.region id ops true) Q s :=
 AW.drawV (roL ro) Hv.no (fun r=>r) (fun _=>False) ⟨fun _ h=>(by cases h),fun _ _ h=>(by cases h),fun _ h=>(by cases h),fun _ h=>(by cases h)⟩ plan hm hok hp (fun _ h=>h.elim) h
end
end Go.Av
end
section
namespace Go.Av
section
variable {P:Program}
def Qtk (o:Oper):Bool:=match o.op with
 |.call c=>match c.callee,c.args.toList with
  |.builtin .min,[_,_,_]=>true
  |_,_=>false
 |_=>false
def Qzs (a b d:Int):Int:=if d<(if b<a then b else a) then d else (if b<a then b else a)
def Qye (o:Oper) (s:St):Option AV:=match o.op with
 |.call c=>match c.callee,c.args.toList with
  |.builtin .min,[x,y,z]=>match s.ev x,s.ev y,s.ev z with
   |.int k a,.int _ b,.int _ d=>some (.int k (Qzs a b d))
   |_,_,_=>none
  |_,_=>none
 |_=>none
def Qya (P:Program) (cf:D7) (o:Oper) (K:St→Prop) (s:St):Prop:=if Qtk o=true then ∃v,Qye o s=some v∧K ({s with m:=s.m}.put o.dst v) else E5 P cf o K s
def Qf2 (P:Program) (cf:D7):List Oper→(St→Prop)→St→Prop
 |[],K,s=>K s
 |o::rest,K,s=>o.guard=none∧Qya P cf o (Qf2 P cf rest K) s
@[simp] theorem Qv7 (cf:D7) (K:St→Prop) (s:St):Qf2 P cf [] K s=K s:=(rfl)
@[simp] theorem Qry (cf:D7) (d:Option Tmp) (op:Op) (t:TypeId) (p:String) (a:Array Edge) (l:List Oper) (K:St→Prop) (s:St) :
  Qf2 P cf ({dst:=d,op:=op,type:=t,pos:=p,after:=a,guard:=none}::l) K s↔Qya P cf {dst:=d,op:=op,type:=t,pos:=p,after:=a,guard:=none} (Qf2 P cf l K) s:=by
 show(_∧_)↔_
 simp
end
end Go.Av
end
section
namespace Go.Av
section
variable {P:Program}
def isY (o:Oper):Bool:=match o.op with
 |.slice _ _ (some _) (some _) none=>true
 |.call c=>match c.callee with | .builtin .clear=>true | _=>false
 |_=>false
def Qm2 (P:Program) (o:Oper) (s:St) (k:AV→Ac→Prop):Prop:=match o.op with
 |.slice t x (some lo) (some hi) none=>∃ti e te b i n blk k1 k2,∃l h:Nat,Ai P t=some ti∧ti.cls=.slice e∧Ai P e=some te∧s.ev x=.osl b te.size i n∧s.m b=some blk∧blk.z=te.size ∧
   s.ev lo=.int k1 l∧s.ev hi=.int k2 h∧l<h∧i+h≤blk.l.length∧k (.osl b te.size (i+l) (h-l)) s.m
 |.call c=>match c.callee with
  |.builtin .clear=>∃x t ti e te b i n l,c.args.toList=[x]∧c.argTypes.toList=[t]∧Ai P t=some ti∧ti.cls=.slice e∧Ai P e=some te∧te.size=1∧te.zero.one=true ∧
    s.ev x=.osl b 1 i n∧s.m b=some ⟨e,1,l⟩∧0<n∧i+n≤l.length∧k .any (s.m.set b ⟨e,1,l.take i++List.replicate n te.zero++l.drop (i+n)⟩)
  |_=>False
 |_=>False
theorem Vw (z:Value) (hz:z.cells=#[z]) (n:Nat):(Builtin.zeroCells z.cells n).toList=List.replicate n z:=by
 rw[hz];refine List.ext_getElem? fun k=>?_;rw[Array.getElem?_toList,List.getElem?_replicate];simp only[Builtin.zeroCells,List.size_toArray,List.length_cons,List.length_nil,Nat.mul_one,Nat.zero_add,Array.getElem?_map];by_cases h:k<n
 ·rw[if_pos h,Array.getElem?_range,if_pos h];simp[Nat.mod_one]
 ·rw[if_neg h,Array.getElem?_range,if_neg h];rfl
theorem Qea {F G:Nat→Prop} {w0 w:World} {s:St} {a:Act} (hrel:Ec F G w0 s a w) {o:Oper} (hok:Gp s.n o=true) {K:St→Prop} (h:Qm2 P o s fun v m'=>K ({s with m:=m'}.put o.dst v)) (Q:Exit→Act→World→Prop):o.wp P a w (Fq F G w0 s.n K) Q:=by
 have hd:Nf s.n o.dst=true:=by unfold Gp at hok;rw[Bool.and_eq_true]at hok;exact hok.1
 have hall:∀x∈o.op.operands.toList,Gs s.n x=true:=by unfold Gp at hok;rw[Bool.and_eq_true]at hok;exact List.all_eq_true.1 hok.2
 unfold Qm2 at h;split at h
 ·rename_i t x lo hi ho
  rw[ho]at hall;obtain⟨ti,e,te,b,i,n,blk,k1,k2,l,hh,ht,hc,hte,hx,hb,hbz,hlo,hhi,hlh,hin,hk⟩:=h;obtain⟨inf,d,z,hinf,hdd,hz,g1,g2,g3,g4,g5⟩:=(Ev ht).get;obtain⟨ie,de,ze,hie,hde,hze,q1,q2,q3,q4,q5⟩:=(Ev hte).get;rw[←g3]at hc;cases d<;>simp only[Dq,reduceCtorEq,Ll.slice.injEq]at hc
  subst hc;have hxv:=hrel.ev (hall x (by simp[Op.operands]));have hlv:=hrel.ev (hall lo (by simp[Op.operands]));have hhv:=hrel.ev (hall hi (by simp[Op.operands]));rw[hx]at hxv;rw[hlo]at hlv;rw[hhi]at hhv;obtain⟨cx,e1⟩:∃c,a.eval x=c:=⟨_,rfl⟩;obtain⟨cl,e2⟩:∃c,a.eval lo=c:=⟨_,rfl⟩;obtain⟨ch,e3⟩:∃c,a.eval hi=c:=⟨_,rfl⟩;rw[e1]at hxv;rw[e2]at hlv;rw[e3]at hhv;obtain⟨z0,zs,ones,cells,cap,h1,h2,h3,h4,h5⟩:=hrel.heap b blk hb;cases hlv;cases hhv;cases hxv with
  |osl _ _ _ _ c hcn hm =>
   obtain⟨cells',e',m1,m2⟩:=hm;rw[h1]at m1;cases m1;have hcap:i+c=cap:=Nat.eq_of_mul_eq_mul_right (m:=te.size) (by rw[←hbz];exact z0) (by rw[m2,h2,hbz]);have hlc:(l:Int)≤((hh:Nat):Int):=by omega
   have b1:=run_sliceBound (P:=P) w k2 (hh:Int) c BoundsCode.sliceAcap (by omega) (by omega);have b2:=run_sliceBound (P:=P) w k1 (l:Int) ((hh:Int).toNat) BoundsCode.sliceB (by omega) (by omega);refine Du (cv:=.slice (some ⟨b,(i+l)*te.size,none⟩) (hh-l) (c-l)) ?_ ⟨_,hk,I6 _ _ _,hrel.put hd (.osl _ _ _ _ _ (by omega) ⟨_,_,h1,by rw[←m2];congr 1;omega⟩)⟩;unfold execOp;rw[ho];have hne:¬c=l:=by omega
   simp only[Int.toNat_natCast]at b1 b2;simp[e1,e2,e3,Instr.sliceAt,Instr.slice,run_underlying hdd,Instr.sliceBounds,b1,b2,Fs hie,q1,hne,Ej,Nat.add_mul]
 ·rename_i c ho
  rw[ho]at hall;split at h
  ·rename_i hcal
   obtain⟨x,t,ti,e,te,b,i,n,l,hxs,hts,ht,hc,hte,hz1,hone,hx,hb,hn0,hin,hk⟩:=h;obtain⟨callee,args,argTypes⟩:=c;simp only at hcal hxs hts;subst hcal;have ha:args=#[x]:=Array.toList_inj.1 hxs;have hat:argTypes=#[t]:=Array.toList_inj.1 hts;subst ha;subst hat;obtain⟨inf,d,z,hinf,hdd,hz,g1,g2,g3,g4,g5⟩:=(Ev ht).get;obtain⟨ie,de,ze,hie,hde,hze,q1,q2,q3,q4,q5⟩:=(Ev hte).get;rw[←g3]at hc;cases d<;>simp only[Dq,reduceCtorEq,Ll.slice.injEq]at hc
   subst hc
   rename_i e
   have hxv:=hrel.ev (hall x (by simp[Op.operands,Call.operands]));rw[hx]at hxv;obtain⟨cx,e1⟩:∃c,a.eval x=c:=⟨_,rfl⟩;rw[e1]at hxv;obtain⟨z0,zs,ones,cells,cap,h1,h2,h3,h4,h5⟩:=hrel.heap b _ hb;simp only[Nat.mul_one]at z0 zs ones h1 h2 h4 h5;have hzv:VR w (C7 F s.m) te.zero ze:=by rw[←q4];exact I1 w _ ze
   have hzo:=hzv.oneCell hone;have hzc:ze.cells=#[ze]:=by cases ze<;>first | rfl | (simp[Value.oneCell']at hzo)
   cases hxv with
   |osl _ _ _ _ cc hcn hm =>
    have hlen:(List.replicate n ze).length=n:=List.length_replicate;have hfit:i*1+(List.replicate n ze).length≤cells.size:=by rw[hlen];omega
    have hst:=run_storeCells_at P b (i*1) e (List.replicate n ze) 0 cells w h1 (by simpa using hfit) (fun v hv=>by rw[(List.mem_replicate.1 hv).2];exact hzo);simp only[Nat.add_zero]at hst;have hsz:=Ma cells (List.replicate n ze) (i*1) hfit;refine Du (cv:=.tuple #[]) (w':=w.setRow b (cells.toList.take (i*1)++List.replicate n ze++cells.toList.drop (i*1+(List.replicate n ze).length)).toArray) ?_ ⟨_,hk,by rw[I6],(hrel.setRow hb (⟨e,1,l.take i++List.replicate n te.zero++l.drop (i+n)⟩:Fi) rfl rfl h1 _ hsz ?_ (fun v hv=>?_) (fun i' j u hu=>?_) (fun i' j u hu=>?_)).put hd (.any _)⟩
    ·unfold execOp;rw[ho];have hn:n≠0:=by omega
     obtain⟨n',rfl⟩:∃n',n=n'+1:=⟨n-1,by omega⟩;have hzv':(zeroValue e).run P w=.ok ze w:=by simp[zeroValue,typeInfo,hie,hze]
     have hzl:=Vw ze hzc (n'+1);simp only[Nat.mul_one,List.length_replicate,List.append_assoc]at hst;simp[resolve,invoke,builtin,e1,Builtin.clear_,run_underlying hdd,hzv',hzl];rw[hst];simp
    ·simp;omega
    ·rcases List.mem_append.1 hv with hv|hv
     ·rcases List.mem_append.1 hv with hv|hv
      ·exact zs v (List.mem_of_mem_take hv)
      ·rw[(List.mem_replicate.1 hv).2];cases hz0:te.zero<;>rw[hz0]at hone<;>first | rfl | cases hone
     ·exact zs v (List.mem_of_mem_drop hv)
    ·have hget:∀k,(l.take i++List.replicate n te.zero++l.drop (i+n))[k]?=if i≤k∧k<i+n then some te.zero else l[k]?:=by
      intro k;by_cases p1:k<i
      ·rw[if_neg (by omega),List.append_assoc,List.getElem?_append_left (by simp;omega),List.getElem?_take,if_pos p1]
      ·by_cases p2:k<i+n
       ·rw[if_pos (by omega),List.append_assoc,List.getElem?_append_right (by simp;omega),List.getElem?_append_left (by simp;omega),List.getElem?_replicate,if_pos (by simp;omega)]
       ·rw[if_neg (by omega),List.getElem?_append_right (by simp;omega),List.getElem?_drop];congr 1;simp;omega
     unfold A0 at hu;rw[hget]at hu;split at hu
     ·have:te.zero.cells=[te.zero]:=by cases hz0:te.zero<;>rw[hz0]at hone<;>first | rfl | cases hone
      simp only[Option.bind_some,this]at hu;rcases j with _ | j
      ·simp at hu;rw[←hu];exact hone
      ·simp at hu
     ·exact ones i' j u hu
    ·have hget:∀k,(l.take i++List.replicate n te.zero++l.drop (i+n))[k]?=if i≤k∧k<i+n then some te.zero else l[k]?:=by
      intro k;by_cases p1:k<i
      ·rw[if_neg (by omega),List.append_assoc,List.getElem?_append_left (by simp;omega),List.getElem?_take,if_pos p1]
      ·by_cases p2:k<i+n
       ·rw[if_pos (by omega),List.append_assoc,List.getElem?_append_right (by simp;omega),List.getElem?_append_left (by simp;omega),List.getElem?_replicate,if_pos (by simp;omega)]
       ·rw[if_neg (by omega),List.getElem?_append_right (by simp;omega),List.getElem?_drop];congr 1;simp;omega
     have hseg:=Mh cells (List.replicate n ze) (i*1) (i'*1+j) hfit;simp only[hlen,Nat.mul_one]at hseg ⊢;have htz:te.zero.cells=[te.zero]:=by cases hz0:te.zero<;>rw[hz0]at hone<;>first | rfl | cases hone
     unfold A0 at hu;rw[hget]at hu;split at hu
     ·rename_i hb'
      simp only[Option.bind_some,htz]at hu;rcases j with _ | j
      ·simp at hu;refine⟨ze,?_,by rw[←hu];exact hzv⟩;rw[hseg,if_pos (by omega),List.getElem?_replicate,if_pos (by omega)]
      ·simp at hu
     ·rename_i hb'
      have hj0:j=0:=by
       obtain⟨v,hv1,hv2⟩:=Option.bind_eq_some_iff.1 hu;have:=zs v (List.mem_of_getElem? hv1);have:=(List.getElem?_eq_some_iff.1 hv2).1;omega
      subst hj0;obtain⟨v,p1,p2⟩:=h5 i' 0 u hu;refine⟨v,?_,p2⟩;rw[hseg,if_neg (by omega)];exact p1
  ·exact h.elim
 ·exact h.elim
def Qhs (P:Program) (cf:D7) (o:Oper) (K:St→Prop) (s:St):Prop:=if isY o=true then Qm2 P o s fun v m'=>K ({s with m:=m'}.put o.dst v) else E5 P cf o K s
def Na (P:Program) (cf:D7):List Oper→(St→Prop)→St→Prop
 |[],K,s=>K s
 |o::rest,K,s=>o.guard=none∧Qhs P cf o (Na P cf rest K) s
theorem Qee {F G:Nat→Prop} {w0 w:World} {s:St} {a:Act} (hrel:Ec F G w0 s a w) {cf:D7} (hav:∀b,cf.av b→b<w.heap.size) {o:Oper} (hok:Gp s.n o=true) {K:St→Prop} (h:Qhs P cf o K s) (Q:Exit→Act→World→Prop):o.wp P a w (Fq F G w0 s.n K) Q:=by
 unfold Qhs at h;split at h
 ·exact Qea hrel hok h Q
 ·exact Mg hrel hav hok h Q
theorem Rq {F G:Nat→Prop} {w0:World} {cf:D7} (hcf:∀b,¬cf.av b) {ops:Array Oper} {K:St→Prop} {QQ:Exit→Act→World→Prop} (n:Nat) (hQ:∀a w,Fq F G w0 n K a w→QQ .normal a w) :
  ∀(l:List Oper) (s:St) (a:Act) (w:World),s.n=n→(∀o∈l,(Gp n o&&I5 ops n o)=true)→Ec F G w0 s a w→Na P cf l K s→wpList P ops QQ l a w
 |[],s,a,w,hn,_,hr,hk=>hQ a w ⟨s,hk,hn,hr⟩
 |o::rest,s,a,w,hn,hok,hr,hk=>by
  have ho:=hok o (by simp);rw[Bool.and_eq_true]at ho;have hrest:∀o∈rest,(Gp n o&&I5 ops n o)=true:=fun x hx=>hok x (by simp[hx]);have hmono:∀{s:St} {a:Act} {w:World},s.n=n→Fq F G w0 s.n (Na P cf rest K) a w→wpList P ops QQ rest a w:=by
   rintro s a w hn ⟨s',h1,h2,h3⟩;exact Rq hcf n hQ rest s' a w (h2.trans hn) hrest h3 h1
  have hop:Ec F G w0 s a w→Qhs P cf o (Na P cf rest K) s→o.wp P a w (wpList P ops QQ rest) QQ:=by
   intro hr hk;have:=Qee hr (fun b hb=>(hcf b hb).elim) (by rw[hn];exact ho.1) hk QQ;unfold Oper.wp at this ⊢
   revert this
   generalize(execOp a.eval o).run P w=res;intro this;have hm:∀a w,Fq F G w0 s.n (Na P cf rest K) a w→wpList P ops QQ rest a w:=fun a w h=>hmono hn h;unfold Oper.upon at this ⊢;split at this<;>first
    |exact hm _ _ this
    |(refine Calls.mono this ?_;intro e w' h;cases e<;>first | exact hm _ _ h | exact h)
    |(refine Rows.mono this ?_;intro e w' h;exact hm _ _ h)
    |exact this
    |exact this.elim
  unfold wpList;unfold Na at hk;rw[if_pos (by simp[Region.wanted,hk.1])];exact .inl (hop hr hk.2)
theorem AW.rgY {Q:Exit→St→Prop} {s:St} {id:Nat} {ops:Array Oper} (h:Na P (D7.txt fun _=>false) ops.toList (Q .normal) s) (hok:B3 s.n ops=true:=by kernel_rfl):AW P (.region id ops false) Q s:=by
 intro F G w0 a w hr;refine wp_region_list (Rq (F:=F) (G:=G) (w0:=w0) (cf:=D7.txt fun _=>false) (fun _ h=>h) s.n (K:=Q .normal) (fun a w h=>h) ops.toList s a w rfl (fun o ho=>?_) hr h);unfold B3 at hok;exact List.all_eq_true.1 hok o ho
@[simp] theorem Qu9 (cf:D7) (K:St→Prop) (s:St):Na P cf [] K s=K s:=(rfl)
@[simp] theorem Qtt (cf:D7) (d:Option Tmp) (op:Op) (t:TypeId) (p:String) (a:Array Edge) (l:List Oper) (K:St→Prop) (s:St) :
  Na P cf ({dst:=d,op:=op,type:=t,pos:=p,after:=a,guard:=none}::l) K s↔Qhs P cf {dst:=d,op:=op,type:=t,pos:=p,after:=a,guard:=none} (Na P cf l K) s:=by
 show(_∧_)↔_
 simp
theorem AW.rdL {Q:Exit→St→Prop} {s:St} {id:Nat} {ops:Array Oper} (bl:List Nat) (plan:List Nat) (hm:P.follows .mixedOrders=true) (hb:∀c∈bl,s.m c≠none) (h:Cg P ⟨fun _=>false,fun c=>c∈bl,true⟩ ops plan (Q .normal) s)
  (hok:B3 s.n ops=true:=by kernel_rfl) (hp:Iw P (fun _=>false) ops plan=true:=by kernel_rfl):AW P (.region id ops true) Q s :=
 AW.draw (fun _=>false) (fun c=>c∈bl) plan hm hok hp hb h
theorem AW.rdLR {Q:Exit→St→Prop} {s:St} {id:Nat} {ops:Array Oper} (ro bl:List Nat) (plan:List Nat) (hm:P.follows .mixedOrders=true) (hb:∀c∈bl,s.m c≠none) (h:Cg P ⟨roL ro,fun c=>c∈bl,true⟩ ops plan (Q .normal) s)
  (hok:B3 s.n ops=true:=by kernel_rfl) (hp:Iw P (roL ro) ops plan=true:=by kernel_rfl):AW P (.region id ops true) Q s :=
 AW.draw (roL ro) (fun c=>c∈bl) plan hm hok hp hb h
theorem Ec.shrink {F G:Nat→Prop} {w0 w:World} {s:St} {a:Act} (h:Ec F G w0 s a w) {b:Nat} {e:TypeId} {z:Nat} {l:List AV} (hb:s.m b=some ⟨e,z,l⟩) (k:Nat):Ec F G w0 {s with m:=s.m.set b ⟨e,z,l.take k⟩} a w:=by
 have hO:∀c,s.m.set b ⟨e,z,l.take k⟩ c≠none→s.m c≠none:=fun c hc=>by
  by_cases hcb:c=b
  ·subst hcb;rw[hb];simp
  ·rwa [Ac.set_other _ _ hcb]at hc
 have hF:∀c,c<w.heap.size→C7 F (s.m.set b ⟨e,z,l.take k⟩) c→C7 F s.m c:=fun c _ hc=>hc.elim .inl fun x=>.inr (hO c x);refine h.world _ (Ep.refl _ w) (fun c x hx=>?_) (fun c hc=>.inl (hO c hc));by_cases hcb:c=b
 ·subst hcb;rw[Ac.set_same]at hx;cases hx;obtain⟨z0,zs,ones,cells,cap,h1,h2,h3,h4,h5⟩:=h.heap c _ hb;have hcell:∀i j u,A0 (l.take k) i j=some u→A0 l i j=some u:=fun i j u hu=>by
   unfold A0 at hu ⊢;rw[List.getElem?_take]at hu;split at hu
   ·exact hu
   ·simp at hu
  exact⟨z0,fun v hv=>zs v (List.mem_of_mem_take hv),fun i j u hu=>ones i j u (hcell i j u hu),cells,cap,h1,h2,h3,Nat.le_trans (by simp only[List.length_take];exact Nat.min_le_right _ _) h4,fun i j u hu=>by
   obtain⟨v,p1,p2⟩:=h5 i j u (hcell i j u hu);exact⟨v,p1,p2.mono (Ep.refl (fun _=>False) w) (fun _ _ x=>x.elim) hF⟩⟩
 ·rw[Ac.set_other _ _ hcb]at hx;exact(h.heap c x hx).mono (Ep.refl (fun _=>False) w) (fun x=>x) (fun _ _ x=>x.elim) hF
theorem AW.shrink {Q:Exit→St→Prop} {c:Code} {n:Nat} {L:List (Nat × AV)} {m:Ac} {b:Nat} {e:TypeId} {z:Nat} {l:List AV} (hb:m b=some ⟨e,z,l⟩) (k:Nat) (h:AW P c Q (Av.S n L (m.set b ⟨e,z,l.take k⟩))):AW P c Q (Av.S n L m):=by
 intro F G w0 a w hr;exact h F G w0 a w (hr.shrink hb k)
@[simp] theorem Qmr (P:Program) (size bytes m e:Nat) (zero:AV) (fs:List (Nat × Nat × Option Bool)) (b z i j:Nat) (k:IntKind) (n:Int):B4 P ⟨size,bytes,.array m e,zero,fs⟩ (.ptr b z i j) (.int k n)=(Ai P e).bind fun te=>if 0≤n∧n<m then some (.ptr b z i (j+n.toNat*te.size)) else none:=by
 unfold B4
 dsimp only
 cases Ai P e<;>rfl
@[simp] theorem Qji (P:Program) (size bytes m e:Nat) (zero:AV) (fs:List (Nat × Nat × Option Bool)) (cs:List AV) (k:IntKind) (n:Int):B4 P ⟨size,bytes,.array m e,zero,fs⟩ (.rptr cs) (.int k n)=(Ai P e).bind fun te=>if 0≤n∧n<m then some (.rptr (cs.drop (n.toNat*te.size))) else none:=by
 unfold B4
 dsimp only
 cases Ai P e<;>rfl
section
variable {cf:D7} {K:St→Prop} {s:St} {d:Option Tmp} {ty:TypeId} {p:String} {a:Array Edge} {g:Option (Nat × Bool)}
@[simp] theorem Quh (t:TypeId) (x m:Operand) (lo hi:Option Operand):E5 P cf ⟨d,.slice t x lo hi (some m),ty,p,a,g⟩ K s↔D0 ((Ai P t).bind fun ti=>Ly P ti (s.ev x) (lo.map s.ev) (hi.map s.ev) (s.ev m)) (Fp K s d):=Iff.rfl
end
@[simp] theorem Qtj (P:Program) (size bytes e:Nat) (zero:AV) (fs:List (Nat × Nat × Option Bool)) (b z i n:Nat) (k k' k'':IntKind) (l h m:Int):Ly P ⟨size,bytes,.slice e,zero,fs⟩ (.osl b z i n) (some (.int k l)) (some (.int k' h)) (.int k'' m) =
  (Ai P e).bind fun _=>if 0≤m∧m≤n then (Et m.toNat (some (.int k l)) (some (.int k' h))).map (fun(q:Nat × Nat)=>if m.toNat=q.1 then .zc else .any) else none:=(rfl)
theorem Xn (P:Program) (size bytes e:Nat) (zero:AV) (fs:List (Nat × Nat × Option Bool)) (b z i n:Nat) (lo hi:Option AV):Hw P ⟨size,bytes,.slice e,zero,fs⟩ (.osl b z i n) lo hi=(Ai P e).bind fun te=>if z=te.size then (Et n lo hi).map fun(q:Nat × Nat)=>if q.1=0 then .osl b z i q.2 else if q.2=q.1 then .sl z [] else .osl b z (i+q.1) (q.2-q.1) else none:=by
 unfold Hw
 dsimp only
 cases Ai P e<;>rfl
end
end Go.Av
end
section
namespace Go.Lam
abbrev Ed:=Nat × Nat
def ins (X:Nat→Bool) (e:Ed):Bool:=X e.1&&X e.2
def spn (L:List Ed) (X:Nat→Bool):Nat:=L.countP (ins X)
def sz (n:Nat) (X:Nat→Bool):Nat:=(List.range n).countP X
def Ba (n:Nat) (L:List Ed):Prop:=∀X,2≤sz n X→spn L X+3≤2*sz n X
def Dv (n:Nat) (L:List Ed) (X:Nat→Bool):Prop:=2≤sz n X∧spn L X+3=2*sz n X
def C0 (n:Nat) (e:Ed):Prop:=e.1<n∧e.2<n∧e.1≠e.2
def uni (X Y:Nat→Bool):Nat→Bool:=fun v=>X v || Y v
def cap (X Y:Nat→Bool):Nat→Bool:=fun v=>X v&&Y v
def Ez (a b:Nat):Nat→Bool:=fun v=>v==a || v==b
theorem W3 {α:Type} (l:List α) (p q:α→Bool):l.countP (fun a=>p a || q a)+l.countP (fun a=>p a&&q a)=l.countP p+l.countP q:=by
 induction l with
 |nil=>rfl
 |cons a l ih=>simp only[List.countP_cons];cases p a<;>cases q a<;>simp<;>omega
theorem Qge (n:Nat) (X Y:Nat→Bool):sz n (uni X Y)+sz n (cap X Y)=sz n X+sz n Y:=W3 _ X Y
theorem countP_le {α:Type} {l:List α} {p q:α→Bool} (h:∀a∈l,p a=true→q a=true):l.countP p≤l.countP q:=List.countP_mono_left h
theorem Qsp (L:List Ed) (X Y:Nat→Bool):spn L X+spn L Y≤spn L (uni X Y)+spn L (cap X Y):=by
 have h:=W3 L (ins X) (ins Y);have h1:L.countP (fun a=>ins X a || ins Y a)≤spn L (uni X Y):=countP_le (fun e _=>by simp only[ins,uni];cases X e.1<;>cases X e.2<;>cases Y e.1<;>cases Y e.2<;>simp)
 have h2:L.countP (fun a=>ins X a&&ins Y a)≤spn L (cap X Y):=countP_le (fun e _=>by simp only[ins,cap];cases X e.1<;>cases X e.2<;>cases Y e.1<;>cases Y e.2<;>simp)
 unfold spn at *;omega
theorem Qli {n:Nat} {L:List Ed} (hs:Ba n L) {X Y:Nat→Bool} (hx:Dv n L X) (hy:Dv n L Y) (hc:2≤sz n (cap X Y)):Dv n L (uni X Y)∧Dv n L (cap X Y):=by
 have h1:=Qge n X Y;have h2:=Qsp L X Y;have h3:=hs _ hc;obtain⟨a1,a2⟩:=hx;obtain⟨b1,b2⟩:=hy;have hu:2≤sz n (uni X Y):=by
  have:sz n X≤sz n (uni X Y):=countP_le (fun v _ h=>by simp[uni,h]);omega
 have h4:=hs _ hu;exact⟨⟨hu,by omega⟩,⟨hc,by omega⟩⟩
theorem Qrf (n:Nat) (X:Nat→Bool):sz n X≤n:=by
 have:=List.countP_le_length (p:=X) (l:=List.range n);simpa[sz]using this
theorem P0 {n:Nat} {X Y:Nat→Bool} (h:∀v,v<n→X v=true→Y v=true):sz n X≤sz n Y:=countP_le (fun v hv=>h v (List.mem_range.1 hv))
theorem Zx {n:Nat} {X Y:Nat→Bool} (h:∀v,v<n→X v=Y v):sz n X=sz n Y:=List.countP_congr (fun v hv=>by rw[h v (List.mem_range.1 hv)])
theorem Xv {n:Nat} {L:List Ed} (hL:∀e∈L,C0 n e) {X Y:Nat→Bool} (h:∀v,v<n→X v=Y v):spn L X=spn L Y:=List.countP_congr (fun e he=>by
 obtain⟨h1,h2,_⟩:=hL e he;simp only[ins];rw[h _ h1,h _ h2])
theorem Qla {n v:Nat} {X:Nat→Bool} (hv:v<n) (h:X v=true):1≤sz n X:=List.countP_pos_iff.2 ⟨v,List.mem_range.2 hv,h⟩
theorem Qb7 (n v:Nat):(List.range n).count v=if v<n then 1 else 0:=by
 split
 ·rename_i h
  exact List.nodup_range.count (a:=v) |>.trans (by simp[h])
 ·rename_i h
  exact List.count_eq_zero.2 (by simpa using h)
theorem J2 (n a:Nat) (ha:a<n):sz n (fun v=>v==a)=1:=by
 have:=Qb7 n a;rw[if_pos ha]at this;exact this
theorem Qfo {n a b:Nat} (ha:a<n) (hb:b<n) (h:a≠b):sz n (Ez a b)=2:=by
 have h1:=Qge n (fun v=>v==a) (fun v=>v==b);rw[J2 n a ha,J2 n b hb]at h1;have:sz n (cap (fun v=>v==a) (fun v=>v==b))=0:=by
  refine List.countP_eq_zero.2 fun v _=>?_;simp only[cap,Bool.and_eq_true,beq_iff_eq];rintro⟨rfl,h'⟩;exact h h'
 rw[this]at h1;exact h1
theorem Yo {n a b:Nat} {X:Nat→Bool} (ha:a<n) (hb:b<n) (h:a≠b) (h1:X a=true) (h2:X b=true):2≤sz n X:=by
 rw[←Qfo ha hb h];refine P0 fun v _ hv=>?_;simp only[Ez,Bool.or_eq_true,beq_iff_eq]at hv;rcases hv with rfl | rfl<;>assumption
theorem Qha {n:Nat} {X:Nat→Bool} (h:2≤sz n X):∃a b,a<n∧b<n∧a≠b∧X a=true∧X b=true:=by
 obtain⟨a,ha,hxa⟩:=List.countP_pos_iff.1 (show 0<(List.range n).countP X by unfold sz at h;omega);rcases Decidable.em (∃b,b<n∧a≠b∧X b=true)with⟨b,h1,h2,h3⟩|hn
 ·exact⟨a,b,List.mem_range.1 ha,h1,h2,hxa,h3⟩
 ·have:sz n X≤sz n (fun v=>v==a):=P0 fun v hv hx=>by
   rcases Nat.decEq a v with h'|h'
   ·exact absurd ⟨v,hv,h',hx⟩ hn
   ·simp[h']
  rw[J2 n a (List.mem_range.1 ha)]at this;omega
theorem Qhy {n a b:Nat} {X:Nat→Bool} (h:sz n X≤1) (ha:a<n) (hb:b<n) (h1:X a=true) (h2:X b=true):a=b:=by
 rcases Nat.decEq a b with h'|h'
 ·have:=Yo ha hb h' h1 h2;omega
 ·exact h'
theorem Td {n:Nat} {L:List Ed} (hL:∀e∈L,C0 n e) {X:Nat→Bool} (h:sz n X≤1):spn L X=0:=by
 refine List.countP_eq_zero.2 fun e he hx=>?_;obtain⟨h1,h2,h3⟩:=hL e he;simp only[ins,Bool.and_eq_true]at hx;exact h3 (Qhy h h1 h2 hx.1 hx.2)
theorem Tv (e:Ed) (L:List Ed) (X:Nat→Bool):spn (e::L) X=spn L X+if ins X e=true then 1 else 0:=List.countP_cons
theorem H9 (L M:List Ed) (X:Nat→Bool):spn (L++M) X=spn L X+spn M X:=List.countP_append
theorem Ql2 {L M:List Ed} (h:L.Perm M) (X:Nat→Bool):spn L X=spn M X:=h.countP_eq _
theorem Ba.perm {n:Nat} {L M:List Ed} (h:L.Perm M) (hs:Ba n L):Ba n M:=fun X hX=>by rw[←Ql2 h];exact hs X hX
theorem Ba.sub {n:Nat} {L M:List Ed} (h:∀X,spn L X≤spn M X) (hs:Ba n M):Ba n L:=fun X hX=>by
 have:=h X;have:=hs X hX;omega
theorem Ns {n:Nat} {L:List Ed} (hs:Ba n L) (e:Ed):Ba n (L++[e])↔∀X,Dv n L X→ins X e=false:=by
 constructor
 ·intro h X hX;cases hi:ins X e with
  |false=>rfl
  |true =>
   have h1:=h X hX.1;rw[H9,Tv,hi]at h1;simp[spn]at h1;have:=hX.2;unfold spn at this;omega
 ·intro h X hX;rw[H9,Tv];have h1:=hs X hX;cases hi:ins X e with
  |false=>simp[spn]at *;omega
  |true =>
   have:spn L X+3≠2*sz n X:=fun e'=>by rw[h X ⟨hX,e'⟩]at hi;cases hi
   simp[spn]at *;omega
theorem Qjy {a b:Nat}:ins (Ez a b) (a,b)=true:=by simp[ins,Ez]
end Go.Lam
end
section
namespace Go.Lam
def sm (n:Nat) (f:Nat→Nat):Nat:=((List.range n).map f).sum
theorem Mw (n:Nat) (f:Nat→Nat):sm (n+1) f=sm n f+f n:=by simp[sm,List.range_succ]
theorem Wk {n:Nat} {f g:Nat→Nat} (h:∀v,v<n→f v≤g v):sm n f≤sm n g:=by
 induction n with
 |zero=>simp[sm]
 |succ n ih=>rw[Mw,Mw];have:=ih (fun v hv=>h v (by omega));have:=h n (by omega);omega
theorem Ir {n:Nat} {f g:Nat→Nat} (h:∀v,v<n→f v=g v):sm n f=sm n g :=
 Nat.le_antisymm (Wk fun v hv=>Nat.le_of_eq (h v hv)) (Wk fun v hv=>Nat.le_of_eq (h v hv).symm)
theorem Ke (n:Nat) (f g:Nat→Nat):sm n (fun v=>f v+g v)=sm n f+sm n g:=by
 induction n with
 |zero=>rfl
 |succ n ih=>simp only[Mw];omega
theorem Qc1 (n:Nat) (X:Nat→Bool):sm n (fun v=>if X v=true then 2 else 0)=2*sz n X:=by
 induction n with
 |zero=>rfl
 |succ n ih=>rw[Mw,ih];simp only[sz,List.range_succ,List.countP_append,List.countP_cons,List.countP_nil];split<;>omega
theorem N7 {n a:Nat} (ha:a<n) (c:Nat):sm n (fun v=>if v=a then c else 0)=c:=by
 induction n with
 |zero=>omega
 |succ n ih =>
  rw[Mw];by_cases h:n=a
  ·subst h;have:sm n (fun v=>if v=n then c else 0)=0:=by
    have:=Ir (n:=n) (f:=fun v=>if v=n then c else 0) (g:=fun _=>0) (fun v hv=>by simp;omega);rw[this];clear this;clear ha ih;induction n with
    |zero=>rfl
    |succ n ih=>rw[Mw,ih]
   simp[this]
  ·rw[ih (by omega)];simp[h]
structure Inv (n:Nat) (E:Nat→Ed) (A:List Nat) (fr:Nat→Nat) (cv:Nat→List Nat):Prop where
 two:∀v,v<n→fr v+(cv v).length=2
 perm:((List.range n).flatMap cv).Perm A
 ends:∀v,v<n→∀e∈cv v,(E e).1=v∨(E e).2=v
 ok:∀e∈A,C0 n (E e)
def Vt (n:Nat) (fr:Nat→Nat) (X:Nat→Bool):Nat:=sm n fun v=>if X v=true then fr v else 0
section
variable {n:Nat} {E:Nat→Ed} {A:List Nat} {fr:Nat→Nat} {cv:Nat→List Nat}
theorem Inv.mem (h:Inv n E A fr cv) {v e:Nat} (hv:v<n) (he:e∈cv v):e∈A:=h.perm.mem_iff.1 (List.mem_flatMap.2 ⟨v,List.mem_range.2 hv,he⟩)
theorem Inv.okAt (h:Inv n E A fr cv) {v e:Nat} (hv:v<n) (he:e∈cv v):C0 n (E e):=h.ok e (h.mem hv he)
def Gl (E:Nat→Ed) (e j:Nat):Nat:=(E e).1+(E e).2-j
theorem Inv.oth_lt (h:Inv n E A fr cv) {v e:Nat} (hv:v<n) (he:e∈cv v):Gl E e v<n∧Gl E e v≠v:=by
 obtain⟨h1,h2,h3⟩:=h.okAt hv he;unfold Gl;rcases h.ends v hv e he with h4|h4<;>omega
theorem Inv.ins_iff (h:Inv n E A fr cv) {v e:Nat} (hv:v<n) (he:e∈cv v) (X:Nat→Bool):ins X (E e)=(X v&&X (Gl E e v)):=by
 obtain⟨h1,h2,h3⟩:=h.okAt hv he;unfold Gl ins;rcases h.ends v hv e he with h4|h4
 ·rw[show(E e).1+(E e).2-v=(E e).2 by omega,h4]
 ·rw[show(E e).1+(E e).2-v=(E e).1 by omega,h4,Bool.and_comm]
theorem Inv.spn (h:Inv n E A fr cv) (X:Nat→Bool):spn (A.map E) X=sm n fun v=>(cv v).countP fun e=>ins X (E e):=by
 have e1:Lam.spn (A.map E) X=A.countP fun e=>ins X (E e):=by simp[Lam.spn,List.countP_map,Function.comp_def]
 rw[e1,←h.perm.countP_eq,List.countP_flatMap];rfl
theorem Inv.le (h:Inv n E A fr cv) (X:Nat→Bool):Lam.spn (A.map E) X+Vt n fr X≤2*sz n X:=by
 rw[h.spn,Vt,←Ke,←Qc1];refine Wk fun v hv=>?_;have h2:=h.two v hv;have hl:=List.countP_le_length (p:=fun e=>ins X (E e)) (l:=cv v);cases hx:X v with
 |true=>simp;omega
 |false =>
  have:(cv v).countP (fun e=>ins X (E e))=0:=List.countP_eq_zero.2 fun e he=>by rw[h.ins_iff hv he,hx];simp
  simp[this]
def Qh0 (n:Nat) (E:Nat→Ed) (cv:Nat→List Nat) (X:Nat→Bool):Prop:=∀v,v<n→X v=true→∀e∈cv v,X (Gl E e v)=true
theorem Inv.eq (h:Inv n E A fr cv) {X:Nat→Bool} (hs:Qh0 n E cv X):Lam.spn (A.map E) X+Vt n fr X=2*sz n X:=by
 rw[h.spn,Vt,←Ke,←Qc1];refine Ir fun v hv=>?_;have h2:=h.two v hv;cases hx:X v with
 |true =>
  have:(cv v).countP (fun e=>ins X (E e))=(cv v).length:=List.countP_eq_length.2 fun e he=>by rw[h.ins_iff hv he,hx,hs v hv hx e he];rfl
  simp[this];omega
 |false =>
  have:(cv v).countP (fun e=>ins X (E e))=0:=List.countP_eq_zero.2 fun e he=>by rw[h.ins_iff hv he,hx];simp
  simp[this]
theorem Inv.shut (h:Inv n E A fr cv) {X:Nat→Bool} (he:2*sz n X≤Lam.spn (A.map E) X+Vt n fr X):Qh0 n E cv X:=by
 intro v hv hx e hm;rcases Bool.eq_false_or_eq_true (X (Gl E e v))with h1 | h1
 ·exact h1
 ·exfalso
  have key:∀w,w<n→((cv w).countP fun e=>ins X (E e))+(if X w=true then fr w else 0)≤if X w=true then 2 else 0:=by
   intro w hw;have h2:=h.two w hw;have hl:=List.countP_le_length (p:=fun e=>ins X (E e)) (l:=cv w);cases hx:X w with
   |true=>simp;omega
   |false =>
    have:(cv w).countP (fun e=>ins X (E e))=0:=List.countP_eq_zero.2 fun e he=>by rw[h.ins_iff hw he,hx];simp
    simp[this]
  have strict:sm n (fun w=>((cv w).countP fun e=>ins X (E e))+(if X w=true then fr w else 0))+1≤sm n fun w=>if X w=true then 2 else 0:=by
   rw[←N7 hv 1,←Ke];refine Wk fun w hw=>?_;by_cases hwv:w=v
   ·subst hwv;have h2:=h.two w hw;have:(cv w).countP (fun e=>ins X (E e))<(cv w).length:=by
     rcases Nat.lt_or_ge ((cv w).countP fun e=>ins X (E e)) (cv w).length with h3 | h3
     ·exact h3
     ·have:=List.countP_eq_length.1 (Nat.le_antisymm List.countP_le_length h3) e hm;rw[h.ins_iff hw hm,h1]at this;simp at this
    simp[hx];omega
   ·simp only[hwv,if_false];exact key w hw
  rw[Qc1,Ke,←h.spn]at strict;unfold Vt at he;omega
theorem Qkb {X Y:Nat→Bool} (h:∀v,v<n→X v=true→Y v=true):Vt n fr X≤Vt n fr Y:=Wk fun v hv=>by
 cases hx:X v with
 |true=>simp[h v hv hx]
 |false=>simp
theorem Oo {a b:Nat} (ha:a<n) (hb:b<n) (hab:a≠b):Vt n fr (Ez a b)=fr a+fr b:=by
 rw[←N7 ha (fr a),←N7 hb (fr b),←Ke];refine Ir fun v _=>?_;simp only[Ez,Bool.or_eq_true,beq_iff_eq];by_cases h1:v=a
 ·subst h1;simp[hab]
 ·by_cases h2:v=b
  ·subst h2;simp[h1]
  ·simp[h1,h2]
theorem Ty {a:Nat} (ha:a<n):Vt n fr (fun v=>v==a)=fr a:=by
 rw[←N7 ha (fr a)];exact Ir fun v _=>by by_cases h:v=a<;>simp[h]
theorem Zq {X Y:Nat→Bool} (h:∀v,v<n→X v=true→Y v=false→fr v=0) (hy:∀v,v<n→Y v=true→X v=true):Vt n fr X=Vt n fr Y:=Ir fun v hv=>by
 cases hx:X v with
 |true=>cases hyv:Y v with
  |true=>rfl
  |false=>simp[h v hv hx hyv]
 |false=>cases hyv:Y v with
  |true=>rw[hy v hv hyv]at hx;cases hx
  |false=>rfl
theorem Inv.first (h:Inv n E A fr cv) (hs:Ba n (A.map E)) {a:Nat} (ha:a<n) {X:Nat→Bool} (hX:Qh0 n E cv X) (hXa:X a=true) (hz:∀v,v<n→X v=true→v≠a→fr v=0):2≤fr a:=by
 have e1:=h.eq hX;have e2:Vt n fr X=fr a:=by
  rw[←Ty (n:=n) (fr:=fr) ha];exact Zq (fun v hv hx hy=>hz v hv hx (by simpa using hy)) (fun v _ hv=>by simp at hv;rw[hv];exact hXa)
 rcases Nat.lt_or_ge (sz n X) 2 with h1|h1
 ·have h0:Lam.spn (A.map E) X=0:=Td (n:=n) (fun e he=>by
   obtain⟨k,hk,rfl⟩:=List.mem_map.1 he;exact h.ok k hk) (by omega)
  have:=Qla ha hXa;omega
 ·have:=hs X h1;omega
theorem Inv.second (h:Inv n E A fr cv) (hs:Ba n (A.map E)) {a b:Nat} (ha:a<n) (hb:b<n) (hab:a≠b) (h2:fr a=2) {X:Nat→Bool} (hX:Qh0 n E cv X) (hXa:X a=true) (hXb:X b=true)
  (hz:∀v,v<n→X v=true→v≠a→v≠b→fr v=0) (hlt:fr b<2):fr b=1∧Dv n (A.map E) X:=by
 have e1:=h.eq hX;have e2:Vt n fr X=fr a+fr b:=by
  rw[←Oo (n:=n) (fr:=fr) ha hb hab];refine Zq (fun v hv hx hy=>?_) (fun v _ hv=>?_)
  ·simp only[Ez,Bool.or_eq_false_iff,beq_eq_false_iff_ne]at hy;exact hz v hv hx hy.1 hy.2
  ·simp only[Ez,Bool.or_eq_true,beq_iff_eq]at hv;rcases hv with rfl | rfl<;>assumption
 have h3:=Yo ha hb hab hXa hXb;have:=hs X h3;exact⟨by omega,h3,by omega⟩
theorem Inv.four (h:Inv n E A fr cv) {a b:Nat} (ha:a<n) (hb:b<n) (hab:a≠b) (h4:fr a+fr b=4) (X:Nat→Bool) (hXa:X a=true) (hXb:X b=true):¬Dv n (A.map E) X:=by
 intro ht;have e1:=h.le X;have e2:Vt n fr (Ez a b)≤Vt n fr X:=Qkb fun v _ hv=>by
  simp only[Ez,Bool.or_eq_true,beq_iff_eq]at hv;rcases hv with rfl | rfl<;>assumption
 rw[Oo ha hb hab]at e2;have:=ht.2;omega
end
end Go.Lam
end
section
namespace Go.Lam
def Cp (m:Nat):Nat→Bool:=fun v=>m.testBit v
theorem Ln (n:Nat) (X:Nat→Bool):∃m,m<2^n∧∀v,v<n→Cp m v=X v:=by
 induction n with
 |zero=>exact⟨0,by simp,fun v hv=>by omega⟩
 |succ n ih =>
  obtain⟨m,h1,h2⟩:=ih;cases hx:X n with
  |false =>
   refine⟨m,by rw[Nat.pow_succ];omega,fun v hv=>?_⟩;by_cases hvn:v=n
   ·subst hvn;rw[hx];exact Nat.testBit_lt_two_pow h1
   ·exact h2 v (by omega)
  |true =>
   refine⟨2^n+m,by rw[Nat.pow_succ];omega,fun v hv=>?_⟩;unfold Cp;by_cases hvn:v=n
   ·subst hvn;rw[hx,Nat.testBit_two_pow_add_eq,Nat.testBit_lt_two_pow h1];rfl
   ·rw[Nat.testBit_two_pow_add_gt (by omega)];exact h2 v (by omega)
def Ni (n:Nat) (L:List Ed):Bool:=(List.range (2^n)).all fun m=>!(decide (2≤sz n (Cp m))&&decide (2*sz n (Cp m)<spn L (Cp m)+3))
theorem G1 {n:Nat} {L:List Ed} (hL:∀e∈L,C0 n e):Ni n L=true↔Ba n L:=by
 unfold Ni;rw[List.all_eq_true];constructor
 ·intro h X hX;obtain⟨m,h1,h2⟩:=Ln n X;have h3:=h m (List.mem_range.2 h1);rw[Zx h2,Xv hL h2]at h3;simp only[Bool.not_eq_true',Bool.and_eq_false_iff,decide_eq_false_iff_not]at h3;omega
 ·intro h m _;simp only[Bool.not_eq_true',Bool.and_eq_false_iff,decide_eq_false_iff_not];have:=h (Cp m);omega
def Ib (n:Nat) (E:Nat→Ed) (out:List Nat) (e:Nat):List Nat:=if Ni n ((out++[e]).map E)=true then out++[e] else out
def Bx (n:Nat) (E:Nat→Ed) (out s:List Nat):List Nat:=s.foldl (Ib n E) out
theorem Ba.nil (n:Nat):Ba n []:=fun X hX=>by simp[spn];omega
theorem Ba.append_left {n:Nat} {L M:List Ed} (h:Ba n (L++M)):Ba n L:=h.sub fun X=>by rw[H9];omega
theorem Ba.sublist {n:Nat} {L M:List Ed} (h:L.Sublist M) (hs:Ba n M):Ba n L:=hs.sub fun _=>h.countP_le
section
variable {n:Nat} {E:Nat→Ed}
theorem Rh {out:List Nat} {e:Nat} (ho:∀k∈out,C0 n (E k)) (he:C0 n (E e)) (hs:Ba n (out.map E)):Ba n ((Ib n E out e).map E):=by
 unfold Ib;split
 ·rename_i h
  exact(G1 (by simp only[List.mem_map,List.mem_append,List.mem_singleton];rintro _ ⟨k,hk | rfl,rfl⟩;exact ho k hk;exact he)).1 h
 ·exact hs
theorem Ux {out:List Nat} {e k:Nat} (h:k∈Ib n E out e):k∈out∨k=e:=by
 unfold Ib at h;split at h
 ·simpa using h
 ·exact .inl h
theorem Ja (out:List Nat) (e:Nat) (s:List Nat):Bx n E out (e::s)=Bx n E (Ib n E out e) s:=rfl
theorem Wi (out s t:List Nat):Bx n E out (s++t)=Bx n E (Bx n E out s) t:=by simp[Bx]
theorem Kg {k:Nat}:∀{s out:List Nat},k∈Bx n E out s→k∈out∨k∈s
 |[],_,h=>.inl h
 |e::s,out,h=>by
  rcases Kg (s:=s) h with h1|h1
  ·rcases Ux h1 with h2|h2
   ·exact .inl h2
   ·exact .inr (by simp[h2])
  ·exact .inr (by simp[h1])
theorem Xe {s out:List Nat} (ho:∀k∈out,C0 n (E k)) (hs:∀k∈s,C0 n (E k)):∀k∈Bx n E out s,C0 n (E k):=fun k hk=>by
 rcases Kg hk with h|h
 ·exact ho k h
 ·exact hs k h
theorem D1:∀{s out:List Nat},(∀k∈out,C0 n (E k))→(∀k∈s,C0 n (E k))→Ba n (out.map E)→Ba n ((Bx n E out s).map E)
 |[],_,_,_,h=>h
 |e::s,out,ho,hs,h=>D1 (s:=s) (fun k hk=>by
   rcases Ux hk with h2|h2
   ·exact ho k h2
   ·rw[h2];exact hs e (by simp)) (fun k hk=>hs k (by simp[hk])) (Rh ho (hs e (by simp)) h)
theorem K6:∀(s out:List Nat),∃t,t.Sublist s∧Bx n E out s=out++t
 |[],out=>⟨[],.slnil,by simp[Bx]⟩
 |e::s,out=>by
  obtain⟨t,h1,h2⟩:=K6 s (Ib n E out e);rw[Ja,h2];unfold Ib;split
  ·exact⟨e::t,h1.cons₂ e,by simp⟩
  ·exact⟨t,h1.cons e,rfl⟩
theorem Vm:∀{s out:List Nat},(∀k∈out,C0 n (E k))→(∀k∈s,C0 n (E k))→Ba n ((out++s).map E)→Bx n E out s=out++s
 |[],out,_,_,_=>by simp[Bx]
 |e::s,out,ho,hs,h=>by
  have h1:Ib n E out e=out++[e]:=by
   unfold Ib;rw[if_pos];refine(G1 ?_).2 ?_
   ·simp only[List.mem_map,List.mem_append,List.mem_singleton];rintro _ ⟨k,hk | rfl,rfl⟩;exact ho k hk;exact hs _ (by simp)
   ·have:(out++e::s).map E=(out++[e]).map E++s.map E:=by simp
    rw[this]at h;exact h.append_left
  rw[Ja,h1,Vm (s:=s)]
  ·simp
  ·intro k hk;simp only[List.mem_append,List.mem_singleton]at hk;rcases hk with hk | rfl
   ·exact ho k hk
   ·exact hs _ (by simp)
  ·exact fun k hk=>hs k (by simp[hk])
  ·simpa using h
theorem Gz (s out:List Nat):(Bx n E out s).length≤out.length+s.length:=by
 obtain⟨t,h1,h2⟩:=K6 (n:=n) (E:=E) s out;rw[h2,List.length_append];have:=h1.length_le;omega
theorem Z3 {s:List Nat} (hs:∀k∈s,C0 n (E k)):(Bx n E [] s).length=s.length↔Ni n (s.map E)=true:=by
 have hL:∀e∈s.map E,C0 n e:=by simp only[List.mem_map];rintro _ ⟨k,hk,rfl⟩;exact hs k hk
 constructor
 ·intro h;obtain⟨t,h1,h2⟩:=K6 (n:=n) (E:=E) s [];rw[h2]at h;have h3:t=s:=h1.eq_of_length (by simpa using h);have h4:=D1 (n:=n) (E:=E) (s:=s) (out:=[]) (by simp) hs (Ba.nil n);rw[h2,h3]at h4;exact(G1 hL).2 (by simpa using h4)
 ·intro h;rw[Vm (by simp) hs (by simpa using(G1 hL).1 h)];simp
theorem Tn:∀{s out:List Nat},(∀k∈out,C0 n (E k))→(∀k∈s,C0 n (E k))→Ba n (out.map E)→∀e∈s,e ∉ Bx n E out s→∃X,Dv n ((Bx n E out s).map E) X∧ins X (E e)=true
 |[],_,_,_,_,e,he,_=>by simp at he
 |f::s,out,ho,hs,h,e,he,hn=>by
  have hk:∀k∈Ib n E out f,C0 n (E k):=fun k hk=>by
   rcases Ux hk with h2|h2
   ·exact ho k h2
   ·rw[h2];exact hs f (by simp)
  have hks:∀k∈s,C0 n (E k):=fun k hk=>hs k (by simp[hk]);have hsp:=Rh ho (hs f (by simp)) h;rcases List.mem_cons.1 he with rfl | he'
  ·-- the edge itself
   rw[Ja]at hn ⊢;obtain⟨t,_,h2⟩:=K6 (n:=n) (E:=E) s (Ib n E out e);have hfin:=D1 hk hks hsp;rw[h2]at hn hfin ⊢;unfold Ib at hn hfin ⊢;split at hn
   ·simp at hn
   ·rename_i hb
    rw[if_neg hb]at hfin ⊢;have hL:∀x∈(out++[e]).map E,C0 n x:=by
     simp only[List.mem_map,List.mem_append,List.mem_singleton];rintro _ ⟨k,hk | rfl,rfl⟩;exact ho k hk;exact hs _ (by simp)
    have hns:¬Ba n (out.map E++[E e]):=fun hc=>hb ((G1 hL).2 (by simpa using hc));rw[Ns h]at hns;have ⟨X,hX⟩:=Classical.not_forall.1 hns;have ⟨hT,hi⟩:=Classical.not_imp.1 hX;refine⟨X,⟨hT.1,?_⟩,by simpa using hi⟩;have h5:=hfin X hT.1;have h6:=hT.2;rw[List.map_append,H9]at h5 ⊢;omega
  ·rw[Ja]at hn ⊢;exact Tn hk hks hsp e he' hn
end
end Go.Lam
end
section
namespace Go.Lam
def Qer (n:Nat) (L:List Ed) (m:Nat):Bool:=decide (2≤sz n (Cp m))&&decide (spn L (Cp m)+3=2*sz n (Cp m))
theorem Qe3 {n:Nat} {L:List Ed} {m:Nat}:Qer n L m=true↔Dv n L (Cp m):=by simp[Qer,Dv]
def Lk (n:Nat) (L:List Ed):List Nat:=(List.range (2^n)).filter (Qer n L)
def blocks (n:Nat) (L:List Ed):List Nat:=(Lk n L).filter fun m=>(Lk n L).all fun k=>k==m || k &&& m != m
theorem Dv.congr {n:Nat} {L:List Ed} (hL:∀e∈L,C0 n e) {X Y:Nat→Bool} (h:∀v,v<n→X v=Y v) (ht:Dv n L X):Dv n L Y:=by
 unfold Dv at *;rw[←Zx h,←Xv hL h];exact ht
theorem Qkw {m k:Nat}:k &&& m=m↔∀v,Cp m v=true→Cp k v=true:=by
 constructor
 ·intro h v hv;rw[←h]at hv;unfold Cp at *;rw[Nat.testBit_and]at hv;simp at hv;exact hv.1
 ·intro h;refine Nat.eq_of_testBit_eq fun v=>?_;rw[Nat.testBit_and];have:=h v;unfold Cp at this;cases h1:m.testBit v<;>cases h2:k.testBit v<;>simp_all
theorem Qo1 {n m:Nat} (h:m<2^n) {v:Nat} (hv:Cp m v=true):v<n:=by
 rcases Nat.lt_or_ge v n with h1|h1
 ·exact h1
 ·unfold Cp at hv;rw[Nat.testBit_lt_two_pow (Nat.lt_of_lt_of_le h (Nat.pow_le_pow_right (by omega) h1))]at hv;cases hv
theorem T7 {n m k:Nat} (hm:m<2^n) (hk:k<2^n) (h:∀v,v<n→Cp m v=Cp k v):m=k:=Nat.eq_of_testBit_eq fun v=>by
 rcases Nat.lt_or_ge v n with h1|h1
 ·exact h v h1
 ·rw[Nat.testBit_lt_two_pow (Nat.lt_of_lt_of_le hm (Nat.pow_le_pow_right (by omega) h1)),Nat.testBit_lt_two_pow (Nat.lt_of_lt_of_le hk (Nat.pow_le_pow_right (by omega) h1))]
theorem Qds (m k:Nat):Cp (m ||| k)=uni (Cp m) (Cp k):=by funext v;simp[Cp,uni,Nat.testBit_or]
section
variable {n:Nat} {L:List Ed}
theorem Ci {m:Nat}:m∈Lk n L↔m<2^n∧Dv n L (Cp m):=by simp[Lk,Qe3]
theorem Dk {m:Nat}:m∈blocks n L↔m∈Lk n L∧∀k∈Lk n L,(∀v,Cp m v=true→Cp k v=true)→k=m:=by
 unfold blocks;rw[List.mem_filter,List.all_eq_true];refine and_congr_right fun _=>forall_congr' fun k=>forall_congr' fun _=>?_;rw[←Qkw];by_cases h1:k=m
 ·simp[h1]
 ·by_cases h2:k &&& m=m<;>simp[h1,h2]
theorem Jm (hL:∀e∈L,C0 n e) {X:Nat→Bool} (h:Dv n L X):∃m∈blocks n L,∀v,v<n→X v=true→Cp m v=true:=by
 suffices H:∀d,∀X,n≤sz n X+d→Dv n L X→∃m∈blocks n L,∀v,v<n→X v=true→Cp m v=true from H n X (by omega) h
 intro d
 induction d with
 |zero =>
  intro X hd hX;obtain⟨m,h1,h2⟩:=Ln n X;have ht:Dv n L (Cp m):=hX.congr hL fun v hv=>(h2 v hv).symm;refine⟨m,Dk.2 ⟨Ci.2 ⟨h1,ht⟩,fun k hk hs=>?_⟩,fun v hv hx=>by rw[h2 v hv];exact hx⟩;have full:∀v,v<n→X v=true:=fun v hv=>by
   rcases Bool.eq_false_or_eq_true (X v)with h3|h3
   ·exact h3
   ·have a1:=Qge n X (fun w=>w==v);rw[J2 n v hv]at a1;have a2:sz n (cap X fun w=>w==v)=0:=List.countP_eq_zero.2 fun w _=>by
     simp only[cap,Bool.and_eq_true,beq_iff_eq];rintro⟨h4,rfl⟩;rw[h3]at h4;cases h4
    have:=Qrf n (uni X fun w=>w==v);omega
  exact T7 (Ci.1 hk).1 h1 fun v hv=>by
   have:=hs v (by rw[h2 v hv];exact full v hv);rw[this,h2 v hv,full v hv]
 |succ d ih =>
  intro X hd hX;obtain⟨m,h1,h2⟩:=Ln n X;have ht:Dv n L (Cp m):=hX.congr hL fun v hv=>(h2 v hv).symm;by_cases hm:m∈blocks n L
  ·exact⟨m,hm,fun v hv hx=>by rw[h2 v hv];exact hx⟩
  ·rw[Dk]at hm;have hm':¬∀k∈Lk n L,(∀v,Cp m v=true→Cp k v=true)→k=m:=fun hc=>hm ⟨Ci.2 ⟨h1,ht⟩,hc⟩;have ⟨k,hk⟩:=Classical.not_forall.1 hm';have ⟨hk1,hk2⟩:=Classical.not_imp.1 hk;have ⟨hk3,hk4⟩:=Classical.not_imp.1 hk2;obtain⟨hk5,hk6⟩:=Ci.1 hk1;have hlt:sz n X<sz n (Cp k):=by
    have a1:sz n X≤sz n (Cp k):=P0 fun v hv hx=>hk3 v (by rw[h2 v hv];exact hx);rcases Nat.lt_or_ge (sz n X) (sz n (Cp k))with h3 | h3
    ·exact h3
    ·exfalso
     refine hk4 (T7 hk5 h1 fun v hv=>?_);rw[h2 v hv];cases hb:Cp k v with
     |false =>
      cases hx:X v with
      |false=>rfl
      |true=>rw[hk3 v (by rw[h2 v hv];exact hx)]at hb;cases hb
     |true =>
      cases hx:X v with
      |true=>rfl
      |false =>
       have b1:=Qge n X (fun w=>w==v);rw[J2 n v hv]at b1;have b2:sz n (cap X fun w=>w==v)=0:=List.countP_eq_zero.2 fun w _=>by
        simp only[cap,Bool.and_eq_true,beq_iff_eq];rintro⟨h4,rfl⟩;rw[hx]at h4;cases h4
       have b3:sz n (uni X fun w=>w==v)≤sz n (Cp k):=P0 fun w hw h5=>by
        simp only[uni,Bool.or_eq_true,beq_iff_eq]at h5;rcases h5 with h5 | rfl
        ·exact hk3 w (by rw[h2 w hw];exact h5)
        ·exact hb
       omega
   obtain⟨m',h3,h4⟩:=ih (Cp k) (by omega) hk6;exact⟨m',h3,fun v hv hx=>h4 v hv (hk3 v (by rw[h2 v hv];exact hx))⟩
theorem O8 (hs:Ba n L) {m k:Nat} (hm:m∈blocks n L) (hk:k∈blocks n L) (h:2≤sz n (cap (Cp m) (Cp k))):m=k:=by
 obtain⟨hm1,hm2⟩:=Dk.1 hm;obtain⟨hk1,hk2⟩:=Dk.1 hk;have hu:=(Qli hs (Ci.1 hm1).2 (Ci.1 hk1).2 h).1;rw[←Qds]at hu;have hlt:m ||| k<2^n:=Nat.or_lt_two_pow (Ci.1 hm1).1 (Ci.1 hk1).1;have e1:=hm2 _ (Ci.2 ⟨hlt,hu⟩) (fun v hv=>by rw[Qds];simp[uni,hv]);have e2:=hk2 _ (Ci.2 ⟨hlt,hu⟩) (fun v hv=>by rw[Qds];simp[uni,hv]);exact e1.symm.trans e2
theorem Hz:(blocks n L).Nodup:=(List.nodup_range.filter _).filter _
theorem Ip (hL:∀e∈L,C0 n e) (hs:Ba n L) {e:Ed} (he:e∈L):Dv n L (Ez e.1 e.2):=by
 obtain⟨h1,h2,h3⟩:=hL e he;have h4:sz n (Ez e.1 e.2)=2:=Qfo h1 h2 h3;refine⟨by omega,?_⟩;have:=hs _ (Nat.le_of_eq h4.symm);have h5:0<spn L (Ez e.1 e.2):=List.countP_pos_iff.2 ⟨e,he,by simp[ins,Ez]⟩;omega
theorem Tp {α β:Type} (p:α→β→Bool) (J:List β):∀l:List α,(l.map fun m=>J.countP (p m)).sum=(J.map fun e=>l.countP fun m=>p m e).sum
 |[]=>by
  simp only[List.map_nil,List.sum_nil,List.countP_nil]
  induction J with
  |nil=>rfl
  |cons a J ih=>rw[List.map_cons,List.sum_cons,←ih];rfl
 |a::l=>by
  rw[List.map_cons,List.sum_cons,Tp p J l]
  induction J with
  |nil=>rfl
  |cons b J ih=>simp only[List.countP_cons,List.map_cons,List.sum_cons]at *;omega
theorem Nj {α:Type} {p:α→Bool}:∀{l:List α},l.Nodup→(∀a∈l,∀b∈l,p a=true→p b=true→a=b)→l.countP p≤1
 |[],_,_=>by simp
 |a::l,hn,h=>by
  rw[List.nodup_cons]at hn;rw[List.countP_cons];cases hp:p a with
  |false=>simp;exact Nj hn.2 fun x hx y hy=>h x (by simp[hx]) y (by simp[hy])
  |true =>
   have:l.countP p=0:=List.countP_eq_zero.2 fun b hb hpb=>hn.1 (by rw[h a (by simp) b (by simp[hb]) hp hpb];exact hb);simp[this]
theorem Ki {α:Type} {f g:α→Nat}:∀{l:List α},(∀a∈l,f a≤g a)→(l.map f).sum≤(l.map g).sum
 |[],_=>by simp
 |a::l,h=>by
  have:=h a (by simp);have:=Ki (l:=l) fun b hb=>h b (by simp[hb]);simp;omega
theorem Te {α:Type}:∀l:List α,(l.map fun _=>1).sum=l.length
 |[]=>rfl
 |a::l=>by rw[List.map_cons,List.sum_cons,Te l,List.length_cons];omega
theorem Qh7 (hs:Ba n L) {e:Ed} (he:C0 n e):(blocks n L).countP (fun m=>ins (Cp m) e)≤1 :=
 Nj Hz fun m hm k hk h1 h2=>by
  simp only[ins,Bool.and_eq_true]at h1 h2;exact O8 hs hm hk (Yo he.1 he.2.1 he.2.2 (by simp only[cap];rw[h1.1,h2.1];rfl) (by simp only[cap];rw[h1.2,h2.2];rfl))
theorem Uw (hL:∀e∈L,C0 n e) (hs:Ba n L):((blocks n L).map fun m=>2*sz n (Cp m)-3).sum=L.length:=by
 have e1:((blocks n L).map fun m=>2*sz n (Cp m)-3)=(blocks n L).map fun m=>L.countP (ins (Cp m)):=List.map_congr_left fun m hm=>by
  have:=(Ci.1 (Dk.1 hm).1).2.2;unfold spn at this;omega
 rw[e1,Tp (fun m e=>ins (Cp m) e) L,←Te L]
 congr 1
 refine List.map_congr_left fun e he=>Nat.le_antisymm (Qh7 hs (hL e he)) ?_;obtain⟨m,h1,h2⟩:=Jm hL (Ip hL hs he);refine List.countP_pos_iff.2 ⟨m,h1,?_⟩;obtain⟨h3,h4,_⟩:=hL e he;simp only[ins,Bool.and_eq_true];exact⟨h2 _ h3 (by simp[Ez]),h2 _ h4 (by simp[Ez])⟩
theorem Qkv (hL:∀e∈L,C0 n e) (hs:Ba n L) {J:List Ed} (hJ:∀e∈J,C0 n e) (hj:Ba n J) (h:∀e∈J,∃X,Dv n L X∧ins X e=true):J.length≤L.length:=by
 rw[←Uw hL hs,←Te J];refine Nat.le_trans (Ki (g:=fun e=>(blocks n L).countP fun m=>ins (Cp m) e) fun e he=>?_) ?_
 ·obtain⟨X,hX,hi⟩:=h e he;obtain⟨m,h1,h2⟩:=Jm hL hX;obtain⟨h3,h4,_⟩:=hJ e he;simp only[ins,Bool.and_eq_true]at hi;exact List.countP_pos_iff.2 ⟨m,h1,by simp only[ins,Bool.and_eq_true];exact⟨h2 _ h3 hi.1,h2 _ h4 hi.2⟩⟩
 ·rw[←Tp (fun m e=>ins (Cp m) e) J];refine Ki fun m hm=>?_;have:=hj _ (Ci.1 (Dk.1 hm).1).2.1;unfold spn at this;show J.countP (ins (Cp m))≤_
  omega
end
end Go.Lam
end
section
namespace Go.Lam
def Fk {α:Type} (f:Nat→α) (i:Nat) (x:α):Nat→α:=fun v=>if v=i then x else f v
@[simp] theorem Ek {α:Type} (f:Nat→α) (i:Nat) (x:α):Fk f i x i=x:=by simp[Fk]
theorem Bq {α:Type} (f:Nat→α) {i v:Nat} (x:α) (h:v≠i):Fk f i x v=f v:=by simp[Fk,h]
theorem Nu (n:Nat) (cv:Nat→List Nat) (x:Nat):((List.range n).flatMap cv).count x=sm n fun v=>(cv v).count x:=by
 rw[List.count_flatMap];rfl
theorem Ue {l:List Nat} {k e:Nat} (h:l[k]?=some e) (x:Nat):(l.eraseIdx k).count x+(if x=e then 1 else 0)=l.count x:=by
 induction l generalizing k with
 |nil=>simp at h
 |cons a l ih =>
  cases k with
  |zero =>
   simp at h;subst h;simp only[List.eraseIdx_zero,List.tail_cons,List.count_cons];by_cases hx:x=a
   ·simp[hx]
   ·simp[hx,Ne.symm hx]
  |succ k=>simp only[List.eraseIdx_cons_succ,List.count_cons]at *;have:=ih (by simpa using h);omega
section
variable {n:Nat} {E:Nat→Ed} {A:List Nat} {fr:Nat→Nat} {cv:Nat→List Nat}
theorem Inv.move (h:Inv n E A fr cv) {j k e:Nat} (hj:j<n) (hk:(cv j)[k]?=some e) (hf:0<fr (Gl E e j)) :
  Inv n E A (Fk (Fk fr (Gl E e j) (fr (Gl E e j)-1)) j (fr j+1)) (Fk (Fk cv (Gl E e j) (cv (Gl E e j)++[e])) j ((cv j).eraseIdx k)):=by
 have hm:e∈cv j:=List.mem_of_getElem? hk;obtain⟨hl,hne⟩:=h.oth_lt hj hm;refine⟨fun v hv=>?_,?_,fun v hv x hx=>?_,h.ok⟩
 ·by_cases h1:v=j
  ·subst h1;have:=h.two v hv;have hlt:=(List.getElem?_eq_some_iff.1 hk).1;simp only[Ek,List.length_eraseIdx,hlt,if_true];omega
  ·rw[Bq _ _ h1,Bq _ _ h1];by_cases h2:v=Gl E e j
   ·subst h2;have:=h.two _ hv;simp only[Ek,List.length_append,List.length_cons,List.length_nil];omega
   ·rw[Bq _ _ h2,Bq _ _ h2];exact h.two v hv
 ·refine List.Perm.trans (List.perm_iff_count.2 fun x=>?_) h.perm;rw[Nu,Nu];have key:sm n (fun v=>(Fk (Fk cv (Gl E e j) (cv (Gl E e j)++[e])) j ((cv j).eraseIdx k) v).count x+if v=j then (if x=e then 1 else 0) else 0)=sm n (fun v=>(cv v).count x+if v=Gl E e j then (if x=e then 1 else 0) else 0):=Ir fun v hv=>by
   by_cases h1:v=j
   ·subst h1;rw[Ek,if_pos rfl,if_neg (Ne.symm hne),Ue hk x];rfl
   ·rw[Bq _ _ h1,if_neg h1];by_cases h2:v=Gl E e j
    ·subst h2;rw[Ek,if_pos rfl,List.count_append,List.count_singleton];by_cases hx:x=e
     ·simp[hx]
     ·simp[hx,Ne.symm hx]
    ·rw[Bq _ _ h2,if_neg h2]
  rw[Ke,Ke,N7 hj,N7 hl]at key;omega
 ·by_cases h1:v=j
  ·subst h1;rw[Ek]at hx;exact h.ends v hv x (List.mem_of_mem_eraseIdx hx)
  ·rw[Bq _ _ h1]at hx;by_cases h2:v=Gl E e j
   ·subst h2;rw[Ek,List.mem_append,List.mem_singleton]at hx;rcases hx with hx | rfl
    ·exact h.ends _ hv x hx
    ·unfold Gl;rcases h.ends j hj x hm with h3 | h3
     ·right;omega
     ·left;omega
   ·rw[Bq _ _ h2]at hx;exact h.ends v hv x hx
theorem Inv.lay (h:Inv n E A fr cv) {a e:Nat} (ha:(E e).1=a) (he:C0 n (E e)) (hf:0<fr a):Inv n E (A++[e]) (Fk fr a (fr a-1)) (Fk cv a (cv a++[e])):=by
 have hl:a<n:=ha ▸ he.1;refine⟨fun v hv=>?_,?_,fun v hv x hx=>?_,fun x hx=>?_⟩
 ·by_cases h1:v=a
  ·subst h1;have:=h.two v hv;simp only[Ek,List.length_append,List.length_cons,List.length_nil];omega
  ·rw[Bq _ _ h1,Bq _ _ h1];exact h.two v hv
 ·refine List.perm_iff_count.2 fun x=>?_;have h1:=List.perm_iff_count.1 h.perm x;rw[Nu]at h1 ⊢;rw[List.count_append,←h1];have key:sm n (fun v=>(Fk cv a (cv a++[e]) v).count x)=sm n (fun v=>(cv v).count x+if v=a then [e].count x else 0):=Ir fun v _=>by
   by_cases h2:v=a
   ·subst h2;rw[Ek,if_pos rfl,List.count_append]
   ·rw[Bq _ _ h2,if_neg h2];rfl
  rw[key,Ke,N7 hl]
 ·by_cases h1:v=a
  ·subst h1;rw[Ek,List.mem_append,List.mem_singleton]at hx;rcases hx with hx | rfl
   ·exact h.ends _ hv x hx
   ·exact .inl ha
  ·rw[Bq _ _ h1]at hx;exact h.ends v hv x hx
 ·rw[List.mem_append,List.mem_singleton]at hx;rcases hx with hx | rfl
  ·exact h.ok x hx
  ·exact he
theorem Inv.start (n:Nat) (E:Nat→Ed):Inv n E [] (fun _=>2) (fun _=>[]):=⟨fun _ _=>rfl,by simp,fun _ _ _ h=>by simp at h,fun _ h=>by simp at h⟩
structure Ld (n:Nat) (E:Nat→Ed) (fr:Nat→Nat) (cv:Nat→List Nat) (S T:Nat→Bool):Prop where
 sub:∀v,S v=true→T v=true
 zero:∀v,v<n→S v=false→T v=true→fr v=0
 shut:∀v,v<n→S v=false→T v=true→∀e∈cv v,T (Gl E e v)=true
theorem Ld.refl (S:Nat→Bool):Ld n E fr cv S S:=⟨fun _ h=>h,fun v _ h h'=>(by rw[h]at h';cases h'),fun v _ h h'=>(by rw[h]at h';cases h')⟩
theorem Ld.step {S T T':Nat→Bool} {m:Nat} (h:Ld n E fr cv S T) (hm:fr m=0) (h':Ld n E fr cv (Fk T m true) T') (hs:∀e∈cv m,T' (Gl E e m)=true):Ld n E fr cv S T' where
 sub:=fun v hv=>h'.sub v (by unfold Fk;split;rfl;exact h.sub v hv)
 zero:=fun v hv h1 h2=>by
  by_cases hvm:v=m
  ·subst hvm;exact hm
  ·cases hT:T v with
   |true=>exact h.zero v hv h1 hT
   |false=>exact h'.zero v hv (by rw[Bq _ _ hvm];exact hT) h2
 shut:=fun v hv h1 h2 e he=>by
  by_cases hvm:v=m
  ·subst hvm;exact hs e he
  ·cases hT:T v with
   |true =>
    have h3:=h.shut v hv h1 hT e he;exact h'.sub _ (by unfold Fk;split;rfl;exact h3)
   |false=>exact h'.shut v hv (by rw[Bq _ _ hvm];exact hT) h2 e he
structure Got (n:Nat) (E:Nat→Ed) (A:List Nat) (S:Nat→Bool) (j:Nat) (fr:Nat→Nat) (cv:Nat→List Nat) (fr':Nat→Nat) (cv':Nat→List Nat):Prop where
 inv:Inv n E A fr' cv'
 plus:fr' j=fr j+1
 free:∀v,v<n→S v=true→v≠j→fr' v=fr v
 cover:∀v,v<n→S v=true→v≠j→cv' v=cv v
theorem Got.direct (h:Inv n E A fr cv) {S:Nat→Bool} {j k e:Nat} (hj:j<n) (hk:(cv j)[k]?=some e) (hS:S (Gl E e j)=false) (hf:0<fr (Gl E e j)) :
  Got n E A S j fr cv (Fk (Fk fr (Gl E e j) (fr (Gl E e j)-1)) j (fr j+1)) (Fk (Fk cv (Gl E e j) (cv (Gl E e j)++[e])) j ((cv j).eraseIdx k)) where
 inv:=h.move hj hk hf
 plus:=by simp
 free:=fun v _ hv hvj=>by rw[Bq _ _ hvj,Bq _ _ (fun e'=>by rw[e',hS]at hv;cases hv)]
 cover:=fun v _ hv hvj=>by rw[Bq _ _ hvj,Bq _ _ (fun e'=>by rw[e',hS]at hv;cases hv)]
theorem Got.through {S T:Nat→Bool} {fr':Nat→Nat} {cv':Nat→List Nat} {j k e:Nat} (hsub:∀v,S v=true→T v=true) (hj:j<n) (hSj:S j=true) (hk:(cv j)[k]?=some e) (hS:T (Gl E e j)=false)
  (hne:Gl E e j≠j) (g:Got n E A (Fk T (Gl E e j) true) (Gl E e j) fr cv fr' cv') :
  Got n E A S j fr cv (Fk (Fk fr' (Gl E e j) (fr' (Gl E e j)-1)) j (fr' j+1)) (Fk (Fk cv' (Gl E e j) (cv' (Gl E e j)++[e])) j ((cv' j).eraseIdx k)):=by
 have hin:∀v,S v=true→Fk T (Gl E e j) true v=true:=fun v hv=>by unfold Fk;split;rfl;exact hsub v hv
 have hcj:cv' j=cv j:=g.cover j hj (hin j hSj) (Ne.symm hne);have hfj:fr' j=fr j:=g.free j hj (hin j hSj) (Ne.symm hne);have hno:∀v,S v=true→v≠Gl E e j:=fun v hv e'=>by rw[e']at hv;rw[hsub _ hv]at hS;cases hS
 refine⟨g.inv.move hj (by rw[hcj];exact hk) (by rw[g.plus];omega),by simp[hfj],fun v hv h1 h2=>?_,fun v hv h1 h2=>?_⟩
 ·rw[Bq _ _ h2,Bq _ _ (hno v h1)];exact g.free v hv (hin v h1) (hno v h1)
 ·rw[Bq _ _ h2,Bq _ _ (hno v h1)];exact g.cover v hv (hin v h1) (hno v h1)
end
end Go.Lam
end
