/- A part of the proof. -/
import Derived.Test.YthflocfaafoohaaGreatP2
set_option linter.all false
set_option exponentiation.threshold 5000
set_option maxRecDepth 10000
section
namespace Go.Av
open Go.Proofs
theorem H1 (d:Nat):Az (d:Int)=.agg [.bool false,Ao (Ar d)]:=by
 rw[Az,show decide ((d:Int)<0)=false by simp];rfl
theorem Iu {z:Int} (h:Cf z=true):Bs z=.tup [.agg [.bool (decide (z<0)),Ao (Ar z.natAbs)],.int .i64 0]:=by
 rw[B7]at h;rw[Bs,Qu h,Q3 h];rfl
theorem Kz {z:Int} (h:¬Cf z=true):Bs z=.tup [.agg [.bool false,Ao []],.int .i64 2]:=by
 rw[B7]at h;rw[Bs,fz,fe,if_neg h,if_neg h,Az];simp[Bb]
section
variable {a b:Rat}
theorem Qh8 (h1:Cf (a.num*b.num)=true) (h2:Cf ((a.den:Int)*b.den)=true):D4 a b=some (a*b):=by unfold D4;rw[h1,h2];rfl
theorem Qeh (h1:¬Cf (a.num*b.num)=true):D4 a b=none:=by unfold D4;rw[if_neg (by simp only[Bool.and_eq_true];exact fun h=>h1 h.1)]
theorem Qei (h1:Cf (a.num*b.num)=true) (h2:¬Cf ((a.den:Int)*b.den)=true):D4 a b=none:=by unfold D4;rw[if_neg (by simp only[Bool.and_eq_true];exact fun h=>h2 h.2)]
theorem Qjw (h1:Cf (a.num*b.den)=true) (h2:Cf ((a.den:Int)*b.num)=true):Fu a b=some (a / b):=by unfold Fu;rw[h1,h2];rfl
theorem Qe3 (h1:¬Cf (a.num*b.den)=true):Fu a b=none:=by unfold Fu;rw[if_neg (by simp only[Bool.and_eq_true];exact fun h=>h1 h.1)]
theorem Qe4 (h1:Cf (a.num*b.den)=true) (h2:¬Cf ((a.den:Int)*b.num)=true):Fu a b=none:=by unfold Fu;rw[if_neg (by simp only[Bool.and_eq_true];exact fun h=>h2 h.2)]
theorem Qje (h1:Cf (a.num*b.den)=true) (h2:Cf (b.num*a.den)=true) (h3:Cf (a.num*b.den-b.num*a.den)=true) (h4:Cf ((a.den:Int)*b.den)=true):C2 a b=some (a-b):=by unfold C2;rw[h1,h2,h3,h4];rfl
theorem Qev (h1:¬Cf (a.num*b.den)=true):C2 a b=none:=by unfold C2;rw[if_neg (by simp only[Bool.and_eq_true];exact fun h=>h1 h.1.1.1)]
theorem Qfk (h1:Cf (a.num*b.den)=true) (h2:¬Cf (b.num*a.den)=true):C2 a b=none:=by unfold C2;rw[if_neg (by simp only[Bool.and_eq_true];exact fun h=>h2 h.1.1.2)]
theorem Qe6 (h1:Cf (a.num*b.den)=true) (h2:Cf (b.num*a.den)=true) (h3:¬Cf (a.num*b.den-b.num*a.den)=true):C2 a b=none:=by unfold C2;rw[if_neg (by simp only[Bool.and_eq_true];exact fun h=>h3 h.1.2)]
theorem Qfb (h1:Cf (a.num*b.den)=true) (h2:Cf (b.num*a.den)=true) (h3:Cf (a.num*b.den-b.num*a.den)=true) (h4:¬Cf ((a.den:Int)*b.den)=true):C2 a b=none:=by unfold C2;rw[if_neg (by simp only[Bool.and_eq_true];exact fun h=>h4 h.2)]
end
theorem En {q:Rat} (h:Bu q):((q.den:Int)).natAbs<Bk:=by simpa using h.2
theorem Qf5 (a b:Rat) (ha:Bu a) (hb:Bu b):Ai Tryz.prog 213 [Gi a,Gi b] Ac.emp fun v m=>v=C0 (D4 a b)∧m=Ac.emp:=by
 have hbo:=Nw (Aq a) (Aq b) (D9 a) (D9 b);rw[Dp ha,Dp hb]at hbo;have m1:=Gv a.num b.num ha.1 hb.1;have m2:=Gv a.den b.den (En ha) (En hb);have hne:(a.den:Int)*b.den≠0:=Int.ne_of_gt (Int.mul_pos (by have:=a.den_pos;omega) (by have:=b.den_pos;omega));have hlo:Cf (a.num*b.num)=true→Cf ((a.den:Int)*b.den)=true→_:=fun h1 h2=>Ix (a.num*b.num) ((a.den:Int)*b.den) (B7.1 h1) (B7.1 h2) hne;rw[←Qb5]at hlo;simp only[RR.av,Aq]at hbo;unfold Gi at *;simp only[H1]at m2
 simp only[Az]at m1 hlo;refine Ad Tryz.func213 rfl rfl 42 rfl (Nat.le_of_ble_eq_true rfl) ?_;(repeat refine AW.seq_k fun K hK=>?_);refine AW.rgR [2,3] ?_;simp[Al];try (refine hK _ rfl ?_;clear hK K)
 refine Af.intro fun b4 _=>?_;refine hK _ rfl ?_;clear hK K;(repeat refine AW.seq_k fun K hK=>?_);refine AW.rg ?_;simp;try (refine hK _ rfl ?_;clear hK K)
 refine Aa.val hbo ?_;simp;refine hK _ rfl ?_;clear hK K;refine AW.no ?_ rfl;refine AW.skip ?_;try simp
 refine hK _ rfl ?_;clear hK K;(repeat refine AW.seq_k fun K hK=>?_);refine AW.rg ?_;simp[and_true];try (refine hK _ rfl ?_;clear hK K)
 refine Aa.val m1 ?_;by_cases c1:Cf (a.num*b.num)=true
 case neg =>
  rw[Kz c1];simp;refine Af.intro fun b6 hb6=>?_;simp only[Am,Ax,and_true]at hb6;try simp[and_true]
  refine hK _ rfl ?_;clear hK K;(repeat refine AW.seq_k fun K hK=>?_);refine AW.rg ?_;simp;try (refine hK _ rfl ?_;clear hK K)
  refine AW.yes ?_ rfl;(repeat refine AW.seq_k fun K hK=>?_);refine AW.rg ?_;simp[and_true,hb6];try (refine hK _ rfl ?_;clear hK K)
  exact AW.ret (B3 (b:=b4) _ _ _ _ rfl rfl (by simp[and_true,hb6];exact⟨rfl,rfl,rfl,rfl⟩) rfl (by simp;exact⟨Cb _ _ _ |>.2 trivial,Br.nilsl 1,Cb _ _ _ |>.2 trivial,Br.nilsl 1⟩) ⟨by rw[Qeh c1];rfl,rfl⟩)
 rw[Iu c1];simp;refine Af.intro fun b6 hb6=>?_;simp only[Am,Ax,and_true]at hb6;try simp[and_true]
 refine hK _ rfl ?_;clear hK K;(repeat refine AW.seq_k fun K hK=>?_);refine AW.rg ?_;simp;try (refine hK _ rfl ?_;clear hK K)
 refine AW.no ?_ rfl;refine AW.skip ?_;try simp
 refine hK _ rfl ?_;clear hK K;(repeat refine AW.seq_k fun K hK=>?_);refine AW.rg ?_;simp[hb6];try (refine hK _ rfl ?_;clear hK K)
 refine Aa.val m2 ?_;by_cases c2:Cf ((a.den:Int)*b.den)=true
 case neg =>
  rw[Kz c2];simp;refine Af.intro fun b8 hb8=>?_;simp only[Am,Ax,and_true]at hb8;try simp[hb6]
  refine hK _ rfl ?_;clear hK K;(repeat refine AW.seq_k fun K hK=>?_);refine AW.rg ?_;simp;try (refine hK _ rfl ?_;clear hK K)
  refine AW.yes ?_ rfl;(repeat refine AW.seq_k fun K hK=>?_);refine AW.rg ?_;simp[hb6,hb8];try (refine hK _ rfl ?_;clear hK K)
  exact AW.ret (B3 (b:=b4) _ _ _ _ rfl rfl (by simp[hb6,hb8];exact⟨rfl,rfl,rfl,rfl⟩) rfl (by simp;exact⟨Cb _ _ _ |>.2 trivial,Br.nilsl 1,Cb _ _ _ |>.2 trivial,Br.nilsl 1⟩) ⟨by rw[Qei c1 c2];rfl,rfl⟩)
 rw[Iu c2];simp[-Int.natCast_mul];refine Af.intro fun b8 hb8=>?_;simp only[Am,Ax,and_true]at hb8;try simp[-Int.natCast_mul,hb6]
 refine hK _ rfl ?_;clear hK K;(repeat refine AW.seq_k fun K hK=>?_);refine AW.rg ?_;simp[-Int.natCast_mul];try (refine hK _ rfl ?_;clear hK K)
 refine AW.no ?_ rfl;refine AW.skip ?_;try simp[-Int.natCast_mul]
 refine hK _ rfl ?_;clear hK K;(repeat refine AW.seq_k fun K hK=>?_);refine AW.rg ?_;simp[-Int.natCast_mul,hb6,hb8];try (refine hK _ rfl ?_;clear hK K)
 refine Aa.val (hlo c1 c2) ?_;simp[-Int.natCast_mul,hb6,hb8];refine hK _ rfl ?_;clear hK K;exact AW.ret (B3 (b:=b4) _ _ _ _ rfl rfl (by simp[-Int.natCast_mul,hb6,hb8];exact⟨rfl,rfl,rfl,rfl⟩) rfl (A9 _ _ _) ⟨by rw[Qh8 c1 c2];rfl,rfl⟩)
theorem Qha (a b:Rat) (ha:Bu a) (hb:Bu b) (h0:b≠0):Ai Tryz.prog 205 [Gi a,Gi b] Ac.emp fun v m=>v=C0 (Fu a b)∧m=Ac.emp:=by
 have hbo:=Nw (Aq a) (Aq b) (D9 a) (D9 b);rw[Dp ha,Dp hb]at hbo;have hb0:b.num≠0:=fun e=>h0 (Rat.num_eq_zero.1 e);have hz:=G2 (decide (b.num<0)) (Ar b.num.natAbs);have hl:¬Ar b.num.natAbs=[]:=by rw[Cj];omega
 have m1:=Gv a.num b.den ha.1 (En hb);have m2:=Gv a.den b.num (En ha) hb.1;have hne:(a.den:Int)*b.num≠0:=Int.mul_ne_zero (by have:=a.den_pos;omega) hb0;have hlo:Cf (a.num*b.den)=true→Cf ((a.den:Int)*b.num)=true→_:=fun h1 h2=>Ix (a.num*b.den) ((a.den:Int)*b.num) (B7.1 h1) (B7.1 h2) hne;rw[←Qdq]at hlo;simp only[RR.av,Aq]at hbo;unfold D3 at hz;unfold Gi at *;simp only[H1]at m1 m2;simp only[Az]at m1 m2 hlo;refine Ad Tryz.func205 rfl rfl 46 rfl (Nat.le_of_ble_eq_true rfl) ?_;(repeat refine AW.seq_k fun K hK=>?_)
 refine AW.rgR [2,3] ?_;simp[Al];try (refine hK _ rfl ?_;clear hK K)
 refine Af.intro fun b4 _=>?_;refine hK _ rfl ?_;clear hK K;(repeat refine AW.seq_k fun K hK=>?_);refine AW.rg ?_;simp;try (refine hK _ rfl ?_;clear hK K)
 refine Aa.val hbo ?_;simp;refine hK _ rfl ?_;clear hK K;refine AW.no ?_ rfl;refine AW.skip ?_;try simp
 refine hK _ rfl ?_;clear hK K;(repeat refine AW.seq_k fun K hK=>?_);refine AW.rg ?_;simp;try (refine hK _ rfl ?_;clear hK K)
 refine Aa.val hz ?_;simp[hl];refine hK _ rfl ?_;clear hK K;refine AW.no ?_ rfl;refine AW.skip ?_;try simp
 refine hK _ rfl ?_;clear hK K;(repeat refine AW.seq_k fun K hK=>?_);refine AW.rg ?_;simp[and_true];try (refine hK _ rfl ?_;clear hK K)
 refine Aa.val m1 ?_;by_cases c1:Cf (a.num*(b.den:Int))=true
 case neg =>
  rw[Kz c1];simp;refine Af.intro fun b6 hb6=>?_;simp only[Am,Ax,and_true]at hb6;try simp[and_true]
  refine hK _ rfl ?_;clear hK K;(repeat refine AW.seq_k fun K hK=>?_);refine AW.rg ?_;simp;try (refine hK _ rfl ?_;clear hK K)
  refine AW.yes ?_ rfl;(repeat refine AW.seq_k fun K hK=>?_);refine AW.rg ?_;simp[and_true,hb6];try (refine hK _ rfl ?_;clear hK K)
  exact AW.ret (B3 (b:=b4) _ _ _ _ rfl rfl (by simp[and_true,hb6];exact⟨rfl,rfl,rfl,rfl⟩) rfl (by simp;exact⟨Cb _ _ _ |>.2 trivial,Br.nilsl 1,Cb _ _ _ |>.2 trivial,Br.nilsl 1⟩) ⟨by rw[Qe3 c1];rfl,rfl⟩)
 rw[Iu c1];simp;refine Af.intro fun b6 hb6=>?_;simp only[Am,Ax,and_true]at hb6;try simp[and_true]
 refine hK _ rfl ?_;clear hK K;(repeat refine AW.seq_k fun K hK=>?_);refine AW.rg ?_;simp;try (refine hK _ rfl ?_;clear hK K)
 refine AW.no ?_ rfl;refine AW.skip ?_;try simp
 refine hK _ rfl ?_;clear hK K;(repeat refine AW.seq_k fun K hK=>?_);refine AW.rg ?_;simp[hb6];try (refine hK _ rfl ?_;clear hK K)
 refine Aa.val m2 ?_;by_cases c2:Cf ((a.den:Int)*b.num)=true
 case neg =>
  rw[Kz c2];simp;refine Af.intro fun b8 hb8=>?_;simp only[Am,Ax,and_true]at hb8;try simp[hb6]
  refine hK _ rfl ?_;clear hK K;(repeat refine AW.seq_k fun K hK=>?_);refine AW.rg ?_;simp;try (refine hK _ rfl ?_;clear hK K)
  refine AW.yes ?_ rfl;(repeat refine AW.seq_k fun K hK=>?_);refine AW.rg ?_;simp[hb6,hb8];try (refine hK _ rfl ?_;clear hK K)
  exact AW.ret (B3 (b:=b4) _ _ _ _ rfl rfl (by simp[hb6,hb8];exact⟨rfl,rfl,rfl,rfl⟩) rfl (by simp;exact⟨Cb _ _ _ |>.2 trivial,Br.nilsl 1,Cb _ _ _ |>.2 trivial,Br.nilsl 1⟩) ⟨by rw[Qe4 c1 c2];rfl,rfl⟩)
 rw[Iu c2];simp;refine Af.intro fun b8 hb8=>?_;simp only[Am,Ax,and_true]at hb8;try simp[hb6]
 refine hK _ rfl ?_;clear hK K;(repeat refine AW.seq_k fun K hK=>?_);refine AW.rg ?_;simp;try (refine hK _ rfl ?_;clear hK K)
 refine AW.no ?_ rfl;refine AW.skip ?_;try simp
 refine hK _ rfl ?_;clear hK K;(repeat refine AW.seq_k fun K hK=>?_);refine AW.rg ?_;simp[hb6,hb8];try (refine hK _ rfl ?_;clear hK K)
 refine Aa.val (hlo c1 c2) ?_;simp[hb6,hb8];refine hK _ rfl ?_;clear hK K;exact AW.ret (B3 (b:=b4) _ _ _ _ rfl rfl (by simp[hb6,hb8];exact⟨rfl,rfl,rfl,rfl⟩) rfl (A9 _ _ _) ⟨by rw[Qjw c1 c2];rfl,rfl⟩)
theorem U3 (a b:Rat) (ha:Bu a) (hb:Bu b):Ai Tryz.prog 98 [Gi a,Gi b,.bool true] Ac.emp fun v m=>v=C0 (C2 a b)∧m=Ac.emp:=by
 have hbo:=Nw (Aq a) (Aq b) (D9 a) (D9 b);rw[Dp ha,Dp hb]at hbo;have m1:=Gv a.num b.den ha.1 (En hb);have m2:=Gv b.num a.den hb.1 (En ha);have m4:=Gv a.den b.den (En ha) (En hb);have hne:(a.den:Int)*b.den≠0:=Int.ne_of_gt (Int.mul_pos (by have:=a.den_pos;omega) (by have:=b.den_pos;omega));have hlo:Cf (a.num*b.den-b.num*a.den)=true→Cf ((a.den:Int)*b.den)=true→_:=fun h1 h2=>Ix (a.num*b.den-b.num*a.den) ((a.den:Int)*b.den) (B7.1 h1) (B7.1 h2) hne;rw[←Qb1]at hlo
 have hng:Cf (b.num*a.den)=true→_:=fun h=>I5 (b.num*a.den) (B7.1 h);have m3:Cf (a.num*b.den)=true→Cf (b.num*a.den)=true→_:=fun h1 h2=>Qhk (a.num*b.den) (-(b.num*a.den)) (B7.1 h1) (by rw[Int.natAbs_neg];exact B7.1 h2);rw[←Int.sub_eq_add_neg]at m3;obtain⟨y,hy⟩:∃y:Int,-(b.num*a.den)=y:=⟨_,rfl⟩;rw[hy]at hng m3;simp only[RR.av,Aq]at hbo;unfold Gi at *;simp only[H1]at m1 m2 m4;simp only[Az]at m1 m2 m3 hlo hng;refine Ad Tryz.func98 rfl rfl 73 rfl (Nat.le_of_ble_eq_true rfl) ?_;(repeat refine AW.seq_k fun K hK=>?_)
 refine AW.rgR [3,4] ?_;simp[Al];try (refine hK _ rfl ?_;clear hK K)
 refine Af.intro fun b6 _=>?_;refine hK _ rfl ?_;clear hK K;(repeat refine AW.seq_k fun K hK=>?_);refine AW.rg ?_;simp;try (refine hK _ rfl ?_;clear hK K)
 refine Aa.val hbo ?_;simp;refine hK _ rfl ?_;clear hK K;refine AW.no ?_ rfl;refine AW.skip ?_;try simp
 refine hK _ rfl ?_;clear hK K;(repeat refine AW.seq_k fun K hK=>?_);refine AW.rg ?_;simp[and_true];try (refine hK _ rfl ?_;clear hK K)
 refine Aa.val m1 ?_;by_cases c1:Cf (a.num*(b.den:Int))=true
 case neg =>
  rw[Kz c1];simp;refine Af.intro fun b8 hb8=>?_;simp only[Am,Ax,and_true]at hb8;try simp[and_true]
  refine hK _ rfl ?_;clear hK K;(repeat refine AW.seq_k fun K hK=>?_);refine AW.rg ?_;simp;try (refine hK _ rfl ?_;clear hK K)
  refine AW.yes ?_ rfl;(repeat refine AW.seq_k fun K hK=>?_);refine AW.rg ?_;simp[and_true,hb8];try (refine hK _ rfl ?_;clear hK K)
  exact AW.ret (B3 (b:=b6) _ _ _ _ rfl rfl (by simp[and_true,hb8];exact⟨rfl,rfl,rfl,rfl⟩) rfl (by simp;exact⟨Cb _ _ _ |>.2 trivial,Br.nilsl 1,Cb _ _ _ |>.2 trivial,Br.nilsl 1⟩) ⟨by rw[Qev c1];rfl,rfl⟩)
 rw[Iu c1];simp;refine Af.intro fun b8 hb8=>?_;simp only[Am,Ax,and_true]at hb8;try simp[and_true]
 refine hK _ rfl ?_;clear hK K;(repeat refine AW.seq_k fun K hK=>?_);refine AW.rg ?_;simp;try (refine hK _ rfl ?_;clear hK K)
 refine AW.no ?_ rfl;refine AW.skip ?_;try simp
 refine hK _ rfl ?_;clear hK K;(repeat refine AW.seq_k fun K hK=>?_);refine AW.rg ?_;simp[hb8];try (refine hK _ rfl ?_;clear hK K)
 refine Aa.val m2 ?_;by_cases c2:Cf (b.num*(a.den:Int))=true
 case neg =>
  rw[Kz c2];simp;refine Af.intro fun b10 hb10=>?_;simp only[Am,Ax,and_true]at hb10;try simp[hb8]
  refine hK _ rfl ?_;clear hK K;(repeat refine AW.seq_k fun K hK=>?_);refine AW.rg ?_;simp;try (refine hK _ rfl ?_;clear hK K)
  refine AW.yes ?_ rfl;(repeat refine AW.seq_k fun K hK=>?_);refine AW.rg ?_;simp[hb8,hb10];try (refine hK _ rfl ?_;clear hK K)
  exact AW.ret (B3 (b:=b6) _ _ _ _ rfl rfl (by simp[hb8,hb10];exact⟨rfl,rfl,rfl,rfl⟩) rfl (by simp;exact⟨Cb _ _ _ |>.2 trivial,Br.nilsl 1,Cb _ _ _ |>.2 trivial,Br.nilsl 1⟩) ⟨by rw[Qfk c1 c2];rfl,rfl⟩)
 rw[Iu c2];simp;refine Af.intro fun b10 hb10=>?_;simp only[Am,Ax,and_true]at hb10;try simp[hb8]
 refine hK _ rfl ?_;clear hK K;(repeat refine AW.seq_k fun K hK=>?_);refine AW.rg ?_;simp;try (refine hK _ rfl ?_;clear hK K)
 refine AW.no ?_ rfl;refine AW.skip ?_;try simp
 refine hK _ rfl ?_;clear hK K;refine AW.seq_k fun K hK=>?_;(repeat refine AW.seq_k fun K hK=>?_);refine AW.rg ?_;simp;try (refine hK _ rfl ?_;clear hK K)
 refine AW.yes ?_ rfl;(repeat refine AW.seq_k fun K hK=>?_);refine AW.rg ?_;simp[hb8,hb10];try (refine hK _ rfl ?_;clear hK K)
 refine Aa.val (hng c2) ?_;simp[hb8,hb10];refine hK _ rfl ?_;clear hK K;(repeat refine AW.seq_k fun K hK=>?_);refine AW.rg ?_;simp[hb8,hb10];try (refine hK _ rfl ?_;clear hK K)
 refine Aa.val (m3 c1 c2) ?_;by_cases c3:Cf (a.num*(b.den:Int)-b.num*(a.den:Int))=true
 case neg =>
  rw[Kz c3];simp;refine Af.intro fun b12 hb12=>?_;simp only[Am,Ax,and_true]at hb12;try simp[hb8,hb10]
  refine hK _ rfl ?_;clear hK K;(repeat refine AW.seq_k fun K hK=>?_);refine AW.rg ?_;simp;try (refine hK _ rfl ?_;clear hK K)
  refine AW.yes ?_ rfl;(repeat refine AW.seq_k fun K hK=>?_);refine AW.rg ?_;simp[hb8,hb10,hb12];try (refine hK _ rfl ?_;clear hK K)
  exact AW.ret (B3 (b:=b6) _ _ _ _ rfl rfl (by simp[hb8,hb10,hb12];exact⟨rfl,rfl,rfl,rfl⟩) rfl (by simp;exact⟨Cb _ _ _ |>.2 trivial,Br.nilsl 1,Cb _ _ _ |>.2 trivial,Br.nilsl 1⟩) ⟨by rw[Qe6 c1 c2 c3];rfl,rfl⟩)
 rw[Iu c3];simp;refine Af.intro fun b12 hb12=>?_;simp only[Am,Ax,and_true]at hb12;try simp[hb8,hb10]
 refine hK _ rfl ?_;clear hK K;(repeat refine AW.seq_k fun K hK=>?_);refine AW.rg ?_;simp;try (refine hK _ rfl ?_;clear hK K)
 refine AW.no ?_ rfl;refine AW.skip ?_;try simp
 refine hK _ rfl ?_;clear hK K;(repeat refine AW.seq_k fun K hK=>?_);refine AW.rg ?_;simp[hb8,hb10,hb12];try (refine hK _ rfl ?_;clear hK K)
 refine Aa.val m4 ?_;by_cases c4:Cf ((a.den:Int)*(b.den:Int))=true
 case neg =>
  rw[Kz c4];simp;refine Af.intro fun b14 hb14=>?_;simp only[Am,Ax,and_true]at hb14;try simp[hb8,hb10,hb12]
  refine hK _ rfl ?_;clear hK K;(repeat refine AW.seq_k fun K hK=>?_);refine AW.rg ?_;simp;try (refine hK _ rfl ?_;clear hK K)
  refine AW.yes ?_ rfl;(repeat refine AW.seq_k fun K hK=>?_);refine AW.rg ?_;simp[hb8,hb10,hb12,hb14];try (refine hK _ rfl ?_;clear hK K)
  exact AW.ret (B3 (b:=b6) _ _ _ _ rfl rfl (by simp[hb8,hb10,hb12,hb14];exact⟨rfl,rfl,rfl,rfl⟩) rfl (by simp;exact⟨Cb _ _ _ |>.2 trivial,Br.nilsl 1,Cb _ _ _ |>.2 trivial,Br.nilsl 1⟩) ⟨by rw[Qfb c1 c2 c3 c4];rfl,rfl⟩)
 rw[Iu c4];simp[-Int.natCast_mul];refine Af.intro fun b14 hb14=>?_;simp only[Am,Ax,and_true]at hb14;try simp[-Int.natCast_mul,hb8,hb10,hb12]
 refine hK _ rfl ?_;clear hK K;(repeat refine AW.seq_k fun K hK=>?_);refine AW.rg ?_;simp[-Int.natCast_mul];try (refine hK _ rfl ?_;clear hK K)
 refine AW.no ?_ rfl;refine AW.skip ?_;try simp[-Int.natCast_mul]
 refine hK _ rfl ?_;clear hK K;(repeat refine AW.seq_k fun K hK=>?_);refine AW.rg ?_;simp[-Int.natCast_mul,hb8,hb10,hb12,hb14];try (refine hK _ rfl ?_;clear hK K)
 refine Aa.val (hlo c3 c4) ?_;simp[-Int.natCast_mul,hb8,hb10,hb12,hb14];refine hK _ rfl ?_;clear hK K;exact AW.ret (B3 (b:=b6) _ _ _ _ rfl rfl (by simp[-Int.natCast_mul,hb8,hb10,hb12,hb14];exact⟨rfl,rfl,rfl,rfl⟩) rfl (A9 _ _ _) ⟨by rw[Qje c1 c2 c3 c4];rfl,rfl⟩)
end Go.Av
end
section
namespace Go.Av
open Go.Proofs
theorem H0 (a b:Rat) (ha:Bu a) (hb:Bu b):Ai Tryz.prog 65 [Gi a,Gi b] Ac.emp fun v m=>v=C0 (C2 a b)∧m=Ac.emp:=by
 have hs:=U3 a b ha hb;generalize C2 a b=q at *;unfold Gi at hs ⊢;refine Ad Tryz.func65 rfl rfl 11 rfl (Nat.le_of_ble_eq_true rfl) ?_;(repeat refine AW.seq_k fun K hK=>?_);refine AW.rgR [2,3] ?_;simp[Al];try (refine hK _ rfl ?_;clear hK K)
 refine Af.intro fun b4 _=>?_;refine hK _ rfl ?_;clear hK K;(repeat refine AW.seq_k fun K hK=>?_);refine AW.rg ?_;simp;try (refine hK _ rfl ?_;clear hK K)
 refine Aa.val hs ?_;cases q
 ·simp[C0,B5];refine hK _ rfl ?_;clear hK K;exact AW.ret (B3 (b:=b4) _ _ _ _ rfl rfl (by simp<;>exact⟨rfl,rfl,rfl,rfl⟩) rfl (A9 _ _ _) ⟨rfl,rfl⟩)
 ·simp[C0,Gi];refine hK _ rfl ?_;clear hK K;exact AW.ret (B3 (b:=b4) _ _ _ _ rfl rfl (by simp<;>exact⟨rfl,rfl,rfl,rfl⟩) rfl (A9 _ _ _) ⟨rfl,rfl⟩)
@[simp] theorem Q0t:Ak Tryz.prog 98=some {size:=1,bytes:=8,cls:=.func,zero:=.nfn,fields:=[]}:=by kernel_rfl
@[simp] theorem Lm.agg_func:Lm.func.agg=false:=(rfl)
def kz (e z:Int):Int:=if e=0 then fz z else 0
def ke (e z:Int):Int:=if e=0 then fe z else e
theorem Qja (e z:Int):(kz e z).natAbs<Bk:=by
 unfold kz;split
 ·exact Qpc z
 ·exact Qpc 0 |> fun h=>by simpa[fz,show(0:Int).natAbs<Bk by decide]using h
section
variable {P:Program} {rs:List ResultVar} {R:AV→Ac→Prop} {s:St}
theorem Dk {vs:List AV} (vs':List AV) (b:Nat) (x:Ex) (hs:Dt P s rs=some vs) (hb:s.m b=some x) (h1:∀v∈x.l,v.cells.all AV.one=true) (hv:D8 s.m (Ac.emp.set b x) vs vs') (hR:R (oneOrTup vs') (Ac.emp.set b x)):Mp P rs R .ret s :=
 ⟨vs,hs,_,_,Ba.one hb h1,Br.oneOrTup hv,hR⟩
end
theorem W3 (f:Nat) (b:Nat):Ai Tryz.prog 181 [.fn f [],.ptr b 1 0 0] Ac.emp fun v m=>v=.fn 182 [.ptr b 1 0 0,.rptr [.fn f []]]∧m=Ac.emp:=by
 refine Ad Tryz.func181 rfl rfl 5 rfl (Nat.le_of_ble_eq_true rfl) ?_;(repeat refine AW.seq_k fun K hK=>?_);refine AW.rgR [2] ?_;simp[Al];try (refine hK _ rfl ?_;clear hK K)
 (repeat refine AW.seq_k fun K hK=>?_);refine AW.rg ?_;simp;try (refine hK _ rfl ?_;clear hK K)
 exact AW.ret (Ag rfl _ (.same _) ⟨rfl,rfl⟩)
theorem Fx (f:Nat) (b:Nat) (e z x y:Int) (hf:Ai Tryz.prog f [Az x,Az y] Ac.emp fun v m=>v=Bs z∧m=Ac.emp) :
  Ai Tryz.prog 182 [Az x,Az y,.ptr b 1 0 0,.rptr [.fn f []]] (Ac.emp.set b ⟨23,1,[.int .i64 e]⟩) fun v m=>v=Az (kz e z)∧m=Ac.emp.set b ⟨23,1,[.int .i64 (ke e z)]⟩:=by
 rw[C7]at hf;unfold Az at *;refine Ad Tryz.func182 rfl rfl 21 rfl (Nat.le_of_ble_eq_true rfl) ?_;(repeat refine AW.seq_k fun K hK=>?_);refine AW.rgR [4,5] ?_;simp[Al];try (refine hK _ rfl ?_;clear hK K)
 refine Af.intro fun b6 hb6=>?_;simp only[Am,Ax,and_true]at hb6;refine hK _ rfl ?_;clear hK K;(repeat refine AW.seq_k fun K hK=>?_);refine AW.rg ?_;simp[hb6];try (refine hK _ rfl ?_;clear hK K)
 by_cases he:e=0
 ·subst he;refine AW.no ?_ rfl;refine AW.skip ?_;try simp
  refine hK _ rfl ?_;clear hK K;(repeat refine AW.seq_k fun K hK=>?_);refine AW.rg ?_;simp[hb6];try (refine hK _ rfl ?_;clear hK K)
  refine⟨f,[],⟨rfl,rfl⟩,?_⟩;refine Aa.val hf ?_;simp;refine Af.intro fun b7 hb7=>?_;simp only[Am,Ax,and_true]at hb7;try simp[hb6,hb7]
  refine hK _ rfl ?_;clear hK K;(repeat refine AW.seq_k fun K hK=>?_);refine AW.rg ?_;simp[hb6,hb7];try (refine hK _ rfl ?_;clear hK K)
  (repeat refine AW.seq_k fun K hK=>?_);refine AW.rg ?_;simp[hb6,hb7];try (refine hK _ rfl ?_;clear hK K)
  exact AW.ret (Dk (vs:=[.agg [.bool (decide (fz z<0)),Ao (Ar (fz z).natAbs)]]) [.agg [.bool (decide (fz z<0)),Ao (Ar (fz z).natAbs)]] b ⟨23,1,[.int .i64 (fe z)]⟩ (by simp[hb6,hb7]) (by simp[hb6,hb7]) (by simp) (A9 _ _ _) ⟨rfl,rfl⟩)
 ·refine AW.yes ?_ (by simp[he]);(repeat refine AW.seq_k fun K hK=>?_);refine AW.rg ?_;simp[hb6];try (refine hK _ rfl ?_;clear hK K)
  have k1:kz e z=0:=if_neg he;have k2:ke e z=e:=if_neg he;rw[k1,k2];exact AW.ret (Dk (vs:=[.agg [.bool false,.nil]]) [.agg [.bool false,Ao []]] b ⟨23,1,[.int .i64 e]⟩ (by simp[hb6]) (by simp[hb6]) (by simp) (by simp) ⟨by simp[Bb],rfl⟩)
end Go.Av
end
section
namespace Go.Av
open Go.Proofs
def opR (q:Option Rat) (N D e:Int):Prop :=
 match q with
 |some q=>e=0∧N.natAbs<Bk∧D.natAbs<Bk∧D≠0∧Rat.divInt N D=q
 |none=>e=2
def Em (q:Rat):List AV:=[.bool (decide (q.num<0)),Ao (Ar q.num.natAbs),.bool false,Ao (Ar q.den)]
def Rs (b:Nat) (e:Int):Ac:=Ac.emp.set b ⟨23,1,[.int .i64 e]⟩
theorem K3 {z:Int} (h:Cf z=true):kz 0 z=z:=by unfold kz;rw[if_pos rfl,Qu (B7.1 h)]
theorem Lf {z:Int} (h:Cf z=true):ke 0 z=0:=by unfold ke;rw[if_pos rfl,Q3 (B7.1 h)]
theorem Qy {z:Int} (h:¬Cf z=true):ke 0 z=2:=by unfold ke fe;rw[if_pos rfl,if_neg (fun h'=>h (B7.2 h'))]
section
variable {a b:Rat}
theorem Qoz:(a.den:Int)*b.den≠0:=Int.ne_of_gt (Int.mul_pos (by have:=a.den_pos;omega) (by have:=b.den_pos;omega))
theorem Qmg {e1 e2:Int} (h1:e1=ke 0 (a.num*b.num)) (h2:e2=ke e1 ((a.den:Int)*b.den)):opR (D4 a b) (kz 0 (a.num*b.num)) (kz e1 ((a.den:Int)*b.den)) e2:=by
 subst h1 h2;by_cases c1:Cf (a.num*b.num)=true
 ·rw[Lf c1];by_cases c2:Cf ((a.den:Int)*b.den)=true
  ·rw[Qh8 c1 c2,K3 c1,K3 c2,Lf c2];exact⟨rfl,B7.1 c1,B7.1 c2,Qoz,(Qb5 a b).symm⟩
  ·rw[Qei c1 c2,Qy c2];rfl
 ·rw[Qeh c1,Qy c1];rfl
theorem Qmu {e1 e2:Int} (h0:b≠0) (h1:e1=ke 0 (a.num*b.den)) (h2:e2=ke e1 ((a.den:Int)*b.num)):opR (Fu a b) (kz 0 (a.num*b.den)) (kz e1 ((a.den:Int)*b.num)) e2:=by
 subst h1 h2;by_cases c1:Cf (a.num*b.den)=true
 ·rw[Lf c1];by_cases c2:Cf ((a.den:Int)*b.num)=true
  ·rw[Qjw c1 c2,K3 c1,K3 c2,Lf c2];exact⟨rfl,B7.1 c1,B7.1 c2,Int.mul_ne_zero (by have:=a.den_pos;omega) (fun e=>h0 (Rat.num_eq_zero.1 e)),(Qdq a b).symm⟩
  ·rw[Qe4 c1 c2,Qy c2];rfl
 ·rw[Qe3 c1,Qy c1];rfl
theorem Qm8 {e1 e2 e3 e4:Int} (h1:e1=ke 0 (a.num*b.den)) (h2:e2=ke e1 (b.num*a.den)) (h3:e3=ke e2 (kz 0 (a.num*b.den)+-kz e1 (b.num*a.den))) (h4:e4=ke e3 ((a.den:Int)*b.den)) :
  opR (C2 a b) (kz e2 (kz 0 (a.num*b.den)+-kz e1 (b.num*a.den))) (kz e3 ((a.den:Int)*b.den)) e4:=by
 subst h1 h2 h3 h4;by_cases c1:Cf (a.num*b.den)=true
 ·rw[Lf c1,K3 c1];by_cases c2:Cf (b.num*a.den)=true
  ·rw[Lf c2,K3 c2];rw[←Int.sub_eq_add_neg];by_cases c3:Cf (a.num*b.den-b.num*a.den)=true
   ·rw[Lf c3,K3 c3];by_cases c4:Cf ((a.den:Int)*b.den)=true
    ·rw[Qje c1 c2 c3 c4,K3 c4,Lf c4];exact⟨rfl,B7.1 c3,B7.1 c4,Qoz,(Qb1 a b).symm⟩
    ·rw[Qfb c1 c2 c3 c4,Qy c4];rfl
   ·rw[Qe6 c1 c2 c3,Qy c3];rfl
  ·rw[Qfk c1 c2,Qy c2];rfl
 ·rw[Qev c1,Qy c1];rfl
end
theorem Qfx (a b:Rat) (ha:Bu a) (hb:Bu b) (bl:Nat):Ai Tryz.prog 194 [.fn 182 [.ptr bl 1 0 0,.rptr [.fn 183 []]],.fn 182 [.ptr bl 1 0 0,.rptr [.fn 184 []]],.rptr (Em a),.rptr (Em b)] (Rs bl 0) fun v m=>∃N D e,v=.tup [Az N,Az D]∧m=Rs bl e∧opR (D4 a b) N D e:=by
 obtain⟨e1,he1⟩:∃e,e=ke 0 (a.num*b.num):=⟨_,rfl⟩;obtain⟨e2,he2⟩:∃e,e=ke e1 ((a.den:Int)*(b.den:Int)):=⟨_,rfl⟩;have hend:=Qmg he1 he2;have m1:=Fx 183 bl 0 _ _ _ (Gq (a.num) (b.num) ha.1 hb.1);have m2:=Fx 183 bl e1 _ _ _ (Gq ((a.den:Int)) ((b.den:Int)) (En ha) (En hb));rw[←he1]at m1;rw[←he2]at m2;generalize kz 0 (a.num*b.num)=z1 at *;generalize kz e1 ((a.den:Int)*(b.den:Int))=z2 at *;simp only[H1]at m1 m2;unfold Az at *;unfold Rs Em;refine Ad Tryz.func194 rfl rfl 21 rfl (Nat.le_of_ble_eq_true rfl) ?_
 (repeat refine AW.seq_k fun K hK=>?_);refine AW.rg ?_;simp[Al];try (refine hK _ rfl ?_;clear hK K)
 refine Af.intro fun b6 hb6=>?_;simp only[Am,Ax,and_true]at hb6;refine Af.intro fun b7 hb7=>?_;simp only[Am,Ax,and_true]at hb7;refine hK _ rfl ?_;clear hK K;(repeat refine AW.seq_k fun K hK=>?_);refine AW.rg ?_;simp[hb6,hb7];try (refine hK _ rfl ?_;clear hK K)
 refine⟨182,_,⟨rfl,rfl⟩,?_⟩;refine Aa.grant (R:=fun v x=>v=.agg [.bool (decide (z1<0)),Ao (Ar (z1).natAbs)]∧x=⟨23,1,[.int .i64 (e1)]⟩) bl ⟨23,1,[.int .i64 (0)]⟩ (by simp[hb6,hb7]) (by simp[hb6,hb7]) (m1.mono fun v m ⟨h1,h2⟩=>⟨_,⟨h1,rfl⟩,h2⟩) ?_;rintro _ _ ⟨rfl,rfl⟩;simp[hb6,hb7];refine hK _ rfl ?_;clear hK K;(repeat refine AW.seq_k fun K hK=>?_);refine AW.rdT [] [2,3,16,18] [] [b6] [0,1,2,3,4,5,6,7,8] C6 (by simp[hb6,hb7]) (by simp[hb6,hb7]) (by simp[hb6,hb7]) (by simp[hb6,hb7]) (by simp[hb6,hb7]) ?_;simp[hb6,hb7];try (refine hK _ rfl ?_;clear hK K)
 refine⟨182,_,⟨rfl,rfl⟩,?_⟩;refine Aa.grant (R:=fun v x=>v=.agg [.bool (decide (z2<0)),Ao (Ar (z2).natAbs)]∧x=⟨23,1,[.int .i64 (e2)]⟩) bl ⟨23,1,[.int .i64 (e1)]⟩ (by simp[hb6,hb7]) (by simp[hb6,hb7]) (m2.mono fun v m ⟨h1,h2⟩=>⟨_,⟨h1,rfl⟩,h2⟩) ?_;rintro _ _ ⟨rfl,rfl⟩;simp[hb6,hb7];refine hK _ rfl ?_;clear hK K;exact AW.ret (Dk (vs:=[.agg [.bool (decide (z1<0)),Ao (Ar (z1).natAbs)],.agg [.bool (decide (z2<0)),Ao (Ar (z2).natAbs)]]) [.agg [.bool (decide (z1<0)),Ao (Ar (z1).natAbs)],.agg [.bool (decide (z2<0)),Ao (Ar (z2).natAbs)]] bl ⟨23,1,[.int .i64 e2]⟩ (by simp[hb6,hb7]) (by simp[hb6,hb7]) (by simp) (A9 _ _ _) ⟨z1,z2,e2,rfl,rfl,hend⟩)
theorem Qg8 (a b:Rat) (ha:Bu a) (hb:Bu b) (h0:b≠0) (bl:Nat):Ai Tryz.prog 199 [.fn 182 [.ptr bl 1 0 0,.rptr [.fn 183 []]],.fn 182 [.ptr bl 1 0 0,.rptr [.fn 184 []]],.rptr (Em a),.rptr (Em b)] (Rs bl 0) fun v m=>∃N D e,v=.tup [Az N,Az D]∧m=Rs bl e∧opR (Fu a b) N D e:=by
 obtain⟨e1,he1⟩:∃e,e=ke 0 (a.num*(b.den:Int)):=⟨_,rfl⟩;obtain⟨e2,he2⟩:∃e,e=ke e1 ((a.den:Int)*b.num):=⟨_,rfl⟩;have hend:=Qmu h0 he1 he2;have m1:=Fx 183 bl 0 _ _ _ (Gq (a.num) ((b.den:Int)) ha.1 (En hb));have m2:=Fx 183 bl e1 _ _ _ (Gq ((a.den:Int)) (b.num) (En ha) hb.1);rw[←he1]at m1;rw[←he2]at m2;generalize kz 0 (a.num*(b.den:Int))=z1 at *;generalize kz e1 ((a.den:Int)*b.num)=z2 at *;simp only[H1]at m1 m2;unfold Az at *;unfold Rs Em;refine Ad Tryz.func199 rfl rfl 21 rfl (Nat.le_of_ble_eq_true rfl) ?_
 (repeat refine AW.seq_k fun K hK=>?_);refine AW.rg ?_;simp[Al];try (refine hK _ rfl ?_;clear hK K)
 refine Af.intro fun b6 hb6=>?_;simp only[Am,Ax,and_true]at hb6;refine Af.intro fun b7 hb7=>?_;simp only[Am,Ax,and_true]at hb7;refine hK _ rfl ?_;clear hK K;(repeat refine AW.seq_k fun K hK=>?_);refine AW.rg ?_;simp[hb6,hb7];try (refine hK _ rfl ?_;clear hK K)
 refine⟨182,_,⟨rfl,rfl⟩,?_⟩;refine Aa.grant (R:=fun v x=>v=.agg [.bool (decide (z1<0)),Ao (Ar (z1).natAbs)]∧x=⟨23,1,[.int .i64 (e1)]⟩) bl ⟨23,1,[.int .i64 (0)]⟩ (by simp[hb6,hb7]) (by simp[hb6,hb7]) (m1.mono fun v m ⟨h1,h2⟩=>⟨_,⟨h1,rfl⟩,h2⟩) ?_;rintro _ _ ⟨rfl,rfl⟩;simp[hb6,hb7];refine hK _ rfl ?_;clear hK K;(repeat refine AW.seq_k fun K hK=>?_);refine AW.rdT [] [2,3,16,18] [] [b6] [0,1,2,3,4,5,6,7,8] C6 (by simp[hb6,hb7]) (by simp[hb6,hb7]) (by simp[hb6,hb7]) (by simp[hb6,hb7]) (by simp[hb6,hb7]) ?_;simp[hb6,hb7];try (refine hK _ rfl ?_;clear hK K)
 refine⟨182,_,⟨rfl,rfl⟩,?_⟩;refine Aa.grant (R:=fun v x=>v=.agg [.bool (decide (z2<0)),Ao (Ar (z2).natAbs)]∧x=⟨23,1,[.int .i64 (e2)]⟩) bl ⟨23,1,[.int .i64 (e1)]⟩ (by simp[hb6,hb7]) (by simp[hb6,hb7]) (m2.mono fun v m ⟨h1,h2⟩=>⟨_,⟨h1,rfl⟩,h2⟩) ?_;rintro _ _ ⟨rfl,rfl⟩;simp[hb6,hb7];refine hK _ rfl ?_;clear hK K;exact AW.ret (Dk (vs:=[.agg [.bool (decide (z1<0)),Ao (Ar (z1).natAbs)],.agg [.bool (decide (z2<0)),Ao (Ar (z2).natAbs)]]) [.agg [.bool (decide (z1<0)),Ao (Ar (z1).natAbs)],.agg [.bool (decide (z2<0)),Ao (Ar (z2).natAbs)]] bl ⟨23,1,[.int .i64 e2]⟩ (by simp[hb6,hb7]) (by simp[hb6,hb7]) (by simp) (A9 _ _ _) ⟨z1,z2,e2,rfl,rfl,hend⟩)
theorem Qf8 (a b:Rat) (ha:Bu a) (hb:Bu b) (bl:Nat):Ai Tryz.prog 148 [.fn 182 [.ptr bl 1 0 0,.rptr [.fn 183 []]],.fn 182 [.ptr bl 1 0 0,.rptr [.fn 184 []]],.rptr (Em a),.rptr (Em b)] (Rs bl 0) fun v m=>∃N D e,v=.tup [Az N,Az D]∧m=Rs bl e∧opR (C2 a b) N D e:=by
 obtain⟨e1,he1⟩:∃e,e=ke 0 (a.num*b.den):=⟨_,rfl⟩;obtain⟨e2,he2⟩:∃e,e=ke e1 (b.num*a.den):=⟨_,rfl⟩;obtain⟨e3,he3⟩:∃e,e=ke e2 (kz 0 (a.num*b.den)+-kz e1 (b.num*a.den)):=⟨_,rfl⟩;obtain⟨e4,he4⟩:∃e,e=ke e3 ((a.den:Int)*b.den):=⟨_,rfl⟩;have hend:=Qm8 he1 he2 he3 he4;have m1:=Fx 183 bl 0 _ _ _ (Gq a.num b.den ha.1 (En hb));have m2:=Fx 183 bl e1 _ _ _ (Gq b.num a.den hb.1 (En ha));have m4:=Fx 183 bl e3 _ _ _ (Gq a.den b.den (En ha) (En hb));have m3:=Fx 184 bl e2 _ _ _ (Qg7 (kz 0 (a.num*b.den)) (-kz e1 (b.num*a.den)) (Qja _ _) (by rw[Int.natAbs_neg];exact Qja _ _))
 have hng:=T6 (kz e1 (b.num*a.den)) (Qja _ _);rw[←he1]at m1;rw[←he2]at m2;rw[←he3]at m3;rw[←he4]at m4;generalize kz e2 (kz 0 (a.num*b.den)+-kz e1 (b.num*a.den))=z3 at *;generalize kz e3 ((a.den:Int)*b.den)=z4 at *;clear he1 he2 he3 he4;generalize -kz e1 (b.num*a.den)=ny at *;generalize kz e1 (b.num*a.den)=z2 at *;generalize kz 0 (a.num*b.den)=z1 at *;simp only[H1]at m1 m2 m4;unfold Az at *;unfold Rs Em;refine Ad Tryz.func148 rfl rfl 34 rfl (Nat.le_of_ble_eq_true rfl) ?_;(repeat refine AW.seq_k fun K hK=>?_);refine AW.rg ?_
 simp[Al];try (refine hK _ rfl ?_;clear hK K)
 refine Af.intro fun b6 hb6=>?_;simp only[Am,Ax,and_true]at hb6;refine Af.intro fun b7 hb7=>?_;simp only[Am,Ax,and_true]at hb7;refine hK _ rfl ?_;clear hK K;(repeat refine AW.seq_k fun K hK=>?_);refine AW.rdT [] [2,3,11,13,17,19] [] [] [0,1,2,3,4,6,7,8,9,10,5,11,12,13,14,15] C6 (by simp[hb6,hb7]) (by simp[hb6,hb7]) (by simp[hb6,hb7]) (by simp[hb6,hb7]) (by simp[hb6,hb7]) ?_;simp[hb6,hb7];try (refine hK _ rfl ?_;clear hK K)
 refine⟨182,_,⟨rfl,rfl⟩,?_⟩;refine Aa.grant (R:=fun v x=>v=.agg [.bool (decide (z1<0)),Ao (Ar (z1).natAbs)]∧x=⟨23,1,[.int .i64 (e1)]⟩) bl ⟨23,1,[.int .i64 (0)]⟩ (by simp[hb6,hb7]) (by simp[hb6,hb7]) (m1.mono fun v m ⟨h1,h2⟩=>⟨_,⟨h1,rfl⟩,h2⟩) ?_;rintro _ _ ⟨rfl,rfl⟩;simp[hb6,hb7];refine⟨182,_,⟨rfl,rfl⟩,?_⟩;refine Aa.grant (R:=fun v x=>v=.agg [.bool (decide (z2<0)),Ao (Ar (z2).natAbs)]∧x=⟨23,1,[.int .i64 (e2)]⟩) bl ⟨23,1,[.int .i64 (e1)]⟩ (by simp[hb6,hb7]) (by simp[hb6,hb7]) (m2.mono fun v m ⟨h1,h2⟩=>⟨_,⟨h1,rfl⟩,h2⟩) ?_
 rintro _ _ ⟨rfl,rfl⟩;simp[hb6,hb7];refine Af.intro fun b8 hb8=>?_;simp only[Am,Ax,and_true]at hb8;refine Af.intro fun b9 hb9=>?_;simp only[Am,Ax,and_true]at hb9;try simp[hb6,hb7,hb8,hb9]
 refine hK _ rfl ?_;clear hK K;(repeat refine AW.seq_k fun K hK=>?_);refine AW.rdT [] [] [] [b8,b9] [0,1,2,3,4,5] C6 (by simp[hb6,hb7,hb8,hb9]) (by simp[hb6,hb7,hb8,hb9]) (by simp[hb6,hb7,hb8,hb9]) (by simp[hb6,hb7,hb8,hb9]) (by simp[hb6,hb7,hb8,hb9]) ?_;simp[hb6,hb7,hb8,hb9];try (refine hK _ rfl ?_;clear hK K)
 refine Aa.val hng ?_;simp[hb6,hb7,hb8,hb9];refine⟨182,_,⟨rfl,rfl⟩,?_⟩;refine Aa.grant (R:=fun v x=>v=.agg [.bool (decide (z3<0)),Ao (Ar (z3).natAbs)]∧x=⟨23,1,[.int .i64 (e3)]⟩) bl ⟨23,1,[.int .i64 (e2)]⟩ (by simp[hb6,hb7,hb8,hb9]) (by simp[hb6,hb7,hb8,hb9]) (m3.mono fun v m ⟨h1,h2⟩=>⟨_,⟨h1,rfl⟩,h2⟩) ?_;rintro _ _ ⟨rfl,rfl⟩;simp[hb6,hb7,hb8,hb9];refine hK _ rfl ?_;clear hK K;(repeat refine AW.seq_k fun K hK=>?_);refine AW.rdT [] [2,3,29,31] [] [b6] [0,1,2,3,4,5,6,7,8] C6 (by simp[hb6,hb7,hb8,hb9]) (by simp[hb6,hb7,hb8,hb9]) (by simp[hb6,hb7,hb8,hb9]) (by simp[hb6,hb7,hb8,hb9]) (by simp[hb6,hb7,hb8,hb9]) ?_
 simp[hb6,hb7,hb8,hb9];try (refine hK _ rfl ?_;clear hK K)
 refine⟨182,_,⟨rfl,rfl⟩,?_⟩;refine Aa.grant (R:=fun v x=>v=.agg [.bool (decide (z4<0)),Ao (Ar (z4).natAbs)]∧x=⟨23,1,[.int .i64 (e4)]⟩) bl ⟨23,1,[.int .i64 (e3)]⟩ (by simp[hb6,hb7,hb8,hb9]) (by simp[hb6,hb7,hb8,hb9]) (m4.mono fun v m ⟨h1,h2⟩=>⟨_,⟨h1,rfl⟩,h2⟩) ?_;rintro _ _ ⟨rfl,rfl⟩;simp[hb6,hb7,hb8,hb9];refine hK _ rfl ?_;clear hK K;exact AW.ret (Dk (vs:=[.agg [.bool (decide (z3<0)),Ao (Ar (z3).natAbs)],.agg [.bool (decide (z4<0)),Ao (Ar (z4).natAbs)]]) [.agg [.bool (decide (z3<0)),Ao (Ar (z3).natAbs)],.agg [.bool (decide (z4<0)),Ao (Ar (z4).natAbs)]] bl ⟨23,1,[.int .i64 e4]⟩ (by simp[hb6,hb7,hb8,hb9]) (by simp[hb6,hb7,hb8,hb9]) (by simp) (A9 _ _ _) ⟨z3,z4,e4,rfl,rfl,hend⟩)
end Go.Av
end
section
namespace Go.Av
open Go.Proofs
theorem Kj (a b:Rat) (ha:Bu a) (hb:Bu b) (f:Nat) (q:Option Rat)
  (hf:∀bl,Ai Tryz.prog f [.fn 182 [.ptr bl 1 0 0,.rptr [.fn 183 []]],.fn 182 [.ptr bl 1 0 0,.rptr [.fn 184 []]],.rptr (Em a),.rptr (Em b)] (Rs bl 0) fun v m=>∃N D e,v=.tup [Az N,Az D]∧m=Rs bl e∧opR q N D e) :
  Ai Tryz.prog 147 [Gi a,Gi b,.fn f [.rptr (Em a),.rptr (Em b)]] Ac.emp fun v m=>v=C0 q∧m=Ac.emp:=by
 have hall:=S4 (Aq a) (Aq b) (D9 a) (D9 b);rw[Dp ha,Dp hb]at hall;simp only[RR.av,Aq]at hall;unfold Rs Em at hf;unfold Gi Em;refine Ad Tryz.func147 rfl rfl 35 rfl (Nat.le_of_ble_eq_true rfl) ?_;(repeat refine AW.seq_k fun K hK=>?_);refine AW.rgR [3,4] ?_;simp[Al];try (refine hK _ rfl ?_;clear hK K)
 refine Af.intro fun b6 _=>?_;refine hK _ rfl ?_;clear hK K;(repeat refine AW.seq_k fun K hK=>?_);refine AW.rgR [14] ?_;simp;try (refine hK _ rfl ?_;clear hK K)
 refine Aa.val hall ?_;simp;refine hK _ rfl ?_;clear hK K;refine AW.no ?_ rfl;refine AW.skip ?_;try simp
 refine hK _ rfl ?_;clear hK K;(repeat refine AW.seq_k fun K hK=>?_);refine AW.rg ?_;simp;try (refine hK _ rfl ?_;clear hK K)
 refine Af.intro fun b8 hb8=>?_;simp only[Am,Ax,and_true]at hb8;try simp[hb8]
 refine hK _ rfl ?_;clear hK K;(repeat refine AW.seq_k fun K hK=>?_);refine AW.rg ?_;simp;try (refine hK _ rfl ?_;clear hK K)
 (repeat refine AW.seq_k fun K hK=>?_);refine AW.rg ?_;simp[hb8];try (refine hK _ rfl ?_;clear hK K)
 refine⟨_,_,⟨rfl,rfl⟩,?_⟩;refine Aa.val (W3 183 b8) ?_;simp;refine⟨_,_,⟨rfl,rfl⟩,?_⟩;refine Aa.val (W3 184 b8) ?_;simp;refine⟨_,_,⟨rfl,rfl⟩,?_⟩;refine Aa.grant (R:=fun v x=>∃N D e,v=.tup [Az N,Az D]∧x=⟨23,1,[.int .i64 e]⟩∧opR q N D e) b8 ⟨23,1,[.int .i64 0]⟩ (by simp[hb8]) (by simp[hb8]) ((hf b8).mono fun v m ⟨N,D,e,h1,h2,h3⟩=>⟨_,⟨N,D,e,h1,rfl,h3⟩,h2⟩) ?_;rintro _ _ ⟨N,D,e,rfl,rfl,hR⟩;simp[Az];refine Af.intro fun b10 hb10=>?_;simp only[Am,Ax,and_true]at hb10;refine Af.intro fun b11 hb11=>?_
 simp only[Am,Ax,and_true]at hb11;try simp[hb8,hb10,hb11]
 refine hK _ rfl ?_;clear hK K;(repeat refine AW.seq_k fun K hK=>?_);refine AW.rg ?_;simp[hb8,hb10,hb11];try (refine hK _ rfl ?_;clear hK K)
 cases q with
 |none =>
  have he:e=2:=hR;subst he;refine AW.yes ?_ rfl;(repeat refine AW.seq_k fun K hK=>?_);refine AW.rdT [(8,b8),(6,b6)] [] [] [b8] [0,1,2,3] C6 (by simp[hb8,hb10,hb11]) (by simp[hb8,hb10,hb11]) (by simp[hb8,hb10,hb11]) (by simp[hb8,hb10,hb11]) (by simp[hb8,hb10,hb11]) ?_;simp[hb8,hb10,hb11];try (refine hK _ rfl ?_;clear hK K)
  exact AW.ret (B3 (b:=b6) (.bool false) (Ao []) (.bool false) (Ao []) rfl rfl (by simp<;>exact⟨rfl,rfl,rfl,rfl⟩) rfl (by simp) ⟨rfl,rfl⟩)
 |some q =>
  obtain⟨he,g1,g2,g3,g4⟩:=hR;subst he;have hr:=Qz N D g1 g2 g3;rw[g4]at hr;unfold Az Gi at hr;refine AW.no ?_ rfl;refine AW.skip ?_;try simp
  refine hK _ rfl ?_;clear hK K;(repeat refine AW.seq_k fun K hK=>?_);refine AW.rg ?_;simp[hb8,hb10,hb11];try (refine hK _ rfl ?_;clear hK K)
  refine Aa.val hr ?_;simp[hb8,hb10,hb11];refine hK _ rfl ?_;clear hK K;exact AW.ret (B3 (b:=b6) _ _ _ _ rfl rfl (by simp<;>exact⟨rfl,rfl,rfl,rfl⟩) rfl (A9 _ _ _) ⟨rfl,rfl⟩)
theorem Md (a b:Rat) (ha:Bu a) (hb:Bu b):Ai Tryz.prog 103 [Gi a,Gi b] Ac.emp fun v m=>v=C0 (C2 a b)∧m=Ac.emp:=by
 have hs:=Kj a b ha hb 148 (C2 a b) (Qf8 a b ha hb);generalize C2 a b=q at *;unfold Gi Em at hs;unfold Gi;refine Ad Tryz.func103 rfl rfl 12 rfl (Nat.le_of_ble_eq_true rfl) ?_;(repeat refine AW.seq_k fun K hK=>?_);refine AW.rgR [2,3] ?_;simp[Al];try (refine hK _ rfl ?_;clear hK K)
 refine Af.intro fun b4 _=>?_;refine hK _ rfl ?_;clear hK K;(repeat refine AW.seq_k fun K hK=>?_);refine AW.rg ?_;simp;try (refine hK _ rfl ?_;clear hK K)
 refine Aa.val hs ?_;cases q
 ·simp[C0,B5];refine hK _ rfl ?_;clear hK K;exact AW.ret (B3 (b:=b4) _ _ _ _ rfl rfl (by simp<;>exact⟨rfl,rfl,rfl,rfl⟩) rfl (A9 _ _ _) ⟨rfl,rfl⟩)
 ·simp[C0,Gi];refine hK _ rfl ?_;clear hK K;exact AW.ret (B3 (b:=b4) _ _ _ _ rfl rfl (by simp<;>exact⟨rfl,rfl,rfl,rfl⟩) rfl (A9 _ _ _) ⟨rfl,rfl⟩)
theorem Qhm (a b:Rat) (ha:Bu a) (hb:Bu b):Ai Tryz.prog 160 [Gi a,Gi b] Ac.emp fun v m=>v=C0 (D4 a b)∧m=Ac.emp:=by
 have hs:=Kj a b ha hb 194 (D4 a b) (Qfx a b ha hb);generalize D4 a b=q at *;unfold Gi Em at hs;unfold Gi;refine Ad Tryz.func160 rfl rfl 12 rfl (Nat.le_of_ble_eq_true rfl) ?_;(repeat refine AW.seq_k fun K hK=>?_);refine AW.rgR [2,3] ?_;simp[Al];try (refine hK _ rfl ?_;clear hK K)
 refine Af.intro fun b4 _=>?_;refine hK _ rfl ?_;clear hK K;(repeat refine AW.seq_k fun K hK=>?_);refine AW.rg ?_;simp;try (refine hK _ rfl ?_;clear hK K)
 refine Aa.val hs ?_;cases q
 ·simp[C0,B5];refine hK _ rfl ?_;clear hK K;exact AW.ret (B3 (b:=b4) _ _ _ _ rfl rfl (by simp<;>exact⟨rfl,rfl,rfl,rfl⟩) rfl (A9 _ _ _) ⟨rfl,rfl⟩)
 ·simp[C0,Gi];refine hK _ rfl ?_;clear hK K;exact AW.ret (B3 (b:=b4) _ _ _ _ rfl rfl (by simp<;>exact⟨rfl,rfl,rfl,rfl⟩) rfl (A9 _ _ _) ⟨rfl,rfl⟩)
theorem Qhp (a b:Rat) (ha:Bu a) (hb:Bu b) (h0:b≠0):Ai Tryz.prog 179 [Gi a,Gi b] Ac.emp fun v m=>v=C0 (Fu a b)∧m=Ac.emp:=by
 have hs:=Kj a b ha hb 199 (Fu a b) (Qg8 a b ha hb h0);generalize Fu a b=q at *;have hall:=S4 (Aq a) (Aq b) (D9 a) (D9 b);rw[Dp ha,Dp hb]at hall;simp only[RR.av,Aq]at hall;have hz:=Jg (decide (b.num<0)) (Ar b.num.natAbs);have hb0:b.num≠0:=fun e=>h0 (Rat.num_eq_zero.1 e);have hl:¬Ar b.num.natAbs=[]:=by rw[Cj];omega
 unfold D3 at hz;unfold Gi Em at hs;unfold Gi;refine Ad Tryz.func179 rfl rfl 22 rfl (Nat.le_of_ble_eq_true rfl) ?_;(repeat refine AW.seq_k fun K hK=>?_);refine AW.rgR [2,3] ?_;simp[Al];try (refine hK _ rfl ?_;clear hK K)
 refine Af.intro fun b4 _=>?_;refine hK _ rfl ?_;clear hK K;(repeat refine AW.seq_k fun K hK=>?_);refine AW.rgR [8] ?_;simp;try (refine hK _ rfl ?_;clear hK K)
 refine Aa.val hall ?_;simp;refine Aa.val hz ?_;simp[hl];refine hK _ rfl ?_;clear hK K;refine AW.no ?_ rfl;refine AW.skip ?_;try simp
 refine hK _ rfl ?_;clear hK K;(repeat refine AW.seq_k fun K hK=>?_);refine AW.rg ?_;simp;try (refine hK _ rfl ?_;clear hK K)
 refine Aa.val hs ?_;cases q
 ·simp[C0,B5];refine hK _ rfl ?_;clear hK K;exact AW.ret (B3 (b:=b4) _ _ _ _ rfl rfl (by simp<;>exact⟨rfl,rfl,rfl,rfl⟩) rfl (A9 _ _ _) ⟨rfl,rfl⟩)
 ·simp[C0,Gi];refine hK _ rfl ?_;clear hK K;exact AW.ret (B3 (b:=b4) _ _ _ _ rfl rfl (by simp<;>exact⟨rfl,rfl,rfl,rfl⟩) rfl (A9 _ _ _) ⟨rfl,rfl⟩)
end Go.Av
end
section
namespace Go.Av
open Go.Proofs
instance:Inhabited RR:=⟨⟨false,[],false,[]⟩⟩
def rr (r:List RR) (i:Nat):RR:=r.getD i default
def Aj {α:Type} (m:List (List α)) (i:Nat):List α:=m.getD i []
def Bg (r:List RR):List AV:=r.map RR.av
def An (r:List RR):AV:=.sl 4 (Bg r)
def Ap (m:List (List RR)):AV:=.sl 1 (m.map An)
theorem Hc {r:List RR} {i:Nat} (h:i<r.length):rr r i=r[i]:=by unfold rr;rw[List.getD_eq_getElem?_getD,List.getElem?_eq_getElem h];rfl
theorem Ea {α:Type} {m:List (List α)} {i:Nat} (h:i<m.length):Aj m i=m[i]:=by unfold Aj;rw[List.getD_eq_getElem?_getD,List.getElem?_eq_getElem h];rfl
@[simp] theorem Ih (r:List RR):(Bg r).length=r.length:=by simp[Bg]
@[simp] theorem Qye:Bg []=[]:=rfl
@[simp] theorem rrs_get? {r:List RR} {i:Nat} (h:i<r.length):(Bg r)[i]?=some (rr r i).av:=by simp[Bg,Hc h,h]
@[simp] theorem Ep (r:List RR) (i:Nat) (x:RR):(Bg r).set i x.av=Bg (r.set i x):=by simp[Bg,List.map_set]
@[simp] theorem Qul (r:RR):r.av.cells=[.bool r.n1,Ao r.l1,.bool r.n2,Ao r.l2]:=(rfl)
@[simp] theorem Qvw (r:RR):Gs true 4 [.bool r.n1,Ao r.l1,.bool r.n2,Ao r.l2] 0=some r.av:=(rfl)
@[simp] theorem Qtp (r:RR):r.av.isAny=false:=(rfl)
@[simp] theorem Qyl (r:RR):(r.av=.any)=False:=by simp[RR.av]
theorem F8 (r:List RR):∀v∈Bg r,v.cells.all AV.one=true:=by
 intro v hv;obtain⟨x,_,rfl⟩:=List.mem_map.1 hv;rfl
@[simp] theorem Qyi (r:List RR):(Bg r).all (fun v=>v.cells.length==4&&v.cells.all AV.one)=true:=by
 rw[List.all_eq_true];intro v hv;obtain⟨x,_,rfl⟩:=List.mem_map.1 hv;rfl
@[simp] theorem Qts (r:List RR):(An r).cells=[An r]:=(rfl)
@[simp] theorem Qyf (r:List RR):(An r).one=true:=(rfl)
@[simp] theorem Qte (r:List RR):(An r).isAny=false:=(rfl)
@[simp] theorem Qux (m:List (List RR)):(Ap m).isAny=false:=(rfl)
@[simp] theorem Qyc (m:List (List RR)):(Ap m).one=true:=(rfl)
@[simp] theorem Qtq (m:List (List RR)):(Ap m).cells=[Ap m]:=(rfl)
section
variable (size bytes:Nat) (e:TypeId) (zero:AV) (fs:List (Nat × Nat × Option Bool)) (k:IntKind) (n:Int)
@[simp] theorem Qvg (r:List RR):Kq ⟨size,bytes,.slice e,zero,fs⟩ (An r)=some (.int .i64 r.length):=by simp[An]
@[simp] theorem Qvr (m:List (List RR)):Kq ⟨size,bytes,.slice e,zero,fs⟩ (Ap m)=some (.int .i64 m.length):=by simp[Ap]
@[simp] theorem Qtl (mm:Ac) (r:List RR):Gk mm 4 (An r)=some (Bg r):=by simp[An,Gk]
@[simp] theorem Qk0 (P:Program) (r:List RR):B0 P ⟨size,bytes,.slice e,zero,fs⟩ (An r) (.int k n)=(Ak P e).bind fun te=>if 4=te.size∧0≤n∧n<r.length then some (.rptr [.bool (rr r n.toNat).n1,Ao (rr r n.toNat).l1,.bool (rr r n.toNat).n2,Ao (rr r n.toNat).l2]) else none:=by
 unfold An;rw[Hu]
 congr 1
 funext te
 rw[Ih];by_cases h:4=te.size∧0≤n∧n<r.length
 ·rw[if_pos h,if_pos h];have h1:n.toNat<r.length:=by omega
  rw[List.getD_eq_getElem?_getD,rrs_get? h1];rfl
 ·rw[if_neg h,if_neg h]
@[simp] theorem Qk3 (P:Program) (m:List (List RR)):B0 P ⟨size,bytes,.slice e,zero,fs⟩ (Ap m) (.int k n)=(Ak P e).bind fun te=>if 1=te.size∧0≤n∧n<m.length then some (.rptr [An (Aj m n.toNat)]) else none:=by
 unfold Ap;rw[Hu]
 congr 1
 funext te
 rw[List.length_map];by_cases h:1=te.size∧0≤n∧n<m.length
 ·rw[if_pos h,if_pos h];have h1:n.toNat<m.length:=by omega
  rw[List.getD_eq_getElem?_getD,List.getElem?_map,List.getElem?_eq_getElem h1,Ea h1];rfl
 ·rw[if_neg h,if_neg h]
end
def Sf (m:List (List RR)):Prop:=∀r∈m,∀x∈r,x.Lb
theorem Jx {r:List RR} (h:∀x∈r,x.Lb) (i:Nat):(rr r i).Lb:=by
 unfold rr;rw[List.getD_eq_getElem?_getD];cases hr:r[i]? with
 |none=>exact⟨fun x hx=>(by cases hx),fun x hx=>(by cases hx)⟩
 |some x=>exact h x (List.mem_of_getElem? hr)
theorem Sf.row {m:List (List RR)} (h:Sf m) (i:Nat):∀x∈Aj m i,x.Lb:=by
 unfold Aj;rw[List.getD_eq_getElem?_getD];cases hr:m[i]? with
 |none=>intro x hx;cases hx
 |some r=>exact h r (List.mem_of_getElem? hr)
def Ja (m:List (List RR)):Prop:=∃k,k<m.length∧64<(Aj m k).length
def Nq (m:List (List RR)):Prop:=∀k,k<m.length→(Aj m k).length=(Aj m 0).length∧∀j,j<(Aj m k).length→(rr (Aj m k) j).ok=true
open Classical in
noncomputable def Uw (m:List (List RR)):Int:=if 64<m.length∨Ja m then 2 else if Nq m then 0 else 1
theorem O8 {m:List (List RR)} (h:64<m.length∨Ja m):Uw m=2:=if_pos h
theorem Qea {m:List (List RR)} (h:¬(64<m.length∨Ja m)) (h2:Nq m):Uw m=0:=by unfold Uw;rw[if_neg h,if_pos h2]
theorem Oi {m:List (List RR)} (h:¬(64<m.length∨Ja m)) (h2:¬Nq m):Uw m=1:=by unfold Uw;rw[if_neg h,if_neg h2]
theorem Ui (m:List (List RR)):Ai Tryz.prog 108 [Ap m] Ac.emp fun v mm=>v=.int .i64 ((Aj m 0).length:Nat)∧mm=Ac.emp:=by
 refine Ad Tryz.func108 rfl rfl 10 rfl (Nat.le_of_ble_eq_true rfl) ?_;(repeat refine AW.seq_k fun K hK=>?_);refine AW.rg ?_;simp[Al];try (refine hK _ rfl ?_;clear hK K)
 (repeat refine AW.seq_k fun K hK=>?_);refine AW.rg ?_;simp;try (refine hK _ rfl ?_;clear hK K)
 (repeat refine AW.seq ?_);refine AW.cs (fun h=>?_) (fun h=>?_) rfl<;>(try simp at h)
 ·subst h;(repeat refine AW.seq_k fun K hK=>?_);refine AW.rg ?_;simp;try (refine hK _ rfl ?_;clear hK K)
  exact AW.ret (Ag rfl _ (.same _) ⟨by simp[Aj],rfl⟩)
 ·refine AW.skip ?_;try simp
  refine hK _ rfl ?_;clear hK K;have h':0<m.length:=by
   rcases m with _|_
   ·simp at h
   ·simp
  (repeat refine AW.seq_k fun K hK=>?_);refine AW.rg ?_;simp[h'];try (refine hK _ rfl ?_;clear hK K)
  exact AW.ret (Ag rfl _ (.same _) ⟨by rfl,rfl⟩)
theorem Oh (m:List (List RR)):Ai Tryz.prog 154 [Ap m] Ac.emp fun v mm=>v=.int .i64 ((Aj m 0).length:Nat)∧mm=Ac.emp:=by
 refine Ad Tryz.func154 rfl rfl 10 rfl (Nat.le_of_ble_eq_true rfl) ?_;(repeat refine AW.seq_k fun K hK=>?_);refine AW.rg ?_;simp[Al];try (refine hK _ rfl ?_;clear hK K)
 (repeat refine AW.seq_k fun K hK=>?_);refine AW.rg ?_;simp;try (refine hK _ rfl ?_;clear hK K)
 (repeat refine AW.seq ?_);refine AW.cs (fun h=>?_) (fun h=>?_) rfl<;>(try simp at h)
 ·subst h;(repeat refine AW.seq_k fun K hK=>?_);refine AW.rg ?_;simp;try (refine hK _ rfl ?_;clear hK K)
  exact AW.ret (Ag rfl _ (.same _) ⟨by simp[Aj],rfl⟩)
 ·refine AW.skip ?_;try simp
  refine hK _ rfl ?_;clear hK K;have h':0<m.length:=by
   rcases m with _|_
   ·simp at h
   ·simp
  (repeat refine AW.seq_k fun K hK=>?_);refine AW.rg ?_;simp[h'];try (refine hK _ rfl ?_;clear hK K)
  exact AW.ret (Ag rfl _ (.same _) ⟨by rfl,rfl⟩)
theorem Qck (m:List (List RR)) (hm:Sf m):Ai Tryz.prog 99 [Ap m] Ac.emp fun v mm=>v=.int .i64 (Uw m)∧mm=Ac.emp:=by
 refine Ad Tryz.func99 rfl rfl 46 rfl (Nat.le_of_ble_eq_true rfl) ?_;(repeat refine AW.seq_k fun K hK=>?_);refine AW.rg ?_;simp[Al];try (refine hK _ rfl ?_;clear hK K)
 (repeat refine AW.seq_k fun K hK=>?_);refine AW.rg ?_;simp;try (refine hK _ rfl ?_;clear hK K)
 (repeat refine AW.seq ?_);refine AW.cs (fun h64=>?_) (fun h64=>?_) rfl<;>(try simp at h64)
 ·(repeat refine AW.seq_k fun K hK=>?_);refine AW.rg ?_;simp;try (refine hK _ rfl ?_;clear hK K)
  exact AW.ret (Ag rfl _ (.same _) ⟨by rw[O8 (.inl h64)];rfl,rfl⟩)
 ·refine AW.skip ?_;try simp
  refine hK _ rfl ?_;clear hK K;refine AW.seq_ex (ι:=Unit) (fun _=>[(0,Ap m)]) (fun _=>Ac.emp) (fun _=>¬Ja m) ?_ ?_
  ·(repeat refine AW.seq_k fun K hK=>?_);refine AW.rg ?_;simp;try (refine hK _ rfl ?_;clear hK K)
   refine AW.block (AW.loopS (ι:=Nat) (fun i=>[(0,Ap m),(12,Ap m),(13,.int .i64 (m.length:Nat)),(14,.int .i64 (i:Nat))]) (fun _=>Ac.emp)
    (fun i=>i≤m.length∧∀k,k<i→¬64<(Aj m k).length) (fun i=>m.length-i) 0 ⟨by simp,by simp⟩ rfl (by simp) ?_)
   rintro i ⟨h1,h2⟩;(repeat refine AW.seq_k fun K hK=>?_);refine AW.rg ?_;simp;try (refine hK _ rfl ?_;clear hK K)
   refine AW.seq_k fun K hK=>?_;(repeat refine AW.seq ?_);refine AW.cs (fun hi=>?_) (fun hi=>?_) rfl<;>(try simp at hi)
   ·refine AW.skip ?_;try simp
    refine hK _ rfl ?_;clear hK K;have w1:=Au (i+1) (by omega);refine AW.seq_ex (ι:=Unit) (fun _=>[(0,Ap m),(12,Ap m),(13,.int .i64 (m.length:Nat)),(14,.int .i64 (i:Nat))]) (fun _=>Ac.emp) (fun _=>¬64<(Aj m i).length) ?_ ?_
    ·(repeat refine AW.seq ?_);refine AW.block ?_;(repeat refine AW.seq_k fun K hK=>?_);refine AW.rg ?_;simp[hi];try (refine hK _ rfl ?_;clear hK K)
     (repeat refine AW.seq_k fun K hK=>?_);refine AW.rg ?_;simp;try (refine hK _ rfl ?_;clear hK K)
     (repeat refine AW.seq ?_);refine AW.cs (fun h3=>?_) (fun h3=>?_) rfl<;>(try simp at h3)
     ·(repeat refine AW.seq_k fun K hK=>?_);refine AW.rg ?_;simp;try (refine hK _ rfl ?_;clear hK K)
      exact AW.ret (Ag rfl _ (.same _) ⟨by rw[O8 (.inr ⟨i,hi,h3⟩)];rfl,rfl⟩)
     ·refine AW.skip ?_;try simp
      omega
    ·rintro _ h3;(repeat refine AW.seq_k fun K hK=>?_);refine AW.rg ?_;simp[-Int.natCast_add,w1];try (refine hK _ rfl ?_;clear hK K)
     refine⟨⟨by omega,fun k hk=>?_⟩,by omega⟩;rcases Nat.lt_succ_iff_lt_or_eq.1 hk with h | rfl
     ·have:=h2 k h;omega
     ·omega
   ·refine AW.exit ?_;try simp
    rintro⟨k,hk,h⟩;exact h2 k (by omega) h
  rintro _ hbig;have hnb:¬(64<m.length∨Ja m):=fun h=>h.elim (by omega) hbig;refine AW.seq_ex (ι:=Unit) (fun _=>[]) (fun _=>Ac.emp) (fun _=>Nq m) ?_ ?_
  ·(repeat refine AW.seq_k fun K hK=>?_);refine AW.rg ?_;simp;try (refine hK _ rfl ?_;clear hK K)
   refine AW.block (AW.loopS (ι:=Nat) (fun i=>[(0,Ap m),(22,Ap m),(23,.int .i64 (m.length:Nat)),(24,.int .i64 (i:Nat))]) (fun _=>Ac.emp)
    (fun i=>i≤m.length∧∀k,k<i→(Aj m k).length=(Aj m 0).length∧∀j,j<(Aj m k).length→(rr (Aj m k) j).ok=true) (fun i=>m.length-i) 0 ⟨by simp,by simp⟩ rfl (by simp) ?_)
   rintro i ⟨h1,h2⟩;(repeat refine AW.seq_k fun K hK=>?_);refine AW.rg ?_;simp;try (refine hK _ rfl ?_;clear hK K)
   refine AW.seq_k fun K hK=>?_;(repeat refine AW.seq ?_);refine AW.cs (fun hi=>?_) (fun hi=>?_) rfl<;>(try simp at hi)
   ·refine AW.skip ?_;try simp
    refine hK _ rfl ?_;clear hK K;have w1:=Au (i+1) (by omega);have h0:0<m.length:=by omega
    have hrow:(Aj m i).length≤64:=by
     rcases Nat.lt_or_ge 64 (Aj m i).length with h|h
     ·exact absurd ⟨i,hi,h⟩ hbig
     ·exact h
    refine AW.seq_ex (ι:=Unit) (fun _=>[(0,Ap m),(22,Ap m),(23,.int .i64 (m.length:Nat)),(24,.int .i64 (i:Nat))]) (fun _=>Ac.emp) (fun _=>(Aj m i).length=(Aj m 0).length∧∀j,j<(Aj m i).length→(rr (Aj m i) j).ok=true) ?_ ?_
    ·(repeat refine AW.seq ?_);refine AW.block ?_;(repeat refine AW.seq_k fun K hK=>?_);refine AW.rg ?_;simp[hi];try (refine hK _ rfl ?_;clear hK K)
     refine AW.seq_ex (ι:=Unit) (fun _=>[(0,Ap m),(22,Ap m),(23,.int .i64 (m.length:Nat)),(24,.int .i64 (i:Nat)),(6,An (Aj m i))]) (fun _=>Ac.emp) (fun _=>(Aj m i).length=(Aj m 0).length) ?_ ?_
     ·(repeat refine AW.seq_k fun K hK=>?_);refine AW.rg ?_;simp[h0];try (refine hK _ rfl ?_;clear hK K)
      (repeat refine AW.seq ?_);refine AW.cs (fun h4=>?_) (fun h4=>?_) rfl<;>(try simp at h4)
      ·(repeat refine AW.seq_k fun K hK=>?_);refine AW.rg ?_;simp;try (refine hK _ rfl ?_;clear hK K)
       exact AW.ret (Ag rfl _ (.same _) ⟨by rw[Oi hnb (fun h=>h4 (h i hi).1)];rfl,rfl⟩)
      ·refine AW.skip ?_;try simp
       exact h4
     rintro _ h4;(repeat refine AW.seq_k fun K hK=>?_);refine AW.rg ?_;simp;try (refine hK _ rfl ?_;clear hK K)
     refine AW.block (AW.loopS (ι:=Nat) (fun j=>[(0,Ap m),(22,Ap m),(23,.int .i64 (m.length:Nat)),(24,.int .i64 (i:Nat)),(6,An (Aj m i)),(35,An (Aj m i)),(36,.int .i64 ((Aj m i).length:Nat)),(37,.int .i64 (j:Nat))]) (fun _=>Ac.emp)
      (fun j=>j≤(Aj m i).length∧∀k,k<j→(rr (Aj m i) k).ok=true) (fun j=>(Aj m i).length-j) 0 ⟨by simp,by simp⟩ rfl (by simp) ?_)
     rintro j ⟨g1,g2⟩;(repeat refine AW.seq_k fun K hK=>?_);refine AW.rg ?_;simp;try (refine hK _ rfl ?_;clear hK K)
     refine AW.seq_k fun K hK=>?_;(repeat refine AW.seq ?_);refine AW.cs (fun hj=>?_) (fun hj=>?_) rfl<;>(try simp at hj)
     ·refine AW.skip ?_;try simp
      refine hK _ rfl ?_;clear hK K;have w2:=Au (j+1) (by omega);have hv:=F3 (rr (Aj m i) j) (Jx (hm.row i) j);refine AW.seq_ex (ι:=Unit) (fun _=>[(0,Ap m),(22,Ap m),(23,.int .i64 (m.length:Nat)),(24,.int .i64 (i:Nat)),(6,An (Aj m i)),(35,An (Aj m i)),(36,.int .i64 ((Aj m i).length:Nat)),(37,.int .i64 (j:Nat))]) (fun _=>Ac.emp) (fun _=>(rr (Aj m i) j).ok=true) ?_ ?_
      ·(repeat refine AW.seq ?_);refine AW.block ?_;(repeat refine AW.seq_k fun K hK=>?_);refine AW.rg ?_;simp[hj];try (refine hK _ rfl ?_;clear hK K)
       refine Af.intro fun b8 _=>?_;try simp
       refine hK _ rfl ?_;clear hK K;(repeat refine AW.seq_k fun K hK=>?_);refine AW.rg ?_;simp;try (refine hK _ rfl ?_;clear hK K)
       refine Aa.val hv ?_;simp;refine hK _ rfl ?_;clear hK K;refine AW.toEmp [(0,Ap m),(22,Ap m),(23,.int .i64 (m.length:Nat)),(24,.int .i64 (i:Nat)),(6,An (Aj m i)),(35,An (Aj m i)),(36,.int .i64 ((Aj m i).length:Nat)),(37,.int .i64 (j:Nat)),(43,.bool (!(rr (Aj m i) j).ok))] (by simp) ?_;by_cases h5:(rr (Aj m i) j).ok=true
       ·refine AW.no ?_ (by simp[h5]);exact AW.skip ⟨(),h5,rfl,rfl,by simp⟩
       ·refine AW.yes ?_ (by simp[h5]);(repeat refine AW.seq_k fun K hK=>?_);refine AW.rg ?_;simp;try (refine hK _ rfl ?_;clear hK K)
        exact AW.ret (Ag rfl _ (.same _) ⟨by rw[Oi hnb (fun h=>h5 ((h i hi).2 j hj))];rfl,rfl⟩)
      ·rintro _ h5;(repeat refine AW.seq_k fun K hK=>?_);refine AW.rg ?_;simp[-Int.natCast_add,w2];try (refine hK _ rfl ?_;clear hK K)
       refine⟨⟨by omega,fun k hk=>?_⟩,by omega⟩;rcases Nat.lt_succ_iff_lt_or_eq.1 hk with h | rfl
       ·exact g2 k h
       ·exact h5
     ·refine AW.exit ?_;try simp
      exact⟨h4,fun k hk=>g2 k (by omega)⟩
    ·rintro _ h3;(repeat refine AW.seq_k fun K hK=>?_);refine AW.rg ?_;simp[-Int.natCast_add,w1];try (refine hK _ rfl ?_;clear hK K)
     refine⟨⟨by omega,fun k hk=>?_⟩,by omega⟩;rcases Nat.lt_succ_iff_lt_or_eq.1 hk with h | rfl
     ·exact h2 k h
     ·exact h3
   ·refine AW.exit ?_;try simp
    exact fun k hk=>h2 k (by omega)
  rintro _ hok;(repeat refine AW.seq_k fun K hK=>?_);refine AW.rg ?_;simp;try (refine hK _ rfl ?_;clear hK K)
  exact AW.ret (Ag rfl _ (.same _) ⟨by rw[Qea hnb hok];rfl,rfl⟩)
end Go.Av
end
section
namespace Go.Av
open Go.Proofs
theorem Zt (m:List (List RR)) (hm:Sf m):Ai Tryz.prog 189 [Ap m] Ac.emp fun v mm=>v=.int .i64 (Uw m)∧mm=Ac.emp:=by
 refine Ad Tryz.func189 rfl rfl 55 rfl (Nat.le_of_ble_eq_true rfl) ?_;(repeat refine AW.seq_k fun K hK=>?_);refine AW.rg ?_;simp[Al];try (refine hK _ rfl ?_;clear hK K)
 (repeat refine AW.seq_k fun K hK=>?_);refine AW.rg ?_;simp;try (refine hK _ rfl ?_;clear hK K)
 (repeat refine AW.seq ?_);refine AW.cs (fun h64=>?_) (fun h64=>?_) rfl<;>(try simp at h64)
 ·(repeat refine AW.seq_k fun K hK=>?_);refine AW.rg ?_;simp;try (refine hK _ rfl ?_;clear hK K)
  exact AW.ret (Ag rfl _ (.same _) ⟨by rw[O8 (.inl h64)];rfl,rfl⟩)
 ·refine AW.skip ?_;try simp
  refine hK _ rfl ?_;clear hK K;refine AW.seq_ex (ι:=Unit) (fun _=>[(0,Ap m)]) (fun _=>Ac.emp) (fun _=>¬Ja m) ?_ ?_
  ·(repeat refine AW.seq_k fun K hK=>?_);refine AW.rg ?_;simp;try (refine hK _ rfl ?_;clear hK K)
   refine AW.block (AW.loopS (ι:=Nat) (fun i=>[(0,Ap m),(3,.int .i64 (i:Nat))]) (fun _=>Ac.emp)
    (fun i=>i≤m.length∧∀k,k<i→¬64<(Aj m k).length) (fun i=>m.length-i) 0 ⟨by simp,by simp⟩ rfl (by simp) ?_)
   rintro i ⟨h1,h2⟩;refine AW.seq_ex (ι:=Unit) (fun _=>[(0,Ap m),(3,.int .i64 (i:Nat))]) (fun _=>Ac.emp) (fun _=>i<m.length) ?_ ?_
   ·(repeat refine AW.seq_k fun K hK=>?_);refine AW.rg ?_;simp;try (refine hK _ rfl ?_;clear hK K)
    (repeat refine AW.seq ?_);refine AW.cs (fun hi=>?_) (fun hi=>?_) rfl<;>(try simp at hi)
    ·refine AW.skip ?_;try simp
     exact hi
    ·refine AW.exit ?_;try simp
     rintro⟨k,hk,h⟩;exact h2 k (by omega) h
   rintro _ hi;have w1:=Au (i+1) (by omega);refine AW.seq_ex (ι:=Unit) (fun _=>[(0,Ap m),(3,.int .i64 (i:Nat))]) (fun _=>Ac.emp) (fun _=>¬64<(Aj m i).length) ?_ ?_
   ·(repeat refine AW.seq ?_);refine AW.block ?_;(repeat refine AW.seq_k fun K hK=>?_);refine AW.rg ?_;simp[hi];try (refine hK _ rfl ?_;clear hK K)
    (repeat refine AW.seq ?_);refine AW.cs (fun h3=>?_) (fun h3=>?_) rfl<;>(try simp at h3)
    ·(repeat refine AW.seq_k fun K hK=>?_);refine AW.rg ?_;simp;try (refine hK _ rfl ?_;clear hK K)
     exact AW.ret (Ag rfl _ (.same _) ⟨by rw[O8 (.inr ⟨i,hi,h3⟩)];rfl,rfl⟩)
    ·refine AW.skip ?_;try simp
     omega
   ·rintro _ h3;(repeat refine AW.seq_k fun K hK=>?_);refine AW.rg ?_;simp[-Int.natCast_add,w1];try (refine hK _ rfl ?_;clear hK K)
    refine⟨⟨by omega,fun k hk=>?_⟩,by omega⟩;rcases Nat.lt_succ_iff_lt_or_eq.1 hk with h | rfl
    ·have:=h2 k h;omega
    ·omega
  rintro _ hbig;have hnb:¬(64<m.length∨Ja m):=fun h=>h.elim (by omega) hbig;refine AW.seq_ex (ι:=Unit) (fun _=>[]) (fun _=>Ac.emp) (fun _=>Nq m) ?_ ?_
  ·(repeat refine AW.seq_k fun K hK=>?_);refine AW.rg ?_;simp;try (refine hK _ rfl ?_;clear hK K)
   refine AW.block (AW.loopS (ι:=Nat) (fun i=>[(0,Ap m),(4,.int .i64 (i:Nat))]) (fun _=>Ac.emp)
    (fun i=>i≤m.length∧∀k,k<i→(Aj m k).length=(Aj m 0).length∧∀j,j<(Aj m k).length→(rr (Aj m k) j).ok=true) (fun i=>m.length-i) 0 ⟨by simp,by simp⟩ rfl (by simp) ?_)
   rintro i ⟨h1,h2⟩;refine AW.seq_ex (ι:=Unit) (fun _=>[(0,Ap m),(4,.int .i64 (i:Nat))]) (fun _=>Ac.emp) (fun _=>i<m.length) ?_ ?_
   ·(repeat refine AW.seq_k fun K hK=>?_);refine AW.rg ?_;simp;try (refine hK _ rfl ?_;clear hK K)
    (repeat refine AW.seq ?_);refine AW.cs (fun hi=>?_) (fun hi=>?_) rfl<;>(try simp at hi)
    ·refine AW.skip ?_;try simp
     exact hi
    ·refine AW.exit ?_;try simp
     exact fun k hk=>h2 k (by omega)
   rintro _ hi;have w1:=Au (i+1) (by omega);have h0:0<m.length:=by omega
   have hrow:(Aj m i).length≤64:=by
    rcases Nat.lt_or_ge 64 (Aj m i).length with h|h
    ·exact absurd ⟨i,hi,h⟩ hbig
    ·exact h
   refine AW.seq_ex (ι:=Unit) (fun _=>[(0,Ap m),(4,.int .i64 (i:Nat))]) (fun _=>Ac.emp) (fun _=>(Aj m i).length=(Aj m 0).length∧∀j,j<(Aj m i).length→(rr (Aj m i) j).ok=true) ?_ ?_
   ·(repeat refine AW.seq ?_);refine AW.block ?_;refine AW.seq_ex (ι:=Unit) (fun _=>[(0,Ap m),(4,.int .i64 (i:Nat))]) (fun _=>Ac.emp) (fun _=>(Aj m i).length=(Aj m 0).length) ?_ ?_
    ·(repeat refine AW.seq_k fun K hK=>?_);refine AW.rd [0,1,2,3,4,5,6,7,8,9] C6 ?_;simp[h0,hi];try (refine hK _ rfl ?_;clear hK K)
     (repeat refine AW.seq ?_);refine AW.cs (fun h4=>?_) (fun h4=>?_) rfl<;>(try simp at h4)
     ·(repeat refine AW.seq_k fun K hK=>?_);refine AW.rg ?_;simp;try (refine hK _ rfl ?_;clear hK K)
      exact AW.ret (Ag rfl _ (.same _) ⟨by rw[Oi hnb (fun h=>h4 (h i hi).1)];rfl,rfl⟩)
     ·refine AW.skip ?_;try simp
      exact h4
    rintro _ h4;(repeat refine AW.seq_k fun K hK=>?_);refine AW.rg ?_;simp;try (refine hK _ rfl ?_;clear hK K)
    refine AW.block (AW.loopS (ι:=Nat) (fun j=>[(0,Ap m),(4,.int .i64 (i:Nat)),(5,.int .i64 (j:Nat))]) (fun _=>Ac.emp)
     (fun j=>j≤(Aj m i).length∧∀k,k<j→(rr (Aj m i) k).ok=true) (fun j=>(Aj m i).length-j) 0 ⟨by simp,by simp⟩ rfl (by simp) ?_)
    rintro j ⟨g1,g2⟩;refine AW.seq_ex (ι:=Unit) (fun _=>[(0,Ap m),(4,.int .i64 (i:Nat)),(5,.int .i64 (j:Nat))]) (fun _=>Ac.emp) (fun _=>j<(Aj m i).length) ?_ ?_
    ·(repeat refine AW.seq_k fun K hK=>?_);refine AW.rg ?_;simp[hi];try (refine hK _ rfl ?_;clear hK K)
     (repeat refine AW.seq ?_);refine AW.cs (fun hj=>?_) (fun hj=>?_) rfl<;>(try simp at hj)
     ·refine AW.skip ?_;try simp
      exact hj
     ·refine AW.exit ?_;try simp
      exact⟨h4,fun k hk=>g2 k (by omega)⟩
    rintro _ hj;have w2:=Au (j+1) (by omega);have hv:Ai Tryz.prog 42 [(rr (Aj m i) j).av] Ac.emp fun v mm=>v=.bool (rr (Aj m i) j).ok∧mm=Ac.emp:=F1 _ _ _ _ (Jx (hm.row i) j).1 (Jx (hm.row i) j).2;refine AW.seq_ex (ι:=Unit) (fun _=>[(0,Ap m),(4,.int .i64 (i:Nat)),(5,.int .i64 (j:Nat))]) (fun _=>Ac.emp) (fun _=>(rr (Aj m i) j).ok=true) ?_ ?_
    ·(repeat refine AW.seq ?_);refine AW.block ?_;(repeat refine AW.seq_k fun K hK=>?_);refine AW.rg ?_;simp[hi,hj];try (refine hK _ rfl ?_;clear hK K)
     refine Aa.val hv ?_;simp;refine hK _ rfl ?_;clear hK K;by_cases h5:(rr (Aj m i) j).ok=true
     ·refine AW.no ?_ (by simp[h5]);exact AW.skip ⟨(),h5,rfl,rfl,by simp⟩
     ·refine AW.yes ?_ (by simp[h5]);(repeat refine AW.seq_k fun K hK=>?_);refine AW.rg ?_;simp;try (refine hK _ rfl ?_;clear hK K)
      exact AW.ret (Ag rfl _ (.same _) ⟨by rw[Oi hnb (fun h=>h5 ((h i hi).2 j hj))];rfl,rfl⟩)
    ·rintro _ h5;(repeat refine AW.seq_k fun K hK=>?_);refine AW.rg ?_;simp[-Int.natCast_add,w2];try (refine hK _ rfl ?_;clear hK K)
     refine⟨⟨by omega,fun k hk=>?_⟩,by omega⟩;rcases Nat.lt_succ_iff_lt_or_eq.1 hk with h | rfl
     ·exact g2 k h
     ·exact h5
   ·rintro _ h3;(repeat refine AW.seq_k fun K hK=>?_);refine AW.rg ?_;simp[-Int.natCast_add,w1];try (refine hK _ rfl ?_;clear hK K)
    refine⟨⟨by omega,fun k hk=>?_⟩,by omega⟩;rcases Nat.lt_succ_iff_lt_or_eq.1 hk with h | rfl
    ·exact h2 k h
    ·exact h3
  rintro _ hok;(repeat refine AW.seq_k fun K hK=>?_);refine AW.rg ?_;simp;try (refine hK _ rfl ?_;clear hK K)
  exact AW.ret (Ag rfl _ (.same _) ⟨by rw[Qea hnb hok];rfl,rfl⟩)
end Go.Av
end
section
namespace Go.Av
open Go.Proofs
@[simp] theorem Ql0 (b z i j:Nat):Kp (.ptr b z i j)=some (.ptr b z i j):=(rfl)
@[simp] theorem Qky (l:List AV):Kp (.rptr l)=some (.rptr l):=(rfl)
def RR.q (r:RR):Rat:=mkRat (if r.n1=true then -(val r.l1:Int) else val r.l1) (val r.l2)
theorem Hk (q:Rat):(Aq q).q=q:=by
 unfold RR.q Aq;simp only[A2,decide_eq_true_eq];have:(if q.num<0 then -(q.num.natAbs:Int) else (q.num.natAbs:Int))=q.num:=by split<;>omega
 rw[this,Rat.mkRat_self]
theorem E5 {r:RR} (hl:r.Lb) (h:r.ok=true):Bu r.q∧r=Aq r.q:=by
 obtain⟨q,h1,h2⟩:=Qr8 hl h;subst h2;rw[Hk];exact⟨h1,rfl⟩
theorem Rc {r:RR} (hl:r.Lb) (h:r.ok=true):r.av=Gi r.q:=by
 have:=(E5 hl h).2
 calc r.av=(Aq r.q).av:=by rw[←this]
  _=Gi r.q:=rfl
def Vc:RR:=⟨false,[],false,[]⟩
theorem Xm:Vc.av=B5:=rfl
theorem Qlh:Vc.Lb:=⟨fun x hx=>(by cases hx),fun x hx=>(by cases hx)⟩
def Dl (e:Int) (a:RR) (q:Option Rat):Int × RR:=if e=0 then (match q with | some q=>(0,Aq q) | none=>(2,Vc)) else (e,a)
theorem Xu {e:Int} {a:RR} {q:Option Rat} (h:a.Lb):(Dl e a q).2.Lb:=by
 unfold Dl;split
 ·cases q with
  |none=>exact Qlh
  |some q=>exact D9 q
 ·exact h
def Ng (c:Nat) (x:AV):Ac:=Ac.emp.set c ⟨118,1,[x]⟩
def G0 (x:AV) (e:Int):Prop:=x.cells=[.int .i64 e]
theorem Nm (c:Nat) (x:AV) (e f:Int) (hx:G0 x e) (r:RR):Ai Tryz.prog 158 [.ptr c 1 0 0,r.av,.int .i64 f] (Ng c x) fun v m=>v=r.av∧∃x',G0 x' (if e=0 then f else e)∧m=Ng c x':=by
 unfold G0 at hx;unfold RR.av Ng;refine Ad Tryz.func158 rfl rfl 17 rfl (Nat.le_of_ble_eq_true rfl) ?_;(repeat refine AW.seq_k fun K hK=>?_);refine AW.rgR [4] ?_;simp[Al];try (refine hK _ rfl ?_;clear hK K)
 refine Af.intro fun b6 hb6=>?_;simp only[Am,Ax,and_true]at hb6;refine hK _ rfl ?_;clear hK K;refine AW.seq_ex (ι:=AV) (fun x'=>[(0,.ptr c 1 0 0),(4,.rptr [.bool r.n1,Ao r.l1,.bool r.n2,Ao r.l2]),(6,.ptr b6 4 0 0)]) (fun x'=>(Ac.emp.set c ⟨118,1,[x']⟩).set b6 ⟨44,4,[.agg [.bool false,.nil,.bool false,.nil]]⟩) (fun x'=>G0 x' (if e=0 then f else e)) ?_ ?_
 ·(repeat refine AW.seq_k fun K hK=>?_);refine AW.rg ?_;simp[hb6,hx];try (refine hK _ rfl ?_;clear hK K)
  (repeat refine AW.seq ?_);refine AW.cs (fun he=>?_) (fun he=>?_) rfl<;>(try simp at he)
  ·(repeat refine AW.seq_k fun K hK=>?_);refine AW.rg ?_;simp[hb6,hx];try (refine hK _ rfl ?_;clear hK K)
   refine⟨.int .i64 f,by simp[G0,he],?_⟩;rw[Z7 _ hb6.2]
  ·refine AW.skip ⟨x,?_,rfl,rfl,by simp⟩;simp[G0,he];exact hx
 rintro x' hx';(repeat refine AW.seq_k fun K hK=>?_);refine AW.rg ?_;simp[hb6];try (refine hK _ rfl ?_;clear hK K)
 refine AW.ret (Dk (vs:=[.agg [.bool r.n1,Ao r.l1,.bool r.n2,Ao r.l2]]) [.agg [.bool r.n1,Ao r.l1,.bool r.n2,Ao r.l2]] c ⟨118,1,[x']⟩ (by simp[hb6]) (by simp[hb6]) ?_ (A9 _ _ _) ⟨rfl,x',hx',rfl⟩);intro v hv;simp at hv;subst hv;unfold G0 at hx';rw[hx'];rfl
theorem Qhb (c:Nat) (x:AV) (e:Int) (hx:G0 x e) (a b:RR) (ha:a.Lb) (hb:b.Lb) (h:e=0→a.ok=true∧b.ok=true):Ai Tryz.prog 146 [.ptr c 1 0 0,a.av,b.av] (Ng c x) fun v m=>v=(Dl e a (C2 a.q b.q)).2.av∧∃x',G0 x' (Dl e a (C2 a.q b.q)).1∧m=Ng c x':=by
 have hone:∀x' e',G0 x' e'→∀v∈(⟨118,1,[x']⟩:Ex).l,v.cells.all AV.one=true:=by
  intro x' e' hx' v hv;simp at hv;subst hv;unfold G0 at hx';rw[hx'];rfl
 have hone:=hone;have hx0:=hx;unfold G0 at hx;by_cases he:e=0
 ·obtain⟨o1,o2⟩:=h he;obtain⟨g1,e1⟩:=E5 ha o1;obtain⟨g2,e2⟩:=E5 hb o2;have hr:=Md a.q b.q g1 g2;rw[←Rc ha o1,←Rc hb o2]at hr;have hk:=Nm c x e;subst he;generalize C2 a.q b.q=q at *;unfold Ng at hk ⊢;unfold RR.av at hr ⊢;refine Ad Tryz.func146 rfl rfl 20 rfl (Nat.le_of_ble_eq_true rfl) ?_;(repeat refine AW.seq_k fun K hK=>?_);refine AW.rgR [4,5] ?_;simp[Al];try (refine hK _ rfl ?_;clear hK K)
  refine Af.intro fun b6 hb6=>?_;simp only[Am,Ax,and_true]at hb6;refine hK _ rfl ?_;clear hK K;(repeat refine AW.seq_k fun K hK=>?_);refine AW.rg ?_;simp[hb6,hx];try (refine hK _ rfl ?_;clear hK K)
  refine AW.no ?_ rfl;refine AW.skip ?_;try simp
  refine hK _ rfl ?_;clear hK K;cases q with
  |none =>
   (repeat refine AW.seq_k fun K hK=>?_);refine AW.rg ?_;simp[hb6];try (refine hK _ rfl ?_;clear hK K)
   refine Aa.val hr ?_;simp[C0,B5];have hk2:=hk 2 hx0 Vc;refine Aa.grant (R:=fun v y=>v=Vc.av∧∃x',G0 x' 2∧y=⟨118,1,[x']⟩) c ⟨118,1,[x]⟩ (by simp[hb6]) (by simp) (hk2.mono fun v m ⟨h1,x',h2,h3⟩=>⟨_,⟨h1,x',h2,rfl⟩,h3⟩) ?_;rintro _ _ ⟨rfl,x',hx',rfl⟩;simp[hb6,Xm,B5];refine hK _ rfl ?_;clear hK K;refine AW.ret (Dk (vs:=[B5]) [B5] c ⟨118,1,[x']⟩ (by simp[hb6,B5]) (by simp[hb6]) (hone x' 2 hx') (A9 _ _ _) ⟨rfl,x',hx',rfl⟩)
  |some q =>
   (repeat refine AW.seq_k fun K hK=>?_);refine AW.rg ?_;simp[hb6];try (refine hK _ rfl ?_;clear hK K)
   refine Aa.val hr ?_;simp[C0];have hk2:=hk 0 hx0 (Aq q);refine Aa.grant (R:=fun v y=>v=(Aq q).av∧∃x',G0 x' 0∧y=⟨118,1,[x']⟩) c ⟨118,1,[x]⟩ (by simp[hb6]) (by simp) (hk2.mono fun v m ⟨h1,x',h2,h3⟩=>⟨_,⟨h1,x',h2,rfl⟩,h3⟩) ?_;rintro _ _ ⟨rfl,x',hx',rfl⟩;simp[hb6];refine hK _ rfl ?_;clear hK K;refine AW.ret (Dk (vs:=[(Aq q).av]) [(Aq q).av] c ⟨118,1,[x']⟩ (by simp[hb6,RR.av]) (by simp[hb6]) (hone x' 0 hx') (A9 _ _ _) ⟨rfl,x',hx',rfl⟩)
 ·have e3:Dl e a (C2 a.q b.q)=(e,a):=if_neg he;rw[e3];unfold Ng;unfold RR.av;refine Ad Tryz.func146 rfl rfl 20 rfl (Nat.le_of_ble_eq_true rfl) ?_;(repeat refine AW.seq_k fun K hK=>?_);refine AW.rgR [4,5] ?_;simp[Al];try (refine hK _ rfl ?_;clear hK K)
  refine Af.intro fun b6 hb6=>?_;simp only[Am,Ax,and_true]at hb6;refine hK _ rfl ?_;clear hK K;(repeat refine AW.seq_k fun K hK=>?_);refine AW.rg ?_;simp[hb6,hx];try (refine hK _ rfl ?_;clear hK K)
  refine AW.yes ?_ (by simp[he]);(repeat refine AW.seq_k fun K hK=>?_);refine AW.rg ?_;simp[hb6];try (refine hK _ rfl ?_;clear hK K)
  refine AW.ret (Dk (vs:=[.agg [.bool a.n1,Ao a.l1,.bool a.n2,Ao a.l2]]) [.agg [.bool a.n1,Ao a.l1,.bool a.n2,Ao a.l2]] c ⟨118,1,[x]⟩ (by simp[hb6]) (by simp[hb6]) (hone x e hx0) (A9 _ _ _) ⟨rfl,x,hx0,rfl⟩)
theorem Qf7 (c:Nat) (x:AV) (e:Int) (hx:G0 x e) (a b:RR) (ha:a.Lb) (hb:b.Lb) (h:e=0→a.ok=true∧b.ok=true):Ai Tryz.prog 111 [.ptr c 1 0 0,a.av,b.av] (Ng c x) fun v m=>v=(Dl e a (D4 a.q b.q)).2.av∧∃x',G0 x' (Dl e a (D4 a.q b.q)).1∧m=Ng c x':=by
 have hone:∀x' e',G0 x' e'→∀v∈(⟨118,1,[x']⟩:Ex).l,v.cells.all AV.one=true:=by
  intro x' e' hx' v hv;simp at hv;subst hv;unfold G0 at hx';rw[hx'];rfl
 have hone:=hone;have hx0:=hx;unfold G0 at hx;by_cases he:e=0
 ·obtain⟨o1,o2⟩:=h he;obtain⟨g1,e1⟩:=E5 ha o1;obtain⟨g2,e2⟩:=E5 hb o2;have hr:=Qhm a.q b.q g1 g2;rw[←Rc ha o1,←Rc hb o2]at hr;have hk:=Nm c x e;subst he;generalize D4 a.q b.q=q at *;unfold Ng at hk ⊢;unfold RR.av at hr ⊢;refine Ad Tryz.func111 rfl rfl 20 rfl (Nat.le_of_ble_eq_true rfl) ?_;(repeat refine AW.seq_k fun K hK=>?_);refine AW.rgR [4,5] ?_;simp[Al];try (refine hK _ rfl ?_;clear hK K)
  refine Af.intro fun b6 hb6=>?_;simp only[Am,Ax,and_true]at hb6;refine hK _ rfl ?_;clear hK K;(repeat refine AW.seq_k fun K hK=>?_);refine AW.rg ?_;simp[hb6,hx];try (refine hK _ rfl ?_;clear hK K)
  refine AW.no ?_ rfl;refine AW.skip ?_;try simp
  refine hK _ rfl ?_;clear hK K;cases q with
  |none =>
   (repeat refine AW.seq_k fun K hK=>?_);refine AW.rg ?_;simp[hb6];try (refine hK _ rfl ?_;clear hK K)
   refine Aa.val hr ?_;simp[C0,B5];have hk2:=hk 2 hx0 Vc;refine Aa.grant (R:=fun v y=>v=Vc.av∧∃x',G0 x' 2∧y=⟨118,1,[x']⟩) c ⟨118,1,[x]⟩ (by simp[hb6]) (by simp) (hk2.mono fun v m ⟨h1,x',h2,h3⟩=>⟨_,⟨h1,x',h2,rfl⟩,h3⟩) ?_;rintro _ _ ⟨rfl,x',hx',rfl⟩;simp[hb6,Xm,B5];refine hK _ rfl ?_;clear hK K;refine AW.ret (Dk (vs:=[B5]) [B5] c ⟨118,1,[x']⟩ (by simp[hb6,B5]) (by simp[hb6]) (hone x' 2 hx') (A9 _ _ _) ⟨rfl,x',hx',rfl⟩)
  |some q =>
   (repeat refine AW.seq_k fun K hK=>?_);refine AW.rg ?_;simp[hb6];try (refine hK _ rfl ?_;clear hK K)
   refine Aa.val hr ?_;simp[C0];have hk2:=hk 0 hx0 (Aq q);refine Aa.grant (R:=fun v y=>v=(Aq q).av∧∃x',G0 x' 0∧y=⟨118,1,[x']⟩) c ⟨118,1,[x]⟩ (by simp[hb6]) (by simp) (hk2.mono fun v m ⟨h1,x',h2,h3⟩=>⟨_,⟨h1,x',h2,rfl⟩,h3⟩) ?_;rintro _ _ ⟨rfl,x',hx',rfl⟩;simp[hb6];refine hK _ rfl ?_;clear hK K;refine AW.ret (Dk (vs:=[(Aq q).av]) [(Aq q).av] c ⟨118,1,[x']⟩ (by simp[hb6,RR.av]) (by simp[hb6]) (hone x' 0 hx') (A9 _ _ _) ⟨rfl,x',hx',rfl⟩)
 ·have e3:Dl e a (D4 a.q b.q)=(e,a):=if_neg he;rw[e3];unfold Ng;unfold RR.av;refine Ad Tryz.func111 rfl rfl 20 rfl (Nat.le_of_ble_eq_true rfl) ?_;(repeat refine AW.seq_k fun K hK=>?_);refine AW.rgR [4,5] ?_;simp[Al];try (refine hK _ rfl ?_;clear hK K)
  refine Af.intro fun b6 hb6=>?_;simp only[Am,Ax,and_true]at hb6;refine hK _ rfl ?_;clear hK K;(repeat refine AW.seq_k fun K hK=>?_);refine AW.rg ?_;simp[hb6,hx];try (refine hK _ rfl ?_;clear hK K)
  refine AW.yes ?_ (by simp[he]);(repeat refine AW.seq_k fun K hK=>?_);refine AW.rg ?_;simp[hb6];try (refine hK _ rfl ?_;clear hK K)
  refine AW.ret (Dk (vs:=[.agg [.bool a.n1,Ao a.l1,.bool a.n2,Ao a.l2]]) [.agg [.bool a.n1,Ao a.l1,.bool a.n2,Ao a.l2]] c ⟨118,1,[x]⟩ (by simp[hb6]) (by simp[hb6]) (hone x e hx0) (A9 _ _ _) ⟨rfl,x,hx0,rfl⟩)
theorem Qgs (c:Nat) (x:AV) (e:Int) (hx:G0 x e) (a b:RR) (ha:a.Lb) (hb:b.Lb) (h:e=0→a.ok=true∧b.ok=true∧b.q≠0):Ai Tryz.prog 145 [.ptr c 1 0 0,a.av,b.av] (Ng c x) fun v m=>v=(Dl e a (Fu a.q b.q)).2.av∧∃x',G0 x' (Dl e a (Fu a.q b.q)).1∧m=Ng c x':=by
 have hone:∀x' e',G0 x' e'→∀v∈(⟨118,1,[x']⟩:Ex).l,v.cells.all AV.one=true:=by
  intro x' e' hx' v hv;simp at hv;subst hv;unfold G0 at hx';rw[hx'];rfl
 have hone:=hone;have hx0:=hx;unfold G0 at hx;by_cases he:e=0
 ·obtain⟨o1,o2,o3⟩:=h he;obtain⟨g1,e1⟩:=E5 ha o1;obtain⟨g2,e2⟩:=E5 hb o2;have hr:=Qhp a.q b.q g1 g2 o3;rw[←Rc ha o1,←Rc hb o2]at hr;have hk:=Nm c x e;subst he;generalize Fu a.q b.q=q at *;unfold Ng at hk ⊢;unfold RR.av at hr ⊢;refine Ad Tryz.func145 rfl rfl 20 rfl (Nat.le_of_ble_eq_true rfl) ?_;(repeat refine AW.seq_k fun K hK=>?_);refine AW.rgR [4,5] ?_;simp[Al];try (refine hK _ rfl ?_;clear hK K)
  refine Af.intro fun b6 hb6=>?_;simp only[Am,Ax,and_true]at hb6;refine hK _ rfl ?_;clear hK K;(repeat refine AW.seq_k fun K hK=>?_);refine AW.rg ?_;simp[hb6,hx];try (refine hK _ rfl ?_;clear hK K)
  refine AW.no ?_ rfl;refine AW.skip ?_;try simp
  refine hK _ rfl ?_;clear hK K;cases q with
  |none =>
   (repeat refine AW.seq_k fun K hK=>?_);refine AW.rg ?_;simp[hb6];try (refine hK _ rfl ?_;clear hK K)
   refine Aa.val hr ?_;simp[C0,B5];have hk2:=hk 2 hx0 Vc;refine Aa.grant (R:=fun v y=>v=Vc.av∧∃x',G0 x' 2∧y=⟨118,1,[x']⟩) c ⟨118,1,[x]⟩ (by simp[hb6]) (by simp) (hk2.mono fun v m ⟨h1,x',h2,h3⟩=>⟨_,⟨h1,x',h2,rfl⟩,h3⟩) ?_;rintro _ _ ⟨rfl,x',hx',rfl⟩;simp[hb6,Xm,B5];refine hK _ rfl ?_;clear hK K;refine AW.ret (Dk (vs:=[B5]) [B5] c ⟨118,1,[x']⟩ (by simp[hb6,B5]) (by simp[hb6]) (hone x' 2 hx') (A9 _ _ _) ⟨rfl,x',hx',rfl⟩)
  |some q =>
   (repeat refine AW.seq_k fun K hK=>?_);refine AW.rg ?_;simp[hb6];try (refine hK _ rfl ?_;clear hK K)
   refine Aa.val hr ?_;simp[C0];have hk2:=hk 0 hx0 (Aq q);refine Aa.grant (R:=fun v y=>v=(Aq q).av∧∃x',G0 x' 0∧y=⟨118,1,[x']⟩) c ⟨118,1,[x]⟩ (by simp[hb6]) (by simp) (hk2.mono fun v m ⟨h1,x',h2,h3⟩=>⟨_,⟨h1,x',h2,rfl⟩,h3⟩) ?_;rintro _ _ ⟨rfl,x',hx',rfl⟩;simp[hb6];refine hK _ rfl ?_;clear hK K;refine AW.ret (Dk (vs:=[(Aq q).av]) [(Aq q).av] c ⟨118,1,[x']⟩ (by simp[hb6,RR.av]) (by simp[hb6]) (hone x' 0 hx') (A9 _ _ _) ⟨rfl,x',hx',rfl⟩)
 ·have e3:Dl e a (Fu a.q b.q)=(e,a):=if_neg he;rw[e3];unfold Ng;unfold RR.av;refine Ad Tryz.func145 rfl rfl 20 rfl (Nat.le_of_ble_eq_true rfl) ?_;(repeat refine AW.seq_k fun K hK=>?_);refine AW.rgR [4,5] ?_;simp[Al];try (refine hK _ rfl ?_;clear hK K)
  refine Af.intro fun b6 hb6=>?_;simp only[Am,Ax,and_true]at hb6;refine hK _ rfl ?_;clear hK K;(repeat refine AW.seq_k fun K hK=>?_);refine AW.rg ?_;simp[hb6,hx];try (refine hK _ rfl ?_;clear hK K)
  refine AW.yes ?_ (by simp[he]);(repeat refine AW.seq_k fun K hK=>?_);refine AW.rg ?_;simp[hb6];try (refine hK _ rfl ?_;clear hK K)
  refine AW.ret (Dk (vs:=[.agg [.bool a.n1,Ao a.l1,.bool a.n2,Ao a.l2]]) [.agg [.bool a.n1,Ao a.l1,.bool a.n2,Ao a.l2]] c ⟨118,1,[x]⟩ (by simp[hb6]) (by simp[hb6]) (hone x e hx0) (A9 _ _ _) ⟨rfl,x,hx0,rfl⟩)
end Go.Av
end
section
namespace Go.Av
open Go.Proofs
def Kv (n:Int):Rat:=Rat.divInt n 1
theorem F4:Kv 0=0:=Rat.zero_divInt 1
theorem Ic:Kv 1=1:=by decide
theorem Wq {n:Int} (h:n.natAbs<18446744073709551616):Bu (Kv n):=G6 (T4 h) (by decide) (by omega)
theorem N5 (n:Int) (h1:-9223372036854775808≤n) (h2:n<9223372036854775808):Ai Tryz.prog 152 [.int .i64 n] Ac.emp fun v m=>v=(Aq (Kv n)).av∧m=Ac.emp:=by
 have ho:=Qe5 n 1 h1 h2 (by omega) (by omega) (by omega);have e:Rat.divInt n 1=Kv n:=rfl;rw[e,C0]at ho;generalize Kv n=q at *;rw[Dg];unfold Gi at *;refine Ad Tryz.func152 rfl rfl 11 rfl (Nat.le_of_ble_eq_true rfl) ?_;(repeat refine AW.seq_k fun K hK=>?_);refine AW.rg ?_;simp[Al];try (refine hK _ rfl ?_;clear hK K)
 refine Af.intro fun b2 _=>?_;refine hK _ rfl ?_;clear hK K;(repeat refine AW.seq_k fun K hK=>?_);refine AW.rg ?_;simp;try (refine hK _ rfl ?_;clear hK K)
 refine Aa.val ho ?_;simp;refine Af.intro fun b3 hb3=>?_;simp only[Am,Ax,and_true]at hb3;try simp[hb3]
 refine hK _ rfl ?_;clear hK K;(repeat refine AW.seq_k fun K hK=>?_);refine AW.rg ?_;simp[hb3];try (refine hK _ rfl ?_;clear hK K)
 exact AW.ret (Ae (vs:=[.agg [.bool (decide (q.num<0)),Ao (Ar q.num.natAbs),.bool false,Ao (Ar q.den)]]) [.agg [.bool (decide (q.num<0)),Ao (Ar q.num.natAbs),.bool false,Ao (Ar q.den)]] (by simp[hb3]) (by simp) ⟨rfl,rfl⟩)
section
variable {P:Program} {av:Nat→Prop} {f:FuncId} {args:List AV} {m:Ac} {k:AV→Ac→Prop}
theorem Aa.make {R:Nat→AV→Ex→Prop} (h:Ai P f args Ac.emp fun v m'=>∃b x,R b v x∧m'=Ac.emp.set b x) (hk:∀b v x,R b v x→m b=none→¬av b→k v (m.set b x)):Aa P av f args m k:=by
 refine .inl ⟨Ac.emp,_,fun c y hy=>(by cases hy),h,?_⟩;rintro v g' ⟨b,x,hr,rfl⟩ hf;have hb:=hf b (by simp);rcases hb with hb | ⟨h1,h2⟩
 ·exact absurd rfl hb
 ·have e:Eu m Ac.emp (Ac.emp.set b x)=m.set b x:=by
   funext c
   unfold Eu;simp only[A6,Ax];by_cases hc:c=b
   ·simp[hc]
   ·simp[hc]
  rw[e];exact hk b v x hr h1 h2
end
def Qj9:AV:=.agg [.bool false,.nil,.bool false,.nil]
def K7 (l:List RR) (i n:Nat):List AV:=Bg (l.take i)++List.replicate (n-i) Qj9
theorem Tm (l:List RR) (n:Nat):K7 l 0 n=List.replicate n Qj9:=by simp[K7]
theorem T7 (l:List RR):K7 l l.length l.length=Bg l:=by simp[K7]
theorem Tw (l:List RR) (i:Nat) (h:i<l.length):(K7 l i l.length).set i (rr l i).av=K7 l (i+1) l.length:=by
 unfold K7;have hl:(Bg (l.take i)).length=i:=by simp;omega
 rw[List.set_append_right _ _ (by omega),hl,Nat.sub_self,show l.length-i=(l.length-(i+1))+1 by omega,List.replicate_succ,List.set_cons_zero];have e:l.take (i+1)=l.take i++[l[i]]:=by rw[List.take_add_one,List.getElem?_eq_getElem h];rfl
 rw[e];simp only[Bg,List.map_append,List.append_assoc,List.map_cons,List.map_nil,List.cons_append,List.nil_append,Hc h]
@[simp] theorem fillL_get? {l:List RR} {i:Nat} (h:i<l.length):(K7 l i l.length)[i]?=some Qj9:=by
 unfold K7;have hl:(Bg (l.take i)).length=i:=by simp;omega
 rw[List.getElem?_append_right (by omega),hl,Nat.sub_self,show l.length-i=(l.length-(i+1))+1 by omega,List.replicate_succ];rfl
theorem Zc (n:Nat) (hn:n<2^40):Ai Tryz.prog 109 [.int .i64 n] Ac.emp fun v m=>∃b x,(v=.osl b 4 0 n∧x=⟨44,4,Bg (List.replicate n (Aq 0))⟩)∧m=Ac.emp.set b x:=by
 have hw:=N5 0 (by omega) (by omega);rw[F4]at hw;generalize hl:List.replicate n (Aq 0)=l at *;have hlen:l.length=n:=by rw[←hl];simp
 have hget:∀i,i<n→rr l i=Aq 0:=by
  intro i hi;rw[Hc (by omega)];subst hl;simp
 generalize Aq 0=z at *;clear hl;subst hlen;refine Ad Tryz.func109 rfl rfl 18 rfl (Nat.le_of_ble_eq_true rfl) ?_;(repeat refine AW.seq_k fun K hK=>?_);refine AW.rg ?_;simp[Al];try (refine hK _ rfl ?_;clear hK K)
 (repeat refine AW.seq_k fun K hK=>?_);refine AW.rg ?_;simp[-Int.natCast_mul];try (refine hK _ rfl ?_;clear hK K)
 refine⟨by omega,Af.intro fun b _=>?_⟩;refine hK _ rfl ?_;clear hK K;refine AW.seq_has [(3,.osl b 4 0 l.length)] (Ac.emp.set b ⟨44,4,Bg l⟩) ?_ ?_
 ·(repeat refine AW.seq_k fun K hK=>?_);refine AW.rg ?_;simp;try (refine hK _ rfl ?_;clear hK K)
  refine AW.block (AW.loopS (ι:=Nat) (fun i=>[(3,.osl b 4 0 l.length),(8,.int .i64 (l.length:Nat)),(9,.int .i64 (i:Nat))]) (fun i=>Ac.emp.set b ⟨44,4,K7 l i l.length⟩)
   (fun i=>i≤l.length) (fun i=>l.length-i) 0 (by simp) (by rw[Tm];rfl) (by simp) ?_)
  intro i h1;(repeat refine AW.seq_k fun K hK=>?_);refine AW.rg ?_;simp;try (refine hK _ rfl ?_;clear hK K)
  refine AW.seq_k fun K hK=>?_;(repeat refine AW.seq ?_);refine AW.cs (fun hi=>?_) (fun hi=>?_) rfl<;>(try simp at hi)
  ·refine AW.skip ?_;try simp
   refine hK _ rfl ?_;clear hK K;have w1:=Au (i+1) (by omega);(repeat refine AW.seq ?_);refine AW.block ?_;(repeat refine AW.seq_k fun K hK=>?_);refine AW.rg ?_;simp;try (refine hK _ rfl ?_;clear hK K)
   (repeat refine AW.seq_k fun K hK=>?_);refine AW.rg ?_;simp[hi];try (refine hK _ rfl ?_;clear hK K)
   refine Aa.val hw ?_;simp[hi,Qj9];rw[←hget i hi,Tw l i hi];(repeat refine AW.seq_k fun K hK=>?_);refine AW.rg ?_;simp[-Int.natCast_add,w1];try (refine hK _ rfl ?_;clear hK K)
   exact⟨i+1,hi,by omega,rfl,rfl⟩
  ·refine AW.exit ?_;try simp
   have:i=l.length:=by omega
   subst this;rw[T7]
 (repeat refine AW.seq_k fun K hK=>?_);refine AW.rg ?_;simp;try (refine hK _ rfl ?_;clear hK K)
 exact AW.ret (Bo rfl (Ss (F8 l)) ⟨b,_,⟨rfl,rfl⟩,rfl⟩)
theorem Zk (l:List RR) (hl:∀x∈l,x.l1.length<2^40∧x.l2.length<2^40) (hn:l.length<2^40):Ai Tryz.prog 143 [An l] Ac.emp fun v m=>∃b x,(v=.osl b 4 0 l.length∧x=⟨44,4,Bg l⟩)∧m=Ac.emp.set b x:=by
 refine Ad Tryz.func143 rfl rfl 23 rfl (Nat.le_of_ble_eq_true rfl) ?_;(repeat refine AW.seq_k fun K hK=>?_);refine AW.rg ?_;simp[Al];try (refine hK _ rfl ?_;clear hK K)
 (repeat refine AW.seq_k fun K hK=>?_);refine AW.rg ?_;simp[-Int.natCast_mul];try (refine hK _ rfl ?_;clear hK K)
 refine⟨by omega,Af.intro fun b _=>?_⟩;refine hK _ rfl ?_;clear hK K;refine AW.seq_has [(3,.osl b 4 0 l.length)] (Ac.emp.set b ⟨44,4,Bg l⟩) ?_ ?_
 ·(repeat refine AW.seq_k fun K hK=>?_);refine AW.rg ?_;simp;try (refine hK _ rfl ?_;clear hK K)
  refine AW.block (AW.loopS (ι:=Nat) (fun i=>[(0,An l),(3,.osl b 4 0 l.length),(9,.int .i64 (l.length:Nat)),(10,.int .i64 (i:Nat))]) (fun i=>Ac.emp.set b ⟨44,4,K7 l i l.length⟩)
   (fun i=>i≤l.length) (fun i=>l.length-i) 0 (by simp) (by rw[Tm];rfl) (by simp) ?_)
  intro i h1;(repeat refine AW.seq_k fun K hK=>?_);refine AW.rg ?_;simp;try (refine hK _ rfl ?_;clear hK K)
  refine AW.seq_k fun K hK=>?_;(repeat refine AW.seq ?_);refine AW.cs (fun hi=>?_) (fun hi=>?_) rfl<;>(try simp at hi)
  ·refine AW.skip ?_;try simp
   refine hK _ rfl ?_;clear hK K;have w1:=Au (i+1) (by omega);have hx:=hl (rr l i) (by rw[Hc hi];exact List.getElem_mem hi);have ho:=Qih (rr l i) hx.1 hx.2;(repeat refine AW.seq ?_);refine AW.block ?_;(repeat refine AW.seq_k fun K hK=>?_);refine AW.rg ?_;simp;try (refine hK _ rfl ?_;clear hK K)
   (repeat refine AW.seq_k fun K hK=>?_);refine AW.rg ?_;simp[hi];try (refine hK _ rfl ?_;clear hK K)
   refine Aa.val ho ?_;simp[hi,Qj9];rw[Tw l i hi];(repeat refine AW.seq_k fun K hK=>?_);refine AW.rg ?_;simp[-Int.natCast_add,w1];try (refine hK _ rfl ?_;clear hK K)
   exact⟨i+1,hi,by omega,rfl,rfl⟩
  ·refine AW.exit ?_;try simp
   have:i=l.length:=by omega
   subst this;rw[T7]
 (repeat refine AW.seq_k fun K hK=>?_);refine AW.rg ?_;simp;try (refine hK _ rfl ?_;clear hK K)
 exact AW.ret (Bo rfl (Ss (F8 l)) ⟨b,_,⟨rfl,rfl⟩,rfl⟩)
end Go.Av
end
section
namespace Go.Av
open Go.Proofs
def Gb (bs:List Nat) (rows:List (List RR)):List AV:=List.zipWith (fun b (r:List RR)=>.osl b 4 0 r.length) bs rows
def nb (bs:List Nat) (i:Nat):Nat:=bs.getD i 0
theorem H4 {bs:List Nat} {i:Nat} (h:i<bs.length):nb bs i=bs[i]:=by unfold nb;rw[List.getD_eq_getElem?_getD,List.getElem?_eq_getElem h];rfl
theorem Ey {bs:List Nat} {i:Nat} (h:i<bs.length):nb bs i∈bs:=by rw[H4 h];exact List.getElem_mem h
theorem B6 {bs:List Nat} {rows:List (List RR)} (h:bs.length=rows.length):(Gb bs rows).length=rows.length:=by simp[Gb,h]
theorem hdrs_get? {bs:List Nat} {rows:List (List RR)} (h:bs.length=rows.length) {i:Nat} (hi:i<rows.length):(Gb bs rows)[i]?=some (.osl (nb bs i) 4 0 (Aj rows i).length):=by
 unfold Gb;rw[List.getElem?_zipWith,List.getElem?_eq_getElem (by omega),List.getElem?_eq_getElem hi,H4 (by omega),Ea hi]
structure D7 (M:Ac) (B:Nat) (bs:List Nat) (rows:List (List RR)):Prop where
 top:M B=some ⟨51,1,Gb bs rows⟩
 len:bs.length=rows.length
 row:∀i,i<rows.length→M (nb bs i)=some ⟨44,4,Bg (Aj rows i)⟩
 nd:bs.Nodup
 nB:B ∉ bs
theorem Qdh {bs:List Nat} (hnd:bs.Nodup) {i j:Nat} (hi:i<bs.length) (hj:j<bs.length) (h:nb bs i=nb bs j):i=j:=by
 rw[H4 hi,H4 hj]at h;exact(List.getElem_inj hnd).1 h
section
variable {M:Ac} {B:Nat} {bs:List Nat} {rows:List (List RR)}
theorem D7.ne (h:D7 M B bs rows) {i:Nat} (hi:i<rows.length):nb bs i≠B:=fun e=>h.nB (e ▸ Ey (by rw[h.len];exact hi))
theorem D7.get (h:D7 M B bs rows) {i:Nat} (hi:i<rows.length):(Gb bs rows)[i]?=some (.osl (nb bs i) 4 0 (Aj rows i).length):=hdrs_get? h.len hi
theorem Qfz {bs:List Nat} {rows:List (List RR)} (i:Nat) (r:List RR) (hr:r.length=(Aj rows i).length):Gb bs (rows.set i r)=Gb bs rows:=by
 unfold Gb;refine List.ext_getElem? fun k=>?_;rw[List.getElem?_zipWith,List.getElem?_zipWith,List.getElem?_set];by_cases hk:i=k
 ·subst hk;rw[if_pos rfl];by_cases hi:i<rows.length
  ·rw[if_pos hi,List.getElem?_eq_getElem hi];cases bs[i]? with
   |none=>rfl
   |some b=>simp[hr,Ea hi]
  ·rw[if_neg hi,List.getElem?_eq_none (l:=rows) (by omega)]
 ·rw[if_neg hk]
theorem Fj {α:Type} {rows:List (List α)} {i:Nat} (hi:i<rows.length) (r:List α) (k:Nat):Aj (rows.set i r) k=if k=i then r else Aj rows k:=by
 unfold Aj;rw[List.getD_eq_getElem?_getD,List.getElem?_set];by_cases h:i=k
 ·subst h;simp[hi]
 ·rw[if_neg h,if_neg (Ne.symm h),←List.getD_eq_getElem?_getD]
theorem D7.setRow (h:D7 M B bs rows) {i:Nat} (hi:i<rows.length) (r:List RR) (hr:r.length=(Aj rows i).length):D7 (M.set (nb bs i) ⟨44,4,Bg r⟩) B bs (rows.set i r):=by
 refine⟨?_,by simpa using h.len,fun k hk=>?_,h.nd,h.nB⟩
 ·rw[Qfz i r hr];simp only[A6];rw[if_neg (Ne.symm (h.ne hi))];exact h.top
 ·have hk':k<rows.length:=by simpa using hk
  simp only[A6];rw[Fj hi];by_cases hki:k=i
  ·subst hki;simp
  ·have:nb bs k≠nb bs i:=fun e=>hki (Qdh h.nd (by rw[h.len];exact hk') (by rw[h.len];exact hi) e);rw[if_neg this,if_neg hki];exact h.row k hk'
theorem D7.other (h:D7 M B bs rows) {c:Nat} (h1:c≠B) (h2:c ∉ bs) (x:Ex):D7 (M.set c x) B bs rows:=by
 refine⟨?_,h.len,fun k hk=>?_,h.nd,h.nB⟩
 ·simp only[A6];rw[if_neg (Ne.symm h1)];exact h.top
 ·have:nb bs k≠c:=fun e=>h2 (e ▸ Ey (by rw[h.len];exact hk));simp only[A6];rw[if_neg this];exact h.row k hk
theorem Wj (bs:List Nat) (rows:List (List RR)):∀v∈Gb bs rows,v.cells.all AV.one=true:=by
 intro v hv;unfold Gb at hv;obtain⟨k,hk⟩:=List.getElem?_of_mem hv;rw[List.getElem?_zipWith]at hk;cases h1:bs[k]?<;>cases h2:rows[k]?<;>simp[h1,h2]at hk
 subst hk;rfl
theorem D7.view (h:D7 M B bs rows):Br M Ac.emp (.osl B 1 0 rows.length) (Ap rows):=by
 refine .osl B 1 0 rows.length _ _ h.top rfl rfl (by simp) (by simp[B6 h.len]) fun k v v' h1 h2=>?_;simp only[Nat.zero_add]at h1;have hk:k<rows.length:=by
  have:=(List.getElem?_eq_some_iff.1 h2).1;simpa using this
 rw[h.get hk]at h1;rw[List.getElem?_map,List.getElem?_eq_getElem hk]at h2;cases h1;cases h2;rw[←Ea hk];refine .osl (nb bs k) 4 0 _ _ _ (h.row k hk) rfl rfl (by simp) (by simp) fun j u u' g1 g2=>?_;simp only[Nat.zero_add]at g1;rw[g1]at g2;cases g2;exact .same _
end
def Db (M:Ac) (l:List Nat):Prop:=∀b,M b≠none→b∈l
theorem Db.none {M:Ac} {l:List Nat} (h:Db M l) {b:Nat} (hb:b ∉ l):M b=Option.none:=by
 cases hx:M b with
 |none=>rfl
 |some x=>exact absurd (h b (by rw[hx];simp)) hb
theorem D7.ones {M:Ac} {B:Nat} {bs:List Nat} {rows:List (List RR)} (h:D7 M B bs rows) {l:List Nat} (ho:Db M (l++B::bs)) (hl:∀c∈l,∀x,M c=some x→∀v∈x.l,v.cells.all AV.one=true):∀(b:Nat) (x:Ex),M b=some x→∀v∈x.l,v.cells.all AV.one=true:=by
 intro b x hx;have:=ho b (by rw[hx];simp);rcases List.mem_append.1 this with h1 | h1
 ·exact hl b h1 x hx
 ·rcases List.mem_cons.1 h1 with rfl|h1
  ·rw[h.top]at hx;cases hx;exact Wj bs rows
  ·obtain⟨i,hi⟩:=List.getElem?_of_mem h1;have hib:i<bs.length:=(List.getElem?_eq_some_iff.1 hi).1;have hir:i<rows.length:=by rw[←h.len];exact hib
   have e:nb bs i=b:=by rw[H4 hib];exact(List.getElem?_eq_some_iff.1 hi).2
   have:=h.row i hir;rw[e,hx]at this;cases this;exact F8 _
structure Qhe (M:Ac) (B:Nat) (bs:List Nat) (rows:List (List RR)) (k:Nat):Prop where
 top:M B=some ⟨51,1,Gb bs rows++List.replicate k AV.nil⟩
 len:bs.length=rows.length
 row:∀i,i<rows.length→M (nb bs i)=some ⟨44,4,Bg (Aj rows i)⟩
 nd:bs.Nodup
 nB:B ∉ bs
 only:Db M (B::bs)
theorem Vx {bs:List Nat} {rows:List (List RR)} (h:bs.length=rows.length) (b:Nat) (r:List RR):Gb (bs++[b]) (rows++[r])=Gb bs rows++[.osl b 4 0 r.length]:=by
 unfold Gb;rw[List.zipWith_append h];rfl
theorem Wo {α:Type} (rows:List (List α)) (r:List α) (i:Nat) (hi:i<rows.length+1):Aj (rows++[r]) i=if i<rows.length then Aj rows i else r:=by
 unfold Aj;rw[List.getD_eq_getElem?_getD];by_cases h:i<rows.length
 ·rw[if_pos h,List.getElem?_append_left h,←List.getD_eq_getElem?_getD]
 ·rw[if_neg h,List.getElem?_append_right (by omega),show i-rows.length=0 by omega];rfl
theorem Qel (bs:List Nat) (b:Nat) (i:Nat) (hi:i<bs.length+1):nb (bs++[b]) i=if i<bs.length then nb bs i else b:=by
 unfold nb;rw[List.getD_eq_getElem?_getD];by_cases h:i<bs.length
 ·rw[if_pos h,List.getElem?_append_left h,←List.getD_eq_getElem?_getD]
 ·rw[if_neg h,List.getElem?_append_right (by omega),show i-bs.length=0 by omega];rfl
theorem Qhe.step {M:Ac} {B:Nat} {bs:List Nat} {rows:List (List RR)} {k:Nat} (h:Qhe M B bs rows (k+1)) {b:Nat} (hb:M b=none) (r:List RR) :
  Qhe ((M.set b ⟨44,4,Bg r⟩).set B ⟨51,1,(Gb bs rows++List.replicate (k+1) AV.nil).set rows.length (.osl b 4 0 r.length)⟩) B (bs++[b]) (rows++[r]) k:=by
 have hbB:b≠B:=by rintro rfl;rw[h.top]at hb;cases hb
 have hbb:b ∉ bs:=by
  intro hm;obtain⟨i,hi⟩:=List.getElem?_of_mem hm;have hib:i<bs.length:=(List.getElem?_eq_some_iff.1 hi).1;have e:nb bs i=b:=by rw[H4 hib];exact(List.getElem?_eq_some_iff.1 hi).2
  have:=h.row i (by rw[←h.len];exact hib);rw[e,hb]at this;cases this
 refine⟨?_,by simp[h.len],fun i hi=>?_,?_,?_,fun c hc=>?_⟩
 ·simp only[A6,if_true];rw[Vx h.len,List.set_append_right _ _ (by rw[B6 h.len];omega),B6 h.len,Nat.sub_self,List.replicate_succ,List.set_cons_zero];simp
 ·have hi':i<rows.length+1:=by simpa using hi
  rw[Qel bs b i (by rw[h.len];exact hi'),Wo rows r i hi',h.len];by_cases hlt:i<rows.length
  ·rw[if_pos hlt,if_pos hlt];have n1:nb bs i≠B:=fun e=>h.nB (e ▸ Ey (by rw[h.len];exact hlt));have n2:nb bs i≠b:=fun e=>hbb (e ▸ Ey (by rw[h.len];exact hlt));simp only[A6];rw[if_neg n1,if_neg n2];exact h.row i hlt
  ·rw[if_neg hlt,if_neg hlt];simp[hbB]
 ·rw[List.nodup_append];exact⟨h.nd,by simp,fun x hx y hy=>by simp at hy;subst hy;exact fun e=>hbb (e ▸ hx)⟩
 ·simp only[List.mem_append,List.mem_singleton,not_or];exact⟨h.nB,Ne.symm hbB⟩
 ·simp only[A6]at hc;by_cases h1:c=B
  ·simp[h1]
  ·rw[if_neg h1]at hc;by_cases h2:c=b
   ·simp[h2]
   ·rw[if_neg h2]at hc;have:=h.only c hc;simp at this ⊢;rcases this with h3 | h3
    ·exact absurd h3 h1
    ·exact .inr (.inl h3)
theorem Qhe.full {M:Ac} {B:Nat} {bs:List Nat} {rows:List (List RR)} (h:Qhe M B bs rows 0):D7 M B bs rows∧Db M (B::bs) :=
 ⟨⟨by rw[h.top];simp,h.len,h.row,h.nd,h.nB⟩,h.only⟩
def Qi3 (m:List (List RR)):Prop:=∀r∈m,∀x∈r,x.l1.length<2^40∧x.l2.length<2^40
theorem Qdm (m:List (List RR)) (hs:Qi3 m) (h1:m.length<2^40) (h2:∀r∈m,r.length<2^40):Ai Tryz.prog 100 [Ap m] Ac.emp fun v M=>∃B bs,v=.osl B 1 0 m.length∧D7 M B bs m∧Db M (B::bs):=by
 refine Ad Tryz.func100 rfl rfl 23 rfl (Nat.le_of_ble_eq_true rfl) ?_;(repeat refine AW.seq_k fun K hK=>?_);refine AW.rg ?_;simp[Al];try (refine hK _ rfl ?_;clear hK K)
 (repeat refine AW.seq_k fun K hK=>?_);refine AW.rg ?_;simp;try (refine hK _ rfl ?_;clear hK K)
 refine⟨by omega,Af.intro fun B _=>?_⟩;refine hK _ rfl ?_;clear hK K;refine AW.seq_ex (ι:=Ac × List Nat) (fun z=>[(3,.osl B 1 0 m.length)]) (fun z=>z.1) (fun z=>D7 z.1 B z.2 m∧Db z.1 (B::z.2)) ?_ ?_
 ·(repeat refine AW.seq_k fun K hK=>?_);refine AW.rg ?_;simp;try (refine hK _ rfl ?_;clear hK K)
  refine AW.block (AW.loopS (ι:=Nat × Ac × List Nat) (fun z=>[(0,Ap m),(3,.osl B 1 0 m.length),(9,.int .i64 (m.length:Nat)),(10,.int .i64 (z.1:Nat))]) (fun z=>z.2.1)
   (fun z=>z.1≤m.length∧Qhe z.2.1 B z.2.2 (m.take z.1) (m.length-z.1)) (fun z=>m.length-z.1) (0,Ac.emp.set B ⟨51,1,List.replicate m.length .nil⟩,[]) ⟨by simp,⟨by simp[Gb],rfl,fun i hi=>(by simp at hi),by simp,by simp,fun b hb=>by
    simp only[A6,Ax]at hb;by_cases h:b=B
    ·simp[h]
    ·simp[h]at hb⟩⟩ rfl (by simp) ?_)
  rintro⟨i,M,bs⟩ ⟨g1,g2⟩;simp only at g1 g2;(repeat refine AW.seq_k fun K hK=>?_);refine AW.rg ?_;simp;try (refine hK _ rfl ?_;clear hK K)
  refine AW.seq_k fun K hK=>?_;(repeat refine AW.seq ?_);refine AW.cs (fun hi=>?_) (fun hi=>?_) rfl<;>(try simp at hi)
  ·refine AW.skip ?_;try simp
   refine hK _ rfl ?_;clear hK K;have w1:=Au (i+1) (by omega);obtain⟨k,hk⟩:∃k,m.length-i=k+1:=⟨m.length-i-1,by omega⟩;rw[hk]at g2;have hmem:Aj m i∈m:=by rw[Ea hi];exact List.getElem_mem hi
   have ho:=Zk (Aj m i) (hs _ hmem) (h2 _ hmem);have htl:(m.take i).length=i:=by simp;omega
   have hlen:(Gb bs (m.take i)++List.replicate (k+1) AV.nil)[i]?=some .nil:=by
    rw[List.getElem?_append_right (by rw[B6 g2.len];omega),B6 g2.len,htl,Nat.sub_self];rfl
   (repeat refine AW.seq ?_);refine AW.block ?_;(repeat refine AW.seq_k fun K hK=>?_);refine AW.rg ?_;simp;try (refine hK _ rfl ?_;clear hK K)
   (repeat refine AW.seq_k fun K hK=>?_);refine AW.rg ?_;simp[hi];try (refine hK _ rfl ?_;clear hK K)
   refine Aa.make ho ?_;rintro b _ _ ⟨rfl,rfl⟩ hb _;have hbB:B≠b:=by rintro rfl;rw[g2.top]at hb;cases hb
   simp[hi,hbB,g2.top,hlen];have hst:=g2.step hb (Aj m i);rw[htl]at hst;(repeat refine AW.seq_k fun K hK=>?_);refine AW.rg ?_;simp[-Int.natCast_add,w1];try (refine hK _ rfl ?_;clear hK K)
   refine⟨i+1,_,⟨hi,bs++[b],?_⟩,by omega,rfl,rfl⟩;have e:m.take (i+1)=m.take i++[Aj m i]:=by rw[List.take_add_one,List.getElem?_eq_getElem hi,Ea hi];rfl
   rw[e,show m.length-(i+1)=k by omega];exact hst
  ·refine AW.exit ?_;try simp
   have:i=m.length:=by omega
   subst this;rw[Nat.sub_self,List.take_length]at g2;exact⟨bs,g2.full⟩
 rintro⟨M,bs⟩ ⟨g1,g2⟩;simp only at g1 g2;(repeat refine AW.seq_k fun K hK=>?_);refine AW.rg ?_;simp;try (refine hK _ rfl ?_;clear hK K)
 refine AW.ret (Bo rfl ?_ ⟨B,bs,rfl,g1,g2⟩);exact g1.ones (l:=[]) g2 (by simp)
end Go.Av
end
section
namespace Go.Av
open Go.Proofs
def A3 {α:Type} (f:Nat→α→Option α):Nat→α→Option α
 |0,s=>some s
 |n+1,s=>(A3 f n s).bind (f n)
theorem Cq {α:Type} (f:Nat→α→Option α) (n:Nat) (s:α):A3 f (n+1) s=(A3 f n s).bind (f n):=rfl
theorem Su {α:Type} {f:Nat→α→Option α} {n:Nat} {s:α} (h:A3 f n s=none):∀k,A3 f (n+k) s=none
 |0=>h
 |k+1=>by rw[←Nat.add_assoc,Cq,Su h k];rfl
theorem Hb {α:Type} {f:Nat→α→Option α} {n m:Nat} {s:α} (h:A3 f n s=none) (hm:n≤m):A3 f m s=none:=by
 have:=Su h (m-n)
 rwa [Nat.add_sub_cancel' hm]at this
def Cd (r:List Rat) (i:Nat):Rat:=r.getD i 0
def B4 (M:List (List Rat)) (i j:Nat):Rat:=Cd (Aj M i) j
def Be (M:List (List Rat)):List (List RR):=M.map fun r=>r.map Aq
def Ee (M:List (List Rat)):Prop:=∀r∈M,∀q∈r,Bu q
def Ck {α:Type} (l:List (List α)) (i j:Nat):List (List α):=(l.set i (Aj l j)).set j (Aj l i)
def Ge (op:Rat→Nat→Option Rat) (k:Nat) (row:List Rat):Option (List Rat):=(op (Cd row k) k).map (row.set k)
def B9 (d:Rat):Nat→List Rat→Option (List Rat):=Ge fun q _=>Fu q d
def Iw (a f b:Rat):Option Rat:=(D4 b f).bind (C2 a)
def Dy (by_:List Rat) (f:Rat):Nat→List Rat→Option (List Rat):=Ge fun q k=>Iw q f (Cd by_ k)
def Bi (r j i:Nat) (M:List (List Rat)):Option (List (List Rat)) :=
 if i=r∨B4 M i j=0 then some M else (A3 (Dy (Aj M r) (B4 M i j)) (Aj M i).length (Aj M i)).map (M.set i)
def Ff (M:List (List Rat)) (j r:Nat):Option (List (List Rat)) :=
 (A3 (B9 (B4 M r j)) (Aj M r).length (Aj M r)).bind fun row=>A3 (Bi r j) M.length (M.set r row)
def Ta (M:List (List Rat)) (j r:Nat):Option Nat:=(List.range M.length).find? fun i=>decide (r≤i)&&!decide (B4 M i j=0)
def Ca (j:Nat) (z:List (List Rat) × List Nat):Option (List (List Rat) × List Nat) :=
 match Ta z.1 j z.2.length with
 |none=>some z
 |some i=>(Ff (Ck z.1 i z.2.length) j z.2.length).map fun M=>(M,z.2++[j])
def Er (M:List (List Rat)):Option (List (List Rat) × List Nat):=A3 Ca (Aj M 0).length (M,[])
/-! ### The numbers in memory -/
theorem A1 (M:List (List Rat)):(Be M).length=M.length:=by simp[Be]
theorem Bq (M:List (List Rat)) (i:Nat):Aj (Be M) i=(Aj M i).map Aq:=by
 unfold Aj Be;rw[List.getD_eq_getElem?_getD,List.getD_eq_getElem?_getD,List.getElem?_map];cases M[i]?<;>rfl
theorem Ev {r:List Rat} {i:Nat} (h:i<r.length):rr (r.map Aq) i=Aq (Cd r i):=by
 unfold rr Cd;rw[List.getD_eq_getElem?_getD,List.getD_eq_getElem?_getD,List.getElem?_map,List.getElem?_eq_getElem h];rfl
theorem Oz (M:List (List Rat)) (i:Nat) (r:List Rat):Be (M.set i r)=(Be M).set i (r.map Aq):=by simp[Be,List.map_set]
theorem Qbf (M:List (List Rat)) (i j:Nat):Be (Ck M i j)=Ck (Be M) i j:=by
 unfold Ck;rw[Oz,Oz,Bq,Bq]
theorem Ee.at {M:List (List Rat)} (h:Ee M) {i j:Nat} (hj:j<(Aj M i).length):Bu (B4 M i j):=by
 unfold B4 Cd;have hi:i<M.length:=by
  rcases Nat.lt_or_ge i M.length with h|h
  ·exact h
  ·unfold Aj at hj;rw[List.getD_eq_getElem?_getD,List.getElem?_eq_none h]at hj;simp at hj
 rw[List.getD_eq_getElem?_getD,List.getElem?_eq_getElem hj];refine h (Aj M i) ?_ _ (List.getElem_mem hj);rw[Ea hi];exact List.getElem_mem hi
theorem Ee.set {M:List (List Rat)} (h:Ee M) (i:Nat) {r:List Rat} (hr:∀q∈r,Bu q):Ee (M.set i r):=by
 intro x hx q hq;rcases List.mem_or_eq_of_mem_set hx with h1 | rfl
 ·exact h x h1 q hq
 ·exact hr q hq
theorem Ee.row {M:List (List Rat)} (h:Ee M) (i:Nat):∀q∈Aj M i,Bu q:=by
 intro q hq;unfold Aj at hq;rw[List.getD_eq_getElem?_getD]at hq;cases hm:M[i]? with
 |none=>rw[hm]at hq;cases hq
 |some r=>rw[hm]at hq;exact h r (List.mem_of_getElem? hm) q hq
theorem Jj {r:List Rat} (h:∀q∈r,Bu q) (k:Nat) {x:Rat} (hx:Bu x):∀q∈r.set k x,Bu q:=by
 intro q hq;rcases List.mem_or_eq_of_mem_set hq with h1 | rfl
 ·exact h q h1
 ·exact hx
theorem Ee.swap {M:List (List Rat)} (h:Ee M) (i j:Nat):Ee (Ck M i j):=(h.set i (h.row j)).set j (h.row i)
def J5 {α:Type} (M:List (List α)) (w:Nat):Prop:=∀i,i<M.length→(Aj M i).length=w
theorem J5.set {α:Type} {M:List (List α)} {w:Nat} (h:J5 M w) {i:Nat} {r:List α} (hr:r.length=w):J5 (M.set i r) w:=by
 intro k hk;have hk':k<M.length:=by simpa using hk
 by_cases hi:i<M.length
 ·rw[Fj hi];split
  ·exact hr
  ·exact h k hk'
 ·rw[List.set_eq_of_length_le (by omega)];exact h k hk'
theorem J5.swap {α:Type} {M:List (List α)} {w:Nat} (h:J5 M w) {i j:Nat} (hi:i<M.length) (hj:j<M.length):J5 (Ck M i j) w:=(h.set (h j hj)).set (h i hi)
theorem Kk {α:Type} (M:List (List α)) (i j:Nat):(Ck M i j).length=M.length:=by simp[Ck]
theorem X5 {M:List (List Rat)} {w:Nat} (h:J5 M w):J5 (Be M) w:=by
 intro i hi;rw[Bq,List.length_map];exact h i (by simpa[Be]using hi)
theorem Jc (M:List (List Rat)):Sf (Be M):=by
 intro r hr x hx;obtain⟨s,_,rfl⟩:=List.mem_map.1 hr;obtain⟨q,_,rfl⟩:=List.mem_map.1 hx;exact D9 q
theorem Sf.set {M:List (List RR)} (h:Sf M) (i:Nat) {r:List RR} (hr:∀x∈r,x.Lb):Sf (M.set i r):=by
 intro x hx q hq;rcases List.mem_or_eq_of_mem_set hx with h1 | rfl
 ·exact h x h1 q hq
 ·exact hr q hq
theorem Qsl {r:List RR} (h:∀x∈r,x.Lb) (k:Nat) {y:RR} (hy:y.Lb):∀x∈r.set k y,x.Lb:=by
 intro x hx;rcases List.mem_or_eq_of_mem_set hx with h1 | rfl
 ·exact h x h1
 ·exact hy
theorem Sf.swap {M:List (List RR)} (h:Sf M) (i j:Nat):Sf (Ck M i j):=(h.set i (h.row j)).set j (h.row i)
def U2 (e:Int) (rows:List (List RR)) (X:Option (List (List Rat))):Prop :=
 match X with
 |some M=>e=0∧rows=Be M∧Ee M
 |none=>e=2
theorem Qjb {op:Rat→Nat→Option Rat} (hop:∀q k x,op q k=some x→Bu x) {X:Option (List (List Rat))} {n w r k:Nat} {e e':Int} {rows:List (List RR)} {y:RR} (hn:rows.length=n) (hr:r<n) (hd:J5 rows w) (hk:k<w)
  {Z:Option (List (List Rat) × List Rat)} (hZ:X=Z.map fun z=>z.1.set r z.2) (hM:U2 e rows X) (h1:e≠0→e'=e) (h2:e=0→match op (rr (Aj rows r) k).q k with | some z=>e'=0∧y=Aq z | none=>e'=2) :
  U2 e' (rows.set r ((Aj rows r).set k y)) (Z.bind fun z=>(Ge op k z.2).map fun row=>z.1.set r row):=by
 cases Z with
 |none =>
  subst hZ;have:e=2:=hM;exact(h1 (by omega)).trans this
 |some z =>
  subst hZ;obtain⟨M,row⟩:=z;obtain⟨m1,m2,m3⟩:e=0∧rows=Be (M.set r row)∧Ee (M.set r row):=hM;have hMl:M.length=n:=by rw[m2]at hn;simpa[Be]using hn
  have hrow:Aj rows r=row.map Aq:=by rw[m2,Bq,Fj (by omega),if_pos rfl]
  have hkr:k<row.length:=by
   have:=hd r (by omega);rw[hrow,List.length_map]at this;omega
  have hq:(rr (Aj rows r) k).q=Cd row k:=by rw[hrow,Ev hkr,Hk]
  have h2:=h2 m1;rw[hq]at h2;show U2 e' _ ((Ge op k row).map fun row=>M.set r row)
  unfold Ge;cases ho:op (Cd row k) k with
  |none=>rw[ho]at h2;exact h2
  |some z =>
   rw[ho]at h2;obtain⟨e1,e2⟩:=h2;refine⟨e1,?_,?_⟩
   ·rw[e2,hrow,m2,Oz,Oz,List.set_set,List.map_set]
   ·have:=m3.set r (r:=row.set k z) (Jj (by have:=m3.row r;rwa [Fj (by omega),if_pos rfl]at this) k (hop _ _ _ ho))
    rwa [List.set_set]at this
theorem Ia {q:Rat}:Y4 q=0↔q=0:=by
 unfold Y4;constructor
 ·intro h;split at h
  ·cases h
  ·split at h
   ·rename_i h2;exact Rat.num_eq_zero.1 h2
   ·cases h
 ·rintro rfl;rfl
def Yy (rows:List (List RR)) (j r:Nat):Option Nat:=(List.range rows.length).find? fun i=>decide (r≤i)&&!decide (Dj (rr (Aj rows i) j)=0)
theorem Sn {α:Type} {p q:α→Bool}:∀{l:List α},(∀x∈l,p x=q x)→l.find? p=l.find? q
 |[],_=>rfl
 |a::l,h=>by
  rw[List.find?_cons,List.find?_cons,h a (by simp),Sn fun x hx=>h x (by simp[hx])]
theorem Qan {M:List (List Rat)} (hg:Ee M) {w j:Nat} (hd:J5 M w) (hj:j<w) (r:Nat):Yy (Be M) j r=Ta M j r:=by
 unfold Yy Ta;rw[A1];refine Sn ?_;intro i hi;have hi':i<M.length:=List.mem_range.1 hi;have hl:j<(Aj M i).length:=by rw[hd i hi'];exact hj
 rw[Bq,Ev hl,show Cd (Aj M i) j=B4 M i j from rfl,Ma (hg.at hl)]
 congr 2
 simp only[Ia]
theorem Qc4 {n:Nat} {p:Nat→Bool} {i:Nat} (h:(List.range n).find? p=some i):i<n∧p i=true∧∀k,k<i→p k=false:=by
 rw[List.find?_range_eq_some]at h;exact⟨List.mem_range.1 h.2.1,h.1,fun k hk=>by simpa using h.2.2 k hk⟩
end Go.Av
end
section
namespace Go.Av
open Go.Proofs
section
variable {P:Program} {av:Nat→Prop} {f:FuncId} {args:List AV} {m:Ac} {k:AV→Ac→Prop}
def Ac.only (m:Ac) (l:List Nat):Ac:=fun b=>if b∈l then m b else none
def Ac.back (m:Ac) (l:List Nat) (g:Ac):Ac:=fun b=>match g b with
 |some x=>some x
 |none=>if b∈l then none else m b
theorem Bx {l:List Nat} {b:Nat} (h:b∈l):m.only l b=m b:=if_pos h
theorem Bv {l:List Nat} {b:Nat} (h:b ∉ l):m.only l b=none:=if_neg h
theorem Jp {l:List Nat} {g:Ac} {b:Nat} {x:Ex} (h:g b=some x):m.back l g b=some x:=by unfold Ac.back;rw[h]
theorem F7 {l:List Nat} {g:Ac} {b:Nat} (h:g b=none) (hb:b ∉ l):m.back l g b=m b:=by unfold Ac.back;rw[h];exact if_neg hb
theorem Qep {l:List Nat} {g:Ac} {b:Nat} (hb:b∈l):m.back l g b=g b:=by
 unfold Ac.back;cases h:g b with
 |none=>exact if_pos hb
 |some x=>rfl
theorem Aa.hand {R:AV→Ac→Prop} (l:List Nat) (hl:∀b∈l,¬av b) (h:Ai P f args (m.only l) R) (hk:∀v g,R v g→(∀b,g b≠none→b∈l∨(m b=none∧¬av b))→k v (m.back l g)):Aa P av f args m k:=by
 refine .inl ⟨m.only l,R,fun c y hy=>?_,h,?_⟩
 ·by_cases hc:c∈l
  ·rw[Bx hc]at hy;exact⟨hy,hl c hc⟩
  ·rw[Bv hc]at hy;cases hy
 ·intro v g hr hf;have e:Eu m (m.only l) g=m.back l g:=by
   funext c
   unfold Eu Ac.back;cases g c with
   |some x=>rfl
   |none =>
    by_cases hc:c∈l
    ·rw[Bx hc,if_pos hc];cases hm:m c<;>rfl
    ·rw[Bv hc,if_neg hc]
  rw[e];refine hk v g hr fun b hb=>?_;rcases hf b hb with h1 | h1
  ·by_cases hc:b∈l
   ·exact .inl hc
   ·exact absurd (Bv hc) h1
  ·exact .inr h1
end
theorem D7.only {M:Ac} {B:Nat} {bs:List Nat} {rows:List (List RR)} (h:D7 M B bs rows) {l:List Nat} (hl:∀b,b=B∨b∈bs→b∈l):D7 (M.only l) B bs rows :=
 ⟨by rw[Bx (hl B (.inl rfl))];exact h.top,h.len,fun i hi=>by rw[Bx (hl _ (.inr (Ey (by rw[h.len];exact hi))))];exact h.row i hi,h.nd,h.nB⟩
theorem Tq (M:Ac) (l:List Nat):Db (M.only l) l:=by
 intro b hb;rcases Classical.em (b∈l)with h | h
 ·exact h
 ·exact absurd (Bv h) hb
theorem D7.back {M g:Ac} {B:Nat} {bs:List Nat} {rows:List (List RR)} (h:D7 g B bs rows) (l:List Nat):D7 (M.back l g) B bs rows :=
 ⟨Jp h.top,h.len,fun i hi=>Jp (h.row i hi),h.nd,h.nB⟩
theorem Qge {M:Ac} {l:List Nat} (h:Db M l):M.only l=M:=by
 funext b
 by_cases hb:b∈l
 ·exact Bx hb
 ·rw[Bv hb,h.none hb]
def Fl (bs:List Nat) (i r:Nat):List Nat:=(bs.set i (nb bs r)).set r (nb bs i)
theorem Qj5 {bs:List Nat} {i:Nat} (hi:i<bs.length) (b k:Nat):nb (bs.set i b) k=if k=i then b else nb bs k:=by
 unfold nb;rw[List.getD_eq_getElem?_getD,List.getElem?_set];by_cases h:i=k
 ·subst h;simp[hi]
 ·rw[if_neg h,if_neg (Ne.symm h),←List.getD_eq_getElem?_getD]
theorem I2 {bs:List Nat} {i r:Nat} (hi:i<bs.length) (hr:r<bs.length) (k:Nat):nb (Fl bs i r) k=if k=r then nb bs i else if k=i then nb bs r else nb bs k:=by
 unfold Fl;rw[Qj5 (by simpa using hr),Qj5 hi]
theorem H3 {α:Type} {rows:List (List α)} {i r:Nat} (hi:i<rows.length) (hr:r<rows.length) (k:Nat):Aj (Ck rows i r) k=if k=r then Aj rows i else if k=i then Aj rows r else Aj rows k:=by
 unfold Ck;rw[Fj (by simpa using hr),Fj hi]
theorem L9 {bs:List Nat} {i r:Nat} (hi:i<bs.length) (hr:r<bs.length) (b:Nat):b∈Fl bs i r↔b∈bs:=by
 have hl:(Fl bs i r).length=bs.length:=by simp[Fl]
 constructor
 ·intro h;obtain⟨k,hk,e⟩:=List.mem_iff_getElem.1 h;rw[←e,←H4 hk,I2 hi hr];rw[hl]at hk;split
  ·exact Ey hi
  ·split
   ·exact Ey hr
   ·exact Ey hk
 ·intro h;obtain⟨k,hk,e⟩:=List.mem_iff_getElem.1 h;rw[←e,←H4 hk];have key:∀k',k'<bs.length→nb (Fl bs i r) k'∈Fl bs i r:=fun k' h'=>Ey (by rw[hl];exact h');by_cases h1:k=i
  ·have:=key r hr;rw[I2 hi hr,if_pos rfl]at this;rw[h1];exact this
  ·by_cases h2:k=r
   ·have:=key i hi;rw[I2 hi hr]at this;rw[h2];by_cases h3:i=r
    ·rw[if_pos h3]at this;rw[←h3];rw[←h3]at this;exact this
    ·rw[if_neg h3,if_pos rfl]at this;exact this
   ·have:=key k hk
    rwa [I2 hi hr,if_neg h2,if_neg h1]at this
theorem Qiq {bs:List Nat} {i r:Nat} (hi:i<bs.length) (hr:r<bs.length) (h:bs.Nodup):(Fl bs i r).Nodup:=by
 have hl:(Fl bs i r).length=bs.length:=by simp[Fl]
 unfold List.Nodup;rw[List.pairwise_iff_getElem];intro x y hx hy hxy;rw[←H4 hx,←H4 hy,I2 hi hr,I2 hi hr];rw[hl]at hy hx;intro e;have inj:∀{a b},a<bs.length→b<bs.length→nb bs a=nb bs b→a=b:=fun ha hb=>Qdh h ha hb;split at e<;>split at e<;>(try split at e)<;>(try split at e)<;>have:=inj (by omega) (by omega) e<;>omega
theorem Qhc {bs:List Nat} {rows:List (List RR)} (h:bs.length=rows.length) {i r:Nat} (hi:i<rows.length) (hr:r<rows.length) :
  ((Gb bs rows).set i (.osl (nb bs r) 4 0 (Aj rows r).length)).set r (.osl (nb bs i) 4 0 (Aj rows i).length)=Gb (Fl bs i r) (Ck rows i r):=by
 have hl:(Fl bs i r).length=(Ck rows i r).length:=by simp[Fl,Ck,h]
 have h0:(Ck rows i r).length=rows.length:=Kk _ _ _;refine List.ext_getElem? fun k=>?_;by_cases hk:k<rows.length
 ·rw[hdrs_get? hl (by rw[h0];exact hk),I2 (by omega) (by omega),H3 hi hr,List.getElem?_set,List.getElem?_set,hdrs_get? h hk];have e:=B6 h;simp only[List.length_set,e,hi,hr,if_true];by_cases h1:r=k
  ·subst h1;simp
  ·rw[if_neg h1,if_neg (Ne.symm h1),if_neg (Ne.symm h1)];by_cases h2:i=k
   ·subst h2;simp
   ·rw[if_neg h2,if_neg (Ne.symm h2),if_neg (Ne.symm h2)]
 ·rw[List.getElem?_eq_none (by simp[B6 h];omega),List.getElem?_eq_none (by rw[B6 hl,h0];omega)]
theorem D7.swap {M:Ac} {B:Nat} {bs:List Nat} {rows:List (List RR)} (h:D7 M B bs rows) {i r:Nat} (hi:i<rows.length) (hr:r<rows.length) :
  D7 (M.set B ⟨51,1,((Gb bs rows).set i (.osl (nb bs r) 4 0 (Aj rows r).length)).set r (.osl (nb bs i) 4 0 (Aj rows i).length)⟩) B (Fl bs i r) (Ck rows i r):=by
 have h0:(Ck rows i r).length=rows.length:=Kk _ _ _;have hi':i<bs.length:=by rw[h.len];exact hi
 have hr':r<bs.length:=by rw[h.len];exact hr
 refine⟨by rw[Qhc h.len hi hr];simp,by rw[h0,←h.len];simp[Fl],fun k hk=>?_,Qiq hi' hr' h.nd,fun hm=>h.nB ((L9 hi' hr' B).1 hm)⟩;rw[h0]at hk;rw[I2 hi' hr',H3 hi hr];have key:∀k,k<rows.length→(M.set B ⟨51,1,((Gb bs rows).set i (.osl (nb bs r) 4 0 (Aj rows r).length)).set r (.osl (nb bs i) 4 0 (Aj rows i).length)⟩) (nb bs k)=some ⟨44,4,Bg (Aj rows k)⟩:=fun k hk=>by
  simp only[A6];rw[if_neg (h.ne hk)];exact h.row k hk
 split
 ·exact key i hi
 ·split
  ·exact key r hr
  ·exact key k hk
attribute [simp high] rrs_get?
theorem Db.set {M:Ac} {l:List Nat} (h:Db M l) {b:Nat} (hb:b∈l) (x:Ex):Db (M.set b x) l:=by
 intro c hc;simp only[A6]at hc;by_cases e:c=b
 ·rw[e];exact hb
 ·rw[if_neg e]at hc;exact h c hc
theorem Db.sub {M:Ac} {l l':List Nat} (h:Db M l) (hs:∀b∈l,b∈l'):Db M l':=fun c hc=>hs c (h c hc)
theorem Vp {rows:List (List RR)} {j r:Nat} (h:∀k,r≤k→k<rows.length→Dj (rr (Aj rows k) j)=0):Yy rows j r=none:=by
 unfold Yy;rw[List.find?_eq_none];intro k hk;have hk:=List.mem_range.1 hk;by_cases hr:r≤k
 ·simp[h k hr hk]
 ·simp[hr]
theorem Vo {rows:List (List RR)} {j r i:Nat} (h:∀k,r≤k→k<i→Dj (rr (Aj rows k) j)=0) (hr:r≤i) (hi:i<rows.length) (hs:¬Dj (rr (Aj rows i) j)=0):Yy rows j r=some i:=by
 unfold Yy;rw[List.find?_range_eq_some];refine⟨by simp[hr,hs],List.mem_range.2 hi,fun k hk=>?_⟩;by_cases hrk:r≤k
 ·simp[h k hrk hk]
 ·simp[hrk]
def Yb (M:Ac) (B:Nat) (bs:List Nat) (rows:List (List RR)) (j r:Nat) (v:AV) (M':Ac):Prop :=
 match Yy rows j r with
 |none=>v=.tup [.bool false,.bool false]∧M'=M
 |some i=>v=.tup [.bool true,.bool (decide (i≠r))]∧D7 M' B (Fl bs i r) (Ck rows i r)∧Db M' (B::bs)
theorem Qcc (M:Ac) (B:Nat) (bs:List Nat) (rows:List (List RR)) (hM:D7 M B bs rows) (hO:Db M (B::bs)) (hlb:Sf rows) (w j r:Nat) (hd:J5 rows w) (hj:j<w) (h1:rows.length<2^40) (h2:w<2^40) (h3:r<2^40) :
  Ai Tryz.prog 144 [.osl B 1 0 rows.length,.int .i64 j,.int .i64 r] M (Yb M B bs rows j r):=by
 have hones:=hM.ones (l:=[]) hO (by simp);refine Ad Tryz.func144 rfl rfl 42 rfl (Nat.le_of_ble_eq_true rfl) ?_;(repeat refine AW.seq_k fun K hK=>?_);refine AW.rg ?_;simp[Al];try (refine hK _ rfl ?_;clear hK K)
 refine AW.scope (AW.seq (AW.label ?_));intro _;refine AW.seq_ex (ι:=Unit) (fun _=>[]) (fun _=>M) (fun _=>∀k,r≤k→k<rows.length→Dj (rr (Aj rows k) j)=0) ?_ ?_
 ·(repeat refine AW.seq_k fun K hK=>?_);refine AW.rg ?_;simp;try (refine hK _ rfl ?_;clear hK K)
  refine AW.block (AW.loopS (ι:=Nat) (fun i=>[(0,.osl B 1 0 rows.length),(1,.int .i64 j),(2,.int .i64 r),(8,.int .i64 (i:Nat))]) (fun _=>M) (fun i=>r≤i∧∀k,r≤k→k<i→Dj (rr (Aj rows k) j)=0) (fun i=>rows.length-i) r ⟨by omega,by omega⟩ rfl (by simp) ?_);rintro i ⟨g1,g2⟩;(repeat refine AW.seq_k fun K hK=>?_);refine AW.rg ?_;simp;try (refine hK _ rfl ?_;clear hK K)
  (repeat refine AW.seq ?_);refine AW.cs (fun hi=>?_) (fun hi=>?_) rfl<;>(try simp at hi)
  ·refine AW.skip ?_;try simp
   refine hK _ rfl ?_;clear hK K;have w1:=Au (i+1) (by omega);have hri:r<rows.length:=by omega
   have hwi:=hd i hi;refine AW.seq_ex (ι:=Unit) (fun _=>[(0,.osl B 1 0 rows.length),(1,.int .i64 j),(2,.int .i64 r),(8,.int .i64 (i:Nat))]) (fun _=>M) (fun _=>Dj (rr (Aj rows i) j)=0) ?_ ?_
   ·(repeat refine AW.seq ?_);refine AW.block ?_;have hs:=Nx (rr (Aj rows i) j) (Jx (hlb.row i) j);refine AW.seq_ex (ι:=Unit) (fun _=>[(0,.osl B 1 0 rows.length),(1,.int .i64 j),(2,.int .i64 r),(8,.int .i64 (i:Nat))]) (fun _=>M) (fun _=>¬Dj (rr (Aj rows i) j)=0) ?_ ?_
    ·(repeat refine AW.seq_k fun K hK=>?_);refine AW.rg ?_;simp[hi,hM.top,↓hM.get hi,hM.row i hi,hwi,hj];try (refine hK _ rfl ?_;clear hK K)
     refine Aa.val hs ?_;simp;refine hK _ rfl ?_;clear hK K;(repeat refine AW.seq ?_);refine AW.cs (fun h0=>?_) (fun h0=>?_) rfl<;>(try simp at h0)
     ·refine AW.exit ?_;try simp
      exact h0
     ·refine AW.skip ?_;try simp
      exact h0
    rintro _ h0;(repeat refine AW.seq_k fun K hK=>?_);refine AW.rdA B [0,1,2,3,4,5,6,7,8,9,10,11,12,13,14,15] C6 (by simp[hi,hri,hM.top,↓hM.get hi,↓hM.get hri,B6 hM.len]) ?_;simp[hi,hri,hM.top,↓hM.get hi,↓hM.get hri,B6 hM.len];try (refine hK _ rfl ?_;clear hK K)
    (repeat refine AW.seq_k fun K hK=>?_);refine AW.rg ?_;simp;try (refine hK _ rfl ?_;clear hK K)
    have hO':Db (M.set B ⟨51,1,((Gb bs rows).set i (.osl (nb bs r) 4 0 (Aj rows r).length)).set r (.osl (nb bs i) 4 0 (Aj rows i).length)⟩) (B::bs):=hO.set (by simp) _;have hb:∀b,b∈B::Fl bs i r↔b∈B::bs:=fun b=>by simp[L9 (bs:=bs) (i:=i) (r:=r) (by rw[hM.len];exact hi) (by rw[hM.len];exact hri) b]
    refine AW.ret (Bo rfl ?_ ?_)
    ·exact(hM.swap hi hri).ones (l:=[]) (hO'.sub fun b h=>(hb b).2 h) (by simp)
    ·unfold Yb;rw[Vo g2 g1 hi h0];refine⟨?_,hM.swap hi hri,hO'⟩;by_cases e:i=r
     ·simp[e]
     ·simp[e]
   ·rintro _ h0;(repeat refine AW.seq_k fun K hK=>?_);refine AW.rg ?_;simp[-Int.natCast_add,w1];try (refine hK _ rfl ?_;clear hK K)
    refine⟨⟨by omega,fun k hk1 hk2=>?_⟩,by omega⟩;rcases Nat.lt_succ_iff_lt_or_eq.1 hk2 with h | rfl
    ·exact g2 k hk1 h
    ·exact h0
  ·refine AW.exit ?_;try simp
   exact fun k a b=>g2 k a (by omega)
 rintro _ hno;(repeat refine AW.seq_k fun K hK=>?_);refine AW.rg ?_;simp;try (refine hK _ rfl ?_;clear hK K)
 refine AW.ret (Bo rfl hones ?_);unfold Yb;rw[Vp hno];exact⟨rfl,rfl⟩
end Go.Av
end
section
namespace Go.Av
open Go.Proofs
theorem Ba.sub {m m':Ac} (h:∀b x,m' b=some x→m b=some x∧∀v∈x.l,v.cells.all AV.one=true):Ba m m':=by
 refine⟨fun c y hy=>⟨y,(h c y hy).1,rfl,rfl,rfl,fun k v v' q1 q2=>?_⟩⟩;rw[q1]at q2;cases q2;exact⟨.same _,(h c y hy).2 v (List.mem_of_getElem? q1)⟩
theorem Ba.drop {m:Ac} {b:Nat} {x:Ex} (hb:m b=none) (h1:∀c y,m c=some y→∀v∈y.l,v.cells.all AV.one=true):Ba (m.set b x) m :=
 Ba.sub fun c y hy=>⟨by
  simp only[A6];rw[if_neg (by rintro rfl;rw[hb]at hy;cases hy)];exact hy,h1 c y hy⟩
theorem Dd {M:Ac} {b z:Nat} {e:TypeId} {cs:List AV} (hb:M b=none):Br (M.set b ⟨e,z,[.agg cs]⟩) M (.ptr b z 0 0) (.rptr cs) :=
 Br.ptr b z 0 0 ⟨e,z,[.agg cs]⟩ (.agg cs) (Ac.set_same _ _ _) hb rfl rfl
section
variable {av:Nat→Prop} {m:Ac} {k:AV→Ac→Prop} {c:Nat} {x:AV} {e:Int} {a b:RR}
theorem Qke (hc:m c=some ⟨118,1,[x]⟩) (hv:¬av c) (hx:G0 x e) (ha:a.Lb) (hb:b.Lb) (h:e=0→a.ok=true∧b.ok=true) (hk:∀x',G0 x' (Dl e a (C2 a.q b.q)).1→k (Dl e a (C2 a.q b.q)).2.av (m.set c ⟨118,1,[x']⟩)):Aa Tryz.prog av 146 [.ptr c 1 0 0,a.av,b.av] m k :=
 Aa.grant (R:=fun v y=>v=(Dl e a (C2 a.q b.q)).2.av∧∃x',G0 x' (Dl e a (C2 a.q b.q)).1∧y=⟨118,1,[x']⟩) c _ hc hv ((Qhb c x e hx a b ha hb h).mono fun v m ⟨h1,x',h2,h3⟩=>⟨_,⟨h1,x',h2,rfl⟩,h3⟩) (by rintro _ _ ⟨rfl,x',hx',rfl⟩;exact hk x' hx')
theorem Qst (hc:m c=some ⟨118,1,[x]⟩) (hv:¬av c) (hx:G0 x e) (ha:a.Lb) (hb:b.Lb) (h:e=0→a.ok=true∧b.ok=true) (hk:∀x',G0 x' (Dl e a (D4 a.q b.q)).1→k (Dl e a (D4 a.q b.q)).2.av (m.set c ⟨118,1,[x']⟩)):Aa Tryz.prog av 111 [.ptr c 1 0 0,a.av,b.av] m k :=
 Aa.grant (R:=fun v y=>v=(Dl e a (D4 a.q b.q)).2.av∧∃x',G0 x' (Dl e a (D4 a.q b.q)).1∧y=⟨118,1,[x']⟩) c _ hc hv ((Qf7 c x e hx a b ha hb h).mono fun v m ⟨h1,x',h2,h3⟩=>⟨_,⟨h1,x',h2,rfl⟩,h3⟩) (by rintro _ _ ⟨rfl,x',hx',rfl⟩;exact hk x' hx')
theorem Qq7 (hc:m c=some ⟨118,1,[x]⟩) (hv:¬av c) (hx:G0 x e) (ha:a.Lb) (hb:b.Lb) (h:e=0→a.ok=true∧b.ok=true∧b.q≠0) (hk:∀x',G0 x' (Dl e a (Fu a.q b.q)).1→k (Dl e a (Fu a.q b.q)).2.av (m.set c ⟨118,1,[x']⟩)):Aa Tryz.prog av 145 [.ptr c 1 0 0,a.av,b.av] m k :=
 Aa.grant (R:=fun v y=>v=(Dl e a (Fu a.q b.q)).2.av∧∃x',G0 x' (Dl e a (Fu a.q b.q)).1∧y=⟨118,1,[x']⟩) c _ hc hv ((Qgs c x e hx a b ha hb h).mono fun v m ⟨h1,x',h2,h3⟩=>⟨_,⟨h1,x',h2,rfl⟩,h3⟩) (by rintro _ _ ⟨rfl,x',hx',rfl⟩;exact hk x' hx')
end
theorem Xh {e:Int} {rows:List (List RR)} {Z:Option (List (List Rat))} (h:U2 e rows Z) (he:e=0) {i j:Nat} (hj:j<(Aj rows i).length):(rr (Aj rows i) j).ok=true:=by
 cases Z with
 |none=>have:e=2:=h;omega
 |some M =>
  obtain⟨_,m2,m3⟩:e=0∧rows=Be M∧Ee M:=h;subst m2;rw[Bq,List.length_map]at hj;rw[Bq,Ev hj];exact Dp (m3.at hj)
theorem Mh {e:Int} {a:RR} {q:Option Rat} (h:e≠0):Dl e a q=(e,a):=if_neg h
theorem Qeq {e:Int} {a:RR} {q:Option Rat} (h:e=0):match q with | some z=>(Dl e a q).1=0∧(Dl e a q).2=Aq z | none=>(Dl e a q).1=2:=by
 unfold Dl;rw[if_pos h];cases q with
 |none=>rfl
 |some z=>exact⟨rfl,rfl⟩
theorem Pq {e:Int} {a:RR} (h:e=0):Dl e a none=(2,Vc):=if_pos h
theorem Mn {e:Int} {a:RR} {z:Rat} (h:e=0):Dl e a (some z)=(0,Aq z):=if_pos h
def Aw (l:List Nat):List AV:=l.map fun p=>.int .i64 (p:Nat)
@[simp] theorem Ls (l:List Nat):(Aw l).length=l.length:=by simp[Aw]
theorem Cw (l:List Nat):∀v∈Aw l,v.cells.all AV.one=true:=by
 intro v hv;obtain⟨p,_,rfl⟩:=List.mem_map.1 hv;rfl
theorem Ek (l:List Nat) (p:Nat):Aw (l++[p])=Aw l++[.int .i64 (p:Nat)]:=by simp[Aw]
def Ye (M:Ac) (pv:AV) (pb ps:List Nat):Prop :=
 (ps=[]∧pb=[]∧pv=.nil)∨∃b,pb=[b]∧pv=.osl b 1 0 ps.length∧M b=some ⟨3,1,Aw ps⟩
theorem Ye.keep {M M':Ac} {pv:AV} {pb ps:List Nat} (h:Ye M pv pb ps) (hm:∀b∈pb,M' b=M b):Ye M' pv pb ps:=by
 rcases h with h|⟨b,h1,h2,h3⟩
 ·exact .inl h
 ·exact .inr ⟨b,h1,h2,by rw[hm b (by simp[h1])];exact h3⟩
theorem Ye.len {M:Ac} {pv:AV} {pb ps:List Nat} (h:Ye M pv pb ps) (size bytes:Nat) (e:TypeId) (zero:AV) (fs:List (Nat × Nat × Option Bool)):Kq ⟨size,bytes,.slice e,zero,fs⟩ pv=some (.int .i64 ps.length):=by
 rcases h with⟨rfl,_,rfl⟩|⟨b,_,rfl,_⟩
 ·simp
 ·simp
theorem Ye.view {M:Ac} {pv:AV} {pb ps:List Nat} (h:Ye M pv pb ps):Br M Ac.emp pv (.sl 1 (Aw ps)):=by
 rcases h with⟨rfl,_,rfl⟩|⟨b,_,rfl,h⟩
 ·exact .nilsl 1
 ·refine .osl b 1 0 ps.length _ _ h rfl rfl (by simp) (by simp) fun j u u' g1 g2=>?_;simp only[Nat.zero_add]at g1;rw[g1]at g2;cases g2;exact .same _
structure D1 (M:Ac) (c B:Nat) (bs:List Nat) (rows:List (List RR)) (x pv:AV) (pb ps:List Nat):Prop where
 mat:D7 M B bs rows
 cell:M c=some ⟨118,1,[x]⟩
 piv:Ye M pv pb ps
 only:Db M (c::B::(bs++pb))
 cB:c≠B
 cb:c ∉ bs
 pB:B ∉ pb
 pc:c ∉ pb
 pd:∀b∈pb,b ∉ bs
section
variable {M:Ac} {c B:Nat} {bs:List Nat} {rows:List (List RR)} {x pv:AV} {pb ps:List Nat}
theorem Qfd {x:AV} {e:Int} (h:G0 x e):x.cells.all AV.one=true:=by unfold G0 at h;rw[h];rfl
theorem D1.nc (h:D1 M c B bs rows x pv pb ps) {i:Nat} (hi:i<rows.length):nb bs i≠c:=fun e=>h.cb (e ▸ Ey (by rw[h.mat.len];exact hi))
theorem D1.np (h:D1 M c B bs rows x pv pb ps) {i:Nat} (hi:i<rows.length):nb bs i ∉ pb:=fun e=>h.pd _ e (Ey (by rw[h.mat.len];exact hi))
theorem D1.setE (h:D1 M c B bs rows x pv pb ps) (x':AV):D1 (M.set c ⟨118,1,[x']⟩) c B bs rows x' pv pb ps :=
 ⟨h.mat.other h.cB h.cb _,by simp,h.piv.keep fun b hb=>by simp only[A6];rw[if_neg (by rintro rfl;exact h.pc hb)],h.only.set (by simp) _,h.cB,h.cb,h.pB,h.pc,h.pd⟩
theorem D1.setRow (h:D1 M c B bs rows x pv pb ps) {i:Nat} (hi:i<rows.length) (r:List RR) (hr:r.length=(Aj rows i).length):D1 (M.set (nb bs i) ⟨44,4,Bg r⟩) c B bs (rows.set i r) x pv pb ps :=
 ⟨h.mat.setRow hi r hr,by simp only[A6];rw[if_neg (Ne.symm (h.nc hi))];exact h.cell,h.piv.keep fun b hb=>by simp only[A6];rw[if_neg (by rintro rfl;exact h.np hi hb)],
  h.only.set (by simp[Ey (show i<bs.length by rw[h.mat.len];exact hi)]) _,h.cB,h.cb,h.pB,h.pc,h.pd⟩
theorem D1.ones (h:D1 M c B bs rows x pv pb ps) {e:Int} (hx:G0 x e):∀(b:Nat) (y:Ex),M b=some y→∀v∈y.l,v.cells.all AV.one=true:=by
 refine h.mat.ones (l:=c::pb) (h.only.sub fun b hb=>by simp at hb ⊢;rcases hb with h | h | h | h<;>simp[h]) fun b hb y hy=>?_
 rcases List.mem_cons.1 hb with rfl|hb
 ·rw[h.cell]at hy;cases hy;intro v hv;simp at hv;subst hv;exact Qfd hx
 ·rcases h.piv with⟨_,h1,_⟩|⟨b',h1,_,h3⟩
  ·rw[h1]at hb;cases hb
  ·rw[h1]at hb;simp at hb;subst hb;rw[h3]at hy;cases hy;exact Cw ps
theorem D1.back (h:D1 M c B bs rows x pv pb ps) {g:Ac} {bs':List Nat} {rows':List (List RR)} (hg:D7 g B bs' rows') (ho:Db g (B::bs)) (hb:∀b,b∈bs'↔b∈bs):D1 (M.back (B::bs) g) c B bs' rows' x pv pb ps:=by
 have hout:∀b,b ∉ B::bs→(M.back (B::bs) g) b=M b:=fun b hb=>F7 (ho.none hb) hb;refine⟨hg.back _,by rw[hout c (by simp[h.cB,h.cb])];exact h.cell,h.piv.keep fun b hb'=>hout b ?_,fun b hb'=>?_,h.cB,fun hh=>h.cb ((hb _).1 hh),h.pB,h.pc,fun b h1 h2=>h.pd b h1 ((hb _).1 h2)⟩
 ·simp only[List.mem_cons,not_or];exact⟨by rintro rfl;exact h.pB hb',h.pd b hb'⟩
 ·by_cases hm:b∈B::bs
  ·simp only[List.mem_cons,List.mem_append,hb]at hm ⊢;rcases hm with h | h<;>simp[h]
  ·rw[hout b hm]at hb';have:=h.only b hb';simp only[List.mem_cons,List.mem_append,hb]at this ⊢;exact this
theorem D1.matOnly (h:D1 M c B bs rows x pv pb ps):D7 (M.only (B::bs)) B bs rows∧Db (M.only (B::bs)) (B::bs) :=
 ⟨h.mat.only fun b hb=>by simpa using hb,Tq _ _⟩
theorem D1.fresh (h:D1 M c B bs rows x pv pb ps) {b:Nat} (hb:M b=none):b≠c∧b≠B∧b ∉ bs∧b ∉ pb:=by
 refine⟨(by rintro rfl;rw[h.cell]at hb;cases hb),(by rintro rfl;rw[h.mat.top]at hb;cases hb),fun hm=>?_,fun hm=>?_⟩
 ·obtain⟨i,hi,e⟩:=List.mem_iff_getElem.1 hm;rw[←H4 hi]at e;have:=h.mat.row i (by rw[←h.mat.len];exact hi);rw[e,hb]at this;cases this
 ·rcases h.piv with⟨_,h1,_⟩|⟨b',h1,_,h3⟩
  ·rw[h1]at hm;cases hm
  ·rw[h1]at hm;simp at hm;subst hm;rw[h3]at hb;cases hb
theorem D1.push0 (h:D1 M c B bs rows x .nil [] []) {b:Nat} (hb:M b=none) (j:Nat):D1 (M.set b ⟨3,1,[.int .i64 (j:Nat)]⟩) c B bs rows x (.osl b 1 0 1) [b] [j]:=by
 obtain⟨f1,f2,f3,_⟩:=h.fresh hb;refine⟨h.mat.other f2 f3 _,by simp only[A6];rw[if_neg (Ne.symm f1)];exact h.cell,.inr ⟨b,rfl,rfl,by simp[Aw]⟩,?_,h.cB,h.cb,by simpa using Ne.symm f2,by simpa using Ne.symm f1,by simpa using f3⟩;exact(h.only.sub fun a ha=>by simp at ha ⊢;rcases ha with h | h | h<;>simp[h]).set (by simp) _
theorem D1.push1 {b0:Nat} (h:D1 M c B bs rows x (.osl b0 1 0 ps.length) [b0] ps) {b:Nat} (hb:(M.del b0) b=none) (j:Nat):D1 ((M.del b0).set b ⟨3,1,Aw ps++[.int .i64 (j:Nat)]⟩) c B bs rows x (.osl b 1 0 (ps.length+1)) [b] (ps++[j]):=by
 have hB:B≠b0:=by have:=h.pB;simpa using this
 have hc:c≠b0:=by have:=h.pc;simpa using this
 have hd:b0 ∉ bs:=h.pd b0 (by simp);have hh:D1 (M.del b0) c B bs rows x .nil [] []:=by
  have hdel:∀a,a≠b0→(M.del b0) a=M a:=fun a ha=>if_neg ha;refine⟨⟨by rw[hdel B hB];exact h.mat.top,h.mat.len,fun i hi=>?_,h.mat.nd,h.mat.nB⟩,by rw[hdel c hc];exact h.cell,.inl ⟨rfl,rfl,rfl⟩,fun a ha=>?_,h.cB,h.cb,by simp,by simp,by simp⟩
  ·rw[hdel _ (fun e=>hd (e ▸ Ey (by rw[h.mat.len];exact hi)))];exact h.mat.row i hi
  ·have h1:a≠b0:=by
    rintro rfl;exact ha (if_pos rfl)
   rw[hdel a h1]at ha;have:=h.only a ha;simp at this ⊢;rcases this with h | h | h | h
   ·exact .inl h
   ·exact .inr (.inl h)
   ·exact .inr (.inr h)
   ·exact absurd h h1
 obtain⟨f1,f2,f3,_⟩:=hh.fresh hb;refine⟨hh.mat.other f2 f3 _,by simp only[A6];rw[if_neg (Ne.symm f1)];exact hh.cell,.inr ⟨b,rfl,by simp,by simp[Ek]⟩,?_,h.cB,h.cb,by simpa using Ne.symm f2,by simpa using Ne.symm f1,by simpa using f3⟩;exact(hh.only.sub fun a ha=>by simp at ha ⊢;rcases ha with h | h | h<;>simp[h]).set (by simp) _
end
end Go.Av
end
section
namespace Go.Av
open Go.Proofs
theorem Qhi (M:Ac) (l:List Nat):M.back l (M.only l)=M:=by
 funext b
 by_cases hb:b∈l
 ·rw[Qep hb,Bx hb]
 ·rw[F7 (Bv hb) hb]
def Qjr (c B:Nat) (X0:List (List Rat)) (v:AV) (M':Ac):Prop :=
 ∃x',M' c=some ⟨118,1,[x']⟩∧(∀b y,M' b=some y→∀v∈y.l,v.cells.all AV.one=true)∧match Er X0 with
 |none=>G0 x' 2
 |some z=>G0 x' 0∧∃bs' pb,D1 M' c B bs' (Be z.1) x' v pb z.2
structure Qqn where
 X:List (List Rat)
 ps:List Nat
 M:Ac
 bs:List Nat
 pv:AV
 pb:List Nat
 x:AV
structure Xg where
 M:Ac
 rows:List (List RR)
 x:AV
 e:Int
def Qwm (X0:List (List Rat)) (c B w j:Nat) (s:Qqn):Prop :=
 A3 Ca j (X0,[])=some (s.X,s.ps)∧Ee s.X∧J5 s.X w∧s.X.length=X0.length∧s.ps.length≤j∧D1 s.M c B s.bs (Be s.X) s.x s.pv s.pb s.ps∧G0 s.x 0
def Kr (c B:Nat) (bs:List Nat) (pv:AV) (pb ps:List Nat) (w n:Nat) (Z:Option (List (List Rat))) (s:Xg):Prop :=
 D1 s.M c B bs s.rows s.x pv pb ps∧G0 s.x s.e∧Sf s.rows∧J5 s.rows w∧s.rows.length=n∧U2 s.e s.rows Z
theorem Kr.row {op:Rat→Nat→Option Rat} (hop:∀q k x,op q k=some x→Bu x) {c B:Nat} {bs:List Nat} {pv:AV} {pb ps:List Nat} {w n:Nat} {Z0:Option (List (List Rat))} {s:Xg} (h:Kr c B bs pv pb ps w n Z0 s) {i k:Nat} (hi:i<n) (hk:k<w)
  {Z:Option (List (List Rat) × List Rat)} (hZ:Z0=Z.map fun z=>z.1.set i z.2) {e':Int} {y:RR} {x':AV} (hx:G0 x' e') (hy:y.Lb) (h1:s.e≠0→e'=s.e) (h2:s.e=0→match op (rr (Aj s.rows i) k).q k with | some z=>e'=0∧y=Aq z | none=>e'=2) :
  Kr c B bs pv pb ps w n (Z.bind fun z=>(Ge op k z.2).map fun row=>z.1.set i row) ⟨(s.M.set c ⟨118,1,[x']⟩).set (nb bs i) ⟨44,4,Bg ((Aj s.rows i).set k y)⟩,s.rows.set i ((Aj s.rows i).set k y),x',e'⟩:=by
 obtain⟨g1,g2,g3,g4,g5,g6⟩:=h;exact⟨(g1.setE x').setRow (by omega) _ (by simp),hx,g3.set i (Qsl (g3.row i) k hy),g4.set (by rw[List.length_set];exact g4 i (by omega)),by simp[g5],Qjb hop g5 hi g4 hk hZ g6 h1 h2⟩
theorem U2.mono {e:Int} {rows:List (List RR)} {Z Z':Option (List (List Rat))} (h:U2 e rows Z) (hZ:Z'=Z):U2 e rows Z':=hZ ▸ h
theorem Kr.to {c B:Nat} {bs:List Nat} {pv:AV} {pb ps:List Nat} {w n:Nat} {Z Z':Option (List (List Rat))} {s:Xg} (h:Kr c B bs pv pb ps w n Z s) (hZ:Z'=Z):Kr c B bs pv pb ps w n Z' s:=hZ ▸ h
theorem Qi2 {e:Int} {a b f:RR} {bq fq:Rat} (hb:e=0→b.q=bq∧f.q=fq) {e1:Int} {p:RR} (hp:Dl e b (D4 b.q f.q)=(e1,p)) :
  (e≠0→(Dl e1 a (C2 a.q p.q)).1=e)∧(e=0→match Iw a.q fq bq with | some z=>(Dl e1 a (C2 a.q p.q)).1=0∧(Dl e1 a (C2 a.q p.q)).2=Aq z | none=>(Dl e1 a (C2 a.q p.q)).1=2):=by
 constructor
 ·intro he;rw[Mh he]at hp;cases hp;rw[Mh he]
 ·intro he;obtain⟨h1,h2⟩:=hb he;unfold Iw;rw[h1,h2]at hp;cases hm:D4 bq fq with
  |none =>
   rw[hm,Pq he]at hp;cases hp;show(Dl 2 a _).1=2
   rw[Mh (by omega)]
  |some m =>
   rw[hm,Mn he]at hp;cases hp;rw[Hk];exact Qeq rfl
theorem Qml {e:Int} {b f:RR} (hg:∀z,D4 b.q f.q=some z→Bu z) {e1:Int} {p:RR} (hp:Dl e b (D4 b.q f.q)=(e1,p)) (h1:e1=0):e=0∧p.ok=true:=by
 by_cases he:e=0
 ·refine⟨he,?_⟩;cases hm:D4 b.q f.q with
  |none=>rw[hm,Pq he]at hp;cases hp;omega
  |some m =>
   rw[hm,Mn he]at hp;cases hp;exact Dp (hg m hm)
 ·rw[Mh he]at hp;cases hp;exact absurd h1 he
theorem L7 {a f b c:Rat} (h:Iw a f b=some c):Bu c:=by
 unfold Iw at h;cases hm:D4 b f with
 |none=>rw[hm]at h;cases h
 |some m=>rw[hm]at h;exact Qaw h
theorem Mi {M:List (List Rat)} {j r i:Nat} (h:Ta M j r=some i):i<M.length∧r≤i∧B4 M i j≠0:=by
 obtain⟨h1,h2,_⟩:=Qc4 h;simp at h2;exact⟨h1,h2.1,h2.2⟩
theorem Xp (M0:Ac) (c B:Nat) (bs0:List Nat) (X0:List (List Rat)) (x0:AV) (w:Nat) (hR0:D1 M0 c B bs0 (Be X0) x0 .nil [] []) (hx0:G0 x0 0) (hg0:Ee X0) (hd0:J5 X0 w) (hw:w=(Aj X0 0).length) (hn:X0.length<2^40) (hw2:w<2^40) :
  Ai Tryz.prog 101 [.ptr c 1 0 0,.osl B 1 0 X0.length] M0 (Qjr c B X0):=by
 have hwid:=Ui (Be X0);have e0:(Aj (Be X0) 0).length=w:=by rw[Bq,List.length_map,hw]
 have hv0:=hR0.mat.view;rw[A1]at hv0;rw[e0]at hwid;have hq:Er X0=A3 Ca w (X0,[]):=by unfold Er;rw[hw]
 generalize hN:X0.length=n at *;refine Ad Tryz.func101 rfl rfl 129 rfl (Nat.le_of_ble_eq_true rfl) ?_;(repeat refine AW.seq_k fun K hK=>?_);refine AW.rg ?_;simp[Al];try (refine hK _ rfl ?_;clear hK K)
 refine AW.scope ?_;(repeat refine AW.seq_k fun K hK=>?_);refine AW.rg ?_;simp;try (refine hK _ rfl ?_;clear hK K)
 refine AW.seq (AW.label ?_);intro _;refine AW.seq_ex (ι:=Ac × AV) (fun z=>[(5,z.2)]) (fun z=>z.1) (fun z=>Qjr c B X0 z.2 z.1) ?_ ?_
 ·(repeat refine AW.seq_k fun K hK=>?_);refine AW.rg ?_;simp;try (refine hK _ rfl ?_;clear hK K)
  refine Aa.borrow [Ap (Be X0)] (by simpa using hv0) hwid ?_;rintro _ rfl;refine⟨rfl,?_⟩;simp;refine hK _ rfl ?_;clear hK K;refine AW.block (AW.loopS (ι:=Nat × Qqn) (fun z=>[(0,.ptr c 1 0 0),(1,.osl B 1 0 n),(5,z.2.pv),(16,.int .i64 w),(17,.int .i64 (z.1:Nat))]) (fun z=>z.2.M) (fun z=>z.1≤w∧Qwm X0 c B w z.1 z.2) (fun z=>w-z.1) (0,⟨X0,[],M0,bs0,.nil,[],x0⟩) ⟨by simp,rfl,hg0,hd0,rfl,by simp,hR0,hx0⟩ rfl (by simp) ?_);rintro⟨j,X,ps,M,bs,pv,pb,x⟩ ⟨hjw,i1,i2,i3,i4,i5,i6,i7⟩;simp only at hjw i1 i2 i3 i4 i5 i6 i7;rw[hN]at i4;simp only
  (repeat refine AW.seq_k fun K hK=>?_);refine AW.rg ?_;simp;try (refine hK _ rfl ?_;clear hK K)
  (repeat refine AW.seq ?_);refine AW.cs (fun hj=>?_) (fun hj=>?_) rfl<;>(try simp at hj)
  ·refine AW.skip ?_;try simp
   have w1:=Au (j+1) (by omega);have hlen:=i6.piv.len;refine AW.seq_ex (ι:=Qqn) (fun s=>[(0,.ptr c 1 0 0),(1,.osl B 1 0 n),(5,s.pv),(16,.int .i64 w),(17,.int .i64 (j:Nat))]) (fun s=>s.M) (fun s=>Qwm X0 c B w (j+1) s) ?_ ?_
   ·(repeat refine AW.seq ?_);refine AW.block ?_;(repeat refine AW.seq_k fun K hK=>?_);refine AW.rg ?_;simp;try (refine hK _ rfl ?_;clear hK K)
    (repeat refine AW.seq_k fun K hK=>?_);refine AW.rg ?_;simp[hlen];try (refine hK _ rfl ?_;clear hK K)
    have hp:=Qcc _ B bs (Be X) i6.matOnly.1 i6.matOnly.2 (Jc X) w j ps.length (X5 i3) hj (by rw[A1];omega) hw2 (by omega);rw[A1,i4]at hp;(repeat refine AW.seq_k fun K hK=>?_);refine AW.rg ?_;simp;try (refine hK _ rfl ?_;clear hK K)
    refine Aa.hand (B::bs) (by simp) hp ?_;intro v g hv _;unfold Yb at hv;rw[Qan i2 i3 hj]at hv;have hcol:A3 Ca (j+1) (X0,[])=Ca j (X,ps):=by rw[Cq,i1];rfl
    cases hpq:Ta X j ps.length with
    |none =>
     rw[hpq]at hv;obtain⟨rfl,rfl⟩:=hv;rw[Qhi];simp;refine hK _ rfl ?_;clear hK K;(repeat refine AW.seq_k fun K hK=>?_);refine AW.rg ?_;simp;try (refine hK _ rfl ?_;clear hK K)
     refine AW.yes ?_ rfl;refine AW.exit ?_;try simp
     refine⟨⟨X,ps,M,bs,pv,pb,x⟩,⟨?_,i2,i3,by rw[hN];exact i4,by show ps.length≤j+1;omega,i6,i7⟩,by simp⟩;rw[hcol];unfold Ca;simp only[hpq]
    |some i =>
     rw[hpq]at hv;obtain⟨rfl,hg1,hg2⟩:=hv;obtain⟨p1,p2,p3⟩:=Mi hpq;rw[i4]at p1;have hr:ps.length<n:=by omega
     have hR1:=i6.back hg1 hg2 (fun b=>L9 (bs:=bs) (i:=i) (r:=ps.length) (by rw[i6.mat.len,A1,i4];exact p1) (by rw[i6.mat.len,A1,i4];exact hr) b);rw[←Qbf]at hR1;have hcol:A3 Ca (j+1) (X0,[])=(Ff (Ck X i ps.length) j ps.length).map fun M=>(M,ps++[j]):=by rw[hcol];unfold Ca;simp only[hpq]
     have hX1:Ee (Ck X i ps.length):=i2.swap _ _;have hd1:J5 (Ck X i ps.length) w:=i3.swap (by omega) (by omega);have hn1:(Ck X i ps.length).length=n:=by rw[Kk,i4]
     have hdq:B4 (Ck X i ps.length) ps.length j≠0:=by
      unfold B4;rw[H3 (by omega) (by omega),if_pos rfl];exact p3
     generalize Ck X i ps.length=X1 at *;generalize M.back (B::bs) g=M1 at *;generalize Fl bs i ps.length=bs1 at *;generalize decide (i≠ps.length)=sw;simp;refine hK _ rfl ?_;clear hK K;(repeat refine AW.seq_k fun K hK=>?_);refine AW.rg ?_;simp;try (refine hK _ rfl ?_;clear hK K)
     refine AW.no ?_ rfl;refine AW.skip ?_;try simp
     refine hK _ rfl ?_;clear hK K;have hrl:(Aj (Be X1) ps.length).length=w:=by rw[Bq,List.length_map];exact hd1 _ (by omega)
     have hre:ps.length<(Be X1).length:=by rw[A1,hn1];exact hr
     have hde:rr (Aj (Be X1) ps.length) j=Aq (B4 X1 ps.length j):=by rw[Bq,Ev (by rw[hd1 _ (by omega)];exact hj)];rfl
     have hd0:Bu (B4 X1 ps.length j):=hX1.at (by rw[hd1 _ (by omega)];exact hj);(repeat refine AW.seq_k fun K hK=>?_);refine AW.rg ?_;simp[hr,hR1.mat.top,↓hR1.mat.get hre,hR1.mat.row ps.length hre,hrl,hj];try (refine hK _ rfl ?_;clear hK K)
     refine Af.intro fun b10 hb10=>?_;refine hK _ rfl ?_;clear hK K;have hdlb:(rr (Aj (Be X1) ps.length) j).Lb:=Jx ((Jc X1).row _) j;generalize hrr:ps.length=r at *;generalize hdr:rr (Aj (Be X1) r) j=dr at *;refine AW.turn [(0,.ptr c 1 0 0),(1,.osl B 1 0 n),(5,pv),(16,.int .i64 w),(17,.int .i64 (j:Nat)),(6,.int .i64 (j:Nat)),(7,.int .i64 r),(10,.rptr [.bool dr.n1,Ao dr.l1,.bool dr.n2,Ao dr.l2])] M1 (Ba.drop hb10 (hR1.ones i7)) ?_ ?_
     ·simp[Dd hb10]
     generalize hrow0:Aj X1 r=row0 at *;generalize hd:B4 X1 r j=d at *;refine AW.seq_ex (ι:=Xg) (fun s=>[(0,.ptr c 1 0 0),(1,.osl B 1 0 n),(5,pv),(16,.int .i64 w),(17,.int .i64 (j:Nat)),(6,.int .i64 (j:Nat)),(7,.int .i64 r),(10,.rptr [.bool dr.n1,Ao dr.l1,.bool dr.n2,Ao dr.l2])]) (fun s=>s.M) (fun s=>Kr c B bs1 pv pb ps w n ((A3 (B9 d) w row0).map fun row=>X1.set r row) s) ?_ ?_
     ·(repeat refine AW.seq_k fun K hK=>?_);refine AW.rg ?_;simp[hr,hR1.mat.top,↓hR1.mat.get hre,hrl];try (refine hK _ rfl ?_;clear hK K)
      refine AW.block (AW.loopS (ι:=Nat × Xg) (fun z=>[(0,.ptr c 1 0 0),(1,.osl B 1 0 n),(5,pv),(16,.int .i64 w),(17,.int .i64 (j:Nat)),(6,.int .i64 (j:Nat)),(7,.int .i64 r),(10,.rptr [.bool dr.n1,Ao dr.l1,.bool dr.n2,Ao dr.l2]),(42,.int .i64 w),(43,.int .i64 (z.1:Nat))]) (fun z=>z.2.M) (fun z=>z.1≤w∧Kr c B bs1 pv pb ps w n ((A3 (B9 d) z.1 row0).map fun row=>X1.set r row) z.2) (fun z=>w-z.1) (0,⟨M1,Be X1,x,0⟩) ⟨by simp,hR1,i7,Jc X1,X5 hd1,by rw[A1,hn1],?_⟩ rfl (by simp) ?_)
      ·show U2 0 (Be X1) (some (X1.set r row0))
       rw[←hrow0,Ea (by omega),List.set_getElem_self];exact⟨rfl,rfl,hX1⟩
      rintro⟨k,M,rows,x,e⟩ ⟨g1,g2,g3,g4,g5,g6,g7⟩;simp only at g1 g2 g3 g4 g5 g6 g7;(repeat refine AW.seq_k fun K hK=>?_);refine AW.rg ?_;simp;try (refine hK _ rfl ?_;clear hK K)
      (repeat refine AW.seq ?_);refine AW.cs (fun hk=>?_) (fun hk=>?_) rfl<;>(try simp at hk)
      ·refine AW.skip ?_;try simp
       (repeat refine AW.seq ?_);refine AW.block ?_;(repeat refine AW.seq_k fun K hK=>?_);refine AW.rg ?_;simp;try (refine hK _ rfl ?_;clear hK K)
       have hrr':r<rows.length:=by omega
       have hlr:=g5 r hrr';(repeat refine AW.seq_k fun K hK=>?_);refine AW.rdT [] [10] [] [B,nb bs1 r] [0,1,2,3,4,5,6,7,8,9,10,11,12,13,14,15,16] C6 (by simp[hr,hk,g2.mat.top,↓g2.mat.get hrr',g2.mat.row r hrr',hlr]) (by simp[hr,hk,g2.mat.top,↓g2.mat.get hrr',g2.mat.row r hrr',hlr]) (by simp[hr,hk,g2.mat.top,↓g2.mat.get hrr',g2.mat.row r hrr',hlr]) (by simp[hr,hk,g2.mat.top,↓g2.mat.get hrr',g2.mat.row r hrr',hlr]) (by simp[hr,hk,g2.mat.top,↓g2.mat.get hrr',g2.mat.row r hrr',hlr]) ?_;simp[hr,hk,g2.mat.top,↓g2.mat.get hrr',g2.mat.row r hrr',hlr]
       try (refine hK _ rfl ?_;clear hK K)
       have nB:=Ne.symm g2.cB;have nR:=g2.nc hrr';have n0:=g2.mat.ne hrr';refine Qq7 (a:=rr (Aj rows r) k) (b:=dr) g2.cell (by simp[nB,Ne.symm nR,g2.cB]) g3 (Jx (g4.row r) k) hdlb (fun he=>⟨Xh g7 he (by rw[hlr];exact hk),by rw[hde];exact Dp hd0,by rw[hde,Hk];exact hdq⟩) ?_;intro x' hx';simp[hr,hk,nR,n0,g2.mat.row r hrr',hlr];have w2:=Au (k+1) (by omega);(repeat refine AW.seq_k fun K hK=>?_);refine AW.rg ?_;simp[-Int.natCast_add,w2];try (refine hK _ rfl ?_;clear hK K)
       have hs:=Kr.row (op:=fun q _=>Fu q d) (y:=(Dl e (rr (Aj rows r) k) (Fu (rr (Aj rows r) k).q dr.q)).2) (fun q k x hx=>Og hdq hx) (s:=⟨M,rows,x,e⟩) ⟨g2,g3,g4,g5,g6,g7⟩ hr hk (Z:=(A3 (B9 d) k row0).map fun row=>(X1,row)) (by cases A3 (B9 d) k row0<;>rfl) hx' (Xu (Jx (g4.row r) k)) (fun he=>by rw[Mh he]) (fun he=>by
        have:=Qeq (a:=rr (Aj rows r) k) (q:=Fu (rr (Aj rows r) k).q dr.q) he;rw[hde,Hk]at this ⊢;exact this)
       exact⟨k+1,_,⟨hk,hs.to (by rw[Cq];cases A3 (B9 d) k row0<;>rfl)⟩,by omega,rfl,rfl⟩
      ·refine AW.exit ?_;try simp
       have:k=w:=by omega
       subst this;exact⟨⟨M,rows,x,e⟩,⟨g2,g3,g4,g5,g6,g7⟩,rfl⟩
     rintro⟨M2,rows2,x2,e2⟩ hs2;simp only;refine AW.seq_ex (ι:=Xg) (fun s=>[(0,.ptr c 1 0 0),(1,.osl B 1 0 n),(5,pv),(16,.int .i64 w),(17,.int .i64 (j:Nat)),(6,.int .i64 (j:Nat)),(7,.int .i64 r),(10,.rptr [.bool dr.n1,Ao dr.l1,.bool dr.n2,Ao dr.l2])]) (fun s=>s.M) (fun s=>Kr c B bs1 pv pb ps w n ((A3 (B9 d) w row0).bind fun row=>A3 (Bi r j) n (X1.set r row)) s) ?_ ?_
     ·(repeat refine AW.seq_k fun K hK=>?_);refine AW.rg ?_;simp;try (refine hK _ rfl ?_;clear hK K)
      refine AW.block (AW.loopS (ι:=Nat × Xg) (fun z=>[(0,.ptr c 1 0 0),(1,.osl B 1 0 n),(5,pv),(16,.int .i64 w),(17,.int .i64 (j:Nat)),(6,.int .i64 (j:Nat)),(7,.int .i64 r),(10,.rptr [.bool dr.n1,Ao dr.l1,.bool dr.n2,Ao dr.l2]),(64,.int .i64 n),(65,.int .i64 (z.1:Nat))]) (fun z=>z.2.M) (fun z=>z.1≤n∧Kr c B bs1 pv pb ps w n ((A3 (B9 d) w row0).bind fun row=>A3 (Bi r j) z.1 (X1.set r row)) z.2) (fun z=>n-z.1) (0,⟨M2,rows2,x2,e2⟩) ⟨by simp,hs2.to (by cases A3 (B9 d) w row0<;>rfl)⟩ rfl (by simp) ?_)
      rintro⟨i,M,rows,x,e⟩ ⟨g1,g2,g3,g4,g5,g6,g7⟩;simp only at g1 g2 g3 g4 g5 g6 g7;generalize hZ:((A3 (B9 d) w row0).bind fun row=>A3 (Bi r j) i (X1.set r row))=Z at g7;have hZ1:((A3 (B9 d) w row0).bind fun row=>A3 (Bi r j) (i+1) (X1.set r row))=Z.bind (Bi r j i):=by
       rw[←hZ];cases A3 (B9 d) w row0<;>rfl
      (repeat refine AW.seq_k fun K hK=>?_);refine AW.rg ?_;simp;try (refine hK _ rfl ?_;clear hK K)
      (repeat refine AW.seq ?_);refine AW.cs (fun hi=>?_) (fun hi=>?_) rfl<;>(try simp at hi)
      ·refine AW.skip ?_;try simp
       have hi':i<rows.length:=by omega
       have hr':r<rows.length:=by omega
       have hli:=g5 i hi';have hlr:=g5 r hr';have w3:=Au (i+1) (by omega);refine AW.seq_ex (ι:=Xg) (fun s=>[(0,.ptr c 1 0 0),(1,.osl B 1 0 n),(5,pv),(16,.int .i64 w),(17,.int .i64 (j:Nat)),(6,.int .i64 (j:Nat)),(7,.int .i64 r),(10,.rptr [.bool dr.n1,Ao dr.l1,.bool dr.n2,Ao dr.l2]),(64,.int .i64 n),(65,.int .i64 (i:Nat))]) (fun s=>s.M) (fun s=>Kr c B bs1 pv pb ps w n ((A3 (B9 d) w row0).bind fun row=>A3 (Bi r j) (i+1) (X1.set r row)) s) ?_ ?_
       ·(repeat refine AW.seq ?_);refine AW.block ?_;(repeat refine AW.seq_k fun K hK=>?_);refine AW.rg ?_;simp;try (refine hK _ rfl ?_;clear hK K)
        (repeat refine AW.seq_k fun K hK=>?_);refine AW.rg ?_;simp[hi,g2.mat.top,↓g2.mat.get hi',g2.mat.row i hi',hli,hj];try (refine hK _ rfl ?_;clear hK K)
        refine Af.intro fun b13 hb13=>?_;refine hK _ rfl ?_;clear hK K;have hflb:(rr (Aj rows i) j).Lb:=Jx (g4.row i) j;have hfq:∀X',Z=some X'→rr (Aj rows i) j=Aq (B4 X' i j)∧Bu (B4 X' i j):=by
         intro X' hX';subst hX';obtain⟨_,m2,m3⟩:e=0∧rows=Be X'∧Ee X':=g7;subst m2;have hjl:j<(Aj X' i).length:=by rw[Bq,List.length_map]at hli;omega
         exact⟨by rw[Bq,Ev hjl];rfl,m3.at hjl⟩
        have hsg:=Nx _ hflb;generalize hfr:rr (Aj rows i) j=fr at *;refine AW.turn [(0,.ptr c 1 0 0),(1,.osl B 1 0 n),(5,pv),(16,.int .i64 w),(17,.int .i64 (j:Nat)),(6,.int .i64 (j:Nat)),(7,.int .i64 r),(10,.rptr [.bool dr.n1,Ao dr.l1,.bool dr.n2,Ao dr.l2]),(64,.int .i64 n),(65,.int .i64 (i:Nat)),(12,.int .i64 (i:Nat)),(13,.rptr [.bool fr.n1,Ao fr.l1,.bool fr.n2,Ao fr.l2])] M (Ba.drop hb13 (g2.ones g3)) ?_ ?_
        ·simp[Dd hb13]
        have hskip:i=r∨Dj fr=0→((A3 (B9 d) w row0).bind fun row=>A3 (Bi r j) (i+1) (X1.set r row))=Z:=by
         intro h;rw[hZ1];cases Z with
         |none=>rfl
         |some X' =>
          obtain⟨q1,q2⟩:=hfq X' rfl;have:i=r∨B4 X' i j=0:=h.imp id fun h=>by rw[q1,Ma q2]at h;exact Ia.1 h
          exact if_pos this
        refine AW.seq_ex (ι:=Unit) (fun _=>[(0,.ptr c 1 0 0),(1,.osl B 1 0 n),(5,pv),(16,.int .i64 w),(17,.int .i64 (j:Nat)),(6,.int .i64 (j:Nat)),(7,.int .i64 r),(10,.rptr [.bool dr.n1,Ao dr.l1,.bool dr.n2,Ao dr.l2]),(64,.int .i64 n),(65,.int .i64 (i:Nat)),(12,.int .i64 (i:Nat)),(13,.rptr [.bool fr.n1,Ao fr.l1,.bool fr.n2,Ao fr.l2])]) (fun _=>M) (fun _=>i≠r∧Dj fr≠0) ?_ ?_
        ·by_cases hir:i=r
         ·(repeat refine AW.seq_k fun K hK=>?_);refine AW.rg ?_;simp[hir];try (refine hK _ rfl ?_;clear hK K)
          refine AW.yes ?_ rfl;refine AW.exit ?_;try simp
          exact⟨⟨M,rows,x,e⟩,Kr.to ⟨g2,g3,g4,g5,g6,g7⟩ (hskip (.inl hir)),by simp[hir]⟩
         ·(repeat refine AW.seq_k fun K hK=>?_);refine AW.rg ?_;simp[hir];try (refine hK _ rfl ?_;clear hK K)
          refine Aa.val hsg ?_;simp;refine hK _ rfl ?_;clear hK K;(repeat refine AW.seq ?_);refine AW.cs (fun h0=>?_) (fun h0=>?_) rfl<;>(try simp at h0)
          ·refine AW.exit ?_;try simp
           exact⟨⟨M,rows,x,e⟩,Kr.to ⟨g2,g3,g4,g5,g6,g7⟩ (hskip (.inr h0)),by simp⟩
          ·refine AW.skip ?_;try simp
           exact⟨hir,h0⟩
        rintro _ ⟨h1,h2⟩;have hgo:∀X',Z=some X'→Bi r j i X'=(A3 (Dy (Aj X' r) (B4 X' i j)) (Aj X' i).length (Aj X' i)).map (X'.set i):=by
         intro X' hX';obtain⟨q1,q2⟩:=hfq X' hX';refine if_neg ?_;rintro(h | h)
         ·exact h1 h
         ·exact h2 (by rw[q1,Ma q2];exact Ia.2 h)
        clear hskip;have hZl:∀X',Z=some X'→X'.length=n∧∀k,k<n→(Aj X' k).length=w:=by
         intro X' hX';subst hX';obtain⟨_,m2,_⟩:e=0∧rows=Be X'∧Ee X':=g7;subst m2;rw[A1]at g6;exact⟨g6,fun k hk=>by have:=g5 k (by rw[A1];omega);rwa [Bq,List.length_map]at this⟩
        have hend:((A3 (B9 d) w row0).bind fun row=>A3 (Bi r j) (i+1) (X1.set r row))=Z.bind fun X'=>(A3 (Dy (Aj X' r) (B4 X' i j)) w (Aj X' i)).map (X'.set i):=by
         rw[hZ1];cases hZ2:Z with
         |none=>rfl
         |some X' =>
          show Bi r j i X'=_
          rw[hgo X' hZ2,(hZl X' hZ2).2 i hi];rfl
        have hbeg:(Z.bind fun X'=>(A3 (Dy (Aj X' r) (B4 X' i j)) 0 (Aj X' i)).map (X'.set i))=Z:=by
         cases hZ2:Z with
         |none=>rfl
         |some X' =>
          have:=(hZl X' hZ2).1;show some (X'.set i (Aj X' i))=some X'
          rw[Ea (by omega),List.set_getElem_self]
        (repeat refine AW.seq_k fun K hK=>?_);refine AW.rg ?_;simp[hi,g2.mat.top,↓g2.mat.get hi',hli];try (refine hK _ rfl ?_;clear hK K)
        refine AW.block (AW.loopS (ι:=Nat × Xg) (fun z=>[(0,.ptr c 1 0 0),(1,.osl B 1 0 n),(5,pv),(16,.int .i64 w),(17,.int .i64 (j:Nat)),(6,.int .i64 (j:Nat)),(7,.int .i64 r),(10,.rptr [.bool dr.n1,Ao dr.l1,.bool dr.n2,Ao dr.l2]),(64,.int .i64 n),(65,.int .i64 (i:Nat)),(12,.int .i64 (i:Nat)),(13,.rptr [.bool fr.n1,Ao fr.l1,.bool fr.n2,Ao fr.l2]),(87,.int .i64 w),(88,.int .i64 (z.1:Nat))]) (fun z=>z.2.M) (fun z=>z.1≤w∧Kr c B bs1 pv pb ps w n (Z.bind fun X'=>(A3 (Dy (Aj X' r) (B4 X' i j)) z.1 (Aj X' i)).map (X'.set i)) z.2) (fun z=>w-z.1) (0,⟨M,rows,x,e⟩) ⟨by simp,Kr.to ⟨g2,g3,g4,g5,g6,g7⟩ hbeg⟩ rfl (by simp) ?_)
        clear hbeg;clear g2 g3 g4 g5 g6 hi' hr' hli hlr;rintro⟨k,M,rows,x,e⟩ ⟨g1,g2,g3,g4,g5,g6,g8⟩;simp only at g1 g2 g3 g4 g5 g6 g8;(repeat refine AW.seq_k fun K hK=>?_);refine AW.rg ?_;simp;try (refine hK _ rfl ?_;clear hK K)
        (repeat refine AW.seq ?_);refine AW.cs (fun hk=>?_) (fun hk=>?_) rfl<;>(try simp at hk)
        ·refine AW.skip ?_;try simp
         (repeat refine AW.seq ?_);refine AW.block ?_;(repeat refine AW.seq_k fun K hK=>?_);refine AW.rg ?_;simp;try (refine hK _ rfl ?_;clear hK K)
         have hi':i<rows.length:=by omega
         have hr':r<rows.length:=by omega
         have hli:=g5 i hi';have hlr:=g5 r hr';have nB:=Ne.symm g2.cB;have nI:=g2.nc hi';have nR:=g2.nc hr';have n0:=g2.mat.ne hi';have hb:e=0→(rr (Aj rows r) k).q=Cd (Aj (Z.getD []) r) k∧fr.q=B4 (Z.getD []) i j:=by
          intro he;cases hZ2:Z with
          |none=>rw[hZ2]at g8;have:e=2:=g8;omega
          |some X' =>
           rw[hZ2]at g8;obtain⟨q1,q2⟩:=hfq X' hZ2;show _=Cd (Aj X' r) k∧fr.q=B4 X' i j
           refine⟨?_,by rw[q1,Hk]⟩;replace g8:U2 e rows ((A3 (Dy (Aj X' r) (B4 X' i j)) k (Aj X' i)).map (X'.set i)):=g8;cases hit:A3 (Dy (Aj X' r) (B4 X' i j)) k (Aj X' i)with
           |none=>rw[hit]at g8;have:e=2:=g8;omega
           |some row =>
            rw[hit]at g8;obtain⟨_,m2,_⟩:e=0∧rows=Be (X'.set i row)∧Ee (X'.set i row):=g8;rw[m2,Bq,Fj (by rw[(hZl X' hZ2).1];exact hi),if_neg (Ne.symm h1),Ev (by rw[(hZl X' hZ2).2 r hr];exact hk),Hk]
         (repeat refine AW.seq_k fun K hK=>?_);refine AW.rdT [] [13] [] [B,nb bs1 i,nb bs1 r] [0,1,2,3,4,5,6,7,8,9,10,11,12,13,14,15,16,17,18,19,20,21,22,23,24,25] C6 (by simp[hi,hr,hk,g2.mat.top,↓g2.mat.get hi',↓g2.mat.get hr',g2.mat.row i hi',g2.mat.row r hr',hli,hlr]) (by simp[hi,hr,hk,g2.mat.top,↓g2.mat.get hi',↓g2.mat.get hr',g2.mat.row i hi',g2.mat.row r hr',hli,hlr]) (by simp[hi,hr,hk,g2.mat.top,↓g2.mat.get hi',↓g2.mat.get hr',g2.mat.row i hi',g2.mat.row r hr',hli,hlr]) (by simp[hi,hr,hk,g2.mat.top,↓g2.mat.get hi',↓g2.mat.get hr',g2.mat.row i hi',g2.mat.row r hr',hli,hlr]) (by simp[hi,hr,hk,g2.mat.top,↓g2.mat.get hi',↓g2.mat.get hr',g2.mat.row i hi',g2.mat.row r hr',hli,hlr]) ?_
         simp[hi,hr,hk,g2.mat.top,↓g2.mat.get hi',↓g2.mat.get hr',g2.mat.row i hi',g2.mat.row r hr',hli,hlr];try (refine hK _ rfl ?_;clear hK K)
         have hfok:e=0→fr.ok=true:=by
          intro he;cases hZ2:Z with
          |none=>rw[hZ2]at g8;have:e=2:=g8;omega
          |some X'=>obtain⟨q1,q2⟩:=hfq X' hZ2;rw[q1];exact Dp q2
         refine Qst (a:=rr (Aj rows r) k) (b:=fr) g2.cell (by simp[nB,Ne.symm nR,Ne.symm nI,g2.cB]) g3 (Jx (g4.row r) k) hflb (fun he=>⟨Xh g8 he (by rw[hlr];exact hk),hfok he⟩) ?_;intro x1 hx1;have hplb:(Dl e (rr (Aj rows r) k) (D4 (rr (Aj rows r) k).q fr.q)).2.Lb:=Xu (Jx (g4.row r) k);have hlo:=Qi2 (a:=rr (Aj rows i) k) hb (e1:=(Dl e (rr (Aj rows r) k) (D4 (rr (Aj rows r) k).q fr.q)).1) (p:=(Dl e (rr (Aj rows r) k) (D4 (rr (Aj rows r) k).q fr.q)).2) rfl;have hlk:=Qml (b:=rr (Aj rows r) k) (f:=fr) (e:=e) (fun z hz=>Zu hz) (e1:=(Dl e (rr (Aj rows r) k) (D4 (rr (Aj rows r) k).q fr.q)).1) (p:=(Dl e (rr (Aj rows r) k) (D4 (rr (Aj rows r) k).q fr.q)).2) rfl
         generalize(Dl e (rr (Aj rows r) k) (D4 (rr (Aj rows r) k).q fr.q))=ep at *;obtain⟨e1,p⟩:=ep;simp only at hx1 hplb hlo hlk;simp;refine Qke (a:=rr (Aj rows i) k) (b:=p) (Ac.set_same _ _ _) (by simp[nB,Ne.symm nR,Ne.symm nI,g2.cB]) hx1 (Jx (g4.row i) k) hplb (fun he=>⟨Xh g8 (hlk he).1 (by rw[hli];exact hk),(hlk he).2⟩) ?_;intro x2 hx2;simp[hi,hk,nI,nR,n0,g2.mat.row i hi',hli];have w2:=Au (k+1) (by omega);(repeat refine AW.seq_k fun K hK=>?_);refine AW.rg ?_;simp[-Int.natCast_add,w2];try (refine hK _ rfl ?_;clear hK K)
         have hs:=Kr.row (op:=fun q k=>Iw q (B4 (Z.getD []) i j) (Cd (Aj (Z.getD []) r) k)) (y:=(Dl e1 (rr (Aj rows i) k) (C2 (rr (Aj rows i) k).q p.q)).2) (fun q k x hx=>L7 hx) (s:=⟨M,rows,x,e⟩) ⟨g2,g3,g4,g5,g6,g8⟩ hi hk (Z:=Z.bind fun X'=>(A3 (Dy (Aj X' r) (B4 X' i j)) k (Aj X' i)).map fun row=>(X',row)) (by
          cases Z with
          |none=>rfl
          |some X' =>
           show(A3 _ k (Aj X' i)).map _=_
           cases hit:A3 (Dy (Aj X' r) (B4 X' i j)) k (Aj X' i)<;>simp[hit]) hx2 (Xu (Jx (g4.row i) k)) hlo.1 hlo.2
         exact⟨k+1,_,⟨hk,hs.to (by
          cases Z with
          |none=>rfl
          |some X' =>
           show(A3 _ (k+1) (Aj X' i)).map _=_
           rw[Cq];cases hit:A3 (Dy (Aj X' r) (B4 X' i j)) k (Aj X' i)with
           |none=>simp[hit]
           |some row=>simp[hit];rfl)⟩,by omega,rfl,rfl⟩
        ·refine AW.exit ?_;try simp
         have:k=w:=by omega
         subst this;exact⟨⟨M,rows,x,e⟩,Kr.to ⟨g2,g3,g4,g5,g6,g8⟩ hend,rfl⟩
       rintro⟨M3,rows3,x3,e3⟩ hs3;(repeat refine AW.seq_k fun K hK=>?_);refine AW.rg ?_;simp[-Int.natCast_add,w3];try (refine hK _ rfl ?_;clear hK K)
       exact⟨i+1,⟨M3,rows3,x3,e3⟩,⟨hi,hs3⟩,by omega,rfl,rfl⟩
      ·refine AW.exit ?_;try simp
       have:i=n:=by omega
       subst this;exact⟨⟨M,rows,x,e⟩,⟨g2,g3,g4,g5,g6,hZ ▸ g7⟩,rfl⟩
     rintro⟨M3,rows3,x3,e3⟩ ⟨g1,g2,g3,g4,g5,g6⟩;simp only at g1 g2 g3 g4 g5 g6;simp only;have hcl:Ff X1 j r=(A3 (B9 d) w row0).bind fun row=>A3 (Bi r j) n (X1.set r row):=by
      unfold Ff;rw[hd,hrow0,hn1,show row0.length=w by rw[←hrow0];exact hd1 r (by omega)]
     rw[hcl]at hcol;refine AW.seq_ex (ι:=Ac × Nat) (fun z=>[(0,.ptr c 1 0 0),(1,.osl B 1 0 n),(5,.osl z.2 1 0 (r+1)),(16,.int .i64 w),(17,.int .i64 (j:Nat))]) (fun z=>z.1) (fun z=>D1 z.1 c B bs1 rows3 x3 (.osl z.2 1 0 (r+1)) [z.2] (ps++[j])) ?_ ?_
     ·rcases g1.piv with⟨z1,z2,z3⟩|⟨b0,z2,z3,z4⟩
      ·subst z1 z2 z3;have hr0:r=0:=hrr.symm;subst hr0;(repeat refine AW.seq_k fun K hK=>?_);refine AW.rgR [120] ?_;simp;try (refine hK _ rfl ?_;clear hK K)
       exact⟨by unfold maxLen;omega,Af.intro fun b hb=>g1.push0 hb j⟩
      ·subst z2 z3;have hps:ps.length<2^40:=by omega
       (repeat refine AW.seq_k fun K hK=>?_);refine AW.rgR [120] ?_;simp[z4];try (refine hK _ rfl ?_;clear hK K)
       refine⟨by omega,by unfold maxLen;omega,Af.intro fun b hb=>⟨_,b,?_,rfl,rfl,hrr⟩⟩;have:=g1.push1 hb j
       rwa [hrr]at this
     rintro⟨M4,b4⟩ hR4;simp only at hR4;have hx3:x3.cells=[.int .i64 e3]:=g2;(repeat refine AW.seq_k fun K hK=>?_);refine AW.rg ?_;simp[hR4.cell,hx3];try (refine hK _ rfl ?_;clear hK K)
     (repeat refine AW.seq ?_);refine AW.cs (fun he=>?_) (fun he=>?_) rfl<;>(try simp at he)
     ·refine AW.exit ?_;try simp
      have hno:A3 Ca (j+1) (X0,[])=none:=by
       rw[hcol];generalize((A3 (B9 d) w row0).bind fun row=>A3 (Bi r j) n (X1.set r row))=Z at g6;cases Z with
       |none=>rfl
       |some Y=>exact absurd g6.1 he
      have he2:e3=2:=by
       generalize((A3 (B9 d) w row0).bind fun row=>A3 (Bi r j) n (X1.set r row))=Z at g6;cases Z with
       |none=>exact g6
       |some Y=>exact absurd g6.1 he
      refine⟨x3,hR4.cell,hR4.ones g2,?_⟩;rw[hq,Hb hno (by omega)];rw[he2]at g2;exact g2
     ·refine AW.skip ?_;try simp
      generalize((A3 (B9 d) w row0).bind fun row=>A3 (Bi r j) n (X1.set r row))=Z at g6 hcol;cases Z with
      |none=>have:e3=2:=g6;omega
      |some Y =>
       obtain⟨_,m2,m3⟩:e3=0∧rows3=Be Y∧Ee Y:=g6;subst m2;refine⟨⟨Y,ps++[j],M4,bs1,.osl b4 1 0 (r+1),[b4],x3⟩,⟨hcol,m3,?_,?_,by simp[hrr];omega,hR4,he ▸ g2⟩,rfl,rfl⟩
       ·intro i hi;have:=g4 i (by rw[A1];exact hi)
        rwa [Bq,List.length_map]at this
       ·rw[A1]at g5;rw[hN];exact g5
   rintro⟨X,ps,M,bs,pv,pb,x⟩ hs;(repeat refine AW.seq_k fun K hK=>?_);refine AW.rg ?_;simp[-Int.natCast_add,w1];try (refine hK _ rfl ?_;clear hK K)
   exact⟨j+1,⟨X,ps,M,bs,pv,pb,x⟩,⟨hj,hs⟩,by omega,by simp⟩
  ·refine AW.exit ?_;try simp
   have:j=w:=by omega
   subst this;refine⟨x,i6.cell,i6.ones i7,?_⟩;rw[hq,i1];exact⟨i7,bs,pb,i6⟩
 rintro⟨M,pv⟩ hs;(repeat refine AW.seq_k fun K hK=>?_);refine AW.rg ?_;simp;try (refine hK _ rfl ?_;clear hK K)
 obtain⟨x',h1,h2,h3⟩:=hs;exact AW.ret (Bo rfl h2 ⟨x',h1,h2,h3⟩)
end Go.Av
end
section
namespace Go.Av
open Go.Proofs
section
variable {P:Program} {av:Nat→Prop} {f:FuncId} {args:List AV} {m:Ac} {k:AV→Ac→Prop}
theorem Aa.news {R:AV→Ac→Prop} (h:Ai P f args Ac.emp R) (hk:∀v g,R v g→(∀b,g b≠none→m b=none∧¬av b)→k v (m.back [] g)):Aa P av f args m k:=by
 have e:m.only []=Ac.emp:=by funext b;rfl
 refine Aa.hand [] (by simp) (by rw[e];exact h) fun v g hr hf=>hk v g hr fun b hb=>?_;rcases hf b hb with h | h
 ·cases h
 ·exact h
theorem Aa.whole {R:AV→Ac→Prop} (hav:∀b,¬av b) (h:Ai P f args m R) (hk:∀v g,R v g→k v g):Aa P av f args m k:=by
 refine .inl ⟨m,R,fun c y hy=>⟨hy,hav c⟩,h,fun v g hr _=>?_⟩;have e:Eu m m g=g:=by
  funext c
  unfold Eu;cases g c with
  |some x=>rfl
  |none=>cases hm:m c<;>rfl
 rw[e];exact hk v g hr
end
def Qx (m:List (List RR)):List (List Rat):=m.map fun r=>r.map RR.q
theorem Ft (m:List (List RR)):(Qx m).length=m.length:=by simp[Qx]
theorem G1 (m:List (List RR)) (i:Nat):Aj (Qx m) i=(Aj m i).map RR.q:=by
 unfold Aj Qx;rw[List.getD_eq_getElem?_getD,List.getD_eq_getElem?_getD,List.getElem?_map];cases m[i]?<;>rfl
theorem Qi9 {m:List (List RR)} (h:Uw m=0):¬(64<m.length∨Ja m)∧Nq m:=by
 by_cases h1:64<m.length∨Ja m
 ·rw[O8 h1]at h;omega
 ·refine⟨h1,?_⟩;by_cases h2:Nq m
  ·exact h2
  ·rw[Oi h1 h2]at h;omega
theorem Xx {m:List (List RR)} {r:List RR} (h:r∈m):∃i,i<m.length∧Aj m i=r:=by
 obtain⟨i,hi,e⟩:=List.mem_iff_getElem.1 h;exact⟨i,hi,by rw[Ea hi,e]⟩
theorem Qqo {r:List RR} {x:RR} (h:x∈r):∃j,j<r.length∧rr r j=x:=by
 obtain⟨j,hj,e⟩:=List.mem_iff_getElem.1 h;exact⟨j,hj,by rw[Hc hj,e]⟩
theorem Sc {m:List (List RR)} (hm:Sf m) (h:Uw m=0):m=Be (Qx m)∧Ee (Qx m)∧J5 (Qx m) (Aj (Qx m) 0).length∧m.length≤64∧(Aj (Qx m) 0).length≤64:=by
 obtain⟨h1,h2⟩:=Qi9 h;have hok:∀r∈m,∀x∈r,x.ok=true:=by
  intro r hr x hx;obtain⟨i,hi,rfl⟩:=Xx hr;obtain⟨j,hj,rfl⟩:=Qqo hx;exact(h2 i hi).2 j hj
 refine⟨?_,?_,?_,?_,?_⟩
 ·unfold Be Qx;rw[List.map_map]
  conv=>lhs;rw[←List.map_id m]
  refine List.map_congr_left fun r hr=>?_;show r=(r.map RR.q).map Aq
  rw[List.map_map]
  conv=>lhs;rw[←List.map_id r]
  refine List.map_congr_left fun x hx=>?_;exact(E5 (hm r hr x hx) (hok r hr x hx)).2
 ·intro r hr q hq;obtain⟨s,hs,rfl⟩:=List.mem_map.1 hr;obtain⟨x,hx,rfl⟩:=List.mem_map.1 hq;exact(E5 (hm s hs x hx) (hok s hs x hx)).1
 ·intro i hi;rw[G1,G1,List.length_map,List.length_map];exact(h2 i (by rwa [Ft]at hi)).1
 ·rcases Nat.lt_or_ge 64 m.length with h|h
  ·exact absurd (.inl h) h1
  ·exact h
 ·rw[G1,List.length_map];rcases Nat.lt_or_ge 64 (Aj m 0).length with h | h
  ·rcases Nat.eq_zero_or_pos m.length with h0|h0
   ·have:m=[]:=List.eq_nil_of_length_eq_zero h0;subst this;simp[Aj]at h
   ·exact absurd (.inr ⟨0,h0,h⟩) h1
  ·exact h
/-! ### What the steps keep -/
def C9 (r:List Rat):Prop:=∀q∈r,Bu q
theorem Ji {α:Type} {f:Nat→α→Option α} {p:α→Prop} (h:∀i s t,p s→f i s=some t→p t):∀{n:Nat} {s t:α},p s→A3 f n s=some t→p t
 |0,s,t,hs,he=>by cases he;exact hs
 |n+1,s,t,hs,he=>by
  rw[Cq]at he;cases hm:A3 f n s with
  |none=>rw[hm]at he;cases he
  |some u=>rw[hm]at he;exact h n u t (Ji h hs hm) he
theorem Ho {op:Rat→Nat→Option Rat} (hop:∀q k x,op q k=some x→Bu x) {w k:Nat} {row row':List Rat} (h:C9 row∧row.length=w) (he:Ge op k row=some row'):C9 row'∧row'.length=w:=by
 unfold Ge at he;cases ho:op (Cd row k) k with
 |none=>rw[ho]at he;cases he
 |some z=>rw[ho]at he;cases he;exact⟨Jj h.1 k (hop _ _ _ ho),by simpa using h.2⟩
def Bp (n w:Nat) (M:List (List Rat)):Prop:=Ee M∧J5 M w∧M.length=n
theorem Bp.set {n w:Nat} {M:List (List Rat)} (h:Bp n w M) (i:Nat) {r:List Rat} (hr:C9 r∧r.length=w):Bp n w (M.set i r) :=
 ⟨h.1.set i hr.1,h.2.1.set hr.2,by simpa using h.2.2⟩
theorem Bp.row {n w:Nat} {M:List (List Rat)} (h:Bp n w M) {i:Nat} (hi:i<n):C9 (Aj M i)∧(Aj M i).length=w:=⟨h.1.row i,h.2.1 i (by rw[h.2.2];exact hi)⟩
theorem Bp.swap {n w:Nat} {M:List (List Rat)} (h:Bp n w M) {i j:Nat} (hi:i<n) (hj:j<n):Bp n w (Ck M i j):=(h.set i (h.row hj)).set j (h.row hi)
theorem Wd {n w r j i:Nat} {M M':List (List Rat)} (hi:i<n) (h:Bp n w M) (he:Bi r j i M=some M'):Bp n w M':=by
 unfold Bi at he;split at he
 ·cases he;exact h
 ·cases hm:A3 (Dy (Aj M r) (B4 M i j)) (Aj M i).length (Aj M i)with
  |none=>rw[hm]at he;cases he
  |some row =>
   rw[hm]at he;cases he;exact h.set i (Ji (p:=fun row=>C9 row∧row.length=w) (fun k s t hs hst=>Ho (fun q k x hx=>L7 hx) hs hst) (h.row hi) hm)
theorem S9 {α:Type} {f:Nat→α→Option α} {p:α→Prop}:∀{n:Nat} (h:∀i s t,i<n→p s→f i s=some t→p t) {s t:α},p s→A3 f n s=some t→p t
 |0,_,s,t,hs,he=>by cases he;exact hs
 |n+1,h,s,t,hs,he=>by
  rw[Cq]at he;cases hm:A3 f n s with
  |none=>rw[hm]at he;cases he
  |some u=>rw[hm]at he;exact h n u t (by omega) (S9 (fun i s t hi=>h i s t (by omega)) hs hm) he
theorem Nr {n w r j:Nat} {M M':List (List Rat)} (hr:r<n) (h:Bp n w M) (hd:B4 M r j≠0) (he:Ff M j r=some M'):Bp n w M':=by
 unfold Ff at he;cases hm:A3 (B9 (B4 M r j)) (Aj M r).length (Aj M r)with
 |none=>rw[hm]at he;cases he
 |some row =>
  rw[hm]at he;have h1:=Ji (p:=fun row=>C9 row∧row.length=w) (fun k s t hs hst=>Ho (fun q k x hx=>Og hd hx) hs hst) (h.row hr) hm;have he':A3 (Bi r j) n (M.set r row)=some M':=by rw[←h.2.2];exact he
  exact S9 (p:=Bp n w) (fun i s t hi hs hst=>Wd hi hs hst) (h.set r h1) he'
def I0 (n w j:Nat) (z:List (List Rat) × List Nat):Prop:=Bp n w z.1∧z.2.length≤n∧z.2.length≤j∧∀p∈z.2,p<j
theorem Qip {n w j:Nat} {z z':List (List Rat) × List Nat} (h:I0 n w j z) (he:Ca j z=some z'):I0 n w (j+1) z':=by
 obtain⟨h1,h2,h3,h4⟩:=h;unfold Ca at he;cases hp:Ta z.1 j z.2.length with
 |none=>simp only[hp]at he;cases he;exact⟨h1,h2,by omega,fun p hp=>by have:=h4 p hp;omega⟩
 |some i =>
  simp only[hp]at he;obtain⟨p1,p2,p3⟩:=Mi hp;rw[h1.2.2]at p1;have hr:z.2.length<n:=by omega
  cases hc:Ff (Ck z.1 i z.2.length) j z.2.length with
  |none=>rw[hc]at he;cases he
  |some M =>
   rw[hc]at he;cases he;refine⟨Nr hr (h1.swap p1 hr) ?_ hc,by simp;omega,by simp;omega,fun p hp=>?_⟩
   ·unfold B4;rw[H3 (by rw[h1.2.2];exact p1) (by rw[h1.2.2];exact hr),if_pos rfl];exact p3
   ·simp at hp;rcases hp with hp | rfl
    ·have:=h4 p hp;omega
    ·omega
theorem Py {n w:Nat} {z0:List (List Rat) × List Nat} (h:I0 n w 0 z0):∀{j:Nat} {z:List (List Rat) × List Nat},A3 Ca j z0=some z→I0 n w j z
 |0,z,he=>by cases he;exact h
 |j+1,z,he=>by
  rw[Cq]at he;cases hm:A3 Ca j z0 with
  |none=>rw[hm]at he;cases he
  |some u=>rw[hm]at he;exact Qip (Py h hm) he
theorem Lq {n w:Nat} {M:List (List Rat)} (h:Bp n w M) {z:List (List Rat) × List Nat} (he:Er M=some z):I0 n (w) ((Aj M 0).length) z :=
 Py (z0:=(M,[])) ⟨h,by simp,by simp,by simp⟩ he
/-! ### Reduce -/
theorem Qgo {X:List (List Rat)} (h:Ee X):Qi3 (Be X):=by
 intro r hr x hx;obtain⟨s,hs,rfl⟩:=List.mem_map.1 hr;obtain⟨q,hq,rfl⟩:=List.mem_map.1 hx;have:=h s hs q hq;have key:∀n,n<Bk→(Ar n).length<2^40:=fun n hn=>by
  have:=Bd hn;omega
 exact⟨key _ this.1,key _ this.2⟩
noncomputable def Ei (m:List (List RR)):Int × List (List Rat) × List Nat :=
 if Uw m≠0 then (Uw m,[],[]) else match Er (Qx m)with
  |none=>(2,[],[])
  |some z=>(0,z.1,z.2)
theorem D1.start {X:List (List Rat)} {c:Nat} {x:AV} {g:Ac} {B:Nat} {bs:List Nat} (hg:D7 g B bs (Be X)) (ho:Db g (B::bs)) (hf:∀b,g b≠none→(Ac.emp.set c ⟨118,1,[x]⟩) b=none) :
  D1 ((Ac.emp.set c ⟨118,1,[x]⟩).back [] g) c B bs (Be X) x .nil [] []:=by
 have hc:g c=none:=by
  cases h:g c with
  |none=>rfl
  |some y=>have:=hf c (by rw[h];simp);simp at this
 refine⟨hg.back _,by rw[F7 hc (by simp)];simp,.inl ⟨rfl,rfl,rfl⟩,fun b hb=>?_,?_,fun hm=>?_,by simp,by simp,by simp⟩
 ·cases h:g b with
  |some y=>have:=ho b (by rw[h];simp);simp at this ⊢;exact .inr this
  |none =>
   rw[F7 h (by simp)]at hb;by_cases e:b=c
   ·simp[e]
   ·simp[e]at hb
 ·rintro rfl;rw[hg.top]at hc;cases hc
 ·obtain⟨i,hi,e⟩:=List.mem_iff_getElem.1 hm;rw[←H4 hi]at e;have:=hg.row i (by rw[←hg.len];exact hi);rw[e,hc]at this;cases this
theorem Xd (m:List (List RR)) (hm:Sf m):Ai Tryz.prog 66 [Ap m] Ac.emp fun v mm=>v=.tup [Ap (Be (Ei m).2.1),.sl 1 (Aw (Ei m).2.2),.int .i64 (Ei m).1]∧mm=Ac.emp:=by
 have hck:=Qck m hm;by_cases h0:Uw m=0
 ·obtain⟨h1,h2,h3,h4,h5⟩:=Sc hm h0;have hR:Ei m=match Er (Qx m)with
   |none=>(2,[],[])
   |some z=>(0,z.1,z.2):=by unfold Ei;rw[if_neg (by simp[h0])]
  have hlen:=Ft m;rw[h0]at hck;have hcl:=Qdm m (by rw[h1];exact Qgo h2) (by omega) (fun r hr=>by
   obtain⟨i,hi,rfl⟩:=Xx hr;have:=h3 i (by rw[hlen];exact hi);rw[G1,List.length_map]at this;omega)
  rw[hR];clear hR;generalize Qx m=X at *;subst h1;rw[A1]at *;have hrd:=fun(M0:Ac) (c B:Nat) (bs0:List Nat) (x0:AV) (hR0:D1 M0 c B bs0 (Be X) x0 .nil [] []) (hx0:G0 x0 0)=>Xp M0 c B bs0 X x0 _ hR0 hx0 h2 h3 rfl (by omega) (by omega);refine Ad Tryz.func66 rfl rfl 32 rfl (Nat.le_of_ble_eq_true rfl) ?_;(repeat refine AW.seq_k fun K hK=>?_);refine AW.rg ?_;simp[Al];try (refine hK _ rfl ?_;clear hK K)
  (repeat refine AW.seq_k fun K hK=>?_);refine AW.rg ?_;simp;try (refine hK _ rfl ?_;clear hK K)
  refine Aa.val hck ?_;simp;refine hK _ rfl ?_;clear hK K;(repeat refine AW.seq_k fun K hK=>?_);refine AW.rg ?_;simp;try (refine hK _ rfl ?_;clear hK K)
  refine AW.no ?_ rfl;refine AW.skip ?_;try simp
  refine hK _ rfl ?_;clear hK K;(repeat refine AW.seq_k fun K hK=>?_);refine AW.rg ?_;simp;try (refine hK _ rfl ?_;clear hK K)
  refine Af.intro fun c hc=>?_;refine hK _ rfl ?_;clear hK K;(repeat refine AW.seq_k fun K hK=>?_);refine AW.rg ?_;simp;try (refine hK _ rfl ?_;clear hK K)
  refine Aa.news hcl ?_;rintro _ g ⟨B,bs,rfl,g1,g2⟩ hf;have hM:=D1.start g1 g2 (c:=c) (x:=.agg [.int .i64 0]) (fun b hb=>(hf b hb).1);generalize(Ac.emp.set c ⟨118,1,[.agg [.int .i64 0]]⟩).back [] g=M at *;simp;refine hK _ rfl ?_;clear hK K;(repeat refine AW.seq_k fun K hK=>?_);refine AW.rg ?_;simp;try (refine hK _ rfl ?_;clear hK K)
  refine Aa.whole (by simp) (hrd M c B bs _ hM rfl) ?_;rintro v M' ⟨x',q1,q2,q3⟩;simp;refine hK _ rfl ?_;clear hK K;cases hq:Er X with
  |none =>
   rw[hq]at q3;have hx':x'.cells=[.int .i64 2]:=q3;(repeat refine AW.seq_k fun K hK=>?_);refine AW.rg ?_;simp[q1,hx'];try (refine hK _ rfl ?_;clear hK K)
   refine AW.yes ?_ rfl;(repeat refine AW.seq_k fun K hK=>?_);refine AW.rdA c [0,1,2,3,4,5,6] C6 (by simp[q1,hx']) ?_;simp[q1,hx'];try (refine hK _ rfl ?_;clear hK K)
   exact AW.ret (Ae [Ap [],.sl 1 [],.int .i64 2] rfl ⟨.nilsl 1,.nilsl 1,.same _,trivial⟩ ⟨rfl,rfl⟩)
  |some z =>
   obtain⟨Y,ps⟩:=z;rw[hq]at q3;obtain⟨q3,bs',pb,q4⟩:=q3;have hx':x'.cells=[.int .i64 0]:=q3;(repeat refine AW.seq_k fun K hK=>?_);refine AW.rg ?_;simp[q1,hx'];try (refine hK _ rfl ?_;clear hK K)
   refine AW.no ?_ rfl;refine AW.skip ?_;try simp
   refine hK _ rfl ?_;clear hK K;(repeat refine AW.seq_k fun K hK=>?_);refine AW.rg ?_;simp;try (refine hK _ rfl ?_;clear hK K)
   have hk:=Lq ⟨h2,h3,rfl⟩ hq;have hv:=q4.mat.view;rw[A1,hk.1.2.2]at hv;exact AW.ret (Ae [Ap (Be Y),.sl 1 (Aw ps),.int .i64 0] rfl ⟨hv,q4.piv.view,.same _,trivial⟩ ⟨rfl,rfl⟩)
 ·have hR:Ei m=(Uw m,[],[]):=by unfold Ei;rw[if_pos h0]
  rw[hR];generalize Uw m=e at *;refine Ad Tryz.func66 rfl rfl 32 rfl (Nat.le_of_ble_eq_true rfl) ?_;(repeat refine AW.seq_k fun K hK=>?_);refine AW.rg ?_;simp[Al];try (refine hK _ rfl ?_;clear hK K)
  (repeat refine AW.seq_k fun K hK=>?_);refine AW.rg ?_;simp;try (refine hK _ rfl ?_;clear hK K)
  refine Aa.val hck ?_;simp;refine hK _ rfl ?_;clear hK K;(repeat refine AW.seq_k fun K hK=>?_);refine AW.rg ?_;simp[h0];try (refine hK _ rfl ?_;clear hK K)
  refine AW.yes ?_ rfl;(repeat refine AW.seq_k fun K hK=>?_);refine AW.rg ?_;simp;try (refine hK _ rfl ?_;clear hK K)
  exact AW.ret (Ae [Ap [],.sl 1 [],.int .i64 e] rfl ⟨.nilsl 1,.nilsl 1,.same _,trivial⟩ ⟨rfl,rfl⟩)
end Go.Av
end
section
namespace Go.Av
open Go.Proofs
@[simp high] theorem Qkk (P:Program) (size bytes:Nat) (e:TypeId) (zero:AV) (fs:List (Nat × Nat × Option Bool)) (k:IntKind) (n:Int) (l:List Nat):B0 P ⟨size,bytes,.slice e,zero,fs⟩ (.sl 1 (Aw l)) (.int k n)=(Ak P e).bind fun te=>if 1=te.size∧0≤n∧n<l.length then some (.rptr [.int .i64 ((l.getD n.toNat 0:Nat):Int)]) else none:=by
 rw[Hu]
 congr 1
 funext te
 rw[Ls];by_cases h:1=te.size∧0≤n∧n<l.length
 ·rw[if_pos h,if_pos h];have h1:n.toNat<l.length:=by omega
  unfold Aw;rw[List.getD_eq_getElem?_getD,List.getD_eq_getElem?_getD,List.getElem?_map,List.getElem?_eq_getElem h1];rfl
 ·rw[if_neg h,if_neg h]
theorem S7 {M M':Ac} {b n:Nat} {e:TypeId} {r:List RR} (hb:M b=some ⟨e,4,Bg r⟩) (hb':M' b=none) (hn:r.length=n):Br M M' (.osl b 4 0 n) (An r):=by
 refine .osl b 4 0 n _ _ hb hb' rfl (by simp[hn]) (by simp[hn]) fun j u u' g1 g2=>?_;simp only[Nat.zero_add]at g1;rw[g1]at g2;cases g2;exact .same _
theorem Ac.set_self {m:Ac} {b:Nat} {x:Ex} (h:m b=some x):m.set b x=m:=by
 funext k
 simp only[A6];split
 ·rename_i e;rw[e,h]
 ·rfl
theorem T3 {m:Ac} {b c:Nat} (h:c≠b) (x x' y y':Ex):(((m.set c x).set b y).set c x').set b y'=(m.set c x').set b y':=by
 funext k
 simp only[A6];by_cases h1:k=b
 ·simp[h1]
 ·by_cases h2:k=c
  ·subst h2;simp[h]
  ·simp[h1,h2]
def Lp (M:Ac) (ty:TypeId) (z:Nat) (ov:AV) (ob:List Nat) (l:List AV):Prop :=
 (l=[]∧ob=[]∧ov=.nil)∨∃b,ob=[b]∧ov=.osl b z 0 l.length∧M b=some ⟨ty,z,l⟩
theorem Lp.keep {M M':Ac} {ty:TypeId} {z:Nat} {ov:AV} {ob:List Nat} {l:List AV} (h:Lp M ty z ov ob l) (hm:∀b∈ob,M' b=M b):Lp M' ty z ov ob l:=by
 rcases h with h|⟨b,h1,h2,h3⟩
 ·exact .inl h
 ·exact .inr ⟨b,h1,h2,by rw[hm b (by simp[h1])];exact h3⟩
theorem Lp.len {M:Ac} {ty:TypeId} {z:Nat} {ov:AV} {ob:List Nat} {l:List AV} (h:Lp M ty z ov ob l) (size bytes:Nat) (e:TypeId) (zero:AV) (fs:List (Nat × Nat × Option Bool)):Kq ⟨size,bytes,.slice e,zero,fs⟩ ov=some (.int .i64 l.length):=by
 rcases h with⟨rfl,_,rfl⟩|⟨b,_,rfl,_⟩
 ·simp
 ·simp
theorem Lp.view {M M':Ac} {ty:TypeId} {z:Nat} {ov:AV} {ob:List Nat} {l:List AV} (h:Lp M ty z ov ob l) (hm:∀b∈ob,M' b=none):Br M M' ov (.sl z l):=by
 rcases h with⟨rfl,_,rfl⟩|⟨b,h1,rfl,h⟩
 ·exact .nilsl z
 ·refine .osl b z 0 l.length _ _ h (hm b (by simp[h1])) rfl rfl (by simp) fun j u u' g1 g2=>?_;simp only[Nat.zero_add]at g1;rw[g1]at g2;cases g2;exact .same _
structure Jl (M:Ac) (c:Nat) (x:AV) (ty:TypeId) (z:Nat) (ov:AV) (ob:List Nat) (l:List AV):Prop where
 cell:M c=some ⟨118,1,[x]⟩
 lst:Lp M ty z ov ob l
 only:Db M (c::ob)
 pc:c ∉ ob
section
variable {M:Ac} {c:Nat} {x ov:AV} {ty:TypeId} {z:Nat} {ob:List Nat} {l:List AV}
theorem Jl.setE (h:Jl M c x ty z ov ob l) (x':AV):Jl (M.set c ⟨118,1,[x']⟩) c x' ty z ov ob l :=
 ⟨by simp,h.lst.keep fun b hb=>by simp only[A6];rw[if_neg (by rintro rfl;exact h.pc hb)],h.only.set (by simp) _,h.pc⟩
theorem Jl.fresh (h:Jl M c x ty z ov ob l) {b:Nat} (hb:M b=none):b≠c∧b ∉ ob:=by
 refine⟨(by rintro rfl;rw[h.cell]at hb;cases hb),fun hm=>?_⟩;rcases h.lst with⟨_,h1,_⟩ | ⟨b',h1,_,h3⟩
 ·rw[h1]at hm;cases hm
 ·rw[h1]at hm;simp at hm;subst hm;rw[h3]at hb;cases hb
theorem Jl.ones (h:Jl M c x ty z ov ob l) {e:Int} (hx:G0 x e) (hl:∀v∈l,v.cells.all AV.one=true):∀(b:Nat) (y:Ex),M b=some y→∀v∈y.l,v.cells.all AV.one=true:=by
 intro b y hy;have:=h.only b (by rw[hy];simp);rcases List.mem_cons.1 this with rfl | hb
 ·rw[h.cell]at hy;cases hy;intro v hv;simp at hv;subst hv;exact Qfd hx
 ·rcases h.lst with⟨_,h1,_⟩|⟨b',h1,_,h3⟩
  ·rw[h1]at hb;cases hb
  ·rw[h1]at hb;simp at hb;subst hb;rw[h3]at hy;cases hy;exact hl
theorem Jl.start (c:Nat) (x:AV) (ty:TypeId) (z:Nat):Jl (Ac.emp.set c ⟨118,1,[x]⟩) c x ty z .nil [] [] :=
 ⟨by simp,.inl ⟨rfl,rfl,rfl⟩,fun b hb=>by
  by_cases e:b=c
  ·simp[e]
  ·simp[e]at hb,by simp⟩
theorem Jl.push0 (h:Jl M c x ty z .nil [] []) {b:Nat} (hb:M b=none) (v:AV):Jl (M.set b ⟨ty,z,[v]⟩) c x ty z (.osl b z 0 1) [b] [v]:=by
 obtain⟨f1,_⟩:=h.fresh hb;refine⟨by simp only[A6];rw[if_neg (Ne.symm f1)];exact h.cell,.inr ⟨b,rfl,rfl,by simp⟩,?_,by simpa using Ne.symm f1⟩;exact(h.only.sub fun a ha=>by simp at ha ⊢;exact .inl ha).set (by simp) _
theorem Jl.push1 {b0:Nat} (h:Jl M c x ty z (.osl b0 z 0 l.length) [b0] l) {b:Nat} (hb:(M.del b0) b=none) (v:AV):Jl ((M.del b0).set b ⟨ty,z,l++[v]⟩) c x ty z (.osl b z 0 (l.length+1)) [b] (l++[v]):=by
 have hc:c≠b0:=by have:=h.pc;simpa using this
 have hh:Jl (M.del b0) c x ty z .nil [] []:=by
  have hdel:∀a,a≠b0→(M.del b0) a=M a:=fun a ha=>if_neg ha;refine⟨by rw[hdel c hc];exact h.cell,.inl ⟨rfl,rfl,rfl⟩,fun a ha=>?_,by simp⟩;have h1:a≠b0:=by
   rintro rfl;exact ha (if_pos rfl)
  rw[hdel a h1]at ha;have:=h.only a ha;simp at this ⊢;exact this.resolve_right h1
 obtain⟨f1,_⟩:=hh.fresh hb;refine⟨by simp only[A6];rw[if_neg (Ne.symm f1)];exact hh.cell,.inr ⟨b,rfl,by simp,by simp⟩,?_,by simpa using Ne.symm f1⟩;exact(hh.only.sub fun a ha=>by simp at ha ⊢;exact .inl ha).set (by simp) _
end
/-! ### The kernel -/
def Lo (Y:List (List Rat)) (ps:List Nat) (j:Nat):Nat→List Rat→List Rat
 |0,v=>v
 |k+1,v=>(Lo Y ps j k v).set (ps.getD k 0) (-(B4 Y k j))
def Pn (Y:List (List Rat)) (ps:List Nat) (w j:Nat):List Rat:=Lo Y ps j ps.length ((List.replicate w 0).set j 1)
def F6 (Y:List (List Rat)) (ps:List Nat) (w j:Nat):List (List Rat):=((List.range j).filter fun i=>decide (i ∉ ps)).map (Pn Y ps w)
theorem Mm (Y:List (List Rat)) (ps:List Nat) (w j:Nat):F6 Y ps w (j+1)=if j∈ps then F6 Y ps w j else F6 Y ps w j++[Pn Y ps w j]:=by
 unfold F6;rw[List.range_succ,List.filter_append];by_cases h:j∈ps
 ·rw[if_pos h];simp[h]
 ·rw[if_neg h];simp[h]
theorem Iz (Y:List (List Rat)) (ps:List Nat) (j:Nat) (v:List Rat):∀k,(Lo Y ps j k v).length=v.length
 |0=>rfl
 |k+1=>by unfold Lo;rw[List.length_set,Iz]
theorem Lc (Y:List (List Rat)) (ps:List Nat) (w j:Nat):(Pn Y ps w j).length=w:=by unfold Pn;rw[Iz];simp
noncomputable def Lj (m:List (List RR)):Int × List (List Rat) :=
 if (Ei m).1≠0 then ((Ei m).1,[]) else (0,F6 (Ei m).2.1 (Ei m).2.2 (Aj m 0).length (Aj m 0).length)
theorem L3 {n w:Nat} {z0:List (List Rat) × List Nat} (h:I0 n w 0 z0) (hs:z0.2.Pairwise (·<·)):∀{j:Nat} {z:List (List Rat) × List Nat},A3 Ca j z0=some z→z.2.Pairwise (·<·)
 |0,z,he=>by cases he;exact hs
 |j+1,z,he=>by
  rw[Cq]at he;cases hm:A3 Ca j z0 with
  |none=>rw[hm]at he;cases he
  |some u =>
   rw[hm]at he;have h1:=L3 h hs hm;have h2:=Py h hm;replace he:Ca j u=some z:=he;unfold Ca at he;cases hp:Ta u.1 j u.2.length with
   |none=>simp only[hp]at he;cases he;exact h1
   |some i =>
    simp only[hp]at he;cases hc:Ff (Ck u.1 i u.2.length) j u.2.length with
    |none=>rw[hc]at he;cases he
    |some M =>
     rw[hc]at he;cases he;rw[List.pairwise_append];exact⟨h1,by simp,fun a ha b hb=>by simp at hb;subst hb;exact h2.2.2.2 a ha⟩
theorem S5 {q:Rat} (h:Bu q):C2 0 q=some (-q)∧Bu (-q):=by
 have hg:Bu (-q):=by
  unfold Bu at h ⊢;rw[Rat.neg_num,Rat.neg_den,Int.natAbs_neg];exact h
 refine⟨?_,hg⟩;unfold C2;rw[Rat.sub_eq_add_neg,Rat.zero_add];have n0:(0:Rat).num=0:=rfl;have d0:(0:Rat).den=1:=rfl;have hb:0<Bk:=by unfold Bk;exact Nat.pow_pos (by omega)
 have h1:=h.1;have h2:=h.2;rw[n0,d0,if_pos];unfold Cf;generalize Bk=b at *;simp only[Bool.and_eq_true,decide_eq_true_eq,Int.zero_mul,Int.natAbs_zero];refine⟨⟨⟨hb,?_⟩,?_⟩,?_⟩<;>omega
theorem Qj7 {m:Ac} {c b:Nat} (h:c≠b) (x y x':Ex):((m.set c x).set b y).set c x'=(m.set c x').set b y:=by
 funext k
 simp only[A6];by_cases h1:k=c
 ·subst h1;simp[h]
 ·simp[h1]
theorem Mk:Bu 0:=by rw[←F4];exact Wq (by decide)
theorem Qa4:Bu 1:=by rw[←Ic];exact Wq (by decide)
structure Qm1 where
 next:Nat
 x:AV
 M:Ac
 ov:AV
 ob:List Nat
def Qqs (c:Nat) (Y:List (List Rat)) (ps:List Nat) (w j:Nat) (s:Qm1):Prop :=
 Jl s.M c s.x 51 1 s.ov s.ob ((Be (F6 Y ps w j)).map An)∧G0 s.x 0∧s.next≤ps.length∧(∀i,i<s.next→ps.getD i 0<j)∧∀i,s.next≤i→i<ps.length→j≤ps.getD i 0
theorem Qes {ps:List Nat} (h:ps.Pairwise (·<·)) {i j:Nat} (hij:i<j) (hj:j<ps.length):ps.getD i 0<ps.getD j 0:=by
 rw[List.getD_eq_getElem?_getD,List.getD_eq_getElem?_getD,List.getElem?_eq_getElem hj,List.getElem?_eq_getElem (by omega)];exact List.pairwise_iff_getElem.1 h i j (by omega) hj hij
theorem Xn (m:List (List RR)) (hm:Sf m):Ai Tryz.prog 106 [Ap m] Ac.emp fun v mm=>v=.tup [Ap (Be (Lj m).2),.int .i64 (Lj m).1]∧mm=Ac.emp:=by
 have hr:=Xd m hm;have hwid:=Ui m;by_cases h0:(Ei m).1=0
 ·have hck:Uw m=0:=by
   by_cases h:Uw m=0
   ·exact h
   ·unfold Ei at h0;rw[if_pos h]at h0;exact absurd h0 h
  have hK:Lj m=(0,F6 (Ei m).2.1 (Ei m).2.2 (Aj m 0).length (Aj m 0).length):=if_neg (by simp[h0]);obtain⟨h1,h2,h3,h4,h5⟩:=Sc hm hck;have hcol:∃Y ps,Ei m=(0,Y,ps)∧I0 m.length (Aj m 0).length (Aj m 0).length (Y,ps)∧ps.Pairwise (·<·):=by
   unfold Ei at h0 ⊢;rw[if_neg (by simp[hck])]at h0 ⊢;cases hq:Er (Qx m)with
   |none=>rw[hq]at h0;exact absurd h0 (by simp)
   |some z =>
    have e0:(Aj (Qx m) 0).length=(Aj m 0).length:=by rw[G1,List.length_map]
    have k1:=Lq (n:=m.length) (w:=(Aj m 0).length) ⟨h2,e0 ▸ h3,Ft m⟩ hq;rw[e0]at k1;refine⟨z.1,z.2,rfl,k1,?_⟩;exact L3 (n:=m.length) (w:=(Aj m 0).length) (z0:=(Qx m,[])) ⟨⟨h2,e0 ▸ h3,Ft m⟩,by simp,by simp,by simp⟩ (by simp) hq
  obtain⟨Y,ps,hred,⟨⟨y1,y2,y3⟩,y4,y5,y6⟩,y7⟩:=hcol;simp only at y1 y2 y3 y4 y5 y6;rw[hK];rw[hred]at hr ⊢;simp only at hr ⊢;have h5:(Aj m 0).length≤64:=by rw[G1,List.length_map]at h5;exact h5
  clear h1 h2 h3 hK;generalize hw:(Aj m 0).length=w at *;have hvec:=Zc w (by omega);have hone:=N5 1 (by omega) (by omega);have hzero:=N5 0 (by omega) (by omega);rw[Ic]at hone;rw[F4]at hzero;refine Ad Tryz.func106 rfl rfl 87 rfl (Nat.le_of_ble_eq_true rfl) ?_;(repeat refine AW.seq_k fun K hK=>?_);refine AW.rg ?_;simp[Al];try (refine hK _ rfl ?_;clear hK K)
  (repeat refine AW.seq_k fun K hK=>?_);refine AW.rg ?_;simp;try (refine hK _ rfl ?_;clear hK K)
  refine Aa.val hr ?_;simp;refine hK _ rfl ?_;clear hK K;(repeat refine AW.seq_k fun K hK=>?_);refine AW.rg ?_;simp;try (refine hK _ rfl ?_;clear hK K)
  refine AW.no ?_ rfl;refine AW.skip ?_;try simp
  refine hK _ rfl ?_;clear hK K;(repeat refine AW.seq_k fun K hK=>?_);refine AW.rg ?_;simp;try (refine hK _ rfl ?_;clear hK K)
  refine Af.intro fun c hc=>?_;refine hK _ rfl ?_;clear hK K;(repeat refine AW.seq_k fun K hK=>?_);refine AW.rg ?_;simp;try (refine hK _ rfl ?_;clear hK K)
  (repeat refine AW.seq_k fun K hK=>?_);refine AW.rg ?_;simp;try (refine hK _ rfl ?_;clear hK K)
  refine AW.seq_ex (ι:=Ac × AV × AV × List Nat) (fun z=>[(7,.ptr c 1 0 0),(8,z.2.2.1)]) (fun z=>z.1) (fun z=>Jl z.1 c z.2.1 51 1 z.2.2.1 z.2.2.2 ((Be (F6 Y ps w w)).map An)∧G0 z.2.1 0) ?_ ?_
  ·(repeat refine AW.seq_k fun K hK=>?_);refine AW.rg ?_;simp;try (refine hK _ rfl ?_;clear hK K)
   refine Aa.val hwid ?_;simp;refine hK _ rfl ?_;clear hK K;refine AW.block (AW.loopS (ι:=Nat × Qm1) (fun z=>[(0,Ap m),(4,Ap (Be Y)),(5,.sl 1 (Aw ps)),(7,.ptr c 1 0 0),(8,z.2.ov),(9,.int .i64 (z.2.next:Nat)),(26,.int .i64 w),(27,.int .i64 (z.1:Nat))]) (fun z=>z.2.M) (fun z=>z.1≤w∧Qqs c Y ps w z.1 z.2) (fun z=>w-z.1) (0,⟨0,.agg [.int .i64 0],Ac.emp.set c ⟨118,1,[.agg [.int .i64 0]]⟩,.nil,[]⟩) ⟨by simp,Jl.start _ _ _ _,rfl,by simp,by simp,by simp⟩ rfl (by simp) ?_);rintro⟨j,next,x,M,ov,ob⟩ ⟨g1,g2,g3,g4,g5,g6⟩;simp only at g1 g2 g3 g4 g5 g6
   simp only;(repeat refine AW.seq_k fun K hK=>?_);refine AW.rg ?_;simp;try (refine hK _ rfl ?_;clear hK K)
   (repeat refine AW.seq ?_);refine AW.cs (fun hj=>?_) (fun hj=>?_) rfl<;>(try simp at hj)
   ·refine AW.skip ?_;try simp
    have w1:=Au (j+1) (by omega);have w2:=Au (next+1) (by omega);refine AW.seq_ex (ι:=Qm1) (fun s=>[(0,Ap m),(4,Ap (Be Y)),(5,.sl 1 (Aw ps)),(7,.ptr c 1 0 0),(8,s.ov),(9,.int .i64 (s.next:Nat)),(26,.int .i64 w),(27,.int .i64 (j:Nat))]) (fun s=>s.M) (fun s=>Qqs c Y ps w (j+1) s) ?_ ?_
    ·(repeat refine AW.seq ?_);refine AW.block ?_;(repeat refine AW.seq_k fun K hK=>?_);refine AW.rg ?_;simp;try (refine hK _ rfl ?_;clear hK K)
     refine AW.seq_ex (ι:=Unit) (fun _=>[(0,Ap m),(4,Ap (Be Y)),(5,.sl 1 (Aw ps)),(7,.ptr c 1 0 0),(8,ov),(9,.int .i64 (next:Nat)),(10,.int .i64 (j:Nat)),(26,.int .i64 w),(27,.int .i64 (j:Nat))]) (fun _=>M) (fun _=>j ∉ ps∧∀i,next≤i→i<ps.length→j+1≤ps.getD i 0) ?_ ?_
     ·by_cases hn:next<ps.length
      ·have hgn:ps.getD next 0=ps[next]:=by rw[List.getD_eq_getElem?_getD,List.getElem?_eq_getElem hn];rfl
       by_cases hp:ps[next]=j
       ·(repeat refine AW.seq_k fun K hK=>?_);refine AW.rg ?_;simp[hn,hp];try (refine hK _ rfl ?_;clear hK K)
        refine AW.yes ?_ rfl;(repeat refine AW.seq_k fun K hK=>?_);refine AW.rg ?_;simp[-Int.natCast_add,w2];try (refine hK _ rfl ?_;clear hK K)
        refine AW.exit ?_;try simp[-Int.natCast_add]
        have hmem:j∈ps:=by rw[←hp];exact List.getElem_mem hn
        rw[←hgn]at hp;refine⟨⟨next+1,x,M,ov,ob⟩,⟨?_,g3,hn,fun i hi=>?_,fun i hi hi2=>?_⟩,by simp⟩
        ·rw[Mm,if_pos hmem];exact g2
        ·rcases Nat.lt_succ_iff_lt_or_eq.1 hi with h|rfl
         ·have:=g5 i h;omega
         ·omega
        ·have hi:next+1≤i:=hi;have:=Qes y7 (i:=next) (j:=i) (by omega) hi2;omega
       ·(repeat refine AW.seq_k fun K hK=>?_);refine AW.rg ?_;simp[hn,hp];try (refine hK _ rfl ?_;clear hK K)
        refine AW.no ?_ rfl;refine AW.skip ?_;try simp
        have hge:∀i,next≤i→i<ps.length→j+1≤ps.getD i 0:=fun i hi hi2=>by
         have h1:=g6 next (by omega) hn;rw[←hgn]at hp;rcases Nat.lt_or_eq_of_le hi with h | h
         ·have:=Qes y7 (i:=next) (j:=i) h hi2;omega
         ·subst h;omega
        refine⟨fun hm=>?_,hge⟩;obtain⟨i,hi,e⟩:=List.mem_iff_getElem.1 hm;have e:ps.getD i 0=j:=by rw[List.getD_eq_getElem?_getD,List.getElem?_eq_getElem hi];exact e
        rcases Nat.lt_or_ge i next with h|h
        ·have:=g5 i h;omega
        ·have:=hge i h hi;omega
      ·(repeat refine AW.seq_k fun K hK=>?_);refine AW.rg ?_;simp[hn];try (refine hK _ rfl ?_;clear hK K)
       refine AW.no ?_ rfl;refine AW.skip ?_;try simp
       refine⟨fun hm=>?_,fun i hi hi2=>by omega⟩;obtain⟨i,hi,e⟩:=List.mem_iff_getElem.1 hm;have e:ps.getD i 0=j:=by rw[List.getD_eq_getElem?_getD,List.getElem?_eq_getElem hi];exact e
       have:=g5 i (by omega);omega
     rintro _ ⟨hnm,hge⟩;(repeat refine AW.seq_k fun K hK=>?_);refine AW.rg ?_;simp;try (refine hK _ rfl ?_;clear hK K)
     refine Aa.val hwid ?_;simp;refine Aa.make hvec ?_;rintro bv _ _ ⟨rfl,rfl⟩ hbv _;simp;refine hK _ rfl ?_;clear hK K;obtain⟨nbc,nbo⟩:=g2.fresh hbv;(repeat refine AW.seq_k fun K hK=>?_);refine AW.rg ?_;simp;try (refine hK _ rfl ?_;clear hK K)
     refine Aa.val hone ?_;simp[hj];refine hK _ rfl ?_;clear hK K;generalize hv0:(List.replicate w (0:Rat)).set j 1=v0 at *;have hv0l:v0.length=w:=by rw[←hv0];simp
     have hv0e:(Bg (List.replicate w (Aq 0))).set j (Aq 1).av=Bg (v0.map Aq):=by
      rw[Ep,←hv0,List.map_set,List.map_replicate]
     refine AW.seq_ex (ι:=AV) (fun x=>[(0,Ap m),(4,Ap (Be Y)),(5,.sl 1 (Aw ps)),(7,.ptr c 1 0 0),(8,ov),(9,.int .i64 (next:Nat)),(10,.int .i64 (j:Nat)),(11,.osl bv 4 0 w),(26,.int .i64 w),(27,.int .i64 (j:Nat))]) (fun x=>(M.set c ⟨118,1,[x]⟩).set bv ⟨44,4,Bg ((Pn Y ps w j).map Aq)⟩) (fun x=>G0 x 0) ?_ ?_
     ·(repeat refine AW.seq_k fun K hK=>?_);refine AW.rg ?_;simp;try (refine hK _ rfl ?_;clear hK K)
      refine AW.block (AW.loopS (ι:=Nat × AV) (fun z=>[(0,Ap m),(4,Ap (Be Y)),(5,.sl 1 (Aw ps)),(7,.ptr c 1 0 0),(8,ov),(9,.int .i64 (next:Nat)),(10,.int .i64 (j:Nat)),(11,.osl bv 4 0 w),(26,.int .i64 w),(27,.int .i64 (j:Nat)),(51,.sl 1 (Aw ps)),(52,.int .i64 ps.length),(53,.int .i64 (z.1:Nat))]) (fun z=>(M.set c ⟨118,1,[z.2]⟩).set bv ⟨44,4,Bg ((Lo Y ps j z.1 v0).map Aq)⟩) (fun z=>z.1≤ps.length∧G0 z.2 0) (fun z=>ps.length-z.1) (0,x) ⟨by simp,g3⟩ ?_ (by simp) ?_)
      ·show M.set bv _=(M.set c _).set bv _
       rw[Ac.set_self g2.cell];rw[Ep]at hv0e;rw[hv0e];rfl
      rintro⟨k,x⟩ ⟨q1,q2⟩;simp only at q1 q2;(repeat refine AW.seq_k fun K hK=>?_);refine AW.rg ?_;simp;try (refine hK _ rfl ?_;clear hK K)
      (repeat refine AW.seq ?_);refine AW.cs (fun hk=>?_) (fun hk=>?_) rfl<;>(try simp at hk)
      ·refine AW.skip ?_;try simp
       (repeat refine AW.seq ?_);refine AW.block ?_;(repeat refine AW.seq_k fun K hK=>?_);refine AW.rg ?_;simp[hk];try (refine hK _ rfl ?_;clear hK K)
       have hkY:k<Y.length:=by omega
       have hkE:k<(Be Y).length:=by rw[A1];exact hkY
       have hlk:(Aj (Be Y) k).length=w:=by rw[Bq,List.length_map];exact y2 k hkY
       have hjl:j<(Aj Y k).length:=by rw[y2 k hkY];exact hj
       have hel:rr (Aj (Be Y) k) j=Aq (B4 Y k j):=by rw[Bq,Ev hjl];rfl
       have hgd:Bu (B4 Y k j):=y1.at hjl;obtain⟨n1,n2⟩:=S5 hgd;have hpk:ps.getD k 0=ps[k]:=by rw[List.getD_eq_getElem?_getD,List.getElem?_eq_getElem hk];rfl
       have hpw:ps[k]<w:=y6 _ (List.getElem_mem hk);have hlf:(Lo Y ps j k v0).length=w:=by rw[Iz,hv0l]
       have w3:=Au (k+1) (by omega);(repeat refine AW.seq_k fun K hK=>?_);refine AW.rd [0,1,2,4,5,6,7,8,9,10,3,11,12,13] C6 ?_;simp[hkE,hlk,hj,hel];try (refine hK _ rfl ?_;clear hK K)
       refine Aa.val hzero ?_;simp;refine Qke (c:=c) (x:=x) (e:=0) (a:=Aq 0) (b:=Aq (B4 Y k j)) (by simp[Ne.symm nbc]) (by simp) q2 (D9 _) (D9 _) (fun _=>⟨Dp Mk,Dp hgd⟩) ?_;rw[Hk,Hk,n1,Mn rfl];intro x' hx';simp[hpw,hlf,nbc];(repeat refine AW.seq_k fun K hK=>?_);refine AW.rg ?_;simp[-Int.natCast_add,w3];try (refine hK _ rfl ?_;clear hK K)
       refine⟨k+1,x',⟨hk,hx'⟩,by omega,?_,rfl⟩;rw[T3 (Ne.symm nbc)];rw[show Lo Y ps j (k+1) v0=(Lo Y ps j k v0).set (ps.getD k 0) (-(B4 Y k j)) from rfl,hpk,List.map_set]
      ·refine AW.exit ?_;try simp
       have:k=ps.length:=by omega
       subst this;exact⟨x,q2,by unfold Pn;rw[hv0]⟩
     rintro x' hx';have g2':=g2.setE x';have hM':(M.set c ⟨118,1,[x']⟩) bv=none:=by simp only[A6];rw[if_neg nbc];exact hbv
     refine AW.turn [(0,Ap m),(4,Ap (Be Y)),(5,.sl 1 (Aw ps)),(7,.ptr c 1 0 0),(8,ov),(9,.int .i64 (next:Nat)),(10,.int .i64 (j:Nat)),(11,An ((Pn Y ps w j).map Aq)),(26,.int .i64 w),(27,.int .i64 (j:Nat))] (M.set c ⟨118,1,[x']⟩) (Ba.drop hM' (g2'.ones hx' ?_)) ?_ ?_
     ·intro v hv;obtain⟨r,_,rfl⟩:=List.mem_map.1 hv;rfl
     ·simp;exact S7 (Ac.set_same _ _ _) hM' (by rw[List.length_map,Lc])
     have hfin:∀s:Qm1,s.next=next→G0 s.x 0→Jl s.M c s.x 51 1 s.ov s.ob ((Be (F6 Y ps w j)).map An++[An ((Pn Y ps w j).map Aq)])→Qqs c Y ps w (j+1) s:=by
      intro s h1 h2 h3;refine⟨?_,h2,by rw[h1];exact g4,fun i hi=>?_,by rw[h1];exact hge⟩
      ·rw[Mm,if_neg hnm];simpa[Be]using h3
      ·rw[h1]at hi;have:=g5 i hi;omega
     have hll:((Be (F6 Y ps w j)).map An).length≤j:=by
      rw[List.length_map,A1];unfold F6;rw[List.length_map];exact Nat.le_trans (List.length_filter_le _ _) (by simp)
     generalize(Be (F6 Y ps w j)).map An=l at *;generalize M.set c ⟨118,1,[x']⟩=M' at *;rcases g2'.lst with⟨z1,z2,z3⟩ | ⟨b0,z2,z3,z4⟩
     ·subst z1 z2 z3;(repeat refine AW.seq_k fun K hK=>?_);refine AW.rgR [74] ?_;simp;try (refine hK _ rfl ?_;clear hK K)
      exact⟨by unfold maxLen;omega,Af.intro fun b hb=>⟨⟨next,x',_,_,[b]⟩,hfin _ rfl hx' (g2'.push0 hb _),rfl,rfl,rfl⟩⟩
     ·subst z2 z3;have hl2:l.length<2^40:=by omega
      (repeat refine AW.seq_k fun K hK=>?_);refine AW.rgR [74] ?_;simp[z4];try (refine hK _ rfl ?_;clear hK K)
      exact⟨by omega,by unfold maxLen;omega,Af.intro fun b hb=>⟨⟨next,x',_,_,[b]⟩,hfin _ rfl hx' (g2'.push1 hb _),rfl,rfl,rfl⟩⟩
    rintro⟨next,x,M,ov,ob⟩ hs;(repeat refine AW.seq_k fun K hK=>?_);refine AW.rg ?_;simp[-Int.natCast_add,w1];try (refine hK _ rfl ?_;clear hK K)
    exact⟨j+1,⟨next,x,M,ov,ob⟩,⟨hj,hs⟩,by omega,by simp⟩
   ·refine AW.exit ?_;try simp
    have:j=w:=by omega
    subst this;exact⟨x,⟨ob,g2⟩,g3⟩
  rintro⟨M,x,ov,ob⟩ ⟨g1,g2⟩;simp only at g1 g2;have hx:x.cells=[.int .i64 0]:=g2;(repeat refine AW.seq_k fun K hK=>?_);refine AW.rg ?_;simp[g1.cell,hx];try (refine hK _ rfl ?_;clear hK K)
  refine AW.no ?_ rfl;refine AW.skip ?_;try simp
  refine hK _ rfl ?_;clear hK K;(repeat refine AW.seq_k fun K hK=>?_);refine AW.rg ?_;simp;try (refine hK _ rfl ?_;clear hK K)
  have hv:=g1.lst.view (M':=Ac.emp) (fun _ _=>rfl);exact AW.ret (Ae [Ap (Be (F6 Y ps w w)),.int .i64 0] rfl ⟨hv,.same _,trivial⟩ ⟨rfl,rfl⟩)
 ·have hK:Lj m=((Ei m).1,[]):=if_pos h0;rw[hK];generalize Ei m=z at *;obtain⟨e,Y,ps⟩:=z;simp only at h0 hr ⊢;refine Ad Tryz.func106 rfl rfl 87 rfl (Nat.le_of_ble_eq_true rfl) ?_;(repeat refine AW.seq_k fun K hK=>?_);refine AW.rg ?_;simp[Al];try (refine hK _ rfl ?_;clear hK K)
  (repeat refine AW.seq_k fun K hK=>?_);refine AW.rg ?_;simp;try (refine hK _ rfl ?_;clear hK K)
  refine Aa.val hr ?_;simp;refine hK _ rfl ?_;clear hK K;(repeat refine AW.seq_k fun K hK=>?_);refine AW.rg ?_;simp[h0];try (refine hK _ rfl ?_;clear hK K)
  refine AW.yes ?_ rfl;(repeat refine AW.seq_k fun K hK=>?_);refine AW.rg ?_;simp;try (refine hK _ rfl ?_;clear hK K)
  exact AW.ret (Ae [Ap [],.int .i64 e] rfl ⟨.nilsl 1,.same _,trivial⟩ ⟨rfl,rfl⟩)
end Go.Av
end
section
namespace Go.Av
section
variable {P:Program}
def Qqv (o:Oper):Bool:=match o.op with
 |.call c=>match c.callee,c.args.toList with
  |.builtin .min,[_,_,_]=>true
  |_,_=>false
 |_=>false
def Qxe (a b d:Int):Int:=if d<(if b<a then b else a) then d else (if b<a then b else a)
def Qv4 (o:Oper) (s:St):Option AV:=match o.op with
 |.call c=>match c.callee,c.args.toList with
  |.builtin .min,[x,y,z]=>match s.ev x,s.ev y,s.ev z with
   |.int k a,.int _ b,.int _ d=>some (.int k (Qxe a b d))
   |_,_,_=>none
  |_,_=>none
 |_=>none
def Qvy (P:Program) (cf:D6) (o:Oper) (K:St→Prop) (s:St):Prop:=if Qqv o=true then ∃v,Qv4 o s=some v∧K ({s with m:=s.m}.put o.dst v) else E9 P cf o K s
def Qez (P:Program) (cf:D6):List Oper→(St→Prop)→St→Prop
 |[],K,s=>K s
 |o::rest,K,s=>o.guard=none∧Qvy P cf o (Qez P cf rest K) s
@[simp] theorem Qto (cf:D6) (K:St→Prop) (s:St):Qez P cf [] K s=K s:=(rfl)
@[simp] theorem Qsm (cf:D6) (d:Option Tmp) (op:Op) (t:TypeId) (p:String) (a:Array Edge) (l:List Oper) (K:St→Prop) (s:St) :
  Qez P cf ({dst:=d,op:=op,type:=t,pos:=p,after:=a,guard:=none}::l) K s↔Qvy P cf {dst:=d,op:=op,type:=t,pos:=p,after:=a,guard:=none} (Qez P cf l K) s:=by
 show(_∧_)↔_
 simp
end
end Go.Av
end
section
namespace Go.Av
section
variable {P:Program}
def isY (o:Oper):Bool:=match o.op with
 |.slice _ _ (some _) (some _) none=>true
 |.call c=>match c.callee with | .builtin .clear=>true | _=>false
 |_=>false
def Qm6 (P:Program) (o:Oper) (s:St) (k:AV→Ac→Prop):Prop:=match o.op with
 |.slice t x (some lo) (some hi) none=>∃ti e te b i n blk k1 k2,∃l h:Nat,Ak P t=some ti∧ti.cls=.slice e∧Ak P e=some te∧s.ev x=.osl b te.size i n∧s.m b=some blk∧blk.z=te.size ∧
   s.ev lo=.int k1 l∧s.ev hi=.int k2 h∧l<h∧i+h≤blk.l.length∧k (.osl b te.size (i+l) (h-l)) s.m
 |.call c=>match c.callee with
  |.builtin .clear=>∃x t ti e te b i n l,c.args.toList=[x]∧c.argTypes.toList=[t]∧Ak P t=some ti∧ti.cls=.slice e∧Ak P e=some te∧te.size=1∧te.zero.one=true ∧
    s.ev x=.osl b 1 i n∧s.m b=some ⟨e,1,l⟩∧0<n∧i+n≤l.length∧k .any (s.m.set b ⟨e,1,l.take i++List.replicate n te.zero++l.drop (i+n)⟩)
  |_=>False
 |_=>False
theorem Vf (z:Value) (hz:z.cells=#[z]) (n:Nat):(Builtin.zeroCells z.cells n).toList=List.replicate n z:=by
 rw[hz];refine List.ext_getElem? fun k=>?_;rw[Array.getElem?_toList,List.getElem?_replicate];simp only[Builtin.zeroCells,List.size_toArray,List.length_cons,List.length_nil,Nat.mul_one,Nat.zero_add,Array.getElem?_map];by_cases h:k<n
 ·rw[if_pos h,Array.getElem?_range,if_pos h];simp[Nat.mod_one]
 ·rw[if_neg h,Array.getElem?_range,if_neg h];rfl
theorem Qct {F G:Nat→Prop} {w0 w:World} {s:St} {a:Act} (hrel:Eb F G w0 s a w) {o:Oper} (hok:Gp s.n o=true) {K:St→Prop} (h:Qm6 P o s fun v m'=>K ({s with m:=m'}.put o.dst v)) (Q:Exit→Act→World→Prop):o.wp P a w (Fk F G w0 s.n K) Q:=by
 have hd:Mu s.n o.dst=true:=by unfold Gp at hok;rw[Bool.and_eq_true]at hok;exact hok.1
 have hall:∀x∈o.op.operands.toList,Gl s.n x=true:=by unfold Gp at hok;rw[Bool.and_eq_true]at hok;exact List.all_eq_true.1 hok.2
 unfold Qm6 at h;split at h
 ·rename_i t x lo hi ho
  rw[ho]at hall;obtain⟨ti,e,te,b,i,n,blk,k1,k2,l,hh,ht,hc,hte,hx,hb,hbz,hlo,hhi,hlh,hin,hk⟩:=h;obtain⟨inf,d,z,hinf,hdd,hz,g1,g2,g3,g4,g5⟩:=(Et ht).get;obtain⟨ie,de,ze,hie,hde,hze,q1,q2,q3,q4,q5⟩:=(Et hte).get;rw[←g3]at hc;cases d<;>simp only[Dn,reduceCtorEq,Lm.slice.injEq]at hc
  subst hc;have hxv:=hrel.ev (hall x (by simp[Op.operands]));have hlv:=hrel.ev (hall lo (by simp[Op.operands]));have hhv:=hrel.ev (hall hi (by simp[Op.operands]));rw[hx]at hxv;rw[hlo]at hlv;rw[hhi]at hhv;obtain⟨cx,e1⟩:∃c,a.eval x=c:=⟨_,rfl⟩;obtain⟨cl,e2⟩:∃c,a.eval lo=c:=⟨_,rfl⟩;obtain⟨ch,e3⟩:∃c,a.eval hi=c:=⟨_,rfl⟩;rw[e1]at hxv;rw[e2]at hlv;rw[e3]at hhv;obtain⟨z0,zs,ones,cells,cap,h1,h2,h3,h4,h5⟩:=hrel.heap b blk hb;cases hlv;cases hhv;cases hxv with
  |osl _ _ _ _ c hcn hm =>
   obtain⟨cells',e',m1,m2⟩:=hm;rw[h1]at m1;cases m1;have hcap:i+c=cap:=Nat.eq_of_mul_eq_mul_right (m:=te.size) (by rw[←hbz];exact z0) (by rw[m2,h2,hbz]);have hlc:(l:Int)≤((hh:Nat):Int):=by omega
   have b1:=run_sliceBound (P:=P) w k2 (hh:Int) c BoundsCode.sliceAcap (by omega) (by omega);have b2:=run_sliceBound (P:=P) w k1 (l:Int) ((hh:Int).toNat) BoundsCode.sliceB (by omega) (by omega);refine Dw (cv:=.slice (some ⟨b,(i+l)*te.size,none⟩) (hh-l) (c-l)) ?_ ⟨_,hk,Iv _ _ _,hrel.put hd (.osl _ _ _ _ _ (by omega) ⟨_,_,h1,by rw[←m2];congr 1;omega⟩)⟩;unfold execOp;rw[ho];have hne:¬c=l:=by omega
   simp only[Int.toNat_natCast]at b1 b2;simp[e1,e2,e3,Instr.sliceAt,Instr.slice,run_underlying hdd,Instr.sliceBounds,b1,b2,Fm hie,q1,hne,Eh,Nat.add_mul]
 ·rename_i c ho
  rw[ho]at hall;split at h
  ·rename_i hcal
   obtain⟨x,t,ti,e,te,b,i,n,l,hxs,hts,ht,hc,hte,hz1,hone,hx,hb,hn0,hin,hk⟩:=h;obtain⟨callee,args,argTypes⟩:=c;simp only at hcal hxs hts;subst hcal;have ha:args=#[x]:=Array.toList_inj.1 hxs;have hat:argTypes=#[t]:=Array.toList_inj.1 hts;subst ha;subst hat;obtain⟨inf,d,z,hinf,hdd,hz,g1,g2,g3,g4,g5⟩:=(Et ht).get;obtain⟨ie,de,ze,hie,hde,hze,q1,q2,q3,q4,q5⟩:=(Et hte).get;rw[←g3]at hc;cases d<;>simp only[Dn,reduceCtorEq,Lm.slice.injEq]at hc
   subst hc
   rename_i e
   have hxv:=hrel.ev (hall x (by simp[Op.operands,Call.operands]));rw[hx]at hxv;obtain⟨cx,e1⟩:∃c,a.eval x=c:=⟨_,rfl⟩;rw[e1]at hxv;obtain⟨z0,zs,ones,cells,cap,h1,h2,h3,h4,h5⟩:=hrel.heap b _ hb;simp only[Nat.mul_one]at z0 zs ones h1 h2 h4 h5;have hzv:VR w (Cy F s.m) te.zero ze:=by rw[←q4];exact Ip w _ ze
   have hzo:=hzv.oneCell hone;have hzc:ze.cells=#[ze]:=by cases ze<;>first | rfl | (simp[Value.oneCell']at hzo)
   cases hxv with
   |osl _ _ _ _ cc hcn hm =>
    have hlen:(List.replicate n ze).length=n:=List.length_replicate;have hfit:i*1+(List.replicate n ze).length≤cells.size:=by rw[hlen];omega
    have hst:=run_storeCells_at P b (i*1) e (List.replicate n ze) 0 cells w h1 (by simpa using hfit) (fun v hv=>by rw[(List.mem_replicate.1 hv).2];exact hzo);simp only[Nat.add_zero]at hst;have hsz:=Ky cells (List.replicate n ze) (i*1) hfit;refine Dw (cv:=.tuple #[]) (w':=w.setRow b (cells.toList.take (i*1)++List.replicate n ze++cells.toList.drop (i*1+(List.replicate n ze).length)).toArray) ?_ ⟨_,hk,by rw[Iv],(hrel.setRow hb (⟨e,1,l.take i++List.replicate n te.zero++l.drop (i+n)⟩:Ex) rfl rfl h1 _ hsz ?_ (fun v hv=>?_) (fun i' j u hu=>?_) (fun i' j u hu=>?_)).put hd (.any _)⟩
    ·unfold execOp;rw[ho];have hn:n≠0:=by omega
     obtain⟨n',rfl⟩:∃n',n=n'+1:=⟨n-1,by omega⟩;have hzv':(zeroValue e).run P w=.ok ze w:=by simp[zeroValue,typeInfo,hie,hze]
     have hzl:=Vf ze hzc (n'+1);simp only[Nat.mul_one,List.length_replicate,List.append_assoc]at hst;simp[resolve,invoke,builtin,e1,Builtin.clear_,run_underlying hdd,hzv',hzl];rw[hst];simp
    ·simp;omega
    ·rcases List.mem_append.1 hv with hv|hv
     ·rcases List.mem_append.1 hv with hv|hv
      ·exact zs v (List.mem_of_mem_take hv)
      ·rw[(List.mem_replicate.1 hv).2];cases hz0:te.zero<;>rw[hz0]at hone<;>first | rfl | cases hone
     ·exact zs v (List.mem_of_mem_drop hv)
    ·have hget:∀k,(l.take i++List.replicate n te.zero++l.drop (i+n))[k]?=if i≤k∧k<i+n then some te.zero else l[k]?:=by
      intro k;by_cases p1:k<i
      ·rw[if_neg (by omega),List.append_assoc,List.getElem?_append_left (by simp;omega),List.getElem?_take,if_pos p1]
      ·by_cases p2:k<i+n
       ·rw[if_pos (by omega),List.append_assoc,List.getElem?_append_right (by simp;omega),List.getElem?_append_left (by simp;omega),List.getElem?_replicate,if_pos (by simp;omega)]
       ·rw[if_neg (by omega),List.getElem?_append_right (by simp;omega),List.getElem?_drop];congr 1;simp;omega
     unfold A4 at hu;rw[hget]at hu;split at hu
     ·have:te.zero.cells=[te.zero]:=by cases hz0:te.zero<;>rw[hz0]at hone<;>first | rfl | cases hone
      simp only[Option.bind_some,this]at hu;rcases j with _ | j
      ·simp at hu;rw[←hu];exact hone
      ·simp at hu
     ·exact ones i' j u hu
    ·have hget:∀k,(l.take i++List.replicate n te.zero++l.drop (i+n))[k]?=if i≤k∧k<i+n then some te.zero else l[k]?:=by
      intro k;by_cases p1:k<i
      ·rw[if_neg (by omega),List.append_assoc,List.getElem?_append_left (by simp;omega),List.getElem?_take,if_pos p1]
      ·by_cases p2:k<i+n
       ·rw[if_pos (by omega),List.append_assoc,List.getElem?_append_right (by simp;omega),List.getElem?_append_left (by simp;omega),List.getElem?_replicate,if_pos (by simp;omega)]
       ·rw[if_neg (by omega),List.getElem?_append_right (by simp;omega),List.getElem?_drop];congr 1;simp;omega
     have hseg:=Mo cells (List.replicate n ze) (i*1) (i'*1+j) hfit;simp only[hlen,Nat.mul_one]at hseg ⊢;have htz:te.zero.cells=[te.zero]:=by cases hz0:te.zero<;>rw[hz0]at hone<;>first | rfl | cases hone
     unfold A4 at hu;rw[hget]at hu;split at hu
     ·rename_i hb'
      simp only[Option.bind_some,htz]at hu;rcases j with _ | j
      ·simp at hu;refine⟨ze,?_,by rw[←hu];exact hzv⟩;rw[hseg,if_pos (by omega),List.getElem?_replicate,if_pos (by omega)]
      ·simp at hu
     ·rename_i hb'
      have hj0:j=0:=by
       obtain⟨v,hv1,hv2⟩:=Option.bind_eq_some_iff.1 hu;have:=zs v (List.mem_of_getElem? hv1);have:=(List.getElem?_eq_some_iff.1 hv2).1;omega
      subst hj0;obtain⟨v,p1,p2⟩:=h5 i' 0 u hu;refine⟨v,?_,p2⟩;rw[hseg,if_neg (by omega)];exact p1
  ·exact h.elim
 ·exact h.elim
def Qhj (P:Program) (cf:D6) (o:Oper) (K:St→Prop) (s:St):Prop:=if isY o=true then Qm6 P o s fun v m'=>K ({s with m:=m'}.put o.dst v) else E9 P cf o K s
def M9 (P:Program) (cf:D6):List Oper→(St→Prop)→St→Prop
 |[],K,s=>K s
 |o::rest,K,s=>o.guard=none∧Qhj P cf o (M9 P cf rest K) s
theorem Qeb {F G:Nat→Prop} {w0 w:World} {s:St} {a:Act} (hrel:Eb F G w0 s a w) {cf:D6} (hav:∀b,cf.av b→b<w.heap.size) {o:Oper} (hok:Gp s.n o=true) {K:St→Prop} (h:Qhj P cf o K s) (Q:Exit→Act→World→Prop):o.wp P a w (Fk F G w0 s.n K) Q:=by
 unfold Qhj at h;split at h
 ·exact Qct hrel hok h Q
 ·exact Mg hrel hav hok h Q
theorem Qq {F G:Nat→Prop} {w0:World} {cf:D6} (hcf:∀b,¬cf.av b) {ops:Array Oper} {K:St→Prop} {QQ:Exit→Act→World→Prop} (n:Nat) (hQ:∀a w,Fk F G w0 n K a w→QQ .normal a w) :
  ∀(l:List Oper) (s:St) (a:Act) (w:World),s.n=n→(∀o∈l,(Gp n o&&Jd ops n o)=true)→Eb F G w0 s a w→M9 P cf l K s→wpList P ops QQ l a w
 |[],s,a,w,hn,_,hr,hk=>hQ a w ⟨s,hk,hn,hr⟩
 |o::rest,s,a,w,hn,hok,hr,hk=>by
  have ho:=hok o (by simp);rw[Bool.and_eq_true]at ho;have hrest:∀o∈rest,(Gp n o&&Jd ops n o)=true:=fun x hx=>hok x (by simp[hx]);have hmono:∀{s:St} {a:Act} {w:World},s.n=n→Fk F G w0 s.n (M9 P cf rest K) a w→wpList P ops QQ rest a w:=by
   rintro s a w hn ⟨s',h1,h2,h3⟩;exact Qq hcf n hQ rest s' a w (h2.trans hn) hrest h3 h1
  have hop:Eb F G w0 s a w→Qhj P cf o (M9 P cf rest K) s→o.wp P a w (wpList P ops QQ rest) QQ:=by
   intro hr hk;have:=Qeb hr (fun b hb=>(hcf b hb).elim) (by rw[hn];exact ho.1) hk QQ;unfold Oper.wp at this ⊢
   revert this
   generalize(execOp a.eval o).run P w=res;intro this;have hm:∀a w,Fk F G w0 s.n (M9 P cf rest K) a w→wpList P ops QQ rest a w:=fun a w h=>hmono hn h;unfold Oper.upon at this ⊢;split at this<;>first
    |exact hm _ _ this
    |(refine Calls.mono this ?_;intro e w' h;cases e<;>first | exact hm _ _ h | exact h)
    |(refine Rows.mono this ?_;intro e w' h;exact hm _ _ h)
    |exact this
    |exact this.elim
  unfold wpList;unfold M9 at hk;rw[if_pos (by simp[Region.wanted,hk.1])];exact .inl (hop hr hk.2)
theorem AW.rgY {Q:Exit→St→Prop} {s:St} {id:Nat} {ops:Array Oper} (h:M9 P (D6.txt fun _=>false) ops.toList (Q .normal) s) (hok:Cc s.n ops=true:=by kernel_rfl):AW P (.region id ops false) Q s:=by
 intro F G w0 a w hr;refine wp_region_list (Qq (F:=F) (G:=G) (w0:=w0) (cf:=D6.txt fun _=>false) (fun _ h=>h) s.n (K:=Q .normal) (fun a w h=>h) ops.toList s a w rfl (fun o ho=>?_) hr h);unfold Cc at hok;exact List.all_eq_true.1 hok o ho
@[simp] theorem Qu4 (cf:D6) (K:St→Prop) (s:St):M9 P cf [] K s=K s:=(rfl)
@[simp] theorem Qq3 (cf:D6) (d:Option Tmp) (op:Op) (t:TypeId) (p:String) (a:Array Edge) (l:List Oper) (K:St→Prop) (s:St) :
  M9 P cf ({dst:=d,op:=op,type:=t,pos:=p,after:=a,guard:=none}::l) K s↔Qhj P cf {dst:=d,op:=op,type:=t,pos:=p,after:=a,guard:=none} (M9 P cf l K) s:=by
 show(_∧_)↔_
 simp
theorem AW.rdL {Q:Exit→St→Prop} {s:St} {id:Nat} {ops:Array Oper} (bl:List Nat) (plan:List Nat) (hm:P.follows .mixedOrders=true) (hb:∀c∈bl,s.m c≠none) (h:Da P ⟨fun _=>false,fun c=>c∈bl,true⟩ ops plan (Q .normal) s)
  (hok:Cc s.n ops=true:=by kernel_rfl) (hp:Ik P (fun _=>false) ops plan=true:=by kernel_rfl):AW P (.region id ops true) Q s :=
 AW.draw (fun _=>false) (fun c=>c∈bl) plan hm hok hp hb h
theorem AW.rdLR {Q:Exit→St→Prop} {s:St} {id:Nat} {ops:Array Oper} (ro bl:List Nat) (plan:List Nat) (hm:P.follows .mixedOrders=true) (hb:∀c∈bl,s.m c≠none) (h:Da P ⟨roL ro,fun c=>c∈bl,true⟩ ops plan (Q .normal) s)
  (hok:Cc s.n ops=true:=by kernel_rfl) (hp:Ik P (roL ro) ops plan=true:=by kernel_rfl):AW P (.region id ops true) Q s :=
 AW.draw (roL ro) (fun c=>c∈bl) plan hm hok hp hb h
theorem Eb.shrink {F G:Nat→Prop} {w0 w:World} {s:St} {a:Act} (h:Eb F G w0 s a w) {b:Nat} {e:TypeId} {z:Nat} {l:List AV} (hb:s.m b=some ⟨e,z,l⟩) (k:Nat):Eb F G w0 {s with m:=s.m.set b ⟨e,z,l.take k⟩} a w:=by
 have hO:∀c,s.m.set b ⟨e,z,l.take k⟩ c≠none→s.m c≠none:=fun c hc=>by
  by_cases hcb:c=b
  ·subst hcb;rw[hb];simp
  ·rwa [Ac.set_other _ _ hcb]at hc
 have hF:∀c,c<w.heap.size→Cy F (s.m.set b ⟨e,z,l.take k⟩) c→Cy F s.m c:=fun c _ hc=>hc.elim .inl fun x=>.inr (hO c x);refine h.world _ (Eo.refl _ w) (fun c x hx=>?_) (fun c hc=>.inl (hO c hc));by_cases hcb:c=b
 ·subst hcb;rw[Ac.set_same]at hx;cases hx;obtain⟨z0,zs,ones,cells,cap,h1,h2,h3,h4,h5⟩:=h.heap c _ hb;have hcell:∀i j u,A4 (l.take k) i j=some u→A4 l i j=some u:=fun i j u hu=>by
   unfold A4 at hu ⊢;rw[List.getElem?_take]at hu;split at hu
   ·exact hu
   ·simp at hu
  exact⟨z0,fun v hv=>zs v (List.mem_of_mem_take hv),fun i j u hu=>ones i j u (hcell i j u hu),cells,cap,h1,h2,h3,Nat.le_trans (by simp only[List.length_take];exact Nat.min_le_right _ _) h4,fun i j u hu=>by
   obtain⟨v,p1,p2⟩:=h5 i j u (hcell i j u hu);exact⟨v,p1,p2.mono (Eo.refl (fun _=>False) w) (fun _ _ x=>x.elim) hF⟩⟩
 ·rw[Ac.set_other _ _ hcb]at hx;exact(h.heap c x hx).mono (Eo.refl (fun _=>False) w) (fun x=>x) (fun _ _ x=>x.elim) hF
theorem AW.shrink {Q:Exit→St→Prop} {c:Code} {n:Nat} {L:List (Nat × AV)} {m:Ac} {b:Nat} {e:TypeId} {z:Nat} {l:List AV} (hb:m b=some ⟨e,z,l⟩) (k:Nat) (h:AW P c Q (Av.S n L (m.set b ⟨e,z,l.take k⟩))):AW P c Q (Av.S n L m):=by
 intro F G w0 a w hr;exact h F G w0 a w (hr.shrink hb k)
@[simp] theorem Qkq (P:Program) (size bytes m e:Nat) (zero:AV) (fs:List (Nat × Nat × Option Bool)) (b z i j:Nat) (k:IntKind) (n:Int):B0 P ⟨size,bytes,.array m e,zero,fs⟩ (.ptr b z i j) (.int k n)=(Ak P e).bind fun te=>if 0≤n∧n<m then some (.ptr b z i (j+n.toNat*te.size)) else none:=by
 unfold B0
 dsimp only
 cases Ak P e<;>rfl
@[simp] theorem Qil (P:Program) (size bytes m e:Nat) (zero:AV) (fs:List (Nat × Nat × Option Bool)) (cs:List AV) (k:IntKind) (n:Int):B0 P ⟨size,bytes,.array m e,zero,fs⟩ (.rptr cs) (.int k n)=(Ak P e).bind fun te=>if 0≤n∧n<m then some (.rptr (cs.drop (n.toNat*te.size))) else none:=by
 unfold B0
 dsimp only
 cases Ak P e<;>rfl
section
variable {cf:D6} {K:St→Prop} {s:St} {d:Option Tmp} {ty:TypeId} {p:String} {a:Array Edge} {g:Option (Nat × Bool)}
@[simp] theorem Qr1 (t:TypeId) (x m:Operand) (lo hi:Option Operand):E9 P cf ⟨d,.slice t x lo hi (some m),ty,p,a,g⟩ K s↔Dx ((Ak P t).bind fun ti=>Lr P ti (s.ev x) (lo.map s.ev) (hi.map s.ev) (s.ev m)) (Fi K s d):=Iff.rfl
end
@[simp] theorem Qp6 (P:Program) (size bytes e:Nat) (zero:AV) (fs:List (Nat × Nat × Option Bool)) (b z i n:Nat) (k k' k'':IntKind) (l h m:Int):Lr P ⟨size,bytes,.slice e,zero,fs⟩ (.osl b z i n) (some (.int k l)) (some (.int k' h)) (.int k'' m) =
  (Ak P e).bind fun _=>if 0≤m∧m≤n then (Es m.toNat (some (.int k l)) (some (.int k' h))).map (fun(q:Nat × Nat)=>if m.toNat=q.1 then .zc else .any) else none:=(rfl)
theorem Vi (P:Program) (size bytes e:Nat) (zero:AV) (fs:List (Nat × Nat × Option Bool)) (b z i n:Nat) (lo hi:Option AV):Ht P ⟨size,bytes,.slice e,zero,fs⟩ (.osl b z i n) lo hi=(Ak P e).bind fun te=>if z=te.size then (Es n lo hi).map fun(q:Nat × Nat)=>if q.1=0 then .osl b z i q.2 else if q.2=q.1 then .sl z [] else .osl b z (i+q.1) (q.2-q.1) else none:=by
 unfold Ht
 dsimp only
 cases Ak P e<;>rfl
end
end Go.Av
end
section
namespace Go.Lam
abbrev Ed:=Nat × Nat
def ins (X:Nat→Bool) (e:Ed):Bool:=X e.1&&X e.2
def spn (L:List Ed) (X:Nat→Bool):Nat:=L.countP (ins X)
def sz (n:Nat) (X:Nat→Bool):Nat:=(List.range n).countP X
def Bf (n:Nat) (L:List Ed):Prop:=∀X,2≤sz n X→spn L X+3≤2*sz n X
def D2 (n:Nat) (L:List Ed) (X:Nat→Bool):Prop:=2≤sz n X∧spn L X+3=2*sz n X
def Dz (n:Nat) (e:Ed):Prop:=e.1<n∧e.2<n∧e.1≠e.2
def uni (X Y:Nat→Bool):Nat→Bool:=fun v=>X v || Y v
def cap (X Y:Nat→Bool):Nat→Bool:=fun v=>X v&&Y v
def Fe (a b:Nat):Nat→Bool:=fun v=>v==a || v==b
theorem Vn {α:Type} (l:List α) (p q:α→Bool):l.countP (fun a=>p a || q a)+l.countP (fun a=>p a&&q a)=l.countP p+l.countP q:=by
 induction l with
 |nil=>rfl
 |cons a l ih=>simp only[List.countP_cons];cases p a<;>cases q a<;>simp<;>omega
theorem Qed (n:Nat) (X Y:Nat→Bool):sz n (uni X Y)+sz n (cap X Y)=sz n X+sz n Y:=Vn _ X Y
theorem countP_le {α:Type} {l:List α} {p q:α→Bool} (h:∀a∈l,p a=true→q a=true):l.countP p≤l.countP q:=List.countP_mono_left h
theorem Qpo (L:List Ed) (X Y:Nat→Bool):spn L X+spn L Y≤spn L (uni X Y)+spn L (cap X Y):=by
 have h:=Vn L (ins X) (ins Y);have h1:L.countP (fun a=>ins X a || ins Y a)≤spn L (uni X Y):=countP_le (fun e _=>by simp only[ins,uni];cases X e.1<;>cases X e.2<;>cases Y e.1<;>cases Y e.2<;>simp)
 have h2:L.countP (fun a=>ins X a&&ins Y a)≤spn L (cap X Y):=countP_le (fun e _=>by simp only[ins,cap];cases X e.1<;>cases X e.2<;>cases Y e.1<;>cases Y e.2<;>simp)
 unfold spn at *;omega
theorem Qjj {n:Nat} {L:List Ed} (hs:Bf n L) {X Y:Nat→Bool} (hx:D2 n L X) (hy:D2 n L Y) (hc:2≤sz n (cap X Y)):D2 n L (uni X Y)∧D2 n L (cap X Y):=by
 have h1:=Qed n X Y;have h2:=Qpo L X Y;have h3:=hs _ hc;obtain⟨a1,a2⟩:=hx;obtain⟨b1,b2⟩:=hy;have hu:2≤sz n (uni X Y):=by
  have:sz n X≤sz n (uni X Y):=countP_le (fun v _ h=>by simp[uni,h]);omega
 have h4:=hs _ hu;exact⟨⟨hu,by omega⟩,⟨hc,by omega⟩⟩
theorem Qn2 (n:Nat) (X:Nat→Bool):sz n X≤n:=by
 have:=List.countP_le_length (p:=X) (l:=List.range n);simpa[sz]using this
theorem W5 {n:Nat} {X Y:Nat→Bool} (h:∀v,v<n→X v=true→Y v=true):sz n X≤sz n Y:=countP_le (fun v hv=>h v (List.mem_range.1 hv))
theorem Qbc {n:Nat} {X Y:Nat→Bool} (h:∀v,v<n→X v=Y v):sz n X=sz n Y:=List.countP_congr (fun v hv=>by rw[h v (List.mem_range.1 hv)])
theorem Vm {n:Nat} {L:List Ed} (hL:∀e∈L,Dz n e) {X Y:Nat→Bool} (h:∀v,v<n→X v=Y v):spn L X=spn L Y:=List.countP_congr (fun e he=>by
 obtain⟨h1,h2,_⟩:=hL e he;simp only[ins];rw[h _ h1,h _ h2])
theorem Qj6 {n v:Nat} {X:Nat→Bool} (hv:v<n) (h:X v=true):1≤sz n X:=List.countP_pos_iff.2 ⟨v,List.mem_range.2 hv,h⟩
theorem Y0 (n v:Nat):(List.range n).count v=if v<n then 1 else 0:=by
 split
 ·rename_i h
  exact List.nodup_range.count (a:=v) |>.trans (by simp[h])
 ·rename_i h
  exact List.count_eq_zero.2 (by simpa using h)
theorem Mf (n a:Nat) (ha:a<n):sz n (fun v=>v==a)=1:=by
 have:=Y0 n a;rw[if_pos ha]at this;exact this
theorem Qex {n a b:Nat} (ha:a<n) (hb:b<n) (h:a≠b):sz n (Fe a b)=2:=by
 have h1:=Qed n (fun v=>v==a) (fun v=>v==b);rw[Mf n a ha,Mf n b hb]at h1;have:sz n (cap (fun v=>v==a) (fun v=>v==b))=0:=by
  refine List.countP_eq_zero.2 fun v _=>?_;simp only[cap,Bool.and_eq_true,beq_iff_eq];rintro⟨rfl,h'⟩;exact h h'
 rw[this]at h1;exact h1
theorem Xe {n a b:Nat} {X:Nat→Bool} (ha:a<n) (hb:b<n) (h:a≠b) (h1:X a=true) (h2:X b=true):2≤sz n X:=by
 rw[←Qex ha hb h];refine W5 fun v _ hv=>?_;simp only[Fe,Bool.or_eq_true,beq_iff_eq]at hv;rcases hv with rfl | rfl<;>assumption
theorem Qg3 {n a b:Nat} {X:Nat→Bool} (h:sz n X≤1) (ha:a<n) (hb:b<n) (h1:X a=true) (h2:X b=true):a=b:=by
 rcases Nat.decEq a b with h'|h'
 ·have:=Xe ha hb h' h1 h2;omega
 ·exact h'
theorem R9 {n:Nat} {L:List Ed} (hL:∀e∈L,Dz n e) {X:Nat→Bool} (h:sz n X≤1):spn L X=0:=by
 refine List.countP_eq_zero.2 fun e he hx=>?_;obtain⟨h1,h2,h3⟩:=hL e he;simp only[ins,Bool.and_eq_true]at hx;exact h3 (Qg3 h h1 h2 hx.1 hx.2)
theorem Tk (e:Ed) (L:List Ed) (X:Nat→Bool):spn (e::L) X=spn L X+if ins X e=true then 1 else 0:=List.countP_cons
theorem Kb (L M:List Ed) (X:Nat→Bool):spn (L++M) X=spn L X+spn M X:=List.countP_append
theorem Qiy {L M:List Ed} (h:L.Perm M) (X:Nat→Bool):spn L X=spn M X:=h.countP_eq _
theorem Bf.perm {n:Nat} {L M:List Ed} (h:L.Perm M) (hs:Bf n L):Bf n M:=fun X hX=>by rw[←Qiy h];exact hs X hX
theorem Bf.sub {n:Nat} {L M:List Ed} (h:∀X,spn L X≤spn M X) (hs:Bf n M):Bf n L:=fun X hX=>by
 have:=h X;have:=hs X hX;omega
theorem T9 {n:Nat} {L:List Ed} (hs:Bf n L) (e:Ed):Bf n (L++[e])↔∀X,D2 n L X→ins X e=false:=by
 constructor
 ·intro h X hX;cases hi:ins X e with
  |false=>rfl
  |true =>
   have h1:=h X hX.1;rw[Kb,Tk,hi]at h1;simp[spn]at h1;have:=hX.2;unfold spn at this;omega
 ·intro h X hX;rw[Kb,Tk];have h1:=hs X hX;cases hi:ins X e with
  |false=>simp[spn]at *;omega
  |true =>
   have:spn L X+3≠2*sz n X:=fun e'=>by rw[h X ⟨hX,e'⟩]at hi;cases hi
   simp[spn]at *;omega
end Go.Lam
end
section
namespace Go.Lam
def sm (n:Nat) (f:Nat→Nat):Nat:=((List.range n).map f).sum
theorem L5 (n:Nat) (f:Nat→Nat):sm (n+1) f=sm n f+f n:=by simp[sm,List.range_succ]
theorem Wm {n:Nat} {f g:Nat→Nat} (h:∀v,v<n→f v≤g v):sm n f≤sm n g:=by
 induction n with
 |zero=>simp[sm]
 |succ n ih=>rw[L5,L5];have:=ih (fun v hv=>h v (by omega));have:=h n (by omega);omega
theorem H9 {n:Nat} {f g:Nat→Nat} (h:∀v,v<n→f v=g v):sm n f=sm n g :=
 Nat.le_antisymm (Wm fun v hv=>Nat.le_of_eq (h v hv)) (Wm fun v hv=>Nat.le_of_eq (h v hv).symm)
theorem Ko (n:Nat) (f g:Nat→Nat):sm n (fun v=>f v+g v)=sm n f+sm n g:=by
 induction n with
 |zero=>rfl
 |succ n ih=>simp only[L5];omega
theorem Qcw (n:Nat) (X:Nat→Bool):sm n (fun v=>if X v=true then 2 else 0)=2*sz n X:=by
 induction n with
 |zero=>rfl
 |succ n ih=>rw[L5,ih];simp only[sz,List.range_succ,List.countP_append,List.countP_cons,List.countP_nil];split<;>omega
theorem Nv {n a:Nat} (ha:a<n) (c:Nat):sm n (fun v=>if v=a then c else 0)=c:=by
 induction n with
 |zero=>omega
 |succ n ih =>
  rw[L5];by_cases h:n=a
  ·subst h;have:sm n (fun v=>if v=n then c else 0)=0:=by
    have:=H9 (n:=n) (f:=fun v=>if v=n then c else 0) (g:=fun _=>0) (fun v hv=>by simp;omega);rw[this];clear this;clear ha ih;induction n with
    |zero=>rfl
    |succ n ih=>rw[L5,ih]
   simp[this]
  ·rw[ih (by omega)];simp[h]
structure Inv (n:Nat) (E:Nat→Ed) (A:List Nat) (fr:Nat→Nat) (cv:Nat→List Nat):Prop where
 two:∀v,v<n→fr v+(cv v).length=2
 perm:((List.range n).flatMap cv).Perm A
 ends:∀v,v<n→∀e∈cv v,(E e).1=v∨(E e).2=v
 ok:∀e∈A,Dz n (E e)
def Uu (n:Nat) (fr:Nat→Nat) (X:Nat→Bool):Nat:=sm n fun v=>if X v=true then fr v else 0
section
variable {n:Nat} {E:Nat→Ed} {A:List Nat} {fr:Nat→Nat} {cv:Nat→List Nat}
theorem Inv.mem (h:Inv n E A fr cv) {v e:Nat} (hv:v<n) (he:e∈cv v):e∈A:=h.perm.mem_iff.1 (List.mem_flatMap.2 ⟨v,List.mem_range.2 hv,he⟩)
theorem Inv.okAt (h:Inv n E A fr cv) {v e:Nat} (hv:v<n) (he:e∈cv v):Dz n (E e):=h.ok e (h.mem hv he)
def Gh (E:Nat→Ed) (e j:Nat):Nat:=(E e).1+(E e).2-j
theorem Inv.oth_lt (h:Inv n E A fr cv) {v e:Nat} (hv:v<n) (he:e∈cv v):Gh E e v<n∧Gh E e v≠v:=by
 obtain⟨h1,h2,h3⟩:=h.okAt hv he;unfold Gh;rcases h.ends v hv e he with h4|h4<;>omega
theorem Inv.ins_iff (h:Inv n E A fr cv) {v e:Nat} (hv:v<n) (he:e∈cv v) (X:Nat→Bool):ins X (E e)=(X v&&X (Gh E e v)):=by
 obtain⟨h1,h2,h3⟩:=h.okAt hv he;unfold Gh ins;rcases h.ends v hv e he with h4|h4
 ·rw[show(E e).1+(E e).2-v=(E e).2 by omega,h4]
 ·rw[show(E e).1+(E e).2-v=(E e).1 by omega,h4,Bool.and_comm]
theorem Inv.spn (h:Inv n E A fr cv) (X:Nat→Bool):spn (A.map E) X=sm n fun v=>(cv v).countP fun e=>ins X (E e):=by
 have e1:Lam.spn (A.map E) X=A.countP fun e=>ins X (E e):=by simp[Lam.spn,List.countP_map,Function.comp_def]
 rw[e1,←h.perm.countP_eq,List.countP_flatMap];rfl
theorem Inv.le (h:Inv n E A fr cv) (X:Nat→Bool):Lam.spn (A.map E) X+Uu n fr X≤2*sz n X:=by
 rw[h.spn,Uu,←Ko,←Qcw];refine Wm fun v hv=>?_;have h2:=h.two v hv;have hl:=List.countP_le_length (p:=fun e=>ins X (E e)) (l:=cv v);cases hx:X v with
 |true=>simp;omega
 |false =>
  have:(cv v).countP (fun e=>ins X (E e))=0:=List.countP_eq_zero.2 fun e he=>by rw[h.ins_iff hv he,hx];simp
  simp[this]
def Qg1 (n:Nat) (E:Nat→Ed) (cv:Nat→List Nat) (X:Nat→Bool):Prop:=∀v,v<n→X v=true→∀e∈cv v,X (Gh E e v)=true
theorem Inv.eq (h:Inv n E A fr cv) {X:Nat→Bool} (hs:Qg1 n E cv X):Lam.spn (A.map E) X+Uu n fr X=2*sz n X:=by
 rw[h.spn,Uu,←Ko,←Qcw];refine H9 fun v hv=>?_;have h2:=h.two v hv;cases hx:X v with
 |true =>
  have:(cv v).countP (fun e=>ins X (E e))=(cv v).length:=List.countP_eq_length.2 fun e he=>by rw[h.ins_iff hv he,hx,hs v hv hx e he];rfl
  simp[this];omega
 |false =>
  have:(cv v).countP (fun e=>ins X (E e))=0:=List.countP_eq_zero.2 fun e he=>by rw[h.ins_iff hv he,hx];simp
  simp[this]
theorem Inv.shut (h:Inv n E A fr cv) {X:Nat→Bool} (he:2*sz n X≤Lam.spn (A.map E) X+Uu n fr X):Qg1 n E cv X:=by
 intro v hv hx e hm;rcases Bool.eq_false_or_eq_true (X (Gh E e v))with h1 | h1
 ·exact h1
 ·exfalso
  have key:∀w,w<n→((cv w).countP fun e=>ins X (E e))+(if X w=true then fr w else 0)≤if X w=true then 2 else 0:=by
   intro w hw;have h2:=h.two w hw;have hl:=List.countP_le_length (p:=fun e=>ins X (E e)) (l:=cv w);cases hx:X w with
   |true=>simp;omega
   |false =>
    have:(cv w).countP (fun e=>ins X (E e))=0:=List.countP_eq_zero.2 fun e he=>by rw[h.ins_iff hw he,hx];simp
    simp[this]
  have strict:sm n (fun w=>((cv w).countP fun e=>ins X (E e))+(if X w=true then fr w else 0))+1≤sm n fun w=>if X w=true then 2 else 0:=by
   rw[←Nv hv 1,←Ko];refine Wm fun w hw=>?_;by_cases hwv:w=v
   ·subst hwv;have h2:=h.two w hw;have:(cv w).countP (fun e=>ins X (E e))<(cv w).length:=by
     rcases Nat.lt_or_ge ((cv w).countP fun e=>ins X (E e)) (cv w).length with h3 | h3
     ·exact h3
     ·have:=List.countP_eq_length.1 (Nat.le_antisymm List.countP_le_length h3) e hm;rw[h.ins_iff hw hm,h1]at this;simp at this
    simp[hx];omega
   ·simp only[hwv,if_false];exact key w hw
  rw[Qcw,Ko,←h.spn]at strict;unfold Uu at he;omega
theorem Qid {X Y:Nat→Bool} (h:∀v,v<n→X v=true→Y v=true):Uu n fr X≤Uu n fr Y:=Wm fun v hv=>by
 cases hx:X v with
 |true=>simp[h v hv hx]
 |false=>simp
theorem O6 {a b:Nat} (ha:a<n) (hb:b<n) (hab:a≠b):Uu n fr (Fe a b)=fr a+fr b:=by
 rw[←Nv ha (fr a),←Nv hb (fr b),←Ko];refine H9 fun v _=>?_;simp only[Fe,Bool.or_eq_true,beq_iff_eq];by_cases h1:v=a
 ·subst h1;simp[hab]
 ·by_cases h2:v=b
  ·subst h2;simp[h1]
  ·simp[h1,h2]
theorem Tb {a:Nat} (ha:a<n):Uu n fr (fun v=>v==a)=fr a:=by
 rw[←Nv ha (fr a)];exact H9 fun v _=>by by_cases h:v=a<;>simp[h]
theorem Yl {X Y:Nat→Bool} (h:∀v,v<n→X v=true→Y v=false→fr v=0) (hy:∀v,v<n→Y v=true→X v=true):Uu n fr X=Uu n fr Y:=H9 fun v hv=>by
 cases hx:X v with
 |true=>cases hyv:Y v with
  |true=>rfl
  |false=>simp[h v hv hx hyv]
 |false=>cases hyv:Y v with
  |true=>rw[hy v hv hyv]at hx;cases hx
  |false=>rfl
theorem Inv.first (h:Inv n E A fr cv) (hs:Bf n (A.map E)) {a:Nat} (ha:a<n) {X:Nat→Bool} (hX:Qg1 n E cv X) (hXa:X a=true) (hz:∀v,v<n→X v=true→v≠a→fr v=0):2≤fr a:=by
 have e1:=h.eq hX;have e2:Uu n fr X=fr a:=by
  rw[←Tb (n:=n) (fr:=fr) ha];exact Yl (fun v hv hx hy=>hz v hv hx (by simpa using hy)) (fun v _ hv=>by simp at hv;rw[hv];exact hXa)
 rcases Nat.lt_or_ge (sz n X) 2 with h1|h1
 ·have h0:Lam.spn (A.map E) X=0:=R9 (n:=n) (fun e he=>by
   obtain⟨k,hk,rfl⟩:=List.mem_map.1 he;exact h.ok k hk) (by omega)
  have:=Qj6 ha hXa;omega
 ·have:=hs X h1;omega
theorem Inv.second (h:Inv n E A fr cv) (hs:Bf n (A.map E)) {a b:Nat} (ha:a<n) (hb:b<n) (hab:a≠b) (h2:fr a=2) {X:Nat→Bool} (hX:Qg1 n E cv X) (hXa:X a=true) (hXb:X b=true)
  (hz:∀v,v<n→X v=true→v≠a→v≠b→fr v=0) (hlt:fr b<2):fr b=1∧D2 n (A.map E) X:=by
 have e1:=h.eq hX;have e2:Uu n fr X=fr a+fr b:=by
  rw[←O6 (n:=n) (fr:=fr) ha hb hab];refine Yl (fun v hv hx hy=>?_) (fun v _ hv=>?_)
  ·simp only[Fe,Bool.or_eq_false_iff,beq_eq_false_iff_ne]at hy;exact hz v hv hx hy.1 hy.2
  ·simp only[Fe,Bool.or_eq_true,beq_iff_eq]at hv;rcases hv with rfl | rfl<;>assumption
 have h3:=Xe ha hb hab hXa hXb;have:=hs X h3;exact⟨by omega,h3,by omega⟩
theorem Inv.four (h:Inv n E A fr cv) {a b:Nat} (ha:a<n) (hb:b<n) (hab:a≠b) (h4:fr a+fr b=4) (X:Nat→Bool) (hXa:X a=true) (hXb:X b=true):¬D2 n (A.map E) X:=by
 intro ht;have e1:=h.le X;have e2:Uu n fr (Fe a b)≤Uu n fr X:=Qid fun v _ hv=>by
  simp only[Fe,Bool.or_eq_true,beq_iff_eq]at hv;rcases hv with rfl | rfl<;>assumption
 rw[O6 ha hb hab]at e2;have:=ht.2;omega
end
end Go.Lam
end
section
namespace Go.Lam
def Cm (m:Nat):Nat→Bool:=fun v=>m.testBit v
theorem K2 (n:Nat) (X:Nat→Bool):∃m,m<2^n∧∀v,v<n→Cm m v=X v:=by
 induction n with
 |zero=>exact⟨0,by simp,fun v hv=>by omega⟩
 |succ n ih =>
  obtain⟨m,h1,h2⟩:=ih;cases hx:X n with
  |false =>
   refine⟨m,by rw[Nat.pow_succ];omega,fun v hv=>?_⟩;by_cases hvn:v=n
   ·subst hvn;rw[hx];exact Nat.testBit_lt_two_pow h1
   ·exact h2 v (by omega)
  |true =>
   refine⟨2^n+m,by rw[Nat.pow_succ];omega,fun v hv=>?_⟩;unfold Cm;by_cases hvn:v=n
   ·subst hvn;rw[hx,Nat.testBit_two_pow_add_eq,Nat.testBit_lt_two_pow h1];rfl
   ·rw[Nat.testBit_two_pow_add_gt (by omega)];exact h2 v (by omega)
def Mv (n:Nat) (L:List Ed):Bool:=(List.range (2^n)).all fun m=>!(decide (2≤sz n (Cm m))&&decide (2*sz n (Cm m)<spn L (Cm m)+3))
theorem Hy {n:Nat} {L:List Ed} (hL:∀e∈L,Dz n e):Mv n L=true↔Bf n L:=by
 unfold Mv;rw[List.all_eq_true];constructor
 ·intro h X hX;obtain⟨m,h1,h2⟩:=K2 n X;have h3:=h m (List.mem_range.2 h1);rw[Qbc h2,Vm hL h2]at h3;simp only[Bool.not_eq_true',Bool.and_eq_false_iff,decide_eq_false_iff_not]at h3;omega
 ·intro h m _;simp only[Bool.not_eq_true',Bool.and_eq_false_iff,decide_eq_false_iff_not];have:=h (Cm m);omega
def Jf (n:Nat) (E:Nat→Ed) (out:List Nat) (e:Nat):List Nat:=if Mv n ((out++[e]).map E)=true then out++[e] else out
def B8 (n:Nat) (E:Nat→Ed) (out s:List Nat):List Nat:=s.foldl (Jf n E) out
theorem Bf.nil (n:Nat):Bf n []:=fun X hX=>by simp[spn];omega
theorem Bf.append_left {n:Nat} {L M:List Ed} (h:Bf n (L++M)):Bf n L:=h.sub fun X=>by rw[Kb];omega
theorem Bf.sublist {n:Nat} {L M:List Ed} (h:L.Sublist M) (hs:Bf n M):Bf n L:=hs.sub fun _=>h.countP_le
section
variable {n:Nat} {E:Nat→Ed}
theorem Qa1 {out:List Nat} {e:Nat} (ho:∀k∈out,Dz n (E k)) (he:Dz n (E e)) (hs:Bf n (out.map E)):Bf n ((Jf n E out e).map E):=by
 unfold Jf;split
 ·rename_i h
  exact(Hy (by simp only[List.mem_map,List.mem_append,List.mem_singleton];rintro _ ⟨k,hk | rfl,rfl⟩;exact ho k hk;exact he)).1 h
 ·exact hs
theorem Zs {out:List Nat} {e k:Nat} (h:k∈Jf n E out e):k∈out∨k=e:=by
 unfold Jf at h;split at h
 ·simpa using h
 ·exact .inl h
theorem Qt (out:List Nat) (e:Nat) (s:List Nat):B8 n E out (e::s)=B8 n E (Jf n E out e) s:=rfl
theorem U5 (out s t:List Nat):B8 n E out (s++t)=B8 n E (B8 n E out s) t:=by simp[B8]
theorem Ns {k:Nat}:∀{s out:List Nat},k∈B8 n E out s→k∈out∨k∈s
 |[],_,h=>.inl h
 |e::s,out,h=>by
  rcases Ns (s:=s) h with h1|h1
  ·rcases Zs h1 with h2|h2
   ·exact .inl h2
   ·exact .inr (by simp[h2])
  ·exact .inr (by simp[h1])
theorem Gz:∀{s out:List Nat},(∀k∈out,Dz n (E k))→(∀k∈s,Dz n (E k))→Bf n (out.map E)→Bf n ((B8 n E out s).map E)
 |[],_,_,_,h=>h
 |e::s,out,ho,hs,h=>Gz (s:=s) (fun k hk=>by
   rcases Zs hk with h2|h2
   ·exact ho k h2
   ·rw[h2];exact hs e (by simp)) (fun k hk=>hs k (by simp[hk])) (Qa1 ho (hs e (by simp)) h)
theorem Ni:∀(s out:List Nat),∃t,t.Sublist s∧B8 n E out s=out++t
 |[],out=>⟨[],.slnil,by simp[B8]⟩
 |e::s,out=>by
  obtain⟨t,h1,h2⟩:=Ni s (Jf n E out e);rw[Qt,h2];unfold Jf;split
  ·exact⟨e::t,h1.cons₂ e,by simp⟩
  ·exact⟨t,h1.cons e,rfl⟩
theorem T1:∀{s out:List Nat},(∀k∈out,Dz n (E k))→(∀k∈s,Dz n (E k))→Bf n ((out++s).map E)→B8 n E out s=out++s
 |[],out,_,_,_=>by simp[B8]
 |e::s,out,ho,hs,h=>by
  have h1:Jf n E out e=out++[e]:=by
   unfold Jf;rw[if_pos];refine(Hy ?_).2 ?_
   ·simp only[List.mem_map,List.mem_append,List.mem_singleton];rintro _ ⟨k,hk | rfl,rfl⟩;exact ho k hk;exact hs _ (by simp)
   ·have:(out++e::s).map E=(out++[e]).map E++s.map E:=by simp
    rw[this]at h;exact h.append_left
  rw[Qt,h1,T1 (s:=s)]
  ·simp
  ·intro k hk;simp only[List.mem_append,List.mem_singleton]at hk;rcases hk with hk | rfl
   ·exact ho k hk
   ·exact hs _ (by simp)
  ·exact fun k hk=>hs k (by simp[hk])
  ·simpa using h
theorem Gm (s out:List Nat):(B8 n E out s).length≤out.length+s.length:=by
 obtain⟨t,h1,h2⟩:=Ni (n:=n) (E:=E) s out;rw[h2,List.length_append];have:=h1.length_le;omega
theorem Z6 {s:List Nat} (hs:∀k∈s,Dz n (E k)):(B8 n E [] s).length=s.length↔Mv n (s.map E)=true:=by
 have hL:∀e∈s.map E,Dz n e:=by simp only[List.mem_map];rintro _ ⟨k,hk,rfl⟩;exact hs k hk
 constructor
 ·intro h;obtain⟨t,h1,h2⟩:=Ni (n:=n) (E:=E) s [];rw[h2]at h;have h3:t=s:=h1.eq_of_length (by simpa using h);have h4:=Gz (n:=n) (E:=E) (s:=s) (out:=[]) (by simp) hs (Bf.nil n);rw[h2,h3]at h4;exact(Hy hL).2 (by simpa using h4)
 ·intro h;rw[T1 (by simp) hs (by simpa using(Hy hL).1 h)];simp
end
end Go.Lam
end
section
namespace Go.Lam
def Qdg (n:Nat) (L:List Ed) (m:Nat):Bool:=decide (2≤sz n (Cm m))&&decide (spn L (Cm m)+3=2*sz n (Cm m))
theorem Qdv {n:Nat} {L:List Ed} {m:Nat}:Qdg n L m=true↔D2 n L (Cm m):=by simp[Qdg,D2]
def Le (n:Nat) (L:List Ed):List Nat:=(List.range (2^n)).filter (Qdg n L)
def blocks (n:Nat) (L:List Ed):List Nat:=(Le n L).filter fun m=>(Le n L).all fun k=>k==m || k &&& m != m
theorem D2.congr {n:Nat} {L:List Ed} (hL:∀e∈L,Dz n e) {X Y:Nat→Bool} (h:∀v,v<n→X v=Y v) (ht:D2 n L X):D2 n L Y:=by
 unfold D2 at *;rw[←Qbc h,←Vm hL h];exact ht
theorem Qki {m k:Nat}:k &&& m=m↔∀v,Cm m v=true→Cm k v=true:=by
 constructor
 ·intro h v hv;rw[←h]at hv;unfold Cm at *;rw[Nat.testBit_and]at hv;simp at hv;exact hv.1
 ·intro h;refine Nat.eq_of_testBit_eq fun v=>?_;rw[Nat.testBit_and];have:=h v;unfold Cm at this;cases h1:m.testBit v<;>cases h2:k.testBit v<;>simp_all
theorem Qmw {n m:Nat} (h:m<2^n) {v:Nat} (hv:Cm m v=true):v<n:=by
 rcases Nat.lt_or_ge v n with h1|h1
 ·exact h1
 ·unfold Cm at hv;rw[Nat.testBit_lt_two_pow (Nat.lt_of_lt_of_le h (Nat.pow_le_pow_right (by omega) h1))]at hv;cases hv
theorem Uh {n m k:Nat} (hm:m<2^n) (hk:k<2^n) (h:∀v,v<n→Cm m v=Cm k v):m=k:=Nat.eq_of_testBit_eq fun v=>by
 rcases Nat.lt_or_ge v n with h1|h1
 ·exact h v h1
 ·rw[Nat.testBit_lt_two_pow (Nat.lt_of_lt_of_le hm (Nat.pow_le_pow_right (by omega) h1)),Nat.testBit_lt_two_pow (Nat.lt_of_lt_of_le hk (Nat.pow_le_pow_right (by omega) h1))]
theorem Qc0 (m k:Nat):Cm (m ||| k)=uni (Cm m) (Cm k):=by funext v;simp[Cm,uni,Nat.testBit_or]
section
variable {n:Nat} {L:List Ed}
theorem Ch {m:Nat}:m∈Le n L↔m<2^n∧D2 n L (Cm m):=by simp[Le,Qdv]
theorem Df {m:Nat}:m∈blocks n L↔m∈Le n L∧∀k∈Le n L,(∀v,Cm m v=true→Cm k v=true)→k=m:=by
 unfold blocks;rw[List.mem_filter,List.all_eq_true];refine and_congr_right fun _=>forall_congr' fun k=>forall_congr' fun _=>?_;rw[←Qki];by_cases h1:k=m
 ·simp[h1]
 ·by_cases h2:k &&& m=m<;>simp[h1,h2]
theorem Jh (hL:∀e∈L,Dz n e) {X:Nat→Bool} (h:D2 n L X):∃m∈blocks n L,∀v,v<n→X v=true→Cm m v=true:=by
 suffices H:∀d,∀X,n≤sz n X+d→D2 n L X→∃m∈blocks n L,∀v,v<n→X v=true→Cm m v=true from H n X (by omega) h
 intro d
 induction d with
 |zero =>
  intro X hd hX;obtain⟨m,h1,h2⟩:=K2 n X;have ht:D2 n L (Cm m):=hX.congr hL fun v hv=>(h2 v hv).symm;refine⟨m,Df.2 ⟨Ch.2 ⟨h1,ht⟩,fun k hk hs=>?_⟩,fun v hv hx=>by rw[h2 v hv];exact hx⟩;have full:∀v,v<n→X v=true:=fun v hv=>by
   rcases Bool.eq_false_or_eq_true (X v)with h3|h3
   ·exact h3
   ·have a1:=Qed n X (fun w=>w==v);rw[Mf n v hv]at a1;have a2:sz n (cap X fun w=>w==v)=0:=List.countP_eq_zero.2 fun w _=>by
     simp only[cap,Bool.and_eq_true,beq_iff_eq];rintro⟨h4,rfl⟩;rw[h3]at h4;cases h4
    have:=Qn2 n (uni X fun w=>w==v);omega
  exact Uh (Ch.1 hk).1 h1 fun v hv=>by
   have:=hs v (by rw[h2 v hv];exact full v hv);rw[this,h2 v hv,full v hv]
 |succ d ih =>
  intro X hd hX;obtain⟨m,h1,h2⟩:=K2 n X;have ht:D2 n L (Cm m):=hX.congr hL fun v hv=>(h2 v hv).symm;by_cases hm:m∈blocks n L
  ·exact⟨m,hm,fun v hv hx=>by rw[h2 v hv];exact hx⟩
  ·rw[Df]at hm;have hm':¬∀k∈Le n L,(∀v,Cm m v=true→Cm k v=true)→k=m:=fun hc=>hm ⟨Ch.2 ⟨h1,ht⟩,hc⟩;have ⟨k,hk⟩:=Classical.not_forall.1 hm';have ⟨hk1,hk2⟩:=Classical.not_imp.1 hk;have ⟨hk3,hk4⟩:=Classical.not_imp.1 hk2;obtain⟨hk5,hk6⟩:=Ch.1 hk1;have hlt:sz n X<sz n (Cm k):=by
    have a1:sz n X≤sz n (Cm k):=W5 fun v hv hx=>hk3 v (by rw[h2 v hv];exact hx);rcases Nat.lt_or_ge (sz n X) (sz n (Cm k))with h3 | h3
    ·exact h3
    ·exfalso
     refine hk4 (Uh hk5 h1 fun v hv=>?_);rw[h2 v hv];cases hb:Cm k v with
     |false =>
      cases hx:X v with
      |false=>rfl
      |true=>rw[hk3 v (by rw[h2 v hv];exact hx)]at hb;cases hb
     |true =>
      cases hx:X v with
      |true=>rfl
      |false =>
       have b1:=Qed n X (fun w=>w==v);rw[Mf n v hv]at b1;have b2:sz n (cap X fun w=>w==v)=0:=List.countP_eq_zero.2 fun w _=>by
        simp only[cap,Bool.and_eq_true,beq_iff_eq];rintro⟨h4,rfl⟩;rw[hx]at h4;cases h4
       have b3:sz n (uni X fun w=>w==v)≤sz n (Cm k):=W5 fun w hw h5=>by
        simp only[uni,Bool.or_eq_true,beq_iff_eq]at h5;rcases h5 with h5 | rfl
        ·exact hk3 w (by rw[h2 w hw];exact h5)
        ·exact hb
       omega
   obtain⟨m',h3,h4⟩:=ih (Cm k) (by omega) hk6;exact⟨m',h3,fun v hv hx=>h4 v hv (hk3 v (by rw[h2 v hv];exact hx))⟩
theorem O3 (hs:Bf n L) {m k:Nat} (hm:m∈blocks n L) (hk:k∈blocks n L) (h:2≤sz n (cap (Cm m) (Cm k))):m=k:=by
 obtain⟨hm1,hm2⟩:=Df.1 hm;obtain⟨hk1,hk2⟩:=Df.1 hk;have hu:=(Qjj hs (Ch.1 hm1).2 (Ch.1 hk1).2 h).1;rw[←Qc0]at hu;have hlt:m ||| k<2^n:=Nat.or_lt_two_pow (Ch.1 hm1).1 (Ch.1 hk1).1;have e1:=hm2 _ (Ch.2 ⟨hlt,hu⟩) (fun v hv=>by rw[Qc0];simp[uni,hv]);have e2:=hk2 _ (Ch.2 ⟨hlt,hu⟩) (fun v hv=>by rw[Qc0];simp[uni,hv]);exact e1.symm.trans e2
theorem Hs:(blocks n L).Nodup:=(List.nodup_range.filter _).filter _
theorem Kf (hL:∀e∈L,Dz n e) (hs:Bf n L) {e:Ed} (he:e∈L):D2 n L (Fe e.1 e.2):=by
 obtain⟨h1,h2,h3⟩:=hL e he;have h4:sz n (Fe e.1 e.2)=2:=Qex h1 h2 h3;refine⟨by omega,?_⟩;have:=hs _ (Nat.le_of_eq h4.symm);have h5:0<spn L (Fe e.1 e.2):=List.countP_pos_iff.2 ⟨e,he,by simp[ins,Fe]⟩;omega
theorem Ty {α β:Type} (p:α→β→Bool) (J:List β):∀l:List α,(l.map fun m=>J.countP (p m)).sum=(J.map fun e=>l.countP fun m=>p m e).sum
 |[]=>by
  simp only[List.map_nil,List.sum_nil,List.countP_nil]
  induction J with
  |nil=>rfl
  |cons a J ih=>rw[List.map_cons,List.sum_cons,←ih];rfl
 |a::l=>by
  rw[List.map_cons,List.sum_cons,Ty p J l]
  induction J with
  |nil=>rfl
  |cons b J ih=>simp only[List.countP_cons,List.map_cons,List.sum_cons]at *;omega
theorem Mw {α:Type} {p:α→Bool}:∀{l:List α},l.Nodup→(∀a∈l,∀b∈l,p a=true→p b=true→a=b)→l.countP p≤1
 |[],_,_=>by simp
 |a::l,hn,h=>by
  rw[List.nodup_cons]at hn;rw[List.countP_cons];cases hp:p a with
  |false=>simp;exact Mw hn.2 fun x hx y hy=>h x (by simp[hx]) y (by simp[hy])
  |true =>
   have:l.countP p=0:=List.countP_eq_zero.2 fun b hb hpb=>hn.1 (by rw[h a (by simp) b (by simp[hb]) hp hpb];exact hb);simp[this]
theorem J1 {α:Type} {f g:α→Nat}:∀{l:List α},(∀a∈l,f a≤g a)→(l.map f).sum≤(l.map g).sum
 |[],_=>by simp
 |a::l,h=>by
  have:=h a (by simp);have:=J1 (l:=l) fun b hb=>h b (by simp[hb]);simp;omega
theorem Ry {α:Type}:∀l:List α,(l.map fun _=>1).sum=l.length
 |[]=>rfl
 |a::l=>by rw[List.map_cons,List.sum_cons,Ry l,List.length_cons];omega
theorem Qgg (hs:Bf n L) {e:Ed} (he:Dz n e):(blocks n L).countP (fun m=>ins (Cm m) e)≤1 :=
 Mw Hs fun m hm k hk h1 h2=>by
  simp only[ins,Bool.and_eq_true]at h1 h2;exact O3 hs hm hk (Xe he.1 he.2.1 he.2.2 (by simp only[cap];rw[h1.1,h2.1];rfl) (by simp only[cap];rw[h1.2,h2.2];rfl))
theorem Ue (hL:∀e∈L,Dz n e) (hs:Bf n L):((blocks n L).map fun m=>2*sz n (Cm m)-3).sum=L.length:=by
 have e1:((blocks n L).map fun m=>2*sz n (Cm m)-3)=(blocks n L).map fun m=>L.countP (ins (Cm m)):=List.map_congr_left fun m hm=>by
  have:=(Ch.1 (Df.1 hm).1).2.2;unfold spn at this;omega
 rw[e1,Ty (fun m e=>ins (Cm m) e) L,←Ry L]
 congr 1
 refine List.map_congr_left fun e he=>Nat.le_antisymm (Qgg hs (hL e he)) ?_;obtain⟨m,h1,h2⟩:=Jh hL (Kf hL hs he);refine List.countP_pos_iff.2 ⟨m,h1,?_⟩;obtain⟨h3,h4,_⟩:=hL e he;simp only[ins,Bool.and_eq_true];exact⟨h2 _ h3 (by simp[Fe]),h2 _ h4 (by simp[Fe])⟩
theorem Qw6 (hL:∀e∈L,Dz n e) (hs:Bf n L) {J:List Ed} (hJ:∀e∈J,Dz n e) (hj:Bf n J) (h:∀e∈J,∃X,D2 n L X∧ins X e=true):J.length≤L.length:=by
 rw[←Ue hL hs,←Ry J];refine Nat.le_trans (J1 (g:=fun e=>(blocks n L).countP fun m=>ins (Cm m) e) fun e he=>?_) ?_
 ·obtain⟨X,hX,hi⟩:=h e he;obtain⟨m,h1,h2⟩:=Jh hL hX;obtain⟨h3,h4,_⟩:=hJ e he;simp only[ins,Bool.and_eq_true]at hi;exact List.countP_pos_iff.2 ⟨m,h1,by simp only[ins,Bool.and_eq_true];exact⟨h2 _ h3 hi.1,h2 _ h4 hi.2⟩⟩
 ·rw[←Ty (fun m e=>ins (Cm m) e) J];refine J1 fun m hm=>?_;have:=hj _ (Ch.1 (Df.1 hm).1).2.1;unfold spn at this;show J.countP (ins (Cm m))≤_
  omega
end
end Go.Lam
end
section
namespace Go.Lam
def Fd {α:Type} (f:Nat→α) (i:Nat) (x:α):Nat→α:=fun v=>if v=i then x else f v
@[simp] theorem Eg {α:Type} (f:Nat→α) (i:Nat) (x:α):Fd f i x i=x:=by simp[Fd]
theorem Bn {α:Type} (f:Nat→α) {i v:Nat} (x:α) (h:v≠i):Fd f i x v=f v:=by simp[Fd,h]
theorem Nk (n:Nat) (cv:Nat→List Nat) (x:Nat):((List.range n).flatMap cv).count x=sm n fun v=>(cv v).count x:=by
 rw[List.count_flatMap];rfl
theorem Ua {l:List Nat} {k e:Nat} (h:l[k]?=some e) (x:Nat):(l.eraseIdx k).count x+(if x=e then 1 else 0)=l.count x:=by
 induction l generalizing k with
 |nil=>simp at h
 |cons a l ih =>
  cases k with
  |zero =>
   simp at h;subst h;simp only[List.eraseIdx_zero,List.tail_cons,List.count_cons];by_cases hx:x=a
   ·simp[hx]
   ·simp[hx,Ne.symm hx]
  |succ k=>simp only[List.eraseIdx_cons_succ,List.count_cons]at *;have:=ih (by simpa using h);omega
section
variable {n:Nat} {E:Nat→Ed} {A:List Nat} {fr:Nat→Nat} {cv:Nat→List Nat}
theorem Inv.move (h:Inv n E A fr cv) {j k e:Nat} (hj:j<n) (hk:(cv j)[k]?=some e) (hf:0<fr (Gh E e j)) :
  Inv n E A (Fd (Fd fr (Gh E e j) (fr (Gh E e j)-1)) j (fr j+1)) (Fd (Fd cv (Gh E e j) (cv (Gh E e j)++[e])) j ((cv j).eraseIdx k)):=by
 have hm:e∈cv j:=List.mem_of_getElem? hk;obtain⟨hl,hne⟩:=h.oth_lt hj hm;refine⟨fun v hv=>?_,?_,fun v hv x hx=>?_,h.ok⟩
 ·by_cases h1:v=j
  ·subst h1;have:=h.two v hv;have hlt:=(List.getElem?_eq_some_iff.1 hk).1;simp only[Eg,List.length_eraseIdx,hlt,if_true];omega
  ·rw[Bn _ _ h1,Bn _ _ h1];by_cases h2:v=Gh E e j
   ·subst h2;have:=h.two _ hv;simp only[Eg,List.length_append,List.length_cons,List.length_nil];omega
   ·rw[Bn _ _ h2,Bn _ _ h2];exact h.two v hv
 ·refine List.Perm.trans (List.perm_iff_count.2 fun x=>?_) h.perm;rw[Nk,Nk];have key:sm n (fun v=>(Fd (Fd cv (Gh E e j) (cv (Gh E e j)++[e])) j ((cv j).eraseIdx k) v).count x+if v=j then (if x=e then 1 else 0) else 0)=sm n (fun v=>(cv v).count x+if v=Gh E e j then (if x=e then 1 else 0) else 0):=H9 fun v hv=>by
   by_cases h1:v=j
   ·subst h1;rw[Eg,if_pos rfl,if_neg (Ne.symm hne),Ua hk x];rfl
   ·rw[Bn _ _ h1,if_neg h1];by_cases h2:v=Gh E e j
    ·subst h2;rw[Eg,if_pos rfl,List.count_append,List.count_singleton];by_cases hx:x=e
     ·simp[hx]
     ·simp[hx,Ne.symm hx]
    ·rw[Bn _ _ h2,if_neg h2]
  rw[Ko,Ko,Nv hj,Nv hl]at key;omega
 ·by_cases h1:v=j
  ·subst h1;rw[Eg]at hx;exact h.ends v hv x (List.mem_of_mem_eraseIdx hx)
  ·rw[Bn _ _ h1]at hx;by_cases h2:v=Gh E e j
   ·subst h2;rw[Eg,List.mem_append,List.mem_singleton]at hx;rcases hx with hx | rfl
    ·exact h.ends _ hv x hx
    ·unfold Gh;rcases h.ends j hj x hm with h3 | h3
     ·right;omega
     ·left;omega
   ·rw[Bn _ _ h2]at hx;exact h.ends v hv x hx
theorem Inv.lay (h:Inv n E A fr cv) {a e:Nat} (ha:(E e).1=a) (he:Dz n (E e)) (hf:0<fr a):Inv n E (A++[e]) (Fd fr a (fr a-1)) (Fd cv a (cv a++[e])):=by
 have hl:a<n:=ha ▸ he.1;refine⟨fun v hv=>?_,?_,fun v hv x hx=>?_,fun x hx=>?_⟩
 ·by_cases h1:v=a
  ·subst h1;have:=h.two v hv;simp only[Eg,List.length_append,List.length_cons,List.length_nil];omega
  ·rw[Bn _ _ h1,Bn _ _ h1];exact h.two v hv
 ·refine List.perm_iff_count.2 fun x=>?_;have h1:=List.perm_iff_count.1 h.perm x;rw[Nk]at h1 ⊢;rw[List.count_append,←h1];have key:sm n (fun v=>(Fd cv a (cv a++[e]) v).count x)=sm n (fun v=>(cv v).count x+if v=a then [e].count x else 0):=H9 fun v _=>by
   by_cases h2:v=a
   ·subst h2;rw[Eg,if_pos rfl,List.count_append]
   ·rw[Bn _ _ h2,if_neg h2];rfl
  rw[key,Ko,Nv hl]
 ·by_cases h1:v=a
  ·subst h1;rw[Eg,List.mem_append,List.mem_singleton]at hx;rcases hx with hx | rfl
   ·exact h.ends _ hv x hx
   ·exact .inl ha
  ·rw[Bn _ _ h1]at hx;exact h.ends v hv x hx
 ·rw[List.mem_append,List.mem_singleton]at hx;rcases hx with hx | rfl
  ·exact h.ok x hx
  ·exact he
theorem Inv.start (n:Nat) (E:Nat→Ed):Inv n E [] (fun _=>2) (fun _=>[]):=⟨fun _ _=>rfl,by simp,fun _ _ _ h=>by simp at h,fun _ h=>by simp at h⟩
structure Kt (n:Nat) (E:Nat→Ed) (fr:Nat→Nat) (cv:Nat→List Nat) (S T:Nat→Bool):Prop where
 sub:∀v,S v=true→T v=true
 zero:∀v,v<n→S v=false→T v=true→fr v=0
 shut:∀v,v<n→S v=false→T v=true→∀e∈cv v,T (Gh E e v)=true
theorem Kt.refl (S:Nat→Bool):Kt n E fr cv S S:=⟨fun _ h=>h,fun v _ h h'=>(by rw[h]at h';cases h'),fun v _ h h'=>(by rw[h]at h';cases h')⟩
theorem Kt.step {S T T':Nat→Bool} {m:Nat} (h:Kt n E fr cv S T) (hm:fr m=0) (h':Kt n E fr cv (Fd T m true) T') (hs:∀e∈cv m,T' (Gh E e m)=true):Kt n E fr cv S T' where
 sub:=fun v hv=>h'.sub v (by unfold Fd;split;rfl;exact h.sub v hv)
 zero:=fun v hv h1 h2=>by
  by_cases hvm:v=m
  ·subst hvm;exact hm
  ·cases hT:T v with
   |true=>exact h.zero v hv h1 hT
   |false=>exact h'.zero v hv (by rw[Bn _ _ hvm];exact hT) h2
 shut:=fun v hv h1 h2 e he=>by
  by_cases hvm:v=m
  ·subst hvm;exact hs e he
  ·cases hT:T v with
   |true =>
    have h3:=h.shut v hv h1 hT e he;exact h'.sub _ (by unfold Fd;split;rfl;exact h3)
   |false=>exact h'.shut v hv (by rw[Bn _ _ hvm];exact hT) h2 e he
structure Got (n:Nat) (E:Nat→Ed) (A:List Nat) (S:Nat→Bool) (j:Nat) (fr:Nat→Nat) (cv:Nat→List Nat) (fr':Nat→Nat) (cv':Nat→List Nat):Prop where
 inv:Inv n E A fr' cv'
 plus:fr' j=fr j+1
 free:∀v,v<n→S v=true→v≠j→fr' v=fr v
 cover:∀v,v<n→S v=true→v≠j→cv' v=cv v
theorem Got.direct (h:Inv n E A fr cv) {S:Nat→Bool} {j k e:Nat} (hj:j<n) (hk:(cv j)[k]?=some e) (hS:S (Gh E e j)=false) (hf:0<fr (Gh E e j)) :
  Got n E A S j fr cv (Fd (Fd fr (Gh E e j) (fr (Gh E e j)-1)) j (fr j+1)) (Fd (Fd cv (Gh E e j) (cv (Gh E e j)++[e])) j ((cv j).eraseIdx k)) where
 inv:=h.move hj hk hf
 plus:=by simp
 free:=fun v _ hv hvj=>by rw[Bn _ _ hvj,Bn _ _ (fun e'=>by rw[e',hS]at hv;cases hv)]
 cover:=fun v _ hv hvj=>by rw[Bn _ _ hvj,Bn _ _ (fun e'=>by rw[e',hS]at hv;cases hv)]
theorem Got.through {S T:Nat→Bool} {fr':Nat→Nat} {cv':Nat→List Nat} {j k e:Nat} (hsub:∀v,S v=true→T v=true) (hj:j<n) (hSj:S j=true) (hk:(cv j)[k]?=some e) (hS:T (Gh E e j)=false)
  (hne:Gh E e j≠j) (g:Got n E A (Fd T (Gh E e j) true) (Gh E e j) fr cv fr' cv') :
  Got n E A S j fr cv (Fd (Fd fr' (Gh E e j) (fr' (Gh E e j)-1)) j (fr' j+1)) (Fd (Fd cv' (Gh E e j) (cv' (Gh E e j)++[e])) j ((cv' j).eraseIdx k)):=by
 have hin:∀v,S v=true→Fd T (Gh E e j) true v=true:=fun v hv=>by unfold Fd;split;rfl;exact hsub v hv
 have hcj:cv' j=cv j:=g.cover j hj (hin j hSj) (Ne.symm hne);have hfj:fr' j=fr j:=g.free j hj (hin j hSj) (Ne.symm hne);have hno:∀v,S v=true→v≠Gh E e j:=fun v hv e'=>by rw[e']at hv;rw[hsub _ hv]at hS;cases hS
 refine⟨g.inv.move hj (by rw[hcj];exact hk) (by rw[g.plus];omega),by simp[hfj],fun v hv h1 h2=>?_,fun v hv h1 h2=>?_⟩
 ·rw[Bn _ _ h2,Bn _ _ (hno v h1)];exact g.free v hv (hin v h1) (hno v h1)
 ·rw[Bn _ _ h2,Bn _ _ (hno v h1)];exact g.cover v hv (hin v h1) (hno v h1)
end
end Go.Lam
end
section
namespace Go.Lam
def Js (n m:Nat):List Nat:=(List.range n).filter (Cm m)
def Bw:List Nat→List Nat→Bool
 |[],[]=>false
 |[],_::_=>true
 |_::_,[]=>false
 |a::l,b::m=>if a=b then Bw l m else decide (a<b)
theorem H7:∀l:List Nat,Bw l l=false
 |[]=>rfl
 |a::l=>by simp[Bw,H7 l]
theorem Gf:∀{a b c:List Nat},Bw a b=true→Bw b c=true→Bw a c=true
 |[],[],_,h,_=>by simp[Bw]at h
 |[],_::_,[],_,h=>by simp[Bw]at h
 |[],_::_,_::_,_,_=>rfl
 |_::_,[],_,h,_=>by simp[Bw]at h
 |_::_,_::_,[],_,h=>by simp[Bw]at h
 |x::a,y::b,z::c,h1,h2=>by
  unfold Bw at *;by_cases e1:x=y
  ·subst e1;rw[if_pos rfl]at h1;by_cases e2:x=z
   ·subst e2;rw[if_pos rfl]at h2 ⊢;exact Gf h1 h2
   ·rw[if_neg e2]at h2 ⊢;exact h2
  ·rw[if_neg e1]at h1;by_cases e2:y=z
   ·subst e2;rw[if_neg e1];exact h1
   ·rw[if_neg e2]at h2;simp only[decide_eq_true_eq]at h1 h2;rw[if_neg (by omega)];simp only[decide_eq_true_eq];omega
theorem Hm:∀(a b:List Nat),a=b∨Bw a b=true∨Bw b a=true
 |[],[]=>.inl rfl
 |[],_::_=>.inr (.inl rfl)
 |_::_,[]=>.inr (.inr rfl)
 |x::a,y::b=>by
  unfold Bw;by_cases e:x=y
  ·subst e;rcases Hm a b with h | h | h
   ·exact .inl (by rw[h])
   ·exact .inr (.inl (by rw[if_pos rfl];exact h))
   ·exact .inr (.inr (by rw[if_pos rfl];exact h))
  ·rw[if_neg e,if_neg (Ne.symm e)];simp only[decide_eq_true_eq];omega
def Asc (l:List (List Nat)):Prop:=l.Pairwise fun x y=>Bw x y=true
theorem Asc.eq:∀{l m:List (List Nat)},Asc l→Asc m→(∀x,x∈l↔x∈m)→l=m
 |[],[],_,_,_=>rfl
 |[],y::m,_,_,h=>by have:=(h y).2 (by simp);simp at this
 |x::l,[],_,_,h=>by have:=(h x).1 (by simp);simp at this
 |x::l,y::m,hl,hm,h=>by
  obtain⟨hl1,hl2⟩:=List.pairwise_cons.1 hl;obtain⟨hm1,hm2⟩:=List.pairwise_cons.1 hm;have hxy:x=y:=by
   rcases List.mem_cons.1 ((h x).1 (by simp))with h1|h1
   ·exact h1
   ·rcases List.mem_cons.1 ((h y).2 (by simp))with h2|h2
    ·exact h2.symm
    ·have:=Gf (hl1 y h2) (hm1 x h1);rw[H7]at this;cases this
  subst hxy;rw[Asc.eq hl2 hm2 fun z=>?_];constructor
  ·intro hz;rcases List.mem_cons.1 ((h z).1 (by simp[hz]))with rfl | h1
   ·have:=hl1 z hz;rw[H7]at this;cases this
   ·exact h1
  ·intro hz;rcases List.mem_cons.1 ((h z).2 (by simp[hz]))with rfl | h1
   ·have:=hm1 z hz;rw[H7]at this;cases this
   ·exact h1
theorem Asc.of_sorted {l:List (List Nat)} (hn:l.Nodup) (h:l.Pairwise fun x y=>Bw y x=false):Asc l:=by
 have:=hn.and h;exact this.imp fun {a b} ⟨h1,h2⟩=>by
  rcases Hm a b with h3|h3|h3
  ·exact absurd h3 h1
  ·exact h3
  ·rw[h2]at h3;cases h3
def Nh:List (List Nat)→List Nat→List (List Nat)
 |[],x=>[x]
 |y::l,x=>if Bw x y=true then x::y::l else y::Nh l x
theorem Kx {x z:List Nat}:∀{l:List (List Nat)},z∈Nh l x↔z=x∨z∈l
 |[]=>by simp[Nh]
 |y::l=>by
  unfold Nh;split
  ·simp
  ·simp only[List.mem_cons,Kx (l:=l)];constructor
   ·rintro(h|h|h)<;>simp[h]
   ·rintro(h|h|h)<;>simp[h]
theorem Y8 {x:List Nat}:∀{l:List (List Nat)},Asc l→x ∉ l→Asc (Nh l x)
 |[],_,_=>by simp[Nh,Asc]
 |y::l,h,hx=>by
  obtain⟨h1,h2⟩:=List.pairwise_cons.1 h;unfold Nh;split
  ·rename_i hb
   refine List.pairwise_cons.2 ⟨fun z hz=>?_,h⟩;rcases List.mem_cons.1 hz with rfl | hz
   ·exact hb
   ·exact Gf hb (h1 z hz)
  ·rename_i hb
   simp only[List.mem_cons,not_or]at hx;refine List.pairwise_cons.2 ⟨fun z hz=>?_,Y8 h2 hx.2⟩;rcases Kx.1 hz with rfl | hz
   ·rcases Hm z y with h3|h3|h3
    ·exact absurd h3 hx.1
    ·exact absurd h3 hb
    ·exact h3
   ·exact h1 z hz
theorem N3 {α:Type} (f:α→List Nat):∀(s:List α) (o:List (List Nat)),Asc o→(s.map f).Nodup→(∀a∈s,f a ∉ o)→Asc (s.foldl (fun o a=>Nh o (f a)) o)∧∀z,z∈s.foldl (fun o a=>Nh o (f a)) o↔z∈o∨z∈s.map f
 |[],o,h,_,_=>⟨h,by simp⟩
 |a::s,o,h,hn,hx=>by
  rw[List.map_cons,List.nodup_cons]at hn;have:=N3 f s (Nh o (f a)) (Y8 h (hx a (by simp))) hn.2 fun b hb hc=>by
   rcases Kx.1 hc with h1|h1
   ·exact hn.1 (by rw[←h1];exact List.mem_map.2 ⟨b,hb,rfl⟩)
   ·exact hx b (by simp[hb]) h1
  refine⟨this.1,fun z=>?_⟩;rw[List.foldl_cons,this.2 z,Kx,List.map_cons,List.mem_cons];constructor
  ·rintro((h|h)|h)<;>simp[h]
  ·rintro(h|h|h)<;>simp[h]
def B2 (L:List Ed) (j:Nat):Bool:=L.all fun e=>!(e.1==j || e.2==j)
def Fc (j:Nat):List Nat:=[j]
def P7 (n:Nat) (L:List Ed):List (List Nat):=((List.range n).filter (B2 L)).foldl (fun o j=>Nh o (Fc j)) ((blocks n L).foldl (fun o m=>Nh o (Js n m)) [])
theorem Vy {n m v:Nat}:v∈Js n m↔v<n∧Cm m v=true:=by simp[Js]
theorem J3 (n m:Nat):(Js n m).length=sz n (Cm m):=by simp[Js,sz,List.countP_eq_length_filter]
theorem Ws {n m k:Nat} (hm:m<2^n) (hk:k<2^n) (h:Js n m=Js n k):m=k:=Uh hm hk fun v hv=>by
 have h1:v∈Js n m↔v∈Js n k:=by rw[h]
 rw[Vy,Vy]at h1;cases h2:Cm m v<;>cases h3:Cm k v<;>simp_all
section
variable {n:Nat} {L:List Ed}
theorem Lu {m:Nat} (h:m∈blocks n L):m<2^n:=(Ch.1 (Df.1 h).1).1
theorem Fy {m:Nat} (h:m∈blocks n L):D2 n L (Cm m):=(Ch.1 (Df.1 h).1).2
theorem E7 {α β:Type} {f:α→β}:∀{l:List α},(∀x∈l,∀y∈l,f x=f y→x=y)→l.Nodup→(l.map f).Nodup
 |[],_,_=>by simp
 |a::l,h,hn=>by
  rw[List.nodup_cons]at hn;rw[List.map_cons,List.nodup_cons];refine⟨fun hc=>?_,E7 (fun x hx y hy=>h x (by simp[hx]) y (by simp[hy])) hn.2⟩;obtain⟨b,hb,e⟩:=List.mem_map.1 hc;rw[h b (by simp[hb]) a (by simp) e]at hb;exact hn.1 hb
theorem Nt:Asc (P7 n L)∧∀z,z∈P7 n L↔(∃m∈blocks n L,z=Js n m)∨∃j,j<n∧B2 L j=true∧z=[j]:=by
 have h1:=N3 (Js n) (blocks n L) [] (by simp[Asc]) (E7 (fun x hx y hy=>Ws (Lu hx) (Lu hy)) Hs) (by simp);have h2:=N3 Fc ((List.range n).filter (B2 L)) _ h1.1 (E7 (fun x _ y _ h=>by simpa[Fc]using h) (List.nodup_range.filter _)) (fun j _ hc=>by
  rcases(h1.2 _).1 hc with h3|h3
  ·simp at h3
  ·obtain⟨m,hm,e⟩:=List.mem_map.1 h3;have h4:=J3 n m;rw[e]at h4;have:=(Fy hm).1;simp[Fc]at h4;omega)
 refine⟨h2.1,fun z=>?_⟩;unfold P7;rw[h2.2 z,h1.2 z];simp only[List.not_mem_nil,false_or,List.mem_map,List.mem_filter,List.mem_range,Fc];constructor
 ·rintro(⟨m,hm,rfl⟩|⟨j,⟨hj,ha⟩,rfl⟩)
  ·exact .inl ⟨m,hm,rfl⟩
  ·exact .inr ⟨j,hj,ha,rfl⟩
 ·rintro(⟨m,hm,rfl⟩|⟨j,hj,ha,rfl⟩)
  ·exact .inl ⟨m,hm,rfl⟩
  ·exact .inr ⟨j,⟨hj,ha⟩,rfl⟩
def Hg (n:Nat) (L:List Ed) (e:Ed) (j:Nat):Bool:=(Le n L).any fun m=>ins (Cm m) e&&Cm m j
theorem Je (hL:∀e∈L,Dz n e) {e:Ed} {j:Nat} (hj:j<n) (he:Dz n e):Hg n L e j=true↔∃X,D2 n L X∧ins X e=true∧X j=true:=by
 unfold Hg;rw[List.any_eq_true];constructor
 ·rintro⟨m,hm,h⟩;rw[Bool.and_eq_true]at h;exact⟨_,(Ch.1 hm).2,h.1,h.2⟩
 ·rintro⟨X,h1,h2,h3⟩;obtain⟨m,h4,h5⟩:=Jh hL h1;rw[ins,Bool.and_eq_true]at h2;exact⟨m,(Df.1 h4).1,by rw[ins,h5 _ he.1 h2.1,h5 _ he.2.1 h2.2,h5 _ hj h3];rfl⟩
def Hh (n:Nat) (L:List Ed) (e:Ed):List Nat:=(List.range n).filter (Hg n L e)
theorem Lz (hL:∀e∈L,Dz n e) (hs:Bf n L) {e:Ed} (he:Dz n e) {m:Nat} (hm:m∈blocks n L) (hi:ins (Cm m) e=true):Hh n L e=Js n m:=by
 refine List.filter_congr fun v hv=>?_;rw[List.mem_range]at hv;cases hb:Cm m v with
 |true=>exact(Je hL hv he).2 ⟨_,Fy hm,hi,hb⟩
 |false =>
  cases hw:Hg n L e v with
  |false=>rfl
  |true =>
   obtain⟨X,h1,h2,h3⟩:=(Je hL hv he).1 hw;obtain⟨k,h4,h5⟩:=Jh hL h1;rw[ins,Bool.and_eq_true]at h2 hi;have hmk:=O3 hs hm h4 (Xe he.1 he.2.1 he.2.2 (by rw[cap,hi.1,h5 _ he.1 h2.1];rfl) (by rw[cap,hi.2,h5 _ he.2.1 h2.2];rfl));subst hmk;rw[h5 v hv h3]at hb;cases hb
theorem S8 (hL:∀e∈L,Dz n e) (hs:Bf n L) {e:Ed} (he:e∈L):∃m∈blocks n L,ins (Cm m) e=true:=by
 obtain⟨m,h1,h2⟩:=Jh hL (Kf hL hs he);obtain⟨h3,h4,_⟩:=hL e he;exact⟨m,h1,by rw[ins,h2 _ h3 (by simp[Fe]),h2 _ h4 (by simp[Fe])];rfl⟩
theorem Qc7 {m:Nat} (hm:m∈blocks n L):∃e∈L,ins (Cm m) e=true:=by
 have h1:=Fy hm;have h2:=h1.1;have h3:=h1.2;unfold spn at h3;exact List.countP_pos_iff.1 (show 0<L.countP (ins (Cm m)) by omega)
def Nz (o:List (List Nat)) (c:List Nat):List (List Nat):=if c∈o then o else o++[c]
theorem Kc {α:Type} (f:α→List Nat):∀(s:List α) (o:List (List Nat)),o.Nodup→(s.foldl (fun o a=>Nz o (f a)) o).Nodup∧∀z,z∈s.foldl (fun o a=>Nz o (f a)) o↔z∈o∨z∈s.map f
 |[],o,h=>⟨h,by simp⟩
 |a::s,o,h=>by
  have hn:(Nz o (f a)).Nodup:=by
   unfold Nz;split
   ·exact h
   ·rename_i hc
    rw[List.nodup_append];exact⟨h,by simp,fun x hx y hy e=>by simp at hy;subst hy;subst e;exact hc hx⟩
  have hm:∀z,z∈Nz o (f a)↔z∈o∨z=f a:=fun z=>by
   unfold Nz;split
   ·rename_i hc
    exact⟨.inl,fun h=>h.elim id fun e=>e ▸ hc⟩
   ·simp
  have:=Kc f s (Nz o (f a)) hn;refine⟨this.1,fun z=>?_⟩;rw[List.foldl_cons,this.2 z,hm,List.map_cons,List.mem_cons];constructor
  ·rintro((h|h)|h)<;>simp[h]
  ·rintro(h|h|h)<;>simp[h]
def I4 (n:Nat) (L:List Ed):List (List Nat):=L.foldl (fun o e=>Nz o (Hh n L e)) []++((List.range n).filter (B2 L)).map Fc
theorem Vt (hL:∀e∈L,Dz n e) (hs:Bf n L):(I4 n L).Nodup∧∀z,z∈I4 n L↔z∈P7 n L:=by
 have h1:=Kc (Hh n L) L [] (by simp);have hmem:∀z,z∈I4 n L↔z∈P7 n L:=fun z=>by
  unfold I4;rw[List.mem_append,h1.2 z,Nt.2 z];simp only[List.not_mem_nil,false_or,List.mem_map,List.mem_filter,List.mem_range,Fc];constructor
  ·rintro(⟨e,he,rfl⟩|⟨j,⟨hj,ha⟩,rfl⟩)
   ·obtain⟨m,hm,hi⟩:=S8 hL hs he;exact .inl ⟨m,hm,Lz hL hs (hL e he) hm hi⟩
   ·exact .inr ⟨j,hj,ha,rfl⟩
  ·rintro(⟨m,hm,rfl⟩|⟨j,hj,ha,rfl⟩)
   ·obtain⟨e,he,hi⟩:=Qc7 hm;exact .inl ⟨e,he,Lz hL hs (hL e he) hm hi⟩
   ·exact .inr ⟨j,⟨hj,ha⟩,rfl⟩
 refine⟨?_,hmem⟩;unfold I4;rw[List.nodup_append];refine⟨h1.1,E7 (fun x _ y _ h=>by simpa[Fc]using h) (List.nodup_range.filter _),fun x hx y hy e=>?_⟩;subst e;rcases(h1.2 x).1 hx with h3 | h3
 ·simp at h3
 ·obtain⟨e,he,rfl⟩:=List.mem_map.1 h3;obtain⟨m,hm,hi⟩:=S8 hL hs he;obtain⟨j,_,e2⟩:=List.mem_map.1 hy;rw[Lz hL hs (hL e he) hm hi]at e2;have h4:=J3 n m;rw[←e2]at h4;have:=(Fy hm).1;simp[Fc]at h4;omega
theorem Qar (hL:∀e∈L,Dz n e) (hs:Bf n L) {W:List (List Nat)} (hp:W.Perm (I4 n L)) (hw:W.Pairwise fun x y=>Bw y x=false):W=P7 n L:=by
 obtain⟨h1,h2⟩:=Vt hL hs;exact Asc.eq (Asc.of_sorted (hp.nodup_iff.2 h1) hw) Nt.1 fun x=>by rw[hp.mem_iff,h2]
end
end Go.Lam
end
section
namespace Go.Lam
section
variable {n:Nat} {L:List Ed}
def Qld:Nat→Bool:=fun _=>true
theorem Qjf (n:Nat):sz n Qld=n:=by
 have h:(List.range n).countP Qld=(List.range n).length:=List.countP_eq_length.2 fun _ _=>rfl;rw[List.length_range]at h;exact h
theorem Ql4 (L:List Ed):spn L Qld=L.length:=List.countP_eq_length.2 fun _ _=>rfl
theorem Qa3:sz n (fun j=>!B2 L j)+(List.range n).countP (B2 L)=n:=by
 have h:=List.length_eq_countP_add_countP (B2 L) (l:=List.range n);rw[List.length_range]at h;have e:(List.range n).countP (fun a=>decide ¬B2 L a=true)=sz n (fun j=>!B2 L j):=List.countP_congr fun v _=>by cases B2 L v<;>simp
 omega
theorem Qbg:spn L (fun j=>!B2 L j)=L.length:=List.countP_eq_length.2 fun e he=>by
 have h:∀j,e.1=j∨e.2=j→B2 L j=false:=fun j hj=>by
  cases ha:B2 L j with
  |false=>rfl
  |true =>
   have:=List.all_eq_true.1 ha e he;simp only[Bool.not_eq_true',Bool.or_eq_false_iff,beq_eq_false_iff_ne]at this;omega
 show(!B2 L e.1&&!B2 L e.2)=true
 rw[h e.1 (.inl rfl),h e.2 (.inr rfl)];rfl
theorem U1 (hL:∀e∈L,Dz n e) (hs:Bf n L):(blocks n L).length≤L.length:=by
 rw[←Ue hL hs,←Ry];refine J1 fun m hm=>?_;have:=(Fy hm).1;omega
theorem Qam (hL:∀e∈L,Dz n e) (hs:Bf n L):(I4 n L).length=(blocks n L).length+(List.range n).countP (B2 L):=by
 have h1:=Vt hL hs;have hp:(I4 n L).Perm ((blocks n L).map (Js n)++((List.range n).filter (B2 L)).map Fc):=by
  refine(List.perm_ext_iff_of_nodup h1.1 ?_).2 fun z=>?_
  ·rw[List.nodup_append];refine⟨E7 (fun x hx y hy=>Ws (Lu hx) (Lu hy)) Hs,E7 (fun x _ y _ h=>by simpa[Fc]using h) (List.nodup_range.filter _),fun x hx y hy e=>?_⟩;subst e;obtain⟨m,hm,rfl⟩:=List.mem_map.1 hx;obtain⟨j,_,e2⟩:=List.mem_map.1 hy;have h4:=J3 n m;rw[←e2]at h4;have:=(Fy hm).1;simp[Fc]at h4;omega
  ·rw[h1.2,Nt.2];simp only[List.mem_append,List.mem_map,List.mem_filter,List.mem_range,Fc];constructor
   ·rintro(⟨m,hm,rfl⟩|⟨j,hj,ha,rfl⟩)
    ·exact .inl ⟨m,hm,rfl⟩
    ·exact .inr ⟨j,⟨hj,ha⟩,rfl⟩
   ·rintro(⟨m,hm,rfl⟩|⟨j,⟨hj,ha⟩,rfl⟩)
    ·exact .inl ⟨m,hm,rfl⟩
    ·exact .inr ⟨j,hj,ha,rfl⟩
 rw[hp.length_eq,List.length_append,List.length_map,List.length_map,←List.countP_eq_length_filter]
theorem Qig (hL:∀e∈L,Dz n e) (hs:Bf n L) (h8:n≤8):(I4 n L).length≤12:=by
 rw[Qam hL hs];have h1:=U1 hL hs;have h2:=Qa3 (n:=n) (L:=L);have h3:=Qn2 n fun j=>!B2 L j;rcases Nat.lt_or_ge (sz n fun j=>!B2 L j) 2 with h4 | h4
 ·have:spn L (fun j=>!B2 L j)=0:=R9 hL (by omega);rw[Qbg]at this;omega
 ·have h5:=hs _ h4;rw[Qbg]at h5;rcases Nat.lt_or_ge ((blocks n L).length+(List.range n).countP (B2 L)) 13 with h6 | h6
  ·omega
  ·-- all is one block
   have hn8:n=8∧(List.range n).countP (B2 L)=0∧L.length=13:=by omega
   have hT:D2 n L Qld:=⟨by rw[Qjf];omega,by rw[Ql4,Qjf];omega⟩;obtain⟨m,hm,hall⟩:=Jh hL hT;have h7:∀k∈blocks n L,k=m:=fun k hk=>(Df.1 hk).2 m (Df.1 hm).1 (fun v hv=>hall v (Qmw (Lu hk) hv) rfl) ▸ rfl;have h8:(blocks n L).length≤1:=by
    have hnd:=Hs (n:=n) (L:=L)
    match hb:blocks n L,hnd with
    |[],_=>simp
    |[a],_=>simp
    |a::b::t,hnd =>
     rw[hb]at h7;have ha:=h7 a (by simp);have hb':=h7 b (by simp);rw[List.nodup_cons]at hnd;exact absurd (by rw[ha,hb'];simp) hnd.1
   omega
theorem Qfe (n:Nat) (X:Nat→Bool):sz (n+1) X=sz n X+if X n=true then 1 else 0:=by
 simp[sz,List.range_succ,List.countP_append,List.countP_cons]
theorem Bf.joint (hs:Bf n L) (hL:∀e∈L,Dz n e):Bf (n+1) L:=fun X hX=>by
 rw[Qfe]at hX ⊢;rcases Nat.lt_or_ge (sz n X) 2 with h | h
 ·rw[R9 hL (by omega)];omega
 ·have:=hs X h;omega
theorem Bf.one (hs:Bf n L) (hL:∀e∈L,Dz n e) {x:Nat} (hx:x<n) {e:Ed} (he:e=(x,n)∨e=(n,x)):Bf (n+1) (L++[e]):=fun X hX=>by
 rw[Qfe]at hX ⊢;rw[Kb,Tk];have hi:ins X e=(X x&&X n):=by rcases he with rfl | rfl<;>simp[ins,Bool.and_comm]
 rw[hi];show spn L X+(0+_)+3≤_
 rcases Nat.lt_or_ge (sz n X) 2 with h|h
 ·rw[R9 hL (by omega)];cases h1:X n<;>cases h2:X x<;>simp[h1]at*<;> (try have:=Qj6 hx h2)<;>omega
 ·have:=hs X h;cases h1:X n<;>cases h2:X x<;>simp<;>omega
end
end Go.Lam
end
section
namespace Go.Av
open Go.Proofs
structure RE where
 a:Int
 b:Int
 sq:RR
def RE.av (e:RE):AV:=.agg [.int .i64 e.a,.int .i64 e.b,.bool e.sq.n1,Ao e.sq.l1,.bool e.sq.n2,Ao e.sq.l2]
def Fg (l:List RE):List AV:=l.map RE.av
def A8 (l:List RE):AV:=.sl 6 (Fg l)
instance:Inhabited RE:=⟨⟨0,0,default⟩⟩
def Ii (l:List RE) (i:Nat):RE:=l.getD i default
theorem N8 {l:List RE} {i:Nat} (h:i<l.length):Ii l i=l[i]:=by unfold Ii;rw[List.getD_eq_getElem?_getD,List.getElem?_eq_getElem h];rfl
@[simp] theorem Qcv (l:List RE):(Fg l).length=l.length:=by simp[Fg]
@[simp] theorem edl_get? {l:List RE} {i:Nat} (h:i<l.length):(Fg l)[i]?=some (Ii l i).av:=by simp[Fg,N8 h,h]
@[simp] theorem edl_get {l:List RE} {i:Nat} (h:i<(Fg l).length):(Fg l)[i]=(Ii l i).av:=by simp[Fg,N8 (by simpa using h:i<l.length)]
@[simp] theorem Qv6 {l:List Nat} {i:Nat} (h:i<(Aw l).length):(Aw l)[i]=.int .i64 (l[i]'(by simpa using h):Nat):=by simp[Aw]
@[simp] theorem Qwc (l:List Nat):(Aw l).all (fun v=>v.cells.length==1&&v.cells.all AV.one)=true:=by simp[Aw,AV.cells,AV.one]
theorem C1 (e:RE):e.av.cells=[.int .i64 e.a,.int .i64 e.b,.bool e.sq.n1,Ao e.sq.l1,.bool e.sq.n2,Ao e.sq.l2]:=rfl
theorem Jr (l:List Nat) (i v:Nat):(Aw l).set i (.int .i64 (v:Nat))=Aw (l.set i v):=by unfold Aw;rw[List.map_set]
theorem Mb {m m':Ac} {b n:Nat} {l:List Nat} (h:m b=some ⟨3,1,Aw l⟩) (hl:l.length=n) (hb:m' b=none:=by simp):Br m m' (.osl b 1 0 n) (.sl 1 (Aw l)) :=
 .osl b 1 0 n _ (Aw l) h hb rfl (by simpa using hl) (by simp[hl]) (fun k v v' h1 h2=>by rw[Nat.zero_add]at h1;rw[h1]at h2;cases h2;exact .same _)
theorem Vk (l:List RE) (hl:l.length≤40):Ai Tryz.prog 45 [A8 l] Ac.emp fun v m=>v=.sl 1 (Aw (List.range l.length))∧m=Ac.emp:=by
 refine Ad Tryz.func45 rfl rfl 19 rfl (Nat.le_of_ble_eq_true rfl) ?_;unfold A8;(repeat refine AW.seq_k fun K hK=>?_);refine AW.rg ?_;simp[Al];try (refine hK _ rfl ?_;clear hK K)
 (repeat refine AW.seq_k fun K hK=>?_);refine AW.rg ?_;simp;try (refine hK _ rfl ?_;clear hK K)
 refine⟨by omega,Af.intro fun bl hbl=>?_⟩;refine hK _ rfl ?_;clear hK K;refine AW.seq_ex (ι:=Unit) (fun _=>[(3,.osl bl 1 0 l.length)]) (fun _=>Ac.emp.set bl ⟨3,1,Aw (List.range l.length)⟩) (fun _=>True) ?_ ?_
 ·(repeat refine AW.seq_k fun K hK=>?_);refine AW.rg ?_;simp;try (refine hK _ rfl ?_;clear hK K)
  refine AW.block (AW.loopS (ι:=Nat × List Nat) (fun z=>[(3,.osl bl 1 0 l.length),(9,.int .i64 (l.length:Nat)),(10,.int .i64 (z.1:Nat))]) (fun z=>Ac.emp.set bl ⟨3,1,Aw z.2⟩)
   (fun z=>z.1≤l.length∧z.2=List.range z.1++List.replicate (l.length-z.1) 0) (fun z=>l.length-z.1) (0,List.replicate l.length 0) ⟨by simp,by simp⟩ (by simp[Aw]) (by simp) ?_)
  rintro⟨i,o⟩ ⟨g1,g2⟩;simp only at g1 g2;have hol:o.length=l.length:=by rw[g2];simp;omega
  (repeat refine AW.seq_k fun K hK=>?_);refine AW.rg ?_;simp;try (refine hK _ rfl ?_;clear hK K)
  (repeat refine AW.seq ?_);refine AW.cs (fun hi=>?_) (fun hi=>?_) rfl<;>(try simp at hi)
  ·refine AW.skip ?_;try simp
   have w1:=Au (i+1) (by omega);(repeat refine AW.seq ?_);refine AW.block ?_;(repeat refine AW.seq_k fun K hK=>?_);refine AW.rg ?_;simp;try (refine hK _ rfl ?_;clear hK K)
   (repeat refine AW.seq_k fun K hK=>?_);refine AW.rg ?_;simp[hol,hi];try (refine hK _ rfl ?_;clear hK K)
   (repeat refine AW.seq_k fun K hK=>?_);refine AW.rg ?_;simp[-Int.natCast_add,w1];try (refine hK _ rfl ?_;clear hK K)
   refine⟨i+1,o.set i i,⟨by omega,?_⟩,by omega,by rw[Jr],rfl⟩;rw[g2,List.set_append_right _ _ (by simp),List.length_range,Nat.sub_self,show l.length-i=(l.length-(i+1))+1 by omega,List.replicate_succ,List.set_cons_zero,List.range_succ,List.append_assoc];rfl
  ·refine AW.exit ?_;try simp
   have:i=l.length:=by omega
   rw[g2,this];simp
 ·rintro _ _;(repeat refine AW.seq_k fun K hK=>?_);refine AW.rg ?_;simp;try (refine hK _ rfl ?_;clear hK K)
  exact AW.ret (Ag rfl _ (Mb (by simp) (by simp)) ⟨rfl,rfl⟩)
end Go.Av
end
section
namespace Go.Av
open Go.Proofs Go.Lam
@[simp] theorem Qua {l:List Nat} {i:Nat} (h:i<l.length):(Aw l).getD i .any=.int .i64 (l[i]:Nat):=by simp[Aw,h]
def Ah (es:List RE):Nat→Ed:=fun i=>((Ii es i).a.toNat,(Ii es i).b.toNat)
def Lw (n:Nat) (es:List RE):Prop:=∀i,i<es.length→(Ii es i).a=((Ah es i).1:Nat)∧(Ii es i).b=((Ah es i).2:Nat)∧Dz n (Ah es i)
end Go.Av
end
section
namespace Go.Av
open Go.Proofs Go.Lam
def Bt (x y:RE):Bool:=(y.a==x.a&&y.b==x.b) || (y.a==x.b&&y.b==x.a)
def okE (n:Int) (pre:List RE) (x:RE):Bool:=decide (0≤x.a)&&decide (x.a<n)&&decide (0≤x.b)&&decide (x.b<n)&&!(x.a==x.b)&&x.sq.ok&&decide (0<Dj x.sq)&&!(pre.any (Bt x))
def P3 (n:Int) (es:List RE) (i:Nat):Bool:=okE n (es.take i) (Ii es i)
def Du (n:Int) (es:List RE):Bool:=decide (1≤n)&&decide (n≤12)&&decide (es.length≤40)&&(List.range es.length).all (P3 n es)
def Cg (n:Int) (es:List RE):AV:=.int .i64 (if Du n es=true then 0 else 1)
def LbE (es:List RE):Prop:=∀x∈es,x.sq.Lb
theorem LbE.at {es:List RE} (h:LbE es) {i:Nat} (hi:i<es.length):(Ii es i).sq.Lb:=by rw[N8 hi];exact h _ (List.getElem_mem hi)
theorem Cp {n:Int} {es:List RE} {i:Nat} (hi:i<es.length) (h:P3 n es i=false):Du n es=false:=by
 unfold Du;have:(List.range es.length).all (P3 n es)=false:=List.all_eq_false.2 ⟨i,by simpa using hi,by rw[h];simp⟩;rw[this,Bool.and_false]
theorem Qg4 {b:Nat} (X:RE):Br (Ac.emp.set b ⟨46,6,[X.av]⟩) Ac.emp (.ptr b 6 0 0) (.rptr [.int .i64 X.a,.int .i64 X.b,.bool X.sq.n1,Ao X.sq.l1,.bool X.sq.n2,Ao X.sq.l2]) :=
 .ptr b 6 0 0 ⟨46,6,[X.av]⟩ X.av (Ac.set_same _ _ _) rfl rfl rfl
theorem Cr {n:Int} {pre:List RE} {x:RE} (h:¬(0≤x.a∧x.a<n∧0≤x.b∧x.b<n∧x.a≠x.b∧x.sq.ok=true∧0<Dj x.sq∧pre.any (Bt x)=false)):okE n pre x=false:=by
 cases hc:okE n pre x with
 |false=>rfl
 |true=>unfold okE at hc;simp only[Bool.and_eq_true,decide_eq_true_eq,Bool.not_eq_true',beq_eq_false_iff_ne]at hc;exact absurd ⟨hc.1.1.1.1.1.1.1,hc.1.1.1.1.1.1.2,hc.1.1.1.1.1.2,hc.1.1.1.1.2,hc.1.1.1.2,hc.1.1.2,hc.1.2,hc.2⟩ h
theorem Qba {n:Int} {pre:List RE} {x:RE} (h:0≤x.a∧x.a<n∧0≤x.b∧x.b<n∧x.a≠x.b∧x.sq.ok=true∧0<Dj x.sq∧pre.any (Bt x)=false):okE n pre x=true:=by
 obtain⟨h1,h2,h3,h4,h5,h6,h7,h8⟩:=h;unfold okE;rw[h6,h8];simp[h1,h2,h3,h4,h5,h7]
theorem N6 (n:Int) (es:List RE) (hb:LbE es):Ai Tryz.prog 12 [.int .i64 n,A8 es] Ac.emp fun v m=>v=Cg n es∧m=Ac.emp:=by
 refine Ad Tryz.func12 rfl rfl 111 rfl (Nat.le_of_ble_eq_true rfl) ?_;unfold A8;(repeat refine AW.seq_k fun K hK=>?_);refine AW.rg ?_;simp[Al];try (refine hK _ rfl ?_;clear hK K)
 by_cases c1:n<1
 ·have hc:Du n es=false:=by unfold Du;simp;omega
  (repeat refine AW.seq_k fun K hK=>?_);refine AW.rg ?_;simp[c1];try (refine hK _ rfl ?_;clear hK K)
  refine AW.yes ?_ rfl;(repeat refine AW.seq_k fun K hK=>?_);refine AW.rg ?_;simp;try (refine hK _ rfl ?_;clear hK K)
  exact AW.ret (Ag rfl _ (.same _) ⟨by unfold Cg;rw[hc];rfl,rfl⟩)
 by_cases c2:12<n
 ·have hc:Du n es=false:=by unfold Du;simp;omega
  (repeat refine AW.seq_k fun K hK=>?_);refine AW.rg ?_;simp[c1,c2];try (refine hK _ rfl ?_;clear hK K)
  refine AW.yes ?_ rfl;(repeat refine AW.seq_k fun K hK=>?_);refine AW.rg ?_;simp;try (refine hK _ rfl ?_;clear hK K)
  exact AW.ret (Ag rfl _ (.same _) ⟨by unfold Cg;rw[hc];rfl,rfl⟩)
 by_cases c3:(40:Int)<(es.length:Int)
 ·have hc:Du n es=false:=by unfold Du;simp;omega
  (repeat refine AW.seq_k fun K hK=>?_);refine AW.rg ?_;simp[c1,c2,c3];try (refine hK _ rfl ?_;clear hK K)
  refine AW.yes ?_ rfl;(repeat refine AW.seq_k fun K hK=>?_);refine AW.rg ?_;simp;try (refine hK _ rfl ?_;clear hK K)
  exact AW.ret (Ag rfl _ (.same _) ⟨by unfold Cg;rw[hc];rfl,rfl⟩)
 (repeat refine AW.seq_k fun K hK=>?_);refine AW.rg ?_;simp[c1,c2,c3];try (refine hK _ rfl ?_;clear hK K)
 refine AW.no ?_ rfl;refine AW.skip ?_;try simp
 try (refine hK _ rfl ?_;clear hK K)
 refine AW.seq_ex (ι:=Unit) (fun _=>[]) (fun _=>Ac.emp) (fun _=>Du n es=true) ?_ ?_
 ·(repeat refine AW.seq_k fun K hK=>?_);refine AW.rg ?_;simp;try (refine hK _ rfl ?_;clear hK K)
  refine AW.block (AW.loopS (ι:=Nat) (fun i=>[(0,.int .i64 n),(1,.sl 6 (Fg es)),(5,.int .i64 (i:Nat))]) (fun _=>Ac.emp)
   (fun i=>i≤es.length∧(List.range i).all (P3 n es)=true) (fun i=>es.length-i) 0 ⟨by simp,by simp⟩ rfl (by simp) ?_)
  rintro i ⟨g1,g2⟩;(repeat refine AW.seq_k fun K hK=>?_);refine AW.rg ?_;simp;try (refine hK _ rfl ?_;clear hK K)
  (repeat refine AW.seq ?_);refine AW.cs (fun hi=>?_) (fun hi=>?_) rfl<;>(try simp at hi)
  ·refine AW.skip ?_;try simp
   try (refine hK _ rfl ?_;clear hK K)
   have w1:=Au (i+1) (by omega);have g3:∀x,x<i→P3 n es x=true:=by simpa using g2
   have hx:=hb.at hi;have hv:=F1 (Ii es i).sq.n1 (Ii es i).sq.l1 (Ii es i).sq.n2 (Ii es i).sq.l2 hx.1 hx.2;have hs:=Ld (Ii es i).sq hx;have hp:P3 n es i=okE n (es.take i) (Ii es i):=rfl;generalize hX:Ii es i=X at *;have fin:∀s:St,P3 n es i=false→AW Tryz.prog Code.ret (Mp Tryz.prog Tryz.f12.results.toList fun v m=>v=Cg n es∧m=Ac.emp) (S 111 ((4,.int .i64 1)::[]) Ac.emp):=fun _ hf =>
    AW.ret (Ag rfl _ (.same _) ⟨by unfold Cg;rw[Cp hi hf];rfl,rfl⟩)
   (repeat refine AW.seq ?_);refine AW.block ?_;(repeat refine AW.seq_k fun K hK=>?_);refine AW.rg ?_;simp[hi,hX,C1];try (refine hK _ rfl ?_;clear hK K)
   refine Af.intro fun b6 hb6=>?_;refine hK _ rfl ?_;clear hK K;refine AW.toEmp [(0,.int .i64 n),(1,.sl 6 (Fg es)),(5,.int .i64 (i:Nat)),(6,.rptr [.int .i64 X.a,.int .i64 X.b,.bool X.sq.n1,Ao X.sq.l1,.bool X.sq.n2,Ao X.sq.l2])] (by simp;exact Qg4 X) ?_;by_cases d1:X.a<0
   ·have hf:P3 n es i=false:=by rw[hp];exact Cr (by rintro⟨q1,q2,q3,q4,q5,_⟩;omega)
    (repeat refine AW.seq_k fun K hK=>?_);refine AW.rg ?_;simp[d1];try (refine hK _ rfl ?_;clear hK K)
    refine AW.yes ?_ rfl;(repeat refine AW.seq_k fun K hK=>?_);refine AW.rg ?_;simp;try (refine hK _ rfl ?_;clear hK K)
    exact AW.ret (Ag rfl _ (.same _) ⟨by unfold Cg;rw[Cp hi hf];rfl,rfl⟩)
   by_cases d2:n≤X.a
   ·have hf:P3 n es i=false:=by rw[hp];exact Cr (by rintro⟨q1,q2,q3,q4,q5,_⟩;omega)
    (repeat refine AW.seq_k fun K hK=>?_);refine AW.rg ?_;simp[d1,d2];try (refine hK _ rfl ?_;clear hK K)
    refine AW.yes ?_ rfl;(repeat refine AW.seq_k fun K hK=>?_);refine AW.rg ?_;simp;try (refine hK _ rfl ?_;clear hK K)
    exact AW.ret (Ag rfl _ (.same _) ⟨by unfold Cg;rw[Cp hi hf];rfl,rfl⟩)
   by_cases d3:X.b<0
   ·have hf:P3 n es i=false:=by rw[hp];exact Cr (by rintro⟨q1,q2,q3,q4,q5,_⟩;omega)
    (repeat refine AW.seq_k fun K hK=>?_);refine AW.rg ?_;simp[d1,d2,d3];try (refine hK _ rfl ?_;clear hK K)
    refine AW.yes ?_ rfl;(repeat refine AW.seq_k fun K hK=>?_);refine AW.rg ?_;simp;try (refine hK _ rfl ?_;clear hK K)
    exact AW.ret (Ag rfl _ (.same _) ⟨by unfold Cg;rw[Cp hi hf];rfl,rfl⟩)
   by_cases d4:n≤X.b
   ·have hf:P3 n es i=false:=by rw[hp];exact Cr (by rintro⟨q1,q2,q3,q4,q5,_⟩;omega)
    (repeat refine AW.seq_k fun K hK=>?_);refine AW.rg ?_;simp[d1,d2,d3,d4];try (refine hK _ rfl ?_;clear hK K)
    refine AW.yes ?_ rfl;(repeat refine AW.seq_k fun K hK=>?_);refine AW.rg ?_;simp;try (refine hK _ rfl ?_;clear hK K)
    exact AW.ret (Ag rfl _ (.same _) ⟨by unfold Cg;rw[Cp hi hf];rfl,rfl⟩)
   by_cases d5:X.a=X.b
   ·have hf:P3 n es i=false:=by rw[hp];exact Cr (by rintro⟨q1,q2,q3,q4,q5,_⟩;omega)
    (repeat refine AW.seq_k fun K hK=>?_);refine AW.rg ?_;simp[d1,d2,d3,d4,d5];try (refine hK _ rfl ?_;clear hK K)
    refine AW.yes ?_ rfl;(repeat refine AW.seq_k fun K hK=>?_);refine AW.rg ?_;simp;try (refine hK _ rfl ?_;clear hK K)
    exact AW.ret (Ag rfl _ (.same _) ⟨by unfold Cg;rw[Cp hi hf];rfl,rfl⟩)
   by_cases d6:X.sq.ok=false
   ·have hf:P3 n es i=false:=by rw[hp];exact Cr (fun q=>by rw[d6]at q;simp at q)
    have hok:Od X.sq.n1 X.sq.l1 X.sq.n2 X.sq.l2=false:=d6;(repeat refine AW.seq_k fun K hK=>?_);refine AW.rg ?_;simp[d1,d2,d3,d4,d5];try (refine hK _ rfl ?_;clear hK K)
    refine Aa.val hv ?_;simp[hok];try (refine hK _ rfl ?_;clear hK K)
    refine AW.yes ?_ rfl;(repeat refine AW.seq_k fun K hK=>?_);refine AW.rg ?_;simp;try (refine hK _ rfl ?_;clear hK K)
    exact AW.ret (Ag rfl _ (.same _) ⟨by unfold Cg;rw[Cp hi hf];rfl,rfl⟩)
   replace d6:X.sq.ok=true:=by simpa using d6
   have hok:Od X.sq.n1 X.sq.l1 X.sq.n2 X.sq.l2=true:=d6;by_cases d7:Dj X.sq≤0
   ·have hf:P3 n es i=false:=by rw[hp];exact Cr (fun q=>by have:=q.2.2.2.2.2.2.1;omega)
    (repeat refine AW.seq_k fun K hK=>?_);refine AW.rg ?_;simp[d1,d2,d3,d4,d5];try (refine hK _ rfl ?_;clear hK K)
    refine Aa.val hv ?_;simp[hok];refine Aa.val hs ?_;simp[d7];try (refine hK _ rfl ?_;clear hK K)
    refine AW.yes ?_ rfl;(repeat refine AW.seq_k fun K hK=>?_);refine AW.rg ?_;simp;try (refine hK _ rfl ?_;clear hK K)
    exact AW.ret (Ag rfl _ (.same _) ⟨by unfold Cg;rw[Cp hi hf];rfl,rfl⟩)
   (repeat refine AW.seq_k fun K hK=>?_);refine AW.rg ?_;simp[d1,d2,d3,d4,d5];try (refine hK _ rfl ?_;clear hK K)
   refine Aa.val hv ?_;simp[hok];refine Aa.val hs ?_;simp[d7];try (refine hK _ rfl ?_;clear hK K)
   refine AW.no ?_ rfl;refine AW.skip ?_;try simp
   try (refine hK _ rfl ?_;clear hK K)
   (repeat refine AW.seq_k fun K hK=>?_);refine AW.rg ?_;simp;try (refine hK _ rfl ?_;clear hK K)
   refine AW.block (AW.loopS (ι:=Nat) (fun k=>[(0,.int .i64 n),(1,.sl 6 (Fg es)),(5,.int .i64 (i:Nat)),(6,.rptr [.int .i64 X.a,.int .i64 X.b,.bool X.sq.n1,Ao X.sq.l1,.bool X.sq.n2,Ao X.sq.l2]),(7,.int .i64 (k:Nat))]) (fun _=>Ac.emp)
    (fun k=>k≤i∧∀q,q<k→Bt X (Ii es q)=false) (fun k=>i-k) 0 ⟨by simp,by simp⟩ rfl (by simp) ?_)
   rintro k ⟨k1,k2⟩;(repeat refine AW.seq_k fun K hK=>?_);refine AW.rg ?_;simp;try (refine hK _ rfl ?_;clear hK K)
   (repeat refine AW.seq ?_);refine AW.cs (fun hk=>?_) (fun hk=>?_) rfl<;>(try simp at hk)
   ·refine AW.skip ?_;try simp
    try (refine hK _ rfl ?_;clear hK K)
    have w2:=Au (k+1) (by omega);have hkl:k<es.length:=by omega
    have hmem:Ii es k∈es.take i:=by rw[N8 hkl];exact List.mem_take_iff_getElem.2 ⟨k,by omega,rfl⟩
    generalize hY:Ii es k=Y at *;have hf:Bt X Y=true→P3 n es i=false:=fun hs=>by rw[hp];exact Cr (fun q=>by have:=List.any_eq_false.1 q.2.2.2.2.2.2.2 Y hmem;exact this hs)
    have hno:Bt X Y=false→∀q,q<k+1→Bt X (Ii es q)=false:=fun hs q hq=>by
     rcases Nat.lt_or_ge q k with h1|h1
     ·exact k2 q h1
     ·rw[show q=k by omega,hY];exact hs
    (repeat refine AW.seq ?_);refine AW.block ?_;by_cases e1:Y.a=X.a
    ·by_cases e2:Y.b=X.b
     ·have pe1:(Y.a=X.a)=True:=eq_true e1;have pe2:(Y.b=X.b)=True:=eq_true e2;have hs:Bt X Y=true:=by unfold Bt;simp only[BEq.beq,pe1,pe2];simp
      (repeat refine AW.seq_k fun K hK=>?_);refine AW.rd [0,1,2,3,4,5,6,7,8,9,10,11,12,13,14,15,16,17,18,19,20,21,22,23,24,25,26,27,28,29,30,31,32,33,34,35,36,37] C6 ?_;simp[hkl,hY,C1,pe1,pe2];try (refine hK _ rfl ?_;clear hK K)
      refine AW.yes ?_ rfl;(repeat refine AW.seq_k fun K hK=>?_);refine AW.rg ?_;simp;try (refine hK _ rfl ?_;clear hK K)
      exact AW.ret (Ag rfl _ (.same _) ⟨by unfold Cg;rw[Cp hi (hf hs)];rfl,rfl⟩)
     ·by_cases e3:Y.a=X.b
      ·by_cases e4:Y.b=X.a
       ·have pe1:(Y.a=X.a)=True:=eq_true e1;have pe2:(Y.b=X.b)=False:=eq_false e2;have pe3:(Y.a=X.b)=True:=eq_true e3;have pe4:(Y.b=X.a)=True:=eq_true e4;have hs:Bt X Y=true:=by unfold Bt;simp only[BEq.beq,pe1,pe2,pe3,pe4];simp
        (repeat refine AW.seq_k fun K hK=>?_);refine AW.rd [0,1,2,3,4,5,6,7,8,9,10,11,12,13,14,15,16,17,18,19,20,21,22,23,24,25,26,27,28,29,30,31,32,33,34,35,36,37] C6 ?_;simp[hkl,hY,C1,pe1,pe2,pe3,pe4];try (refine hK _ rfl ?_;clear hK K)
        refine AW.yes ?_ rfl;(repeat refine AW.seq_k fun K hK=>?_);refine AW.rg ?_;simp;try (refine hK _ rfl ?_;clear hK K)
        exact AW.ret (Ag rfl _ (.same _) ⟨by unfold Cg;rw[Cp hi (hf hs)];rfl,rfl⟩)
       ·have pe1:(Y.a=X.a)=True:=eq_true e1;have pe2:(Y.b=X.b)=False:=eq_false e2;have pe3:(Y.a=X.b)=True:=eq_true e3;have pe4:(Y.b=X.a)=False:=eq_false e4;have hs:Bt X Y=false:=by unfold Bt;simp only[BEq.beq,pe1,pe2,pe3,pe4];simp
        (repeat refine AW.seq_k fun K hK=>?_);refine AW.rd [0,1,2,3,4,5,6,7,8,9,10,11,12,13,14,15,16,17,18,19,20,21,22,23,24,25,26,27,28,29,30,31,32,33,34,35,36,37] C6 ?_;simp[hkl,hY,C1,pe1,pe2,pe3,pe4];try (refine hK _ rfl ?_;clear hK K)
        refine AW.no ?_ rfl;refine AW.skip ?_;try simp
        try (refine hK _ rfl ?_;clear hK K)
        (repeat refine AW.seq_k fun K hK=>?_);refine AW.rg ?_;simp[-Int.natCast_add,w2];try (refine hK _ rfl ?_;clear hK K)
        exact⟨⟨by omega,hno hs⟩,by omega⟩
      ·have pe1:(Y.a=X.a)=True:=eq_true e1;have pe2:(Y.b=X.b)=False:=eq_false e2;have pe3:(Y.a=X.b)=False:=eq_false e3;have hs:Bt X Y=false:=by unfold Bt;simp only[BEq.beq,pe1,pe2,pe3];simp
       (repeat refine AW.seq_k fun K hK=>?_);refine AW.rd [0,1,2,3,4,5,6,7,8,9,10,11,12,13,14,15,16,17,18,19,20,21,22,23,24,25,26,27,28,29,30,31,32,33,34,35,36,37] C6 ?_;simp[hkl,hY,C1,pe1,pe2,pe3];try (refine hK _ rfl ?_;clear hK K)
       refine AW.no ?_ rfl;refine AW.skip ?_;try simp
       try (refine hK _ rfl ?_;clear hK K)
       (repeat refine AW.seq_k fun K hK=>?_);refine AW.rg ?_;simp[-Int.natCast_add,w2];try (refine hK _ rfl ?_;clear hK K)
       exact⟨⟨by omega,hno hs⟩,by omega⟩
    ·by_cases e3:Y.a=X.b
     ·by_cases e4:Y.b=X.a
      ·have pe1:(Y.a=X.a)=False:=eq_false e1;have pe3:(Y.a=X.b)=True:=eq_true e3;have pe4:(Y.b=X.a)=True:=eq_true e4;have hs:Bt X Y=true:=by unfold Bt;simp only[BEq.beq,pe1,pe3,pe4];simp
       (repeat refine AW.seq_k fun K hK=>?_);refine AW.rd [0,1,2,3,4,5,6,7,8,9,10,11,12,13,14,15,16,17,18,19,20,21,22,23,24,25,26,27,28,29,30,31,32,33,34,35,36,37] C6 ?_;simp[hkl,hY,C1,pe1,pe3,pe4];try (refine hK _ rfl ?_;clear hK K)
       refine AW.yes ?_ rfl;(repeat refine AW.seq_k fun K hK=>?_);refine AW.rg ?_;simp;try (refine hK _ rfl ?_;clear hK K)
       exact AW.ret (Ag rfl _ (.same _) ⟨by unfold Cg;rw[Cp hi (hf hs)];rfl,rfl⟩)
      ·have pe1:(Y.a=X.a)=False:=eq_false e1;have pe3:(Y.a=X.b)=True:=eq_true e3;have pe4:(Y.b=X.a)=False:=eq_false e4;have hs:Bt X Y=false:=by unfold Bt;simp only[BEq.beq,pe1,pe3,pe4];simp
       (repeat refine AW.seq_k fun K hK=>?_);refine AW.rd [0,1,2,3,4,5,6,7,8,9,10,11,12,13,14,15,16,17,18,19,20,21,22,23,24,25,26,27,28,29,30,31,32,33,34,35,36,37] C6 ?_;simp[hkl,hY,C1,pe1,pe3,pe4];try (refine hK _ rfl ?_;clear hK K)
       refine AW.no ?_ rfl;refine AW.skip ?_;try simp
       try (refine hK _ rfl ?_;clear hK K)
       (repeat refine AW.seq_k fun K hK=>?_);refine AW.rg ?_;simp[-Int.natCast_add,w2];try (refine hK _ rfl ?_;clear hK K)
       exact⟨⟨by omega,hno hs⟩,by omega⟩
     ·have pe1:(Y.a=X.a)=False:=eq_false e1;have pe3:(Y.a=X.b)=False:=eq_false e3;have hs:Bt X Y=false:=by unfold Bt;simp only[BEq.beq,pe1,pe3];simp
      (repeat refine AW.seq_k fun K hK=>?_);refine AW.rd [0,1,2,3,4,5,6,7,8,9,10,11,12,13,14,15,16,17,18,19,20,21,22,23,24,25,26,27,28,29,30,31,32,33,34,35,36,37] C6 ?_;simp[hkl,hY,C1,pe1,pe3];try (refine hK _ rfl ?_;clear hK K)
      refine AW.no ?_ rfl;refine AW.skip ?_;try simp
      try (refine hK _ rfl ?_;clear hK K)
      (repeat refine AW.seq_k fun K hK=>?_);refine AW.rg ?_;simp[-Int.natCast_add,w2];try (refine hK _ rfl ?_;clear hK K)
      exact⟨⟨by omega,hno hs⟩,by omega⟩
   ·refine AW.exit ?_;try simp
    have hki:k=i:=by omega
    have hany:(es.take i).any (Bt X)=false:=by
     rw[List.any_eq_false];intro y hy;obtain⟨q,hq,rfl⟩:=List.mem_take_iff_getElem.1 hy;have:=k2 q (by omega);rw[N8 (by omega)]at this;rw[this];simp
    (repeat refine AW.seq_k fun K hK=>?_);refine AW.rg ?_;simp[-Int.natCast_add,w1];try (refine hK _ rfl ?_;clear hK K)
    exact⟨⟨by omega,by intro q hq;rcases Nat.lt_or_ge q i with h1 | h1;exact g3 q h1;rw[show q=i by omega,hp];exact Qba ⟨by omega,by omega,by omega,by omega,d5,d6,by omega,hany⟩⟩,by omega⟩
  ·refine AW.exit ?_;try simp
   have:i=es.length:=by omega
   unfold Du;rw[←this,g2];simp;omega
 ·rintro _ h;(repeat refine AW.seq_k fun K hK=>?_);refine AW.rg ?_;simp;try (refine hK _ rfl ?_;clear hK K)
  exact AW.ret (Ag rfl _ (.same _) ⟨by unfold Cg;rw[h];rfl,rfl⟩)
end Go.Av
end
section
namespace Go.Av
open Go.Proofs Go.Lam
def Tx (pre:List RE) (c:Nat):Bool:=pre.any fun y=>(y.a.toNat*12+y.b.toNat==c) || (y.b.toNat*12+y.a.toNat==c)
def Iy (pre:List RE):List AV:=(List.range 144).map fun c=>.bool (Tx pre c)
@[simp] theorem O9 (pre:List RE):(Iy pre).length=144:=by simp[Iy]
theorem Ph (pre:List RE) {c:Nat} (hc:c<144):(Iy pre)[c]?=some (.bool (Tx pre c)):=by simp[Iy,hc]
theorem Qg9 (pre:List RE):(Iy pre).all AV.one=true:=by simp[Iy,AV.one]
def RE.inB (x:RE):Prop:=0≤x.a∧x.a<12∧0≤x.b∧x.b<12
theorem Gx (pre:List RE) (x:RE) (hx:x.inB):((Iy pre).set (x.a.toNat*12+x.b.toNat) (.bool true)).set (x.b.toNat*12+x.a.toNat) (.bool true)=Iy (pre++[x]):=by
 obtain⟨h1,h2,h3,h4⟩:=hx;refine List.ext_getElem? fun c=>?_;by_cases hc:c<144
 ·rw[Ph _ hc,List.getElem?_set,List.length_set,O9];by_cases e1:x.b.toNat*12+x.a.toNat=c
  ·rw[if_pos e1,if_pos (by omega)];simp[Tx,e1]
  ·rw[if_neg e1,List.getElem?_set,O9];by_cases e2:x.a.toNat*12+x.b.toNat=c
   ·rw[if_pos e2,if_pos (by omega)];simp[Tx,e2]
   ·rw[if_neg e2,Ph _ hc];simp[Tx,e1,e2]
 ·rw[List.getElem?_eq_none (by simp;omega),List.getElem?_eq_none (by simp;omega)]
theorem Qce {pre:List RE} {x:RE} (hp:∀y∈pre,y.inB) (hx:x.inB):Tx pre (x.a.toNat*12+x.b.toNat)=pre.any (Bt x):=by
 unfold Tx;rw[Bool.eq_iff_iff,List.any_eq_true,List.any_eq_true];obtain⟨h1,h2,h3,h4⟩:=hx;refine exists_congr fun y=>and_congr_right fun hy=>?_;obtain⟨q1,q2,q3,q4⟩:=hp y hy;unfold Bt;simp only[Bool.or_eq_true,beq_iff_eq,Bool.and_eq_true];omega
theorem Sx {cs:List AV} {j:Nat} (v:Bool) (h:j<cs.length) (hl:cs.length=144):C4 144 1 (.agg cs) (.bool v) j=.agg (cs.set j (.bool v)):=by
 unfold C4;rw[if_neg (by omega)];show AV.agg (cs.take j++[.bool v]++cs.drop (j+1))=_
 rw[List.set_eq_take_append_cons_drop,if_pos h];simp
theorem Qdt (bu:Nat) (pre:List RE):∀c y,Ac.emp.set bu ⟨73,144,[.agg (Iy pre)]⟩ c=some y→∀v∈y.l,v.cells.all AV.one=true:=by
 intro c y hy v hv;simp only[A6,Ax]at hy;split at hy
 ·cases hy;simp only[List.mem_singleton]at hv;subst hv;exact Qg9 pre
 ·cases hy
theorem Qcq {m':Ac} {bu b:Nat} {x:Ex} (X:RE) (h:m' b=none):Br ((Ac.emp.set bu x).set b ⟨46,6,[X.av]⟩) m' (.ptr b 6 0 0) (.rptr [.int .i64 X.a,.int .i64 X.b,.bool X.sq.n1,Ao X.sq.l1,.bool X.sq.n2,Ao X.sq.l2]) :=
 .ptr b 6 0 0 ⟨46,6,[X.av]⟩ X.av (Ac.set_same _ _ _) h rfl rfl
set_option maxRecDepth 8000 in
theorem Px (n:Int) (es:List RE) (hb:LbE es):Ai Tryz.prog 18 [.int .i64 n,A8 es] Ac.emp fun v m=>v=Cg n es∧m=Ac.emp:=by
 refine Ad Tryz.func18 rfl rfl 84 rfl (Nat.le_of_ble_eq_true rfl) ?_;unfold A8;(repeat refine AW.seq_k fun K hK=>?_);refine AW.rg ?_;simp[Al];try (refine hK _ rfl ?_;clear hK K)
 by_cases c1:n<1
 ·have hc:Du n es=false:=by unfold Du;simp;omega
  (repeat refine AW.seq_k fun K hK=>?_);refine AW.rg ?_;simp[c1];try (refine hK _ rfl ?_;clear hK K)
  refine AW.yes ?_ rfl;(repeat refine AW.seq_k fun K hK=>?_);refine AW.rg ?_;simp;try (refine hK _ rfl ?_;clear hK K)
  exact AW.ret (Ag rfl _ (.same _) ⟨by unfold Cg;rw[hc];rfl,rfl⟩)
 by_cases c2:12<n
 ·have hc:Du n es=false:=by unfold Du;simp;omega
  (repeat refine AW.seq_k fun K hK=>?_);refine AW.rg ?_;simp[c1,c2];try (refine hK _ rfl ?_;clear hK K)
  refine AW.yes ?_ rfl;(repeat refine AW.seq_k fun K hK=>?_);refine AW.rg ?_;simp;try (refine hK _ rfl ?_;clear hK K)
  exact AW.ret (Ag rfl _ (.same _) ⟨by unfold Cg;rw[hc];rfl,rfl⟩)
 by_cases c3:(40:Int)<(es.length:Int)
 ·have hc:Du n es=false:=by unfold Du;simp;omega
  (repeat refine AW.seq_k fun K hK=>?_);refine AW.rg ?_;simp[c1,c2,c3];try (refine hK _ rfl ?_;clear hK K)
  refine AW.yes ?_ rfl;(repeat refine AW.seq_k fun K hK=>?_);refine AW.rg ?_;simp;try (refine hK _ rfl ?_;clear hK K)
  exact AW.ret (Ag rfl _ (.same _) ⟨by unfold Cg;rw[hc];rfl,rfl⟩)
 (repeat refine AW.seq_k fun K hK=>?_);refine AW.rg ?_;simp[c1,c2,c3];try (refine hK _ rfl ?_;clear hK K)
 refine AW.no ?_ rfl;refine AW.skip ?_;try simp
 try (refine hK _ rfl ?_;clear hK K)
 (repeat refine AW.seq_k fun K hK=>?_);refine AW.rg ?_;simp;try (refine hK _ rfl ?_;clear hK K)
 refine Af.intro fun bu hbu=>?_;refine hK _ rfl ?_;clear hK K;refine AW.seq_ex (ι:=Unit) (fun _=>[]) (fun _=>Ac.emp.set bu ⟨73,144,[.agg (Iy es)]⟩) (fun _=>Du n es=true) ?_ ?_
 ·(repeat refine AW.seq_k fun K hK=>?_);refine AW.rg ?_;simp;try (refine hK _ rfl ?_;clear hK K)
  refine AW.block (AW.loopS (ι:=Nat) (fun i=>[(0,.int .i64 n),(1,.sl 6 (Fg es)),(5,.ptr bu 144 0 0),(19,.sl 6 (Fg es)),(20,.int .i64 (es.length:Nat)),(21,.int .i64 (i:Nat))]) (fun i=>Ac.emp.set bu ⟨73,144,[.agg (Iy (es.take i))]⟩)
   (fun i=>i≤es.length∧(List.range i).all (P3 n es)=true) (fun i=>es.length-i) 0 ⟨by simp,by simp⟩ (by rfl) (by simp) ?_)
  rintro i ⟨g1,g2⟩;(repeat refine AW.seq_k fun K hK=>?_);refine AW.rg ?_;simp;try (refine hK _ rfl ?_;clear hK K)
  (repeat refine AW.seq ?_);refine AW.cs (fun hi=>?_) (fun hi=>?_) rfl<;>(try simp at hi)
  ·refine AW.skip ?_;try simp
   try (refine hK _ rfl ?_;clear hK K)
   have w1:=Au (i+1) (by omega);have g3:∀x,x<i→P3 n es x=true:=by simpa using g2
   have hx:=hb.at hi;have hv:=F3 (Ii es i).sq hx;have hs:=Nx (Ii es i).sq hx;have hp:P3 n es i=okE n (es.take i) (Ii es i):=rfl;have htk:es.take (i+1)=es.take i++[Ii es i]:=by rw[N8 hi,List.take_add_one,List.getElem?_eq_getElem hi];rfl
   have hpre:∀y∈es.take i,y.inB:=by
    intro y hy;obtain⟨q,hq,rfl⟩:=List.mem_take_iff_getElem.1 hy;have h1:=g3 q (by omega);unfold P3 okE at h1;rw[N8 (by omega)]at h1;simp only[Bool.and_eq_true,decide_eq_true_eq]at h1;exact⟨by omega,by omega,by omega,by omega⟩
   generalize hX:Ii es i=X at *;(repeat refine AW.seq ?_);refine AW.block ?_;(repeat refine AW.seq_k fun K hK=>?_);refine AW.rg ?_;simp[hi,hX,C1];try (refine hK _ rfl ?_;clear hK K)
   refine Af.intro fun b6 hb6=>?_;simp only[Am,Ax,and_true]at hb6;have hb6':=hb6.1;have hb6'':=hb6.2;refine hK _ rfl ?_;clear hK K;refine AW.turn [(0,.int .i64 n),(1,.sl 6 (Fg es)),(5,.ptr bu 144 0 0),(7,.rptr [.int .i64 X.a,.int .i64 X.b,.bool X.sq.n1,Ao X.sq.l1,.bool X.sq.n2,Ao X.sq.l2]),(19,.sl 6 (Fg es)),(20,.int .i64 (es.length:Nat)),(21,.int .i64 (i:Nat))] (Ac.emp.set bu ⟨73,144,[.agg (Iy (es.take i))]⟩) (Ba.drop (by simp[hb6',hb6'']) (Qdt bu (es.take i))) ?_ ?_
   ·simp;exact Qcq X (by simp[hb6'])
   by_cases d1:X.a<0
   ·have hf:P3 n es i=false:=by rw[hp];exact Cr (by rintro⟨q1,q2,q3,q4,q5,_⟩;omega)
    (repeat refine AW.seq_k fun K hK=>?_);refine AW.rdL [bu] [0,1,2,3,4,5,6,7,8,9,10,11,12,13,14,15,16,17,18,19,20,21,22,23,24,25,26,27,28,29,30,31,32,33,34,35] C6 (by simp) ?_;simp[d1];try (refine hK _ rfl ?_;clear hK K)
    refine AW.yes ?_ rfl;(repeat refine AW.seq_k fun K hK=>?_);refine AW.rg ?_;simp;try (refine hK _ rfl ?_;clear hK K)
    exact AW.ret (Ag rfl _ (.same _) ⟨by unfold Cg;rw[Cp hi hf];rfl,rfl⟩)
   by_cases d2:n≤X.a
   ·have hf:P3 n es i=false:=by rw[hp];exact Cr (by rintro⟨q1,q2,q3,q4,q5,_⟩;omega)
    (repeat refine AW.seq_k fun K hK=>?_);refine AW.rdL [bu] [0,1,2,3,4,5,6,7,8,9,10,11,12,13,14,15,16,17,18,19,20,21,22,23,24,25,26,27,28,29,30,31,32,33,34,35] C6 (by simp) ?_;simp[d1,d2];try (refine hK _ rfl ?_;clear hK K)
    refine AW.yes ?_ rfl;(repeat refine AW.seq_k fun K hK=>?_);refine AW.rg ?_;simp;try (refine hK _ rfl ?_;clear hK K)
    exact AW.ret (Ag rfl _ (.same _) ⟨by unfold Cg;rw[Cp hi hf];rfl,rfl⟩)
   by_cases d3:X.b<0
   ·have hf:P3 n es i=false:=by rw[hp];exact Cr (by rintro⟨q1,q2,q3,q4,q5,_⟩;omega)
    (repeat refine AW.seq_k fun K hK=>?_);refine AW.rdL [bu] [0,1,2,3,4,5,6,7,8,9,10,11,12,13,14,15,16,17,18,19,20,21,22,23,24,25,26,27,28,29,30,31,32,33,34,35] C6 (by simp) ?_;simp[d1,d2,d3];try (refine hK _ rfl ?_;clear hK K)
    refine AW.yes ?_ rfl;(repeat refine AW.seq_k fun K hK=>?_);refine AW.rg ?_;simp;try (refine hK _ rfl ?_;clear hK K)
    exact AW.ret (Ag rfl _ (.same _) ⟨by unfold Cg;rw[Cp hi hf];rfl,rfl⟩)
   by_cases d4:n≤X.b
   ·have hf:P3 n es i=false:=by rw[hp];exact Cr (by rintro⟨q1,q2,q3,q4,q5,_⟩;omega)
    (repeat refine AW.seq_k fun K hK=>?_);refine AW.rdL [bu] [0,1,2,3,4,5,6,7,8,9,10,11,12,13,14,15,16,17,18,19,20,21,22,23,24,25,26,27,28,29,30,31,32,33,34,35] C6 (by simp) ?_;simp[d1,d2,d3,d4];try (refine hK _ rfl ?_;clear hK K)
    refine AW.yes ?_ rfl;(repeat refine AW.seq_k fun K hK=>?_);refine AW.rg ?_;simp;try (refine hK _ rfl ?_;clear hK K)
    exact AW.ret (Ag rfl _ (.same _) ⟨by unfold Cg;rw[Cp hi hf];rfl,rfl⟩)
   by_cases d5:X.a=X.b
   ·have hf:P3 n es i=false:=by rw[hp];exact Cr (by rintro⟨q1,q2,q3,q4,q5,_⟩;omega)
    (repeat refine AW.seq_k fun K hK=>?_);refine AW.rdL [bu] [0,1,2,3,4,5,6,7,8,9,10,11,12,13,14,15,16,17,18,19,20,21,22,23,24,25,26,27,28,29,30,31,32,33,34,35] C6 (by simp) ?_;simp[d1,d2,d3,d4,d5];try (refine hK _ rfl ?_;clear hK K)
    refine AW.yes ?_ rfl;(repeat refine AW.seq_k fun K hK=>?_);refine AW.rg ?_;simp;try (refine hK _ rfl ?_;clear hK K)
    exact AW.ret (Ag rfl _ (.same _) ⟨by unfold Cg;rw[Cp hi hf];rfl,rfl⟩)
   have hin:X.inB:=⟨by omega,by omega,by omega,by omega⟩;have hug:=Ph (es.take i) (c:=X.a.toNat*12+X.b.toNat) (by obtain⟨q1,q2,q3,q4⟩:=hin;omega);have hus:=Qce (pre:=es.take i) (x:=X) hpre hin;have l1:X.a<12:=by omega
   have l2:X.b<12:=by omega
   have l3:0≤X.a:=by omega
   have l4:0≤X.b:=by omega
   by_cases d0:(es.take i).any (Bt X)=true
   ·have hf:P3 n es i=false:=by rw[hp];exact Cr (fun q=>by have:=q.2.2.2.2.2.2.2;rw[d0]at this;cases this)
    rw[hus,d0]at hug;(repeat refine AW.seq_k fun K hK=>?_);refine AW.rdL [bu] [0,1,2,3,4,5,6,7,8,9,10,11,12,13,14,15,16,17,18,19,20,21,22,23,24,25,26,27,28,29,30,31,32,33,34,35] C6 (by simp) ?_;simp[d1,d2,d3,d4,d5,l1,l2,l3,l4,hug];try (refine hK _ rfl ?_;clear hK K)
    refine AW.yes ?_ rfl;(repeat refine AW.seq_k fun K hK=>?_);refine AW.rg ?_;simp;try (refine hK _ rfl ?_;clear hK K)
    exact AW.ret (Ag rfl _ (.same _) ⟨by unfold Cg;rw[Cp hi hf];rfl,rfl⟩)
   replace d0:(es.take i).any (Bt X)=false:=by simpa using d0
   rw[hus,d0]at hug;(repeat refine AW.seq_k fun K hK=>?_);refine AW.rdL [bu] [0,1,2,3,4,5,6,7,8,9,10,11,12,13,14,15,16,17,18,19,20,21,22,23,24,25,26,27,28,29,30,31,32,33,34,35] C6 (by simp) ?_;simp[d1,d2,d3,d4,d5,l1,l2,l3,l4,hug];try (refine hK _ rfl ?_;clear hK K)
   refine AW.no ?_ rfl;refine AW.skip ?_;try simp
   try (refine hK _ rfl ?_;clear hK K)
   by_cases d6:X.sq.ok=false
   ·have hf:P3 n es i=false:=by rw[hp];exact Cr (fun q=>by rw[d6]at q;simp at q)
    (repeat refine AW.seq_k fun K hK=>?_);refine AW.rg ?_;simp;try (refine hK _ rfl ?_;clear hK K)
    refine Aa.val hv ?_;simp[d6];try (refine hK _ rfl ?_;clear hK K)
    refine AW.yes ?_ rfl;(repeat refine AW.seq_k fun K hK=>?_);refine AW.rg ?_;simp;try (refine hK _ rfl ?_;clear hK K)
    exact AW.ret (Ag rfl _ (.same _) ⟨by unfold Cg;rw[Cp hi hf];rfl,rfl⟩)
   replace d6:X.sq.ok=true:=by simpa using d6
   by_cases d7:Dj X.sq≤0
   ·have hf:P3 n es i=false:=by rw[hp];exact Cr (fun q=>by have:=q.2.2.2.2.2.2.1;omega)
    (repeat refine AW.seq_k fun K hK=>?_);refine AW.rg ?_;simp;try (refine hK _ rfl ?_;clear hK K)
    refine Aa.val hv ?_;simp[d6];refine Aa.val hs ?_;simp[d7];try (refine hK _ rfl ?_;clear hK K)
    refine AW.yes ?_ rfl;(repeat refine AW.seq_k fun K hK=>?_);refine AW.rg ?_;simp;try (refine hK _ rfl ?_;clear hK K)
    exact AW.ret (Ag rfl _ (.same _) ⟨by unfold Cg;rw[Cp hi hf];rfl,rfl⟩)
   (repeat refine AW.seq_k fun K hK=>?_);refine AW.rg ?_;simp;try (refine hK _ rfl ?_;clear hK K)
   refine Aa.val hv ?_;simp[d6];refine Aa.val hs ?_;simp[d7];try (refine hK _ rfl ?_;clear hK K)
   refine AW.no ?_ rfl;refine AW.skip ?_;try simp
   try (refine hK _ rfl ?_;clear hK K)
   have st1:=Sx (cs:=Iy (es.take i)) (j:=X.a.toNat*12+X.b.toNat) true (by simp;obtain⟨q1,q2,q3,q4⟩:=hin;omega) (by simp);have st2:=Sx (cs:=(Iy (es.take i)).set (X.a.toNat*12+X.b.toNat) (.bool true)) (j:=X.b.toNat*12+X.a.toNat) true (by simp;obtain⟨q1,q2,q3,q4⟩:=hin;omega) (by simp);have pj1:X.a.toNat*12+X.b.toNat<144:=by omega
   have pj2:X.b.toNat*12+X.a.toNat<144:=by omega
   (repeat refine AW.seq_k fun K hK=>?_);refine AW.rdT [] [7,71,73,75,77] [] [] [0,1,2,3,4,5,6,7,8,9,11,10,12,13] C6 (by simp[l1,l2,l3,l4,st1,st2,Gx _ _ hin,pj1,pj2]) (by simp[l1,l2,l3,l4,st1,st2,Gx _ _ hin,pj1,pj2]) (by simp[l1,l2,l3,l4,st1,st2,Gx _ _ hin,pj1,pj2]) (by simp[l1,l2,l3,l4,st1,st2,Gx _ _ hin,pj1,pj2]) (by simp[l1,l2,l3,l4,st1,st2,Gx _ _ hin,pj1,pj2]) ?_;simp[l1,l2,l3,l4,st1,st2,Gx _ _ hin,pj1,pj2];try (refine hK _ rfl ?_;clear hK K)
   refine⟨by omega,by omega,?_⟩;(repeat refine AW.seq_k fun K hK=>?_);refine AW.rg ?_;simp[-Int.natCast_add,w1];try (refine hK _ rfl ?_;clear hK K)
   exact⟨i+1,⟨by omega,by intro q hq;rcases Nat.lt_or_ge q i with h1 | h1;exact g3 q h1;rw[show q=i by omega,hp];exact Qba ⟨by omega,by omega,by omega,by omega,d5,d6,by omega,d0⟩⟩,by omega,by rw[htk],rfl⟩
  ·refine AW.exit ?_;try simp
   have:i=es.length:=by omega
   refine⟨?_,?_⟩
   ·unfold Du;rw[←this,g2];simp;omega
   ·rw[List.take_of_length_le (by omega)]
 ·rintro _ h;(repeat refine AW.seq_k fun K hK=>?_);refine AW.rg ?_;simp;try (refine hK _ rfl ?_;clear hK K)
  exact AW.ret (Ag rfl _ (.same _) ⟨by unfold Cg;rw[h];rfl,rfl⟩)
end Go.Av
end
section
namespace Go.Av
open Go.Proofs Go.Lam
theorem Ej {n:Int} {es:List RE} (h:Du n es=true):(1≤n∧n≤12∧es.length≤40)∧∀i,i<es.length→okE n (es.take i) (Ii es i)=true:=by
 unfold Du at h;simp only[Bool.and_eq_true,decide_eq_true_eq,List.all_eq_true,List.mem_range]at h;exact⟨⟨h.1.1.1,h.1.1.2,h.1.2⟩,h.2⟩
theorem Qgi {n:Int} {pre:List RE} {x:RE} (h:okE n pre x=true):0≤x.a∧x.a<n∧0≤x.b∧x.b<n∧x.a≠x.b∧x.sq.ok=true∧0<Dj x.sq∧pre.any (Bt x)=false:=by
 unfold okE at h;simp only[Bool.and_eq_true,decide_eq_true_eq,Bool.not_eq_true',beq_eq_false_iff_ne]at h;exact⟨h.1.1.1.1.1.1.1,h.1.1.1.1.1.1.2,h.1.1.1.1.1.2,h.1.1.1.1.2,h.1.1.1.2,h.1.1.2,h.1.2,h.2⟩
theorem Rx {n:Int} {es:List RE} (h:Du n es=true):Lw n.toNat es:=by
 obtain⟨⟨h1,h2,h3⟩,h4⟩:=Ej h;intro i hi;obtain⟨q1,q2,q3,q4,q5,_⟩:=Qgi (h4 i hi);unfold Ah Dz;simp only;omega
def Hn (n:Int) (es:List RE):List Nat:=if Du n es=true then B8 n.toNat (Ah es) [] (List.range es.length) else []
theorem Lw.at {n:Nat} {es:List RE} (h:Lw n es) {s:List Nat} (hs:∀i∈s,i<es.length):∀i∈s,Dz n (Ah es i):=fun i hi=>(h i (hs i hi)).2.2
theorem Qfs {n:Nat} {E:Nat→Ed} {i k:Nat} (h:k∈B8 n E [] (List.range i)):k<i:=by
 rcases Ns h with h1|h1
 ·simp at h1
 ·simpa using h1
theorem Qgd (n:Nat) (E:Nat→Ed) (i:Nat):(B8 n E [] (List.range i)).length≤i:=by
 have:=Gm (n:=n) (E:=E) (List.range i) [];simpa using this
def Tn (n:Int) (es:List RE):AV:=.int .i64 (if Du n es=true then (if n=1 then 0 else 2*n-3-((Hn n es).length:Int)) else 0)
theorem Yi {n:Int} {es:List RE} (h:Du n es=true):(Hn n es).length≤40:=by
 obtain⟨⟨h1,h2,h3⟩,_⟩:=Ej h;unfold Hn;rw[if_pos h];have:=Qgd n.toNat (Ah es) es.length;omega
end Go.Av
end
section
namespace Go.Av
open Go.Proofs Go.Lam
theorem Z5 (l:List Nat) (e:Nat) (hl:l.length<2^40):Ai Tryz.prog 89 [.sl 1 (Aw l),.int .i64 (e:Nat)] Ac.emp fun v m=>(∃t:Int,v=.int .i64 t∧(0≤t↔e∈l))∧m=Ac.emp:=by
 refine Ad Tryz.func89 rfl rfl 19 rfl (Nat.le_of_ble_eq_true rfl) ?_;(repeat refine AW.seq_k fun K hK=>?_);refine AW.rg ?_;simp[Al];try (refine hK _ rfl ?_;clear hK K)
 refine AW.seq_ex (ι:=Unit) (fun _=>[]) (fun _=>Ac.emp) (fun _=>e ∉ l) ?_ ?_
 ·(repeat refine AW.seq_k fun K hK=>?_);refine AW.rg ?_;simp;try (refine hK _ rfl ?_;clear hK K)
  refine AW.block (AW.loopS (ι:=Nat) (fun i=>[(0,.sl 1 (Aw l)),(1,.int .i64 (e:Nat)),(7,.int .i64 (l.length:Nat)),(8,.int .i64 (i:Nat))]) (fun i=>Ac.emp)
   (fun i=>i≤l.length∧∀k,(h:k<l.length)→k<i→l[k]≠e) (fun i=>l.length-i) 0 ⟨by simp,by omega⟩ rfl (by simp) ?_)
  rintro i ⟨g1,g2⟩;(repeat refine AW.seq_k fun K hK=>?_);refine AW.rg ?_;simp;try (refine hK _ rfl ?_;clear hK K)
  (repeat refine AW.seq ?_);refine AW.cs (fun hi=>?_) (fun hi=>?_) rfl<;>(try simp at hi)
  ·refine AW.skip ?_;try simp
   try (refine hK _ rfl ?_;clear hK K)
   have w1:=Au (i+1) (by omega);(repeat refine AW.seq ?_);refine AW.block ?_;(repeat refine AW.seq_k fun K hK=>?_);refine AW.rg ?_;simp;try (refine hK _ rfl ?_;clear hK K)
   (repeat refine AW.seq_k fun K hK=>?_);refine AW.rg ?_;simp[hi];try (refine hK _ rfl ?_;clear hK K)
   (repeat refine AW.seq ?_);refine AW.cs (fun he=>?_) (fun he=>?_) rfl<;>(try simp at he)
   ·(repeat refine AW.seq_k fun K hK=>?_);refine AW.rg ?_;simp;try (refine hK _ rfl ?_;clear hK K)
    exact AW.ret (Ag rfl _ (.same _) ⟨⟨i,rfl,⟨fun _=>(by rw[he];exact List.getElem_mem hi),fun _=>(by omega)⟩⟩,rfl⟩)
   ·refine AW.skip ?_;try simp
    try (refine hK _ rfl ?_;clear hK K)
    (repeat refine AW.seq_k fun K hK=>?_);refine AW.rg ?_;simp[-Int.natCast_add,w1];try (refine hK _ rfl ?_;clear hK K)
    refine⟨⟨by omega,fun k h hk=>?_⟩,by omega⟩;rcases Nat.lt_or_ge k i with h1 | h1
    ·exact g2 k h h1
    ·have:k=i:=by omega
     subst this;exact fun h=>he h.symm
  ·refine AW.exit ?_;try simp
   intro hm;obtain⟨k,hk,rfl⟩:=List.mem_iff_getElem.1 hm;exact g2 k hk (by omega) rfl
 ·rintro _ h;(repeat refine AW.seq_k fun K hK=>?_);refine AW.rg ?_;simp;try (refine hK _ rfl ?_;clear hK K)
  exact AW.ret (Ag rfl _ (.same _) ⟨⟨-1,rfl,⟨fun h=>(by omega),fun h'=>absurd h' h⟩⟩,rfl⟩)
theorem Td (l:List Nat) (e:Nat) (hl:l.length<2^40):Ai Tryz.prog 50 [.sl 1 (Aw l),.int .i64 (e:Nat)] Ac.emp fun v m=>v=.bool (decide (e∈l))∧m=Ac.emp:=by
 have hc:=Z5 l e hl;refine Ad Tryz.func50 rfl rfl 9 rfl (Nat.le_of_ble_eq_true rfl) ?_;(repeat refine AW.seq_k fun K hK=>?_);refine AW.rg ?_;simp[Al];try (refine hK _ rfl ?_;clear hK K)
 (repeat refine AW.seq_k fun K hK=>?_);refine AW.rg ?_;simp;try (refine hK _ rfl ?_;clear hK K)
 refine Aa.pure hc ?_;rintro _ ⟨t,rfl,ht⟩;simp;try (refine hK _ rfl ?_;clear hK K)
 exact AW.ret (Ag rfl _ (.same _) ⟨by show AV.bool (decide (0≤t))=_;rw[decide_eq_decide.2 ht],rfl⟩)
theorem Wn (b:Nat) (l:List Nat):∀c y,Ac.emp.set b ⟨3,1,Aw l⟩ c=some y→∀v∈y.l,v.cells.all AV.one=true:=by
 intro c y hy v hv;simp only[A6,Ax]at hy;split at hy
 ·cases hy;exact Cw _ v hv
 ·cases hy
theorem Zf (l:List Nat) (hl:l.length<2^40) (h0:l≠[]):Ai Tryz.prog 52 [.sl 1 (Aw l)] Ac.emp fun v m=>∃b,v=.osl b 1 0 l.length∧m=Ac.emp.set b ⟨3,1,Aw l⟩:=by
 have hi:Aw l≠[]:=by intro h;have:=Ls l;rw[h]at this;exact h0 (List.eq_nil_of_length_eq_zero this.symm)
 refine Ad Tryz.func52 rfl rfl 8 rfl (Nat.le_of_ble_eq_true rfl) ?_;(repeat refine AW.seq_k fun K hK=>?_);refine AW.rg ?_;simp[Al];try (refine hK _ rfl ?_;clear hK K)
 (repeat refine AW.seq_k fun K hK=>?_);refine AW.rg ?_;simp[Lh,hi];try (refine hK _ rfl ?_;clear hK K)
 refine AW.no ?_ rfl;refine AW.skip ?_;try simp
 try (refine hK _ rfl ?_;clear hK K)
 (repeat refine AW.seq_k fun K hK=>?_);refine AW.rg ?_;simp;try (refine hK _ rfl ?_;clear hK K)
 refine Af.intro fun b5 _=>⟨by omega,by unfold maxLen;omega,Af.intro fun b7 _=>?_⟩;refine hK _ rfl ?_;clear hK K;exact AW.ret (Bo rfl (Wn b7 l) ⟨b7,rfl,rfl⟩)
theorem Oo (b:Nat) (l:List Nat) (k:Nat) (hk:k<l.length) (hl:l.length<2^40):Ai Tryz.prog 51 [.osl b 1 0 l.length,.int .i64 (k:Nat),.int .i64 ((k+1:Nat):Int)] (Ac.emp.set b ⟨3,1,Aw l⟩) fun v m=>v=.osl b 1 0 (l.length-1)∧m=Ac.emp.set b ⟨3,1,Aw (l.eraseIdx k)⟩:=by
 have hkn:¬(k:Int)=((k+1:Nat):Int):=by omega
 refine Ad Tryz.func51 rfl rfl 33 rfl (Nat.le_of_ble_eq_true rfl) ?_;(repeat refine AW.seq_k fun K hK=>?_);refine AW.rg ?_;simp[-Int.natCast_add,Al];try (refine hK _ rfl ?_;clear hK K)
 have w0:((l.length:Int)).toNat=l.length:=by simp
 have c0:(0:Int)≤(l.length:Int):=by omega
 have c1:((k+1:Nat):Int)≤(l.length:Int):=by omega
 have c2:(k:Int)≤((k+1:Nat):Int):=by omega
 have c3:¬l.length=k:=by omega
 (repeat refine AW.seq_k fun K hK=>?_);refine AW.rg ?_;simp[-Int.natCast_add,c0,c1,c2,c3];try (refine hK _ rfl ?_;clear hK K)
 (repeat refine AW.seq_k fun K hK=>?_);refine AW.rg ?_;simp[-Int.natCast_add,hkn];try (refine hK _ rfl ?_;clear hK K)
 refine AW.no ?_ rfl;refine AW.skip ?_;try simp[-Int.natCast_add]
 try (refine hK _ rfl ?_;clear hK K)
 (repeat refine AW.seq_k fun K hK=>?_);refine AW.rg ?_;simp[-Int.natCast_add];try (refine hK _ rfl ?_;clear hK K)
 have key:(Aw l).take k++(Aw l).drop (k+1)++(Aw l).drop (l.length-1)=Aw (l.eraseIdx k++l.drop (l.length-1)):=by
  rw[List.eraseIdx_eq_take_drop_succ];simp[Aw,List.map_take,List.map_drop]
 have hel:(l.eraseIdx k).length=l.length-1:=by rw[List.length_eraseIdx,if_pos hk]
 have hdl:(l.drop (l.length-1)).length=1:=by simp;omega
 have key2:(Aw (l.eraseIdx k++l.drop (l.length-1))).take (l.length-1)=Aw (l.eraseIdx k):=by
  unfold Aw;rw[←List.map_take,List.take_append_of_le_length (by omega),List.take_of_length_le (by omega)]
 refine AW.seq_has [(0,.osl b 1 0 (l.length-1)),(7,.int .i64 (l.length:Nat))] (Ac.emp.set b ⟨3,1,Aw (l.eraseIdx k++l.drop (l.length-1))⟩) ?_ ?_
 ·refine AW.rdLR [26] [] [0,1,2,3,4,5,6,7] C6 (by simp[-Int.natCast_add]) ?_;by_cases hlast:k+1=l.length
  ·have hne:¬l=[]:=by rintro rfl;simp at hk
   simp[c0,c1,c2,hlast,Vi,hne];refine⟨by omega,by omega,by unfold maxLen;omega,by omega,?_,by omega⟩;have hd:(Aw l).drop (k+1)=[]:=List.drop_of_length_le (by simp;omega);rw[hd,List.append_nil,show l.length-1=k by omega]at key;rw[List.take_append_drop]at key;rw[show l.length-1=k by omega,←key]
  ·have c5:¬l.length=k+1:=by omega
   simp[-Int.natCast_add,c0,c1,c2,c5,Vi];have ht:List.take (l.length-(k+1)) (List.drop (k+1) (Aw l))=List.drop (k+1) (Aw l):=List.take_of_length_le (by simp);refine⟨by omega,by omega,fun x hx=>?_,by omega,by unfold maxLen;omega,by omega,?_,by omega⟩
   ·have hm:x∈Aw l:=List.mem_of_mem_drop (List.mem_of_mem_take hx);unfold Aw at hm;obtain⟨y,_,rfl⟩:=List.mem_map.1 hm;exact⟨rfl,by simp[AV.cells,AV.one]⟩
   ·rw[ht,show k+(l.length-(k+1))=l.length-1 by omega,←List.append_assoc,key]
 (repeat refine AW.seq_k fun K hK=>?_);refine AW.rgY ?_;simp[Qhj,isY,Qm6];refine⟨b,0,⟨rfl,rfl⟩,_,⟨rfl,rfl⟩,rfl,.i64,.i64,l.length-1,⟨rfl,rfl⟩,l.length,⟨rfl,rfl⟩,by omega,by simp[hel,hdl];omega,b,_,_,⟨rfl,rfl,rfl⟩,_,⟨rfl,rfl⟩,by omega,by simp[hel,hdl];omega,?_⟩;refine hK _ rfl ?_;clear hK K;(repeat refine AW.seq_k fun K hK=>?_);refine AW.rg ?_;simp;try (refine hK _ rfl ?_;clear hK K)
 refine AW.shrink (b:=b) (e:=3) (z:=1) (by simp only[A6,if_true];rfl) (l.length-1) ?_;simp;rw[List.take_append_of_le_length (by simp[hel,hdl]),List.take_take,Nat.min_self,key2];exact AW.ret (Bo rfl (Wn b _) ⟨rfl,rfl⟩)
end Go.Av
end
