/- A part of the proof. -/
import Derived.Test.YthflocfaafoohaaGreatP2
set_option linter.all false
set_option exponentiation.threshold 5000
set_option maxRecDepth 10000
section
namespace Go.Av
open Go.Proofs
theorem H6 (d:Nat):Az (d:Int)=.agg [.bool false,Ao (Ar d)]:=by
 rw[Az,show decide ((d:Int)<0)=false by simp];rfl
theorem I2 {z:Int} (h:Cf z=true):Bs z=.tup [.agg [.bool (decide (z<0)),Ao (Ar z.natAbs)],.int .i64 0]:=by
 rw[B7]at h;rw[Bs,Q4 h,Qq h];rfl
theorem K5 {z:Int} (h:¬Cf z=true):Bs z=.tup [.agg [.bool false,Ao []],.int .i64 2]:=by
 rw[B7]at h;rw[Bs,fz,fe,if_neg h,if_neg h,Az];simp[Bb]
section
variable {a b:Rat}
theorem Qjt (h1:Cf (a.num*b.num)=true) (h2:Cf ((a.den:Int)*b.den)=true):D4 a b=some (a*b):=by unfold D4;rw[h1,h2];rfl
theorem Qei (h1:¬Cf (a.num*b.num)=true):D4 a b=none:=by unfold D4;rw[if_neg (by simp only[Bool.and_eq_true];exact fun h=>h1 h.1)]
theorem Qeh (h1:Cf (a.num*b.num)=true) (h2:¬Cf ((a.den:Int)*b.den)=true):D4 a b=none:=by unfold D4;rw[if_neg (by simp only[Bool.and_eq_true];exact fun h=>h2 h.2)]
theorem Qi6 (h1:Cf (a.num*b.den)=true) (h2:Cf ((a.den:Int)*b.num)=true):Ft a b=some (a / b):=by unfold Ft;rw[h1,h2];rfl
theorem Qew (h1:¬Cf (a.num*b.den)=true):Ft a b=none:=by unfold Ft;rw[if_neg (by simp only[Bool.and_eq_true];exact fun h=>h1 h.1)]
theorem Qfk (h1:Cf (a.num*b.den)=true) (h2:¬Cf ((a.den:Int)*b.num)=true):Ft a b=none:=by unfold Ft;rw[if_neg (by simp only[Bool.and_eq_true];exact fun h=>h2 h.2)]
theorem Qi2 (h1:Cf (a.num*b.den)=true) (h2:Cf (b.num*a.den)=true) (h3:Cf (a.num*b.den-b.num*a.den)=true) (h4:Cf ((a.den:Int)*b.den)=true):Cz a b=some (a-b):=by unfold Cz;rw[h1,h2,h3,h4];rfl
theorem Qfl (h1:¬Cf (a.num*b.den)=true):Cz a b=none:=by unfold Cz;rw[if_neg (by simp only[Bool.and_eq_true];exact fun h=>h1 h.1.1.1)]
theorem Qez (h1:Cf (a.num*b.den)=true) (h2:¬Cf (b.num*a.den)=true):Cz a b=none:=by unfold Cz;rw[if_neg (by simp only[Bool.and_eq_true];exact fun h=>h2 h.1.1.2)]
theorem Qeq (h1:Cf (a.num*b.den)=true) (h2:Cf (b.num*a.den)=true) (h3:¬Cf (a.num*b.den-b.num*a.den)=true):Cz a b=none:=by unfold Cz;rw[if_neg (by simp only[Bool.and_eq_true];exact fun h=>h3 h.1.2)]
theorem Qe2 (h1:Cf (a.num*b.den)=true) (h2:Cf (b.num*a.den)=true) (h3:Cf (a.num*b.den-b.num*a.den)=true) (h4:¬Cf ((a.den:Int)*b.den)=true):Cz a b=none:=by unfold Cz;rw[if_neg (by simp only[Bool.and_eq_true];exact fun h=>h4 h.2)]
end
theorem Eo {q:Rat} (h:Bu q):((q.den:Int)).natAbs<Bk:=by simpa using h.2
theorem Qhm (a b:Rat) (ha:Bu a) (hb:Bu b):Ai Tryz.prog 213 [Gl a,Gl b] Ac.emp fun v m=>v=C0 (D4 a b)∧m=Ac.emp:=by
 have hbo:=Ni (Aq a) (Aq b) (D9 a) (D9 b);rw[Dq ha,Dq hb]at hbo;have m1:=G1 a.num b.num ha.1 hb.1;have m2:=G1 a.den b.den (Eo ha) (Eo hb);have hne:(a.den:Int)*b.den≠0:=Int.ne_of_gt (Int.mul_pos (by have:=a.den_pos;omega) (by have:=b.den_pos;omega));have hlo:Cf (a.num*b.num)=true→Cf ((a.den:Int)*b.den)=true→_:=fun h1 h2=>I3 (a.num*b.num) ((a.den:Int)*b.den) (B7.1 h1) (B7.1 h2) hne;rw[←Qb6]at hlo;simp only[RR.av,Aq]at hbo;unfold Gl at *;simp only[H6]at m2
 simp only[Az]at m1 hlo;refine Ad Tryz.func213 rfl rfl 42 rfl (Nat.le_of_ble_eq_true rfl) ?_;(repeat refine AW.seq_k fun K hK=>?_);refine AW.rgR [2,3] ?_;simp[Al];try (refine hK _ rfl ?_;clear hK K)
 refine Af.intro fun b4 _=>?_;refine hK _ rfl ?_;clear hK K;(repeat refine AW.seq_k fun K hK=>?_);refine AW.rg ?_;simp;try (refine hK _ rfl ?_;clear hK K)
 refine Aa.val hbo ?_;simp;refine hK _ rfl ?_;clear hK K;refine AW.no ?_ rfl;refine AW.skip ?_;try simp
 refine hK _ rfl ?_;clear hK K;(repeat refine AW.seq_k fun K hK=>?_);refine AW.rg ?_;simp[and_true];try (refine hK _ rfl ?_;clear hK K)
 refine Aa.val m1 ?_;by_cases c1:Cf (a.num*b.num)=true
 case neg =>
  rw[K5 c1];simp;refine Af.intro fun b6 hb6=>?_;simp only[Am,Aw,and_true]at hb6;try simp[and_true]
  refine hK _ rfl ?_;clear hK K;(repeat refine AW.seq_k fun K hK=>?_);refine AW.rg ?_;simp;try (refine hK _ rfl ?_;clear hK K)
  refine AW.yes ?_ rfl;(repeat refine AW.seq_k fun K hK=>?_);refine AW.rg ?_;simp[and_true,hb6];try (refine hK _ rfl ?_;clear hK K)
  exact AW.ret (B3 (b:=b4) _ _ _ _ rfl rfl (by simp[and_true,hb6];exact⟨rfl,rfl,rfl,rfl⟩) rfl (by simp;exact⟨B9 _ _ _ |>.2 trivial,Br.nilsl 1,B9 _ _ _ |>.2 trivial,Br.nilsl 1⟩) ⟨by rw[Qei c1];rfl,rfl⟩)
 rw[I2 c1];simp;refine Af.intro fun b6 hb6=>?_;simp only[Am,Aw,and_true]at hb6;try simp[and_true]
 refine hK _ rfl ?_;clear hK K;(repeat refine AW.seq_k fun K hK=>?_);refine AW.rg ?_;simp;try (refine hK _ rfl ?_;clear hK K)
 refine AW.no ?_ rfl;refine AW.skip ?_;try simp
 refine hK _ rfl ?_;clear hK K;(repeat refine AW.seq_k fun K hK=>?_);refine AW.rg ?_;simp[hb6];try (refine hK _ rfl ?_;clear hK K)
 refine Aa.val m2 ?_;by_cases c2:Cf ((a.den:Int)*b.den)=true
 case neg =>
  rw[K5 c2];simp;refine Af.intro fun b8 hb8=>?_;simp only[Am,Aw,and_true]at hb8;try simp[hb6]
  refine hK _ rfl ?_;clear hK K;(repeat refine AW.seq_k fun K hK=>?_);refine AW.rg ?_;simp;try (refine hK _ rfl ?_;clear hK K)
  refine AW.yes ?_ rfl;(repeat refine AW.seq_k fun K hK=>?_);refine AW.rg ?_;simp[hb6,hb8];try (refine hK _ rfl ?_;clear hK K)
  exact AW.ret (B3 (b:=b4) _ _ _ _ rfl rfl (by simp[hb6,hb8];exact⟨rfl,rfl,rfl,rfl⟩) rfl (by simp;exact⟨B9 _ _ _ |>.2 trivial,Br.nilsl 1,B9 _ _ _ |>.2 trivial,Br.nilsl 1⟩) ⟨by rw[Qeh c1 c2];rfl,rfl⟩)
 rw[I2 c2];simp[-Int.natCast_mul];refine Af.intro fun b8 hb8=>?_;simp only[Am,Aw,and_true]at hb8;try simp[-Int.natCast_mul,hb6]
 refine hK _ rfl ?_;clear hK K;(repeat refine AW.seq_k fun K hK=>?_);refine AW.rg ?_;simp[-Int.natCast_mul];try (refine hK _ rfl ?_;clear hK K)
 refine AW.no ?_ rfl;refine AW.skip ?_;try simp[-Int.natCast_mul]
 refine hK _ rfl ?_;clear hK K;(repeat refine AW.seq_k fun K hK=>?_);refine AW.rg ?_;simp[-Int.natCast_mul,hb6,hb8];try (refine hK _ rfl ?_;clear hK K)
 refine Aa.val (hlo c1 c2) ?_;simp[-Int.natCast_mul,hb6,hb8];refine hK _ rfl ?_;clear hK K;exact AW.ret (B3 (b:=b4) _ _ _ _ rfl rfl (by simp[-Int.natCast_mul,hb6,hb8];exact⟨rfl,rfl,rfl,rfl⟩) rfl (A9 _ _ _) ⟨by rw[Qjt c1 c2];rfl,rfl⟩)
theorem Qhq (a b:Rat) (ha:Bu a) (hb:Bu b) (h0:b≠0):Ai Tryz.prog 205 [Gl a,Gl b] Ac.emp fun v m=>v=C0 (Ft a b)∧m=Ac.emp:=by
 have hbo:=Ni (Aq a) (Aq b) (D9 a) (D9 b);rw[Dq ha,Dq hb]at hbo;have hb0:b.num≠0:=fun e=>h0 (Rat.num_eq_zero.1 e);have hz:=G9 (decide (b.num<0)) (Ar b.num.natAbs);have hl:¬Ar b.num.natAbs=[]:=by rw[Cj];omega
 have m1:=G1 a.num b.den ha.1 (Eo hb);have m2:=G1 a.den b.num (Eo ha) hb.1;have hne:(a.den:Int)*b.num≠0:=Int.mul_ne_zero (by have:=a.den_pos;omega) hb0;have hlo:Cf (a.num*b.den)=true→Cf ((a.den:Int)*b.num)=true→_:=fun h1 h2=>I3 (a.num*b.den) ((a.den:Int)*b.num) (B7.1 h1) (B7.1 h2) hne;rw[←Qce]at hlo;simp only[RR.av,Aq]at hbo;unfold D2 at hz;unfold Gl at *;simp only[H6]at m1 m2;simp only[Az]at m1 m2 hlo;refine Ad Tryz.func205 rfl rfl 46 rfl (Nat.le_of_ble_eq_true rfl) ?_;(repeat refine AW.seq_k fun K hK=>?_)
 refine AW.rgR [2,3] ?_;simp[Al];try (refine hK _ rfl ?_;clear hK K)
 refine Af.intro fun b4 _=>?_;refine hK _ rfl ?_;clear hK K;(repeat refine AW.seq_k fun K hK=>?_);refine AW.rg ?_;simp;try (refine hK _ rfl ?_;clear hK K)
 refine Aa.val hbo ?_;simp;refine hK _ rfl ?_;clear hK K;refine AW.no ?_ rfl;refine AW.skip ?_;try simp
 refine hK _ rfl ?_;clear hK K;(repeat refine AW.seq_k fun K hK=>?_);refine AW.rg ?_;simp;try (refine hK _ rfl ?_;clear hK K)
 refine Aa.val hz ?_;simp[hl];refine hK _ rfl ?_;clear hK K;refine AW.no ?_ rfl;refine AW.skip ?_;try simp
 refine hK _ rfl ?_;clear hK K;(repeat refine AW.seq_k fun K hK=>?_);refine AW.rg ?_;simp[and_true];try (refine hK _ rfl ?_;clear hK K)
 refine Aa.val m1 ?_;by_cases c1:Cf (a.num*(b.den:Int))=true
 case neg =>
  rw[K5 c1];simp;refine Af.intro fun b6 hb6=>?_;simp only[Am,Aw,and_true]at hb6;try simp[and_true]
  refine hK _ rfl ?_;clear hK K;(repeat refine AW.seq_k fun K hK=>?_);refine AW.rg ?_;simp;try (refine hK _ rfl ?_;clear hK K)
  refine AW.yes ?_ rfl;(repeat refine AW.seq_k fun K hK=>?_);refine AW.rg ?_;simp[and_true,hb6];try (refine hK _ rfl ?_;clear hK K)
  exact AW.ret (B3 (b:=b4) _ _ _ _ rfl rfl (by simp[and_true,hb6];exact⟨rfl,rfl,rfl,rfl⟩) rfl (by simp;exact⟨B9 _ _ _ |>.2 trivial,Br.nilsl 1,B9 _ _ _ |>.2 trivial,Br.nilsl 1⟩) ⟨by rw[Qew c1];rfl,rfl⟩)
 rw[I2 c1];simp;refine Af.intro fun b6 hb6=>?_;simp only[Am,Aw,and_true]at hb6;try simp[and_true]
 refine hK _ rfl ?_;clear hK K;(repeat refine AW.seq_k fun K hK=>?_);refine AW.rg ?_;simp;try (refine hK _ rfl ?_;clear hK K)
 refine AW.no ?_ rfl;refine AW.skip ?_;try simp
 refine hK _ rfl ?_;clear hK K;(repeat refine AW.seq_k fun K hK=>?_);refine AW.rg ?_;simp[hb6];try (refine hK _ rfl ?_;clear hK K)
 refine Aa.val m2 ?_;by_cases c2:Cf ((a.den:Int)*b.num)=true
 case neg =>
  rw[K5 c2];simp;refine Af.intro fun b8 hb8=>?_;simp only[Am,Aw,and_true]at hb8;try simp[hb6]
  refine hK _ rfl ?_;clear hK K;(repeat refine AW.seq_k fun K hK=>?_);refine AW.rg ?_;simp;try (refine hK _ rfl ?_;clear hK K)
  refine AW.yes ?_ rfl;(repeat refine AW.seq_k fun K hK=>?_);refine AW.rg ?_;simp[hb6,hb8];try (refine hK _ rfl ?_;clear hK K)
  exact AW.ret (B3 (b:=b4) _ _ _ _ rfl rfl (by simp[hb6,hb8];exact⟨rfl,rfl,rfl,rfl⟩) rfl (by simp;exact⟨B9 _ _ _ |>.2 trivial,Br.nilsl 1,B9 _ _ _ |>.2 trivial,Br.nilsl 1⟩) ⟨by rw[Qfk c1 c2];rfl,rfl⟩)
 rw[I2 c2];simp;refine Af.intro fun b8 hb8=>?_;simp only[Am,Aw,and_true]at hb8;try simp[hb6]
 refine hK _ rfl ?_;clear hK K;(repeat refine AW.seq_k fun K hK=>?_);refine AW.rg ?_;simp;try (refine hK _ rfl ?_;clear hK K)
 refine AW.no ?_ rfl;refine AW.skip ?_;try simp
 refine hK _ rfl ?_;clear hK K;(repeat refine AW.seq_k fun K hK=>?_);refine AW.rg ?_;simp[hb6,hb8];try (refine hK _ rfl ?_;clear hK K)
 refine Aa.val (hlo c1 c2) ?_;simp[hb6,hb8];refine hK _ rfl ?_;clear hK K;exact AW.ret (B3 (b:=b4) _ _ _ _ rfl rfl (by simp[hb6,hb8];exact⟨rfl,rfl,rfl,rfl⟩) rfl (A9 _ _ _) ⟨by rw[Qi6 c1 c2];rfl,rfl⟩)
theorem U7 (a b:Rat) (ha:Bu a) (hb:Bu b):Ai Tryz.prog 98 [Gl a,Gl b,.bool true] Ac.emp fun v m=>v=C0 (Cz a b)∧m=Ac.emp:=by
 have hbo:=Ni (Aq a) (Aq b) (D9 a) (D9 b);rw[Dq ha,Dq hb]at hbo;have m1:=G1 a.num b.den ha.1 (Eo hb);have m2:=G1 b.num a.den hb.1 (Eo ha);have m4:=G1 a.den b.den (Eo ha) (Eo hb);have hne:(a.den:Int)*b.den≠0:=Int.ne_of_gt (Int.mul_pos (by have:=a.den_pos;omega) (by have:=b.den_pos;omega));have hlo:Cf (a.num*b.den-b.num*a.den)=true→Cf ((a.den:Int)*b.den)=true→_:=fun h1 h2=>I3 (a.num*b.den-b.num*a.den) ((a.den:Int)*b.den) (B7.1 h1) (B7.1 h2) hne;rw[←Qds]at hlo
 have hng:Cf (b.num*a.den)=true→_:=fun h=>Jb (b.num*a.den) (B7.1 h);have m3:Cf (a.num*b.den)=true→Cf (b.num*a.den)=true→_:=fun h1 h2=>Qfv (a.num*b.den) (-(b.num*a.den)) (B7.1 h1) (by rw[Int.natAbs_neg];exact B7.1 h2);rw[←Int.sub_eq_add_neg]at m3;obtain⟨y,hy⟩:∃y:Int,-(b.num*a.den)=y:=⟨_,rfl⟩;rw[hy]at hng m3;simp only[RR.av,Aq]at hbo;unfold Gl at *;simp only[H6]at m1 m2 m4;simp only[Az]at m1 m2 m3 hlo hng;refine Ad Tryz.func98 rfl rfl 73 rfl (Nat.le_of_ble_eq_true rfl) ?_;(repeat refine AW.seq_k fun K hK=>?_)
 refine AW.rgR [3,4] ?_;simp[Al];try (refine hK _ rfl ?_;clear hK K)
 refine Af.intro fun b6 _=>?_;refine hK _ rfl ?_;clear hK K;(repeat refine AW.seq_k fun K hK=>?_);refine AW.rg ?_;simp;try (refine hK _ rfl ?_;clear hK K)
 refine Aa.val hbo ?_;simp;refine hK _ rfl ?_;clear hK K;refine AW.no ?_ rfl;refine AW.skip ?_;try simp
 refine hK _ rfl ?_;clear hK K;(repeat refine AW.seq_k fun K hK=>?_);refine AW.rg ?_;simp[and_true];try (refine hK _ rfl ?_;clear hK K)
 refine Aa.val m1 ?_;by_cases c1:Cf (a.num*(b.den:Int))=true
 case neg =>
  rw[K5 c1];simp;refine Af.intro fun b8 hb8=>?_;simp only[Am,Aw,and_true]at hb8;try simp[and_true]
  refine hK _ rfl ?_;clear hK K;(repeat refine AW.seq_k fun K hK=>?_);refine AW.rg ?_;simp;try (refine hK _ rfl ?_;clear hK K)
  refine AW.yes ?_ rfl;(repeat refine AW.seq_k fun K hK=>?_);refine AW.rg ?_;simp[and_true,hb8];try (refine hK _ rfl ?_;clear hK K)
  exact AW.ret (B3 (b:=b6) _ _ _ _ rfl rfl (by simp[and_true,hb8];exact⟨rfl,rfl,rfl,rfl⟩) rfl (by simp;exact⟨B9 _ _ _ |>.2 trivial,Br.nilsl 1,B9 _ _ _ |>.2 trivial,Br.nilsl 1⟩) ⟨by rw[Qfl c1];rfl,rfl⟩)
 rw[I2 c1];simp;refine Af.intro fun b8 hb8=>?_;simp only[Am,Aw,and_true]at hb8;try simp[and_true]
 refine hK _ rfl ?_;clear hK K;(repeat refine AW.seq_k fun K hK=>?_);refine AW.rg ?_;simp;try (refine hK _ rfl ?_;clear hK K)
 refine AW.no ?_ rfl;refine AW.skip ?_;try simp
 refine hK _ rfl ?_;clear hK K;(repeat refine AW.seq_k fun K hK=>?_);refine AW.rg ?_;simp[hb8];try (refine hK _ rfl ?_;clear hK K)
 refine Aa.val m2 ?_;by_cases c2:Cf (b.num*(a.den:Int))=true
 case neg =>
  rw[K5 c2];simp;refine Af.intro fun b10 hb10=>?_;simp only[Am,Aw,and_true]at hb10;try simp[hb8]
  refine hK _ rfl ?_;clear hK K;(repeat refine AW.seq_k fun K hK=>?_);refine AW.rg ?_;simp;try (refine hK _ rfl ?_;clear hK K)
  refine AW.yes ?_ rfl;(repeat refine AW.seq_k fun K hK=>?_);refine AW.rg ?_;simp[hb8,hb10];try (refine hK _ rfl ?_;clear hK K)
  exact AW.ret (B3 (b:=b6) _ _ _ _ rfl rfl (by simp[hb8,hb10];exact⟨rfl,rfl,rfl,rfl⟩) rfl (by simp;exact⟨B9 _ _ _ |>.2 trivial,Br.nilsl 1,B9 _ _ _ |>.2 trivial,Br.nilsl 1⟩) ⟨by rw[Qez c1 c2];rfl,rfl⟩)
 rw[I2 c2];simp;refine Af.intro fun b10 hb10=>?_;simp only[Am,Aw,and_true]at hb10;try simp[hb8]
 refine hK _ rfl ?_;clear hK K;(repeat refine AW.seq_k fun K hK=>?_);refine AW.rg ?_;simp;try (refine hK _ rfl ?_;clear hK K)
 refine AW.no ?_ rfl;refine AW.skip ?_;try simp
 refine hK _ rfl ?_;clear hK K;refine AW.seq_k fun K hK=>?_;(repeat refine AW.seq_k fun K hK=>?_);refine AW.rg ?_;simp;try (refine hK _ rfl ?_;clear hK K)
 refine AW.yes ?_ rfl;(repeat refine AW.seq_k fun K hK=>?_);refine AW.rg ?_;simp[hb8,hb10];try (refine hK _ rfl ?_;clear hK K)
 refine Aa.val (hng c2) ?_;simp[hb8,hb10];refine hK _ rfl ?_;clear hK K;(repeat refine AW.seq_k fun K hK=>?_);refine AW.rg ?_;simp[hb8,hb10];try (refine hK _ rfl ?_;clear hK K)
 refine Aa.val (m3 c1 c2) ?_;by_cases c3:Cf (a.num*(b.den:Int)-b.num*(a.den:Int))=true
 case neg =>
  rw[K5 c3];simp;refine Af.intro fun b12 hb12=>?_;simp only[Am,Aw,and_true]at hb12;try simp[hb8,hb10]
  refine hK _ rfl ?_;clear hK K;(repeat refine AW.seq_k fun K hK=>?_);refine AW.rg ?_;simp;try (refine hK _ rfl ?_;clear hK K)
  refine AW.yes ?_ rfl;(repeat refine AW.seq_k fun K hK=>?_);refine AW.rg ?_;simp[hb8,hb10,hb12];try (refine hK _ rfl ?_;clear hK K)
  exact AW.ret (B3 (b:=b6) _ _ _ _ rfl rfl (by simp[hb8,hb10,hb12];exact⟨rfl,rfl,rfl,rfl⟩) rfl (by simp;exact⟨B9 _ _ _ |>.2 trivial,Br.nilsl 1,B9 _ _ _ |>.2 trivial,Br.nilsl 1⟩) ⟨by rw[Qeq c1 c2 c3];rfl,rfl⟩)
 rw[I2 c3];simp;refine Af.intro fun b12 hb12=>?_;simp only[Am,Aw,and_true]at hb12;try simp[hb8,hb10]
 refine hK _ rfl ?_;clear hK K;(repeat refine AW.seq_k fun K hK=>?_);refine AW.rg ?_;simp;try (refine hK _ rfl ?_;clear hK K)
 refine AW.no ?_ rfl;refine AW.skip ?_;try simp
 refine hK _ rfl ?_;clear hK K;(repeat refine AW.seq_k fun K hK=>?_);refine AW.rg ?_;simp[hb8,hb10,hb12];try (refine hK _ rfl ?_;clear hK K)
 refine Aa.val m4 ?_;by_cases c4:Cf ((a.den:Int)*(b.den:Int))=true
 case neg =>
  rw[K5 c4];simp;refine Af.intro fun b14 hb14=>?_;simp only[Am,Aw,and_true]at hb14;try simp[hb8,hb10,hb12]
  refine hK _ rfl ?_;clear hK K;(repeat refine AW.seq_k fun K hK=>?_);refine AW.rg ?_;simp;try (refine hK _ rfl ?_;clear hK K)
  refine AW.yes ?_ rfl;(repeat refine AW.seq_k fun K hK=>?_);refine AW.rg ?_;simp[hb8,hb10,hb12,hb14];try (refine hK _ rfl ?_;clear hK K)
  exact AW.ret (B3 (b:=b6) _ _ _ _ rfl rfl (by simp[hb8,hb10,hb12,hb14];exact⟨rfl,rfl,rfl,rfl⟩) rfl (by simp;exact⟨B9 _ _ _ |>.2 trivial,Br.nilsl 1,B9 _ _ _ |>.2 trivial,Br.nilsl 1⟩) ⟨by rw[Qe2 c1 c2 c3 c4];rfl,rfl⟩)
 rw[I2 c4];simp[-Int.natCast_mul];refine Af.intro fun b14 hb14=>?_;simp only[Am,Aw,and_true]at hb14;try simp[-Int.natCast_mul,hb8,hb10,hb12]
 refine hK _ rfl ?_;clear hK K;(repeat refine AW.seq_k fun K hK=>?_);refine AW.rg ?_;simp[-Int.natCast_mul];try (refine hK _ rfl ?_;clear hK K)
 refine AW.no ?_ rfl;refine AW.skip ?_;try simp[-Int.natCast_mul]
 refine hK _ rfl ?_;clear hK K;(repeat refine AW.seq_k fun K hK=>?_);refine AW.rg ?_;simp[-Int.natCast_mul,hb8,hb10,hb12,hb14];try (refine hK _ rfl ?_;clear hK K)
 refine Aa.val (hlo c3 c4) ?_;simp[-Int.natCast_mul,hb8,hb10,hb12,hb14];refine hK _ rfl ?_;clear hK K;exact AW.ret (B3 (b:=b6) _ _ _ _ rfl rfl (by simp[-Int.natCast_mul,hb8,hb10,hb12,hb14];exact⟨rfl,rfl,rfl,rfl⟩) rfl (A9 _ _ _) ⟨by rw[Qi2 c1 c2 c3 c4];rfl,rfl⟩)
end Go.Av
end
section
namespace Go.Av
open Go.Proofs
theorem H1 (a b:Rat) (ha:Bu a) (hb:Bu b):Ai Tryz.prog 65 [Gl a,Gl b] Ac.emp fun v m=>v=C0 (Cz a b)∧m=Ac.emp:=by
 have hs:=U7 a b ha hb;generalize Cz a b=q at *;unfold Gl at hs ⊢;refine Ad Tryz.func65 rfl rfl 11 rfl (Nat.le_of_ble_eq_true rfl) ?_;(repeat refine AW.seq_k fun K hK=>?_);refine AW.rgR [2,3] ?_;simp[Al];try (refine hK _ rfl ?_;clear hK K)
 refine Af.intro fun b4 _=>?_;refine hK _ rfl ?_;clear hK K;(repeat refine AW.seq_k fun K hK=>?_);refine AW.rg ?_;simp;try (refine hK _ rfl ?_;clear hK K)
 refine Aa.val hs ?_;cases q
 ·simp[C0,B5];refine hK _ rfl ?_;clear hK K;exact AW.ret (B3 (b:=b4) _ _ _ _ rfl rfl (by simp<;>exact⟨rfl,rfl,rfl,rfl⟩) rfl (A9 _ _ _) ⟨rfl,rfl⟩)
 ·simp[C0,Gl];refine hK _ rfl ?_;clear hK K;exact AW.ret (B3 (b:=b4) _ _ _ _ rfl rfl (by simp<;>exact⟨rfl,rfl,rfl,rfl⟩) rfl (A9 _ _ _) ⟨rfl,rfl⟩)
@[simp] theorem Q0l:Ak Tryz.prog 98=some {size:=1,bytes:=8,cls:=.func,zero:=.nfn,fields:=[]}:=by kernel_rfl
@[simp] theorem Lc.agg_func:Lc.func.agg=false:=(rfl)
def kz (e z:Int):Int:=if e=0 then fz z else 0
def ke (e z:Int):Int:=if e=0 then fe z else e
theorem Qj2 (e z:Int):(kz e z).natAbs<Bk:=by
 unfold kz;split
 ·exact Qnm z
 ·exact Qnm 0 |> fun h=>by simpa[fz,show(0:Int).natAbs<Bk by decide]using h
section
variable {P:Program} {rs:List ResultVar} {R:AV→Ac→Prop} {s:St}
theorem Df {vs:List AV} (vs':List AV) (b:Nat) (x:Ev) (hs:Dv P s rs=some vs) (hb:s.m b=some x) (h1:∀v∈x.l,v.cells.all AV.one=true) (hv:D8 s.m (Ac.emp.set b x) vs vs') (hR:R (oneOrTup vs') (Ac.emp.set b x)):Ms P rs R .ret s :=
 ⟨vs,hs,_,_,Ba.one hb h1,Br.oneOrTup hv,hR⟩
end
theorem Ws (f:Nat) (b:Nat):Ai Tryz.prog 181 [.fn f [],.ptr b 1 0 0] Ac.emp fun v m=>v=.fn 182 [.ptr b 1 0 0,.rptr [.fn f []]]∧m=Ac.emp:=by
 refine Ad Tryz.func181 rfl rfl 5 rfl (Nat.le_of_ble_eq_true rfl) ?_;(repeat refine AW.seq_k fun K hK=>?_);refine AW.rgR [2] ?_;simp[Al];try (refine hK _ rfl ?_;clear hK K)
 (repeat refine AW.seq_k fun K hK=>?_);refine AW.rg ?_;simp;try (refine hK _ rfl ?_;clear hK K)
 exact AW.ret (Ag rfl _ (.same _) ⟨rfl,rfl⟩)
theorem F0 (f:Nat) (b:Nat) (e z x y:Int) (hf:Ai Tryz.prog f [Az x,Az y] Ac.emp fun v m=>v=Bs z∧m=Ac.emp) :
  Ai Tryz.prog 182 [Az x,Az y,.ptr b 1 0 0,.rptr [.fn f []]] (Ac.emp.set b ⟨23,1,[.int .i64 e]⟩) fun v m=>v=Az (kz e z)∧m=Ac.emp.set b ⟨23,1,[.int .i64 (ke e z)]⟩:=by
 rw[C7]at hf;unfold Az at *;refine Ad Tryz.func182 rfl rfl 21 rfl (Nat.le_of_ble_eq_true rfl) ?_;(repeat refine AW.seq_k fun K hK=>?_);refine AW.rgR [4,5] ?_;simp[Al];try (refine hK _ rfl ?_;clear hK K)
 refine Af.intro fun b6 hb6=>?_;simp only[Am,Aw,and_true]at hb6;refine hK _ rfl ?_;clear hK K;(repeat refine AW.seq_k fun K hK=>?_);refine AW.rg ?_;simp[hb6];try (refine hK _ rfl ?_;clear hK K)
 by_cases he:e=0
 ·subst he;refine AW.no ?_ rfl;refine AW.skip ?_;try simp
  refine hK _ rfl ?_;clear hK K;(repeat refine AW.seq_k fun K hK=>?_);refine AW.rg ?_;simp[hb6];try (refine hK _ rfl ?_;clear hK K)
  refine⟨f,[],⟨rfl,rfl⟩,?_⟩;refine Aa.val hf ?_;simp;refine Af.intro fun b7 hb7=>?_;simp only[Am,Aw,and_true]at hb7;try simp[hb6,hb7]
  refine hK _ rfl ?_;clear hK K;(repeat refine AW.seq_k fun K hK=>?_);refine AW.rg ?_;simp[hb6,hb7];try (refine hK _ rfl ?_;clear hK K)
  (repeat refine AW.seq_k fun K hK=>?_);refine AW.rg ?_;simp[hb6,hb7];try (refine hK _ rfl ?_;clear hK K)
  exact AW.ret (Df (vs:=[.agg [.bool (decide (fz z<0)),Ao (Ar (fz z).natAbs)]]) [.agg [.bool (decide (fz z<0)),Ao (Ar (fz z).natAbs)]] b ⟨23,1,[.int .i64 (fe z)]⟩ (by simp[hb6,hb7]) (by simp[hb6,hb7]) (by simp) (A9 _ _ _) ⟨rfl,rfl⟩)
 ·refine AW.yes ?_ (by simp[he]);(repeat refine AW.seq_k fun K hK=>?_);refine AW.rg ?_;simp[hb6];try (refine hK _ rfl ?_;clear hK K)
  have k1:kz e z=0:=if_neg he;have k2:ke e z=e:=if_neg he;rw[k1,k2];exact AW.ret (Df (vs:=[.agg [.bool false,.nil]]) [.agg [.bool false,Ao []]] b ⟨23,1,[.int .i64 e]⟩ (by simp[hb6]) (by simp[hb6]) (by simp) (by simp) ⟨by simp[Bb],rfl⟩)
end Go.Av
end
section
namespace Go.Av
open Go.Proofs
def opR (q:Option Rat) (N D e:Int):Prop :=
 match q with
 |some q=>e=0∧N.natAbs<Bk∧D.natAbs<Bk∧D≠0∧Rat.divInt N D=q
 |none=>e=2
def Em (q:Rat):List AV:=[.bool (decide (q.num<0)),Ao (Ar q.num.natAbs),.bool false,Ao (Ar q.den)]
def Rq (b:Nat) (e:Int):Ac:=Ac.emp.set b ⟨23,1,[.int .i64 e]⟩
theorem Ls {z:Int} (h:Cf z=true):kz 0 z=z:=by unfold kz;rw[if_pos rfl,Q4 (B7.1 h)]
theorem L1 {z:Int} (h:Cf z=true):ke 0 z=0:=by unfold ke;rw[if_pos rfl,Qq (B7.1 h)]
theorem Qw {z:Int} (h:¬Cf z=true):ke 0 z=2:=by unfold ke fe;rw[if_pos rfl,if_neg (fun h'=>h (B7.2 h'))]
section
variable {a b:Rat}
theorem Qpk:(a.den:Int)*b.den≠0:=Int.ne_of_gt (Int.mul_pos (by have:=a.den_pos;omega) (by have:=b.den_pos;omega))
theorem Qmi {e1 e2:Int} (h1:e1=ke 0 (a.num*b.num)) (h2:e2=ke e1 ((a.den:Int)*b.den)):opR (D4 a b) (kz 0 (a.num*b.num)) (kz e1 ((a.den:Int)*b.den)) e2:=by
 subst h1 h2;by_cases c1:Cf (a.num*b.num)=true
 ·rw[L1 c1];by_cases c2:Cf ((a.den:Int)*b.den)=true
  ·rw[Qjt c1 c2,Ls c1,Ls c2,L1 c2];exact⟨rfl,B7.1 c1,B7.1 c2,Qpk,(Qb6 a b).symm⟩
  ·rw[Qeh c1 c2,Qw c2];rfl
 ·rw[Qei c1,Qw c1];rfl
theorem Qmg {e1 e2:Int} (h0:b≠0) (h1:e1=ke 0 (a.num*b.den)) (h2:e2=ke e1 ((a.den:Int)*b.num)):opR (Ft a b) (kz 0 (a.num*b.den)) (kz e1 ((a.den:Int)*b.num)) e2:=by
 subst h1 h2;by_cases c1:Cf (a.num*b.den)=true
 ·rw[L1 c1];by_cases c2:Cf ((a.den:Int)*b.num)=true
  ·rw[Qi6 c1 c2,Ls c1,Ls c2,L1 c2];exact⟨rfl,B7.1 c1,B7.1 c2,Int.mul_ne_zero (by have:=a.den_pos;omega) (fun e=>h0 (Rat.num_eq_zero.1 e)),(Qce a b).symm⟩
  ·rw[Qfk c1 c2,Qw c2];rfl
 ·rw[Qew c1,Qw c1];rfl
theorem Qmt {e1 e2 e3 e4:Int} (h1:e1=ke 0 (a.num*b.den)) (h2:e2=ke e1 (b.num*a.den)) (h3:e3=ke e2 (kz 0 (a.num*b.den)+-kz e1 (b.num*a.den))) (h4:e4=ke e3 ((a.den:Int)*b.den)) :
  opR (Cz a b) (kz e2 (kz 0 (a.num*b.den)+-kz e1 (b.num*a.den))) (kz e3 ((a.den:Int)*b.den)) e4:=by
 subst h1 h2 h3 h4;by_cases c1:Cf (a.num*b.den)=true
 ·rw[L1 c1,Ls c1];by_cases c2:Cf (b.num*a.den)=true
  ·rw[L1 c2,Ls c2];rw[←Int.sub_eq_add_neg];by_cases c3:Cf (a.num*b.den-b.num*a.den)=true
   ·rw[L1 c3,Ls c3];by_cases c4:Cf ((a.den:Int)*b.den)=true
    ·rw[Qi2 c1 c2 c3 c4,Ls c4,L1 c4];exact⟨rfl,B7.1 c3,B7.1 c4,Qpk,(Qds a b).symm⟩
    ·rw[Qe2 c1 c2 c3 c4,Qw c4];rfl
   ·rw[Qeq c1 c2 c3,Qw c3];rfl
  ·rw[Qez c1 c2,Qw c2];rfl
 ·rw[Qfl c1,Qw c1];rfl
end
theorem Qhl (a b:Rat) (ha:Bu a) (hb:Bu b) (bl:Nat):Ai Tryz.prog 194 [.fn 182 [.ptr bl 1 0 0,.rptr [.fn 183 []]],.fn 182 [.ptr bl 1 0 0,.rptr [.fn 184 []]],.rptr (Em a),.rptr (Em b)] (Rq bl 0) fun v m=>∃N D e,v=.tup [Az N,Az D]∧m=Rq bl e∧opR (D4 a b) N D e:=by
 obtain⟨e1,he1⟩:∃e,e=ke 0 (a.num*b.num):=⟨_,rfl⟩;obtain⟨e2,he2⟩:∃e,e=ke e1 ((a.den:Int)*(b.den:Int)):=⟨_,rfl⟩;have hend:=Qmi he1 he2;have m1:=F0 183 bl 0 _ _ _ (G0 (a.num) (b.num) ha.1 hb.1);have m2:=F0 183 bl e1 _ _ _ (G0 ((a.den:Int)) ((b.den:Int)) (Eo ha) (Eo hb));rw[←he1]at m1;rw[←he2]at m2;generalize kz 0 (a.num*b.num)=z1 at *;generalize kz e1 ((a.den:Int)*(b.den:Int))=z2 at *;simp only[H6]at m1 m2;unfold Az at *;unfold Rq Em;refine Ad Tryz.func194 rfl rfl 21 rfl (Nat.le_of_ble_eq_true rfl) ?_
 (repeat refine AW.seq_k fun K hK=>?_);refine AW.rg ?_;simp[Al];try (refine hK _ rfl ?_;clear hK K)
 refine Af.intro fun b6 hb6=>?_;simp only[Am,Aw,and_true]at hb6;refine Af.intro fun b7 hb7=>?_;simp only[Am,Aw,and_true]at hb7;refine hK _ rfl ?_;clear hK K;(repeat refine AW.seq_k fun K hK=>?_);refine AW.rg ?_;simp[hb6,hb7];try (refine hK _ rfl ?_;clear hK K)
 refine⟨182,_,⟨rfl,rfl⟩,?_⟩;refine Aa.grant (R:=fun v x=>v=.agg [.bool (decide (z1<0)),Ao (Ar (z1).natAbs)]∧x=⟨23,1,[.int .i64 (e1)]⟩) bl ⟨23,1,[.int .i64 (0)]⟩ (by simp[hb6,hb7]) (by simp[hb6,hb7]) (m1.mono fun v m ⟨h1,h2⟩=>⟨_,⟨h1,rfl⟩,h2⟩) ?_;rintro _ _ ⟨rfl,rfl⟩;simp[hb6,hb7];refine hK _ rfl ?_;clear hK K;(repeat refine AW.seq_k fun K hK=>?_);refine AW.rdT [] [2,3,16,18] [] [b6] [0,1,2,3,4,5,6,7,8] C6 (by simp[hb6,hb7]) (by simp[hb6,hb7]) (by simp[hb6,hb7]) (by simp[hb6,hb7]) (by simp[hb6,hb7]) ?_;simp[hb6,hb7];try (refine hK _ rfl ?_;clear hK K)
 refine⟨182,_,⟨rfl,rfl⟩,?_⟩;refine Aa.grant (R:=fun v x=>v=.agg [.bool (decide (z2<0)),Ao (Ar (z2).natAbs)]∧x=⟨23,1,[.int .i64 (e2)]⟩) bl ⟨23,1,[.int .i64 (e1)]⟩ (by simp[hb6,hb7]) (by simp[hb6,hb7]) (m2.mono fun v m ⟨h1,h2⟩=>⟨_,⟨h1,rfl⟩,h2⟩) ?_;rintro _ _ ⟨rfl,rfl⟩;simp[hb6,hb7];refine hK _ rfl ?_;clear hK K;exact AW.ret (Df (vs:=[.agg [.bool (decide (z1<0)),Ao (Ar (z1).natAbs)],.agg [.bool (decide (z2<0)),Ao (Ar (z2).natAbs)]]) [.agg [.bool (decide (z1<0)),Ao (Ar (z1).natAbs)],.agg [.bool (decide (z2<0)),Ao (Ar (z2).natAbs)]] bl ⟨23,1,[.int .i64 e2]⟩ (by simp[hb6,hb7]) (by simp[hb6,hb7]) (by simp) (A9 _ _ _) ⟨z1,z2,e2,rfl,rfl,hend⟩)
theorem Qfw (a b:Rat) (ha:Bu a) (hb:Bu b) (h0:b≠0) (bl:Nat):Ai Tryz.prog 199 [.fn 182 [.ptr bl 1 0 0,.rptr [.fn 183 []]],.fn 182 [.ptr bl 1 0 0,.rptr [.fn 184 []]],.rptr (Em a),.rptr (Em b)] (Rq bl 0) fun v m=>∃N D e,v=.tup [Az N,Az D]∧m=Rq bl e∧opR (Ft a b) N D e:=by
 obtain⟨e1,he1⟩:∃e,e=ke 0 (a.num*(b.den:Int)):=⟨_,rfl⟩;obtain⟨e2,he2⟩:∃e,e=ke e1 ((a.den:Int)*b.num):=⟨_,rfl⟩;have hend:=Qmg h0 he1 he2;have m1:=F0 183 bl 0 _ _ _ (G0 (a.num) ((b.den:Int)) ha.1 (Eo hb));have m2:=F0 183 bl e1 _ _ _ (G0 ((a.den:Int)) (b.num) (Eo ha) hb.1);rw[←he1]at m1;rw[←he2]at m2;generalize kz 0 (a.num*(b.den:Int))=z1 at *;generalize kz e1 ((a.den:Int)*b.num)=z2 at *;simp only[H6]at m1 m2;unfold Az at *;unfold Rq Em;refine Ad Tryz.func199 rfl rfl 21 rfl (Nat.le_of_ble_eq_true rfl) ?_
 (repeat refine AW.seq_k fun K hK=>?_);refine AW.rg ?_;simp[Al];try (refine hK _ rfl ?_;clear hK K)
 refine Af.intro fun b6 hb6=>?_;simp only[Am,Aw,and_true]at hb6;refine Af.intro fun b7 hb7=>?_;simp only[Am,Aw,and_true]at hb7;refine hK _ rfl ?_;clear hK K;(repeat refine AW.seq_k fun K hK=>?_);refine AW.rg ?_;simp[hb6,hb7];try (refine hK _ rfl ?_;clear hK K)
 refine⟨182,_,⟨rfl,rfl⟩,?_⟩;refine Aa.grant (R:=fun v x=>v=.agg [.bool (decide (z1<0)),Ao (Ar (z1).natAbs)]∧x=⟨23,1,[.int .i64 (e1)]⟩) bl ⟨23,1,[.int .i64 (0)]⟩ (by simp[hb6,hb7]) (by simp[hb6,hb7]) (m1.mono fun v m ⟨h1,h2⟩=>⟨_,⟨h1,rfl⟩,h2⟩) ?_;rintro _ _ ⟨rfl,rfl⟩;simp[hb6,hb7];refine hK _ rfl ?_;clear hK K;(repeat refine AW.seq_k fun K hK=>?_);refine AW.rdT [] [2,3,16,18] [] [b6] [0,1,2,3,4,5,6,7,8] C6 (by simp[hb6,hb7]) (by simp[hb6,hb7]) (by simp[hb6,hb7]) (by simp[hb6,hb7]) (by simp[hb6,hb7]) ?_;simp[hb6,hb7];try (refine hK _ rfl ?_;clear hK K)
 refine⟨182,_,⟨rfl,rfl⟩,?_⟩;refine Aa.grant (R:=fun v x=>v=.agg [.bool (decide (z2<0)),Ao (Ar (z2).natAbs)]∧x=⟨23,1,[.int .i64 (e2)]⟩) bl ⟨23,1,[.int .i64 (e1)]⟩ (by simp[hb6,hb7]) (by simp[hb6,hb7]) (m2.mono fun v m ⟨h1,h2⟩=>⟨_,⟨h1,rfl⟩,h2⟩) ?_;rintro _ _ ⟨rfl,rfl⟩;simp[hb6,hb7];refine hK _ rfl ?_;clear hK K;exact AW.ret (Df (vs:=[.agg [.bool (decide (z1<0)),Ao (Ar (z1).natAbs)],.agg [.bool (decide (z2<0)),Ao (Ar (z2).natAbs)]]) [.agg [.bool (decide (z1<0)),Ao (Ar (z1).natAbs)],.agg [.bool (decide (z2<0)),Ao (Ar (z2).natAbs)]] bl ⟨23,1,[.int .i64 e2]⟩ (by simp[hb6,hb7]) (by simp[hb6,hb7]) (by simp) (A9 _ _ _) ⟨z1,z2,e2,rfl,rfl,hend⟩)
theorem Qgm (a b:Rat) (ha:Bu a) (hb:Bu b) (bl:Nat):Ai Tryz.prog 148 [.fn 182 [.ptr bl 1 0 0,.rptr [.fn 183 []]],.fn 182 [.ptr bl 1 0 0,.rptr [.fn 184 []]],.rptr (Em a),.rptr (Em b)] (Rq bl 0) fun v m=>∃N D e,v=.tup [Az N,Az D]∧m=Rq bl e∧opR (Cz a b) N D e:=by
 obtain⟨e1,he1⟩:∃e,e=ke 0 (a.num*b.den):=⟨_,rfl⟩;obtain⟨e2,he2⟩:∃e,e=ke e1 (b.num*a.den):=⟨_,rfl⟩;obtain⟨e3,he3⟩:∃e,e=ke e2 (kz 0 (a.num*b.den)+-kz e1 (b.num*a.den)):=⟨_,rfl⟩;obtain⟨e4,he4⟩:∃e,e=ke e3 ((a.den:Int)*b.den):=⟨_,rfl⟩;have hend:=Qmt he1 he2 he3 he4;have m1:=F0 183 bl 0 _ _ _ (G0 a.num b.den ha.1 (Eo hb));have m2:=F0 183 bl e1 _ _ _ (G0 b.num a.den hb.1 (Eo ha));have m4:=F0 183 bl e3 _ _ _ (G0 a.den b.den (Eo ha) (Eo hb));have m3:=F0 184 bl e2 _ _ _ (Qf4 (kz 0 (a.num*b.den)) (-kz e1 (b.num*a.den)) (Qj2 _ _) (by rw[Int.natAbs_neg];exact Qj2 _ _))
 have hng:=S6 (kz e1 (b.num*a.den)) (Qj2 _ _);rw[←he1]at m1;rw[←he2]at m2;rw[←he3]at m3;rw[←he4]at m4;generalize kz e2 (kz 0 (a.num*b.den)+-kz e1 (b.num*a.den))=z3 at *;generalize kz e3 ((a.den:Int)*b.den)=z4 at *;clear he1 he2 he3 he4;generalize -kz e1 (b.num*a.den)=ny at *;generalize kz e1 (b.num*a.den)=z2 at *;generalize kz 0 (a.num*b.den)=z1 at *;simp only[H6]at m1 m2 m4;unfold Az at *;unfold Rq Em;refine Ad Tryz.func148 rfl rfl 34 rfl (Nat.le_of_ble_eq_true rfl) ?_;(repeat refine AW.seq_k fun K hK=>?_);refine AW.rg ?_
 simp[Al];try (refine hK _ rfl ?_;clear hK K)
 refine Af.intro fun b6 hb6=>?_;simp only[Am,Aw,and_true]at hb6;refine Af.intro fun b7 hb7=>?_;simp only[Am,Aw,and_true]at hb7;refine hK _ rfl ?_;clear hK K;(repeat refine AW.seq_k fun K hK=>?_);refine AW.rdT [] [2,3,11,13,17,19] [] [] [0,1,2,3,4,6,7,8,9,10,5,11,12,13,14,15] C6 (by simp[hb6,hb7]) (by simp[hb6,hb7]) (by simp[hb6,hb7]) (by simp[hb6,hb7]) (by simp[hb6,hb7]) ?_;simp[hb6,hb7];try (refine hK _ rfl ?_;clear hK K)
 refine⟨182,_,⟨rfl,rfl⟩,?_⟩;refine Aa.grant (R:=fun v x=>v=.agg [.bool (decide (z1<0)),Ao (Ar (z1).natAbs)]∧x=⟨23,1,[.int .i64 (e1)]⟩) bl ⟨23,1,[.int .i64 (0)]⟩ (by simp[hb6,hb7]) (by simp[hb6,hb7]) (m1.mono fun v m ⟨h1,h2⟩=>⟨_,⟨h1,rfl⟩,h2⟩) ?_;rintro _ _ ⟨rfl,rfl⟩;simp[hb6,hb7];refine⟨182,_,⟨rfl,rfl⟩,?_⟩;refine Aa.grant (R:=fun v x=>v=.agg [.bool (decide (z2<0)),Ao (Ar (z2).natAbs)]∧x=⟨23,1,[.int .i64 (e2)]⟩) bl ⟨23,1,[.int .i64 (e1)]⟩ (by simp[hb6,hb7]) (by simp[hb6,hb7]) (m2.mono fun v m ⟨h1,h2⟩=>⟨_,⟨h1,rfl⟩,h2⟩) ?_
 rintro _ _ ⟨rfl,rfl⟩;simp[hb6,hb7];refine Af.intro fun b8 hb8=>?_;simp only[Am,Aw,and_true]at hb8;refine Af.intro fun b9 hb9=>?_;simp only[Am,Aw,and_true]at hb9;try simp[hb6,hb7,hb8,hb9]
 refine hK _ rfl ?_;clear hK K;(repeat refine AW.seq_k fun K hK=>?_);refine AW.rdT [] [] [] [b8,b9] [0,1,2,3,4,5] C6 (by simp[hb6,hb7,hb8,hb9]) (by simp[hb6,hb7,hb8,hb9]) (by simp[hb6,hb7,hb8,hb9]) (by simp[hb6,hb7,hb8,hb9]) (by simp[hb6,hb7,hb8,hb9]) ?_;simp[hb6,hb7,hb8,hb9];try (refine hK _ rfl ?_;clear hK K)
 refine Aa.val hng ?_;simp[hb6,hb7,hb8,hb9];refine⟨182,_,⟨rfl,rfl⟩,?_⟩;refine Aa.grant (R:=fun v x=>v=.agg [.bool (decide (z3<0)),Ao (Ar (z3).natAbs)]∧x=⟨23,1,[.int .i64 (e3)]⟩) bl ⟨23,1,[.int .i64 (e2)]⟩ (by simp[hb6,hb7,hb8,hb9]) (by simp[hb6,hb7,hb8,hb9]) (m3.mono fun v m ⟨h1,h2⟩=>⟨_,⟨h1,rfl⟩,h2⟩) ?_;rintro _ _ ⟨rfl,rfl⟩;simp[hb6,hb7,hb8,hb9];refine hK _ rfl ?_;clear hK K;(repeat refine AW.seq_k fun K hK=>?_);refine AW.rdT [] [2,3,29,31] [] [b6] [0,1,2,3,4,5,6,7,8] C6 (by simp[hb6,hb7,hb8,hb9]) (by simp[hb6,hb7,hb8,hb9]) (by simp[hb6,hb7,hb8,hb9]) (by simp[hb6,hb7,hb8,hb9]) (by simp[hb6,hb7,hb8,hb9]) ?_
 simp[hb6,hb7,hb8,hb9];try (refine hK _ rfl ?_;clear hK K)
 refine⟨182,_,⟨rfl,rfl⟩,?_⟩;refine Aa.grant (R:=fun v x=>v=.agg [.bool (decide (z4<0)),Ao (Ar (z4).natAbs)]∧x=⟨23,1,[.int .i64 (e4)]⟩) bl ⟨23,1,[.int .i64 (e3)]⟩ (by simp[hb6,hb7,hb8,hb9]) (by simp[hb6,hb7,hb8,hb9]) (m4.mono fun v m ⟨h1,h2⟩=>⟨_,⟨h1,rfl⟩,h2⟩) ?_;rintro _ _ ⟨rfl,rfl⟩;simp[hb6,hb7,hb8,hb9];refine hK _ rfl ?_;clear hK K;exact AW.ret (Df (vs:=[.agg [.bool (decide (z3<0)),Ao (Ar (z3).natAbs)],.agg [.bool (decide (z4<0)),Ao (Ar (z4).natAbs)]]) [.agg [.bool (decide (z3<0)),Ao (Ar (z3).natAbs)],.agg [.bool (decide (z4<0)),Ao (Ar (z4).natAbs)]] bl ⟨23,1,[.int .i64 e4]⟩ (by simp[hb6,hb7,hb8,hb9]) (by simp[hb6,hb7,hb8,hb9]) (by simp) (A9 _ _ _) ⟨z3,z4,e4,rfl,rfl,hend⟩)
end Go.Av
end
section
namespace Go.Av
open Go.Proofs
theorem Kg (a b:Rat) (ha:Bu a) (hb:Bu b) (f:Nat) (q:Option Rat)
  (hf:∀bl,Ai Tryz.prog f [.fn 182 [.ptr bl 1 0 0,.rptr [.fn 183 []]],.fn 182 [.ptr bl 1 0 0,.rptr [.fn 184 []]],.rptr (Em a),.rptr (Em b)] (Rq bl 0) fun v m=>∃N D e,v=.tup [Az N,Az D]∧m=Rq bl e∧opR q N D e) :
  Ai Tryz.prog 147 [Gl a,Gl b,.fn f [.rptr (Em a),.rptr (Em b)]] Ac.emp fun v m=>v=C0 q∧m=Ac.emp:=by
 have hall:=Tp (Aq a) (Aq b) (D9 a) (D9 b);rw[Dq ha,Dq hb]at hall;simp only[RR.av,Aq]at hall;unfold Rq Em at hf;unfold Gl Em;refine Ad Tryz.func147 rfl rfl 35 rfl (Nat.le_of_ble_eq_true rfl) ?_;(repeat refine AW.seq_k fun K hK=>?_);refine AW.rgR [3,4] ?_;simp[Al];try (refine hK _ rfl ?_;clear hK K)
 refine Af.intro fun b6 _=>?_;refine hK _ rfl ?_;clear hK K;(repeat refine AW.seq_k fun K hK=>?_);refine AW.rgR [14] ?_;simp;try (refine hK _ rfl ?_;clear hK K)
 refine Aa.val hall ?_;simp;refine hK _ rfl ?_;clear hK K;refine AW.no ?_ rfl;refine AW.skip ?_;try simp
 refine hK _ rfl ?_;clear hK K;(repeat refine AW.seq_k fun K hK=>?_);refine AW.rg ?_;simp;try (refine hK _ rfl ?_;clear hK K)
 refine Af.intro fun b8 hb8=>?_;simp only[Am,Aw,and_true]at hb8;try simp[hb8]
 refine hK _ rfl ?_;clear hK K;(repeat refine AW.seq_k fun K hK=>?_);refine AW.rg ?_;simp;try (refine hK _ rfl ?_;clear hK K)
 (repeat refine AW.seq_k fun K hK=>?_);refine AW.rg ?_;simp[hb8];try (refine hK _ rfl ?_;clear hK K)
 refine⟨_,_,⟨rfl,rfl⟩,?_⟩;refine Aa.val (Ws 183 b8) ?_;simp;refine⟨_,_,⟨rfl,rfl⟩,?_⟩;refine Aa.val (Ws 184 b8) ?_;simp;refine⟨_,_,⟨rfl,rfl⟩,?_⟩;refine Aa.grant (R:=fun v x=>∃N D e,v=.tup [Az N,Az D]∧x=⟨23,1,[.int .i64 e]⟩∧opR q N D e) b8 ⟨23,1,[.int .i64 0]⟩ (by simp[hb8]) (by simp[hb8]) ((hf b8).mono fun v m ⟨N,D,e,h1,h2,h3⟩=>⟨_,⟨N,D,e,h1,rfl,h3⟩,h2⟩) ?_;rintro _ _ ⟨N,D,e,rfl,rfl,hR⟩;simp[Az];refine Af.intro fun b10 hb10=>?_;simp only[Am,Aw,and_true]at hb10;refine Af.intro fun b11 hb11=>?_
 simp only[Am,Aw,and_true]at hb11;try simp[hb8,hb10,hb11]
 refine hK _ rfl ?_;clear hK K;(repeat refine AW.seq_k fun K hK=>?_);refine AW.rg ?_;simp[hb8,hb10,hb11];try (refine hK _ rfl ?_;clear hK K)
 cases q with
 |none =>
  have he:e=2:=hR;subst he;refine AW.yes ?_ rfl;(repeat refine AW.seq_k fun K hK=>?_);refine AW.rdT [(8,b8),(6,b6)] [] [] [b8] [0,1,2,3] C6 (by simp[hb8,hb10,hb11]) (by simp[hb8,hb10,hb11]) (by simp[hb8,hb10,hb11]) (by simp[hb8,hb10,hb11]) (by simp[hb8,hb10,hb11]) ?_;simp[hb8,hb10,hb11];try (refine hK _ rfl ?_;clear hK K)
  exact AW.ret (B3 (b:=b6) (.bool false) (Ao []) (.bool false) (Ao []) rfl rfl (by simp<;>exact⟨rfl,rfl,rfl,rfl⟩) rfl (by simp) ⟨rfl,rfl⟩)
 |some q =>
  obtain⟨he,g1,g2,g3,g4⟩:=hR;subst he;have hr:=Qh N D g1 g2 g3;rw[g4]at hr;unfold Az Gl at hr;refine AW.no ?_ rfl;refine AW.skip ?_;try simp
  refine hK _ rfl ?_;clear hK K;(repeat refine AW.seq_k fun K hK=>?_);refine AW.rg ?_;simp[hb8,hb10,hb11];try (refine hK _ rfl ?_;clear hK K)
  refine Aa.val hr ?_;simp[hb8,hb10,hb11];refine hK _ rfl ?_;clear hK K;exact AW.ret (B3 (b:=b6) _ _ _ _ rfl rfl (by simp<;>exact⟨rfl,rfl,rfl,rfl⟩) rfl (A9 _ _ _) ⟨rfl,rfl⟩)
theorem Mg (a b:Rat) (ha:Bu a) (hb:Bu b):Ai Tryz.prog 103 [Gl a,Gl b] Ac.emp fun v m=>v=C0 (Cz a b)∧m=Ac.emp:=by
 have hs:=Kg a b ha hb 148 (Cz a b) (Qgm a b ha hb);generalize Cz a b=q at *;unfold Gl Em at hs;unfold Gl;refine Ad Tryz.func103 rfl rfl 12 rfl (Nat.le_of_ble_eq_true rfl) ?_;(repeat refine AW.seq_k fun K hK=>?_);refine AW.rgR [2,3] ?_;simp[Al];try (refine hK _ rfl ?_;clear hK K)
 refine Af.intro fun b4 _=>?_;refine hK _ rfl ?_;clear hK K;(repeat refine AW.seq_k fun K hK=>?_);refine AW.rg ?_;simp;try (refine hK _ rfl ?_;clear hK K)
 refine Aa.val hs ?_;cases q
 ·simp[C0,B5];refine hK _ rfl ?_;clear hK K;exact AW.ret (B3 (b:=b4) _ _ _ _ rfl rfl (by simp<;>exact⟨rfl,rfl,rfl,rfl⟩) rfl (A9 _ _ _) ⟨rfl,rfl⟩)
 ·simp[C0,Gl];refine hK _ rfl ?_;clear hK K;exact AW.ret (B3 (b:=b4) _ _ _ _ rfl rfl (by simp<;>exact⟨rfl,rfl,rfl,rfl⟩) rfl (A9 _ _ _) ⟨rfl,rfl⟩)
theorem Qht (a b:Rat) (ha:Bu a) (hb:Bu b):Ai Tryz.prog 160 [Gl a,Gl b] Ac.emp fun v m=>v=C0 (D4 a b)∧m=Ac.emp:=by
 have hs:=Kg a b ha hb 194 (D4 a b) (Qhl a b ha hb);generalize D4 a b=q at *;unfold Gl Em at hs;unfold Gl;refine Ad Tryz.func160 rfl rfl 12 rfl (Nat.le_of_ble_eq_true rfl) ?_;(repeat refine AW.seq_k fun K hK=>?_);refine AW.rgR [2,3] ?_;simp[Al];try (refine hK _ rfl ?_;clear hK K)
 refine Af.intro fun b4 _=>?_;refine hK _ rfl ?_;clear hK K;(repeat refine AW.seq_k fun K hK=>?_);refine AW.rg ?_;simp;try (refine hK _ rfl ?_;clear hK K)
 refine Aa.val hs ?_;cases q
 ·simp[C0,B5];refine hK _ rfl ?_;clear hK K;exact AW.ret (B3 (b:=b4) _ _ _ _ rfl rfl (by simp<;>exact⟨rfl,rfl,rfl,rfl⟩) rfl (A9 _ _ _) ⟨rfl,rfl⟩)
 ·simp[C0,Gl];refine hK _ rfl ?_;clear hK K;exact AW.ret (B3 (b:=b4) _ _ _ _ rfl rfl (by simp<;>exact⟨rfl,rfl,rfl,rfl⟩) rfl (A9 _ _ _) ⟨rfl,rfl⟩)
theorem Qhp (a b:Rat) (ha:Bu a) (hb:Bu b) (h0:b≠0):Ai Tryz.prog 179 [Gl a,Gl b] Ac.emp fun v m=>v=C0 (Ft a b)∧m=Ac.emp:=by
 have hs:=Kg a b ha hb 199 (Ft a b) (Qfw a b ha hb h0);generalize Ft a b=q at *;have hall:=Tp (Aq a) (Aq b) (D9 a) (D9 b);rw[Dq ha,Dq hb]at hall;simp only[RR.av,Aq]at hall;have hz:=Jx (decide (b.num<0)) (Ar b.num.natAbs);have hb0:b.num≠0:=fun e=>h0 (Rat.num_eq_zero.1 e);have hl:¬Ar b.num.natAbs=[]:=by rw[Cj];omega
 unfold D2 at hz;unfold Gl Em at hs;unfold Gl;refine Ad Tryz.func179 rfl rfl 22 rfl (Nat.le_of_ble_eq_true rfl) ?_;(repeat refine AW.seq_k fun K hK=>?_);refine AW.rgR [2,3] ?_;simp[Al];try (refine hK _ rfl ?_;clear hK K)
 refine Af.intro fun b4 _=>?_;refine hK _ rfl ?_;clear hK K;(repeat refine AW.seq_k fun K hK=>?_);refine AW.rgR [8] ?_;simp;try (refine hK _ rfl ?_;clear hK K)
 refine Aa.val hall ?_;simp;refine Aa.val hz ?_;simp[hl];refine hK _ rfl ?_;clear hK K;refine AW.no ?_ rfl;refine AW.skip ?_;try simp
 refine hK _ rfl ?_;clear hK K;(repeat refine AW.seq_k fun K hK=>?_);refine AW.rg ?_;simp;try (refine hK _ rfl ?_;clear hK K)
 refine Aa.val hs ?_;cases q
 ·simp[C0,B5];refine hK _ rfl ?_;clear hK K;exact AW.ret (B3 (b:=b4) _ _ _ _ rfl rfl (by simp<;>exact⟨rfl,rfl,rfl,rfl⟩) rfl (A9 _ _ _) ⟨rfl,rfl⟩)
 ·simp[C0,Gl];refine hK _ rfl ?_;clear hK K;exact AW.ret (B3 (b:=b4) _ _ _ _ rfl rfl (by simp<;>exact⟨rfl,rfl,rfl,rfl⟩) rfl (A9 _ _ _) ⟨rfl,rfl⟩)
end Go.Av
end
section
namespace Go.Av
open Go.Proofs
instance:Inhabited RR:=⟨⟨false,[],false,[]⟩⟩
def rr (r:List RR) (i:Nat):RR:=r.getD i default
def Aj {α:Type} (m:List (List α)) (i:Nat):List α:=m.getD i []
def Bg (r:List RR):List AV:=r.map RR.av
def An (r:List RR):AV:=.sl 4 (Bg r)
def Ap (m:List (List RR)):AV:=.sl 1 (m.map An)
theorem G6 {r:List RR} {i:Nat} (h:i<r.length):rr r i=r[i]:=by unfold rr;rw[List.getD_eq_getElem?_getD,List.getElem?_eq_getElem h];rfl
theorem Ea {α:Type} {m:List (List α)} {i:Nat} (h:i<m.length):Aj m i=m[i]:=by unfold Aj;rw[List.getD_eq_getElem?_getD,List.getElem?_eq_getElem h];rfl
@[simp] theorem H7 (r:List RR):(Bg r).length=r.length:=by simp[Bg]
@[simp] theorem Qx8:Bg []=[]:=rfl
@[simp] theorem rrs_get? {r:List RR} {i:Nat} (h:i<r.length):(Bg r)[i]?=some (rr r i).av:=by simp[Bg,G6 h,h]
@[simp] theorem Er (r:List RR) (i:Nat) (x:RR):(Bg r).set i x.av=Bg (r.set i x):=by simp[Bg,List.map_set]
@[simp] theorem Qui (r:RR):r.av.cells=[.bool r.n1,Ao r.l1,.bool r.n2,Ao r.l2]:=(rfl)
@[simp] theorem Qxj (r:RR):Gy true 4 [.bool r.n1,Ao r.l1,.bool r.n2,Ao r.l2] 0=some r.av:=(rfl)
@[simp] theorem Qth (r:RR):r.av.isAny=false:=(rfl)
@[simp] theorem Qyo (r:RR):(r.av=.any)=False:=by simp[RR.av]
theorem Gc (r:List RR):∀v∈Bg r,v.cells.all AV.one=true:=by
 intro v hv;obtain⟨x,_,rfl⟩:=List.mem_map.1 hv;rfl
@[simp] theorem Qx5 (r:List RR):(Bg r).all (fun v=>v.cells.length==4&&v.cells.all AV.one)=true:=by
 rw[List.all_eq_true];intro v hv;obtain⟨x,_,rfl⟩:=List.mem_map.1 hv;rfl
@[simp] theorem Qum (r:List RR):(An r).cells=[An r]:=(rfl)
@[simp] theorem Qx1 (r:List RR):(An r).one=true:=(rfl)
@[simp] theorem Qtg (r:List RR):(An r).isAny=false:=(rfl)
@[simp] theorem Qvj (m:List (List RR)):(Ap m).isAny=false:=(rfl)
@[simp] theorem Qyi (m:List (List RR)):(Ap m).one=true:=(rfl)
@[simp] theorem Qs1 (m:List (List RR)):(Ap m).cells=[Ap m]:=(rfl)
section
variable (size bytes:Nat) (e:TypeId) (zero:AV) (fs:List (Nat × Nat × Option Bool)) (k:IntKind) (n:Int)
@[simp] theorem Qs4 (r:List RR):Kt ⟨size,bytes,.slice e,zero,fs⟩ (An r)=some (.int .i64 r.length):=by simp[An]
@[simp] theorem Qvl (m:List (List RR)):Kt ⟨size,bytes,.slice e,zero,fs⟩ (Ap m)=some (.int .i64 m.length):=by simp[Ap]
@[simp] theorem Qtq (mm:Ac) (r:List RR):Gp mm 4 (An r)=some (Bg r):=by simp[An,Gp]
@[simp] theorem Qkw (P:Program) (r:List RR):B0 P ⟨size,bytes,.slice e,zero,fs⟩ (An r) (.int k n)=(Ak P e).bind fun te=>if 4=te.size∧0≤n∧n<r.length then some (.rptr [.bool (rr r n.toNat).n1,Ao (rr r n.toNat).l1,.bool (rr r n.toNat).n2,Ao (rr r n.toNat).l2]) else none:=by
 unfold An;rw[Hy]
 congr 1
 funext te
 rw[H7];by_cases h:4=te.size∧0≤n∧n<r.length
 ·rw[if_pos h,if_pos h];have h1:n.toNat<r.length:=by omega
  rw[List.getD_eq_getElem?_getD,rrs_get? h1];rfl
 ·rw[if_neg h,if_neg h]
@[simp] theorem Qky (P:Program) (m:List (List RR)):B0 P ⟨size,bytes,.slice e,zero,fs⟩ (Ap m) (.int k n)=(Ak P e).bind fun te=>if 1=te.size∧0≤n∧n<m.length then some (.rptr [An (Aj m n.toNat)]) else none:=by
 unfold Ap;rw[Hy]
 congr 1
 funext te
 rw[List.length_map];by_cases h:1=te.size∧0≤n∧n<m.length
 ·rw[if_pos h,if_pos h];have h1:n.toNat<m.length:=by omega
  rw[List.getD_eq_getElem?_getD,List.getElem?_map,List.getElem?_eq_getElem h1,Ea h1];rfl
 ·rw[if_neg h,if_neg h]
end
def Sb (m:List (List RR)):Prop:=∀r∈m,∀x∈r,x.Lb
theorem Jg {r:List RR} (h:∀x∈r,x.Lb) (i:Nat):(rr r i).Lb:=by
 unfold rr;rw[List.getD_eq_getElem?_getD];cases hr:r[i]? with
 |none=>exact⟨fun x hx=>(by cases hx),fun x hx=>(by cases hx)⟩
 |some x=>exact h x (List.mem_of_getElem? hr)
theorem Sb.row {m:List (List RR)} (h:Sb m) (i:Nat):∀x∈Aj m i,x.Lb:=by
 unfold Aj;rw[List.getD_eq_getElem?_getD];cases hr:m[i]? with
 |none=>intro x hx;cases hx
 |some r=>exact h r (List.mem_of_getElem? hr)
def Je (m:List (List RR)):Prop:=∃k,k<m.length∧64<(Aj m k).length
def Nk (m:List (List RR)):Prop:=∀k,k<m.length→(Aj m k).length=(Aj m 0).length∧∀j,j<(Aj m k).length→(rr (Aj m k) j).ok=true
open Classical in
noncomputable def Uz (m:List (List RR)):Int:=if 64<m.length∨Je m then 2 else if Nk m then 0 else 1
theorem O8 {m:List (List RR)} (h:64<m.length∨Je m):Uz m=2:=if_pos h
theorem Qcj {m:List (List RR)} (h:¬(64<m.length∨Je m)) (h2:Nk m):Uz m=0:=by unfold Uz;rw[if_neg h,if_pos h2]
theorem Oh {m:List (List RR)} (h:¬(64<m.length∨Je m)) (h2:¬Nk m):Uz m=1:=by unfold Uz;rw[if_neg h,if_neg h2]
theorem Su (m:List (List RR)):Ai Tryz.prog 108 [Ap m] Ac.emp fun v mm=>v=.int .i64 ((Aj m 0).length:Nat)∧mm=Ac.emp:=by
 refine Ad Tryz.func108 rfl rfl 10 rfl (Nat.le_of_ble_eq_true rfl) ?_;(repeat refine AW.seq_k fun K hK=>?_);refine AW.rg ?_;simp[Al];try (refine hK _ rfl ?_;clear hK K)
 (repeat refine AW.seq_k fun K hK=>?_);refine AW.rg ?_;simp;try (refine hK _ rfl ?_;clear hK K)
 (repeat refine AW.seq ?_);refine AW.cs (fun h=>?_) (fun h=>?_) rfl<;>(try simp at h)
 ·subst h;(repeat refine AW.seq_k fun K hK=>?_);refine AW.rg ?_;simp;try (refine hK _ rfl ?_;clear hK K)
  exact AW.ret (Ag rfl _ (.same _) ⟨by simp[Aj],rfl⟩)
 ·refine AW.skip ?_;try simp
  refine hK _ rfl ?_;clear hK K;have h':0<m.length:=by
   rcases m with _|_
   ·simp at h
   ·simp
  (repeat refine AW.seq_k fun K hK=>?_);refine AW.rg ?_;simp[h'];try (refine hK _ rfl ?_;clear hK K)
  exact AW.ret (Ag rfl _ (.same _) ⟨by rfl,rfl⟩)
theorem Oz (m:List (List RR)):Ai Tryz.prog 154 [Ap m] Ac.emp fun v mm=>v=.int .i64 ((Aj m 0).length:Nat)∧mm=Ac.emp:=by
 refine Ad Tryz.func154 rfl rfl 10 rfl (Nat.le_of_ble_eq_true rfl) ?_;(repeat refine AW.seq_k fun K hK=>?_);refine AW.rg ?_;simp[Al];try (refine hK _ rfl ?_;clear hK K)
 (repeat refine AW.seq_k fun K hK=>?_);refine AW.rg ?_;simp;try (refine hK _ rfl ?_;clear hK K)
 (repeat refine AW.seq ?_);refine AW.cs (fun h=>?_) (fun h=>?_) rfl<;>(try simp at h)
 ·subst h;(repeat refine AW.seq_k fun K hK=>?_);refine AW.rg ?_;simp;try (refine hK _ rfl ?_;clear hK K)
  exact AW.ret (Ag rfl _ (.same _) ⟨by simp[Aj],rfl⟩)
 ·refine AW.skip ?_;try simp
  refine hK _ rfl ?_;clear hK K;have h':0<m.length:=by
   rcases m with _|_
   ·simp at h
   ·simp
  (repeat refine AW.seq_k fun K hK=>?_);refine AW.rg ?_;simp[h'];try (refine hK _ rfl ?_;clear hK K)
  exact AW.ret (Ag rfl _ (.same _) ⟨by rfl,rfl⟩)
theorem Qd4 (m:List (List RR)) (hm:Sb m):Ai Tryz.prog 99 [Ap m] Ac.emp fun v mm=>v=.int .i64 (Uz m)∧mm=Ac.emp:=by
 refine Ad Tryz.func99 rfl rfl 46 rfl (Nat.le_of_ble_eq_true rfl) ?_;(repeat refine AW.seq_k fun K hK=>?_);refine AW.rg ?_;simp[Al];try (refine hK _ rfl ?_;clear hK K)
 (repeat refine AW.seq_k fun K hK=>?_);refine AW.rg ?_;simp;try (refine hK _ rfl ?_;clear hK K)
 (repeat refine AW.seq ?_);refine AW.cs (fun h64=>?_) (fun h64=>?_) rfl<;>(try simp at h64)
 ·(repeat refine AW.seq_k fun K hK=>?_);refine AW.rg ?_;simp;try (refine hK _ rfl ?_;clear hK K)
  exact AW.ret (Ag rfl _ (.same _) ⟨by rw[O8 (.inl h64)];rfl,rfl⟩)
 ·refine AW.skip ?_;try simp
  refine hK _ rfl ?_;clear hK K;refine AW.seq_ex (ι:=Unit) (fun _=>[(0,Ap m)]) (fun _=>Ac.emp) (fun _=>¬Je m) ?_ ?_
  ·(repeat refine AW.seq_k fun K hK=>?_);refine AW.rg ?_;simp;try (refine hK _ rfl ?_;clear hK K)
   refine AW.block (AW.loopS (ι:=Nat) (fun i=>[(0,Ap m),(12,Ap m),(13,.int .i64 (m.length:Nat)),(14,.int .i64 (i:Nat))]) (fun _=>Ac.emp)
    (fun i=>i≤m.length∧∀k,k<i→¬64<(Aj m k).length) (fun i=>m.length-i) 0 ⟨by simp,by simp⟩ rfl (by simp) ?_)
   rintro i ⟨h1,h2⟩;(repeat refine AW.seq_k fun K hK=>?_);refine AW.rg ?_;simp;try (refine hK _ rfl ?_;clear hK K)
   refine AW.seq_k fun K hK=>?_;(repeat refine AW.seq ?_);refine AW.cs (fun hi=>?_) (fun hi=>?_) rfl<;>(try simp at hi)
   ·refine AW.skip ?_;try simp
    refine hK _ rfl ?_;clear hK K;have w1:=Au (i+1) (by omega);refine AW.seq_ex (ι:=Unit) (fun _=>[(0,Ap m),(12,Ap m),(13,.int .i64 (m.length:Nat)),(14,.int .i64 (i:Nat))]) (fun _=>Ac.emp) (fun _=>¬64<(Aj m i).length) ?_ ?_
    ·(repeat refine AW.seq ?_);refine AW.block ?_;(repeat refine AW.seq_k fun K hK=>?_);refine AW.rg ?_;simp[hi];try (refine hK _ rfl ?_;clear hK K)
     (repeat refine AW.seq_k fun K hK=>?_);refine AW.rg ?_;simp;try (refine hK _ rfl ?_;clear hK K)
     (repeat refine AW.seq ?_);refine AW.cs (fun h3=>?_) (fun h3=>?_) rfl<;>(try simp at h3)
     ·(repeat refine AW.seq_k fun K hK=>?_);refine AW.rg ?_;simp;try (refine hK _ rfl ?_;clear hK K)
      exact AW.ret (Ag rfl _ (.same _) ⟨by rw[O8 (.inr ⟨i,hi,h3⟩)];rfl,rfl⟩)
     ·refine AW.skip ?_;try simp
      omega
    ·rintro _ h3;(repeat refine AW.seq_k fun K hK=>?_);refine AW.rg ?_;simp[-Int.natCast_add,w1];try (refine hK _ rfl ?_;clear hK K)
     refine⟨⟨by omega,fun k hk=>?_⟩,by omega⟩;rcases Nat.lt_succ_iff_lt_or_eq.1 hk with h | rfl
     ·have:=h2 k h;omega
     ·omega
   ·refine AW.exit ?_;try simp
    rintro⟨k,hk,h⟩;exact h2 k (by omega) h
  rintro _ hbig;have hnb:¬(64<m.length∨Je m):=fun h=>h.elim (by omega) hbig;refine AW.seq_ex (ι:=Unit) (fun _=>[]) (fun _=>Ac.emp) (fun _=>Nk m) ?_ ?_
  ·(repeat refine AW.seq_k fun K hK=>?_);refine AW.rg ?_;simp;try (refine hK _ rfl ?_;clear hK K)
   refine AW.block (AW.loopS (ι:=Nat) (fun i=>[(0,Ap m),(22,Ap m),(23,.int .i64 (m.length:Nat)),(24,.int .i64 (i:Nat))]) (fun _=>Ac.emp)
    (fun i=>i≤m.length∧∀k,k<i→(Aj m k).length=(Aj m 0).length∧∀j,j<(Aj m k).length→(rr (Aj m k) j).ok=true) (fun i=>m.length-i) 0 ⟨by simp,by simp⟩ rfl (by simp) ?_)
   rintro i ⟨h1,h2⟩;(repeat refine AW.seq_k fun K hK=>?_);refine AW.rg ?_;simp;try (refine hK _ rfl ?_;clear hK K)
   refine AW.seq_k fun K hK=>?_;(repeat refine AW.seq ?_);refine AW.cs (fun hi=>?_) (fun hi=>?_) rfl<;>(try simp at hi)
   ·refine AW.skip ?_;try simp
    refine hK _ rfl ?_;clear hK K;have w1:=Au (i+1) (by omega);have h0:0<m.length:=by omega
    have hrow:(Aj m i).length≤64:=by
     rcases Nat.lt_or_ge 64 (Aj m i).length with h|h
     ·exact absurd ⟨i,hi,h⟩ hbig
     ·exact h
    refine AW.seq_ex (ι:=Unit) (fun _=>[(0,Ap m),(22,Ap m),(23,.int .i64 (m.length:Nat)),(24,.int .i64 (i:Nat))]) (fun _=>Ac.emp) (fun _=>(Aj m i).length=(Aj m 0).length∧∀j,j<(Aj m i).length→(rr (Aj m i) j).ok=true) ?_ ?_
    ·(repeat refine AW.seq ?_);refine AW.block ?_;(repeat refine AW.seq_k fun K hK=>?_);refine AW.rg ?_;simp[hi];try (refine hK _ rfl ?_;clear hK K)
     refine AW.seq_ex (ι:=Unit) (fun _=>[(0,Ap m),(22,Ap m),(23,.int .i64 (m.length:Nat)),(24,.int .i64 (i:Nat)),(6,An (Aj m i))]) (fun _=>Ac.emp) (fun _=>(Aj m i).length=(Aj m 0).length) ?_ ?_
     ·(repeat refine AW.seq_k fun K hK=>?_);refine AW.rg ?_;simp[h0];try (refine hK _ rfl ?_;clear hK K)
      (repeat refine AW.seq ?_);refine AW.cs (fun h4=>?_) (fun h4=>?_) rfl<;>(try simp at h4)
      ·(repeat refine AW.seq_k fun K hK=>?_);refine AW.rg ?_;simp;try (refine hK _ rfl ?_;clear hK K)
       exact AW.ret (Ag rfl _ (.same _) ⟨by rw[Oh hnb (fun h=>h4 (h i hi).1)];rfl,rfl⟩)
      ·refine AW.skip ?_;try simp
       exact h4
     rintro _ h4;(repeat refine AW.seq_k fun K hK=>?_);refine AW.rg ?_;simp;try (refine hK _ rfl ?_;clear hK K)
     refine AW.block (AW.loopS (ι:=Nat) (fun j=>[(0,Ap m),(22,Ap m),(23,.int .i64 (m.length:Nat)),(24,.int .i64 (i:Nat)),(6,An (Aj m i)),(35,An (Aj m i)),(36,.int .i64 ((Aj m i).length:Nat)),(37,.int .i64 (j:Nat))]) (fun _=>Ac.emp)
      (fun j=>j≤(Aj m i).length∧∀k,k<j→(rr (Aj m i) k).ok=true) (fun j=>(Aj m i).length-j) 0 ⟨by simp,by simp⟩ rfl (by simp) ?_)
     rintro j ⟨g1,g2⟩;(repeat refine AW.seq_k fun K hK=>?_);refine AW.rg ?_;simp;try (refine hK _ rfl ?_;clear hK K)
     refine AW.seq_k fun K hK=>?_;(repeat refine AW.seq ?_);refine AW.cs (fun hj=>?_) (fun hj=>?_) rfl<;>(try simp at hj)
     ·refine AW.skip ?_;try simp
      refine hK _ rfl ?_;clear hK K;have w2:=Au (j+1) (by omega);have hv:=Fz (rr (Aj m i) j) (Jg (hm.row i) j);refine AW.seq_ex (ι:=Unit) (fun _=>[(0,Ap m),(22,Ap m),(23,.int .i64 (m.length:Nat)),(24,.int .i64 (i:Nat)),(6,An (Aj m i)),(35,An (Aj m i)),(36,.int .i64 ((Aj m i).length:Nat)),(37,.int .i64 (j:Nat))]) (fun _=>Ac.emp) (fun _=>(rr (Aj m i) j).ok=true) ?_ ?_
      ·(repeat refine AW.seq ?_);refine AW.block ?_;(repeat refine AW.seq_k fun K hK=>?_);refine AW.rg ?_;simp[hj];try (refine hK _ rfl ?_;clear hK K)
       refine Af.intro fun b8 _=>?_;try simp
       refine hK _ rfl ?_;clear hK K;(repeat refine AW.seq_k fun K hK=>?_);refine AW.rg ?_;simp;try (refine hK _ rfl ?_;clear hK K)
       refine Aa.val hv ?_;simp;refine hK _ rfl ?_;clear hK K;refine AW.toEmp [(0,Ap m),(22,Ap m),(23,.int .i64 (m.length:Nat)),(24,.int .i64 (i:Nat)),(6,An (Aj m i)),(35,An (Aj m i)),(36,.int .i64 ((Aj m i).length:Nat)),(37,.int .i64 (j:Nat)),(43,.bool (!(rr (Aj m i) j).ok))] (by simp) ?_;by_cases h5:(rr (Aj m i) j).ok=true
       ·refine AW.no ?_ (by simp[h5]);exact AW.skip ⟨(),h5,rfl,rfl,by simp⟩
       ·refine AW.yes ?_ (by simp[h5]);(repeat refine AW.seq_k fun K hK=>?_);refine AW.rg ?_;simp;try (refine hK _ rfl ?_;clear hK K)
        exact AW.ret (Ag rfl _ (.same _) ⟨by rw[Oh hnb (fun h=>h5 ((h i hi).2 j hj))];rfl,rfl⟩)
      ·rintro _ h5;(repeat refine AW.seq_k fun K hK=>?_);refine AW.rg ?_;simp[-Int.natCast_add,w2];try (refine hK _ rfl ?_;clear hK K)
       refine⟨⟨by omega,fun k hk=>?_⟩,by omega⟩;rcases Nat.lt_succ_iff_lt_or_eq.1 hk with h | rfl
       ·exact g2 k h
       ·exact h5
     ·refine AW.exit ?_;try simp
      exact⟨h4,fun k hk=>g2 k (by omega)⟩
    ·rintro _ h3;(repeat refine AW.seq_k fun K hK=>?_);refine AW.rg ?_;simp[-Int.natCast_add,w1];try (refine hK _ rfl ?_;clear hK K)
     refine⟨⟨by omega,fun k hk=>?_⟩,by omega⟩;rcases Nat.lt_succ_iff_lt_or_eq.1 hk with h | rfl
     ·exact h2 k h
     ·exact h3
   ·refine AW.exit ?_;try simp
    exact fun k hk=>h2 k (by omega)
  rintro _ hok;(repeat refine AW.seq_k fun K hK=>?_);refine AW.rg ?_;simp;try (refine hK _ rfl ?_;clear hK K)
  exact AW.ret (Ag rfl _ (.same _) ⟨by rw[Qcj hnb hok];rfl,rfl⟩)
end Go.Av
end
section
namespace Go.Av
open Go.Proofs
theorem Qao (m:List (List RR)) (hm:Sb m):Ai Tryz.prog 189 [Ap m] Ac.emp fun v mm=>v=.int .i64 (Uz m)∧mm=Ac.emp:=by
 refine Ad Tryz.func189 rfl rfl 55 rfl (Nat.le_of_ble_eq_true rfl) ?_;(repeat refine AW.seq_k fun K hK=>?_);refine AW.rg ?_;simp[Al];try (refine hK _ rfl ?_;clear hK K)
 (repeat refine AW.seq_k fun K hK=>?_);refine AW.rg ?_;simp;try (refine hK _ rfl ?_;clear hK K)
 (repeat refine AW.seq ?_);refine AW.cs (fun h64=>?_) (fun h64=>?_) rfl<;>(try simp at h64)
 ·(repeat refine AW.seq_k fun K hK=>?_);refine AW.rg ?_;simp;try (refine hK _ rfl ?_;clear hK K)
  exact AW.ret (Ag rfl _ (.same _) ⟨by rw[O8 (.inl h64)];rfl,rfl⟩)
 ·refine AW.skip ?_;try simp
  refine hK _ rfl ?_;clear hK K;refine AW.seq_ex (ι:=Unit) (fun _=>[(0,Ap m)]) (fun _=>Ac.emp) (fun _=>¬Je m) ?_ ?_
  ·(repeat refine AW.seq_k fun K hK=>?_);refine AW.rg ?_;simp;try (refine hK _ rfl ?_;clear hK K)
   refine AW.block (AW.loopS (ι:=Nat) (fun i=>[(0,Ap m),(3,.int .i64 (i:Nat))]) (fun _=>Ac.emp)
    (fun i=>i≤m.length∧∀k,k<i→¬64<(Aj m k).length) (fun i=>m.length-i) 0 ⟨by simp,by simp⟩ rfl (by simp) ?_)
   rintro i ⟨h1,h2⟩;refine AW.seq_ex (ι:=Unit) (fun _=>[(0,Ap m),(3,.int .i64 (i:Nat))]) (fun _=>Ac.emp) (fun _=>i<m.length) ?_ ?_
   ·(repeat refine AW.seq_k fun K hK=>?_);refine AW.rg ?_;simp;try (refine hK _ rfl ?_;clear hK K)
    (repeat refine AW.seq ?_);refine AW.cs (fun hi=>?_) (fun hi=>?_) rfl<;>(try simp at hi)
    ·refine AW.skip ?_;try simp
     exact hi
    ·refine AW.exit ?_;try simp
     rintro⟨k,hk,h⟩;exact h2 k (by omega) h
   rintro _ hi;have w1:=Au (i+1) (by omega);refine AW.seq_ex (ι:=Unit) (fun _=>[(0,Ap m),(3,.int .i64 (i:Nat))]) (fun _=>Ac.emp) (fun _=>¬64<(Aj m i).length) ?_ ?_
   ·(repeat refine AW.seq ?_);refine AW.block ?_;(repeat refine AW.seq_k fun K hK=>?_);refine AW.rg ?_;simp[hi];try (refine hK _ rfl ?_;clear hK K)
    (repeat refine AW.seq ?_);refine AW.cs (fun h3=>?_) (fun h3=>?_) rfl<;>(try simp at h3)
    ·(repeat refine AW.seq_k fun K hK=>?_);refine AW.rg ?_;simp;try (refine hK _ rfl ?_;clear hK K)
     exact AW.ret (Ag rfl _ (.same _) ⟨by rw[O8 (.inr ⟨i,hi,h3⟩)];rfl,rfl⟩)
    ·refine AW.skip ?_;try simp
     omega
   ·rintro _ h3;(repeat refine AW.seq_k fun K hK=>?_);refine AW.rg ?_;simp[-Int.natCast_add,w1];try (refine hK _ rfl ?_;clear hK K)
    refine⟨⟨by omega,fun k hk=>?_⟩,by omega⟩;rcases Nat.lt_succ_iff_lt_or_eq.1 hk with h | rfl
    ·have:=h2 k h;omega
    ·omega
  rintro _ hbig;have hnb:¬(64<m.length∨Je m):=fun h=>h.elim (by omega) hbig;refine AW.seq_ex (ι:=Unit) (fun _=>[]) (fun _=>Ac.emp) (fun _=>Nk m) ?_ ?_
  ·(repeat refine AW.seq_k fun K hK=>?_);refine AW.rg ?_;simp;try (refine hK _ rfl ?_;clear hK K)
   refine AW.block (AW.loopS (ι:=Nat) (fun i=>[(0,Ap m),(4,.int .i64 (i:Nat))]) (fun _=>Ac.emp)
    (fun i=>i≤m.length∧∀k,k<i→(Aj m k).length=(Aj m 0).length∧∀j,j<(Aj m k).length→(rr (Aj m k) j).ok=true) (fun i=>m.length-i) 0 ⟨by simp,by simp⟩ rfl (by simp) ?_)
   rintro i ⟨h1,h2⟩;refine AW.seq_ex (ι:=Unit) (fun _=>[(0,Ap m),(4,.int .i64 (i:Nat))]) (fun _=>Ac.emp) (fun _=>i<m.length) ?_ ?_
   ·(repeat refine AW.seq_k fun K hK=>?_);refine AW.rg ?_;simp;try (refine hK _ rfl ?_;clear hK K)
    (repeat refine AW.seq ?_);refine AW.cs (fun hi=>?_) (fun hi=>?_) rfl<;>(try simp at hi)
    ·refine AW.skip ?_;try simp
     exact hi
    ·refine AW.exit ?_;try simp
     exact fun k hk=>h2 k (by omega)
   rintro _ hi;have w1:=Au (i+1) (by omega);have h0:0<m.length:=by omega
   have hrow:(Aj m i).length≤64:=by
    rcases Nat.lt_or_ge 64 (Aj m i).length with h|h
    ·exact absurd ⟨i,hi,h⟩ hbig
    ·exact h
   refine AW.seq_ex (ι:=Unit) (fun _=>[(0,Ap m),(4,.int .i64 (i:Nat))]) (fun _=>Ac.emp) (fun _=>(Aj m i).length=(Aj m 0).length∧∀j,j<(Aj m i).length→(rr (Aj m i) j).ok=true) ?_ ?_
   ·(repeat refine AW.seq ?_);refine AW.block ?_;refine AW.seq_ex (ι:=Unit) (fun _=>[(0,Ap m),(4,.int .i64 (i:Nat))]) (fun _=>Ac.emp) (fun _=>(Aj m i).length=(Aj m 0).length) ?_ ?_
    ·(repeat refine AW.seq_k fun K hK=>?_);refine AW.rd [0,1,2,3,4,5,6,7,8,9] C6 ?_;simp[h0,hi];try (refine hK _ rfl ?_;clear hK K)
     (repeat refine AW.seq ?_);refine AW.cs (fun h4=>?_) (fun h4=>?_) rfl<;>(try simp at h4)
     ·(repeat refine AW.seq_k fun K hK=>?_);refine AW.rg ?_;simp;try (refine hK _ rfl ?_;clear hK K)
      exact AW.ret (Ag rfl _ (.same _) ⟨by rw[Oh hnb (fun h=>h4 (h i hi).1)];rfl,rfl⟩)
     ·refine AW.skip ?_;try simp
      exact h4
    rintro _ h4;(repeat refine AW.seq_k fun K hK=>?_);refine AW.rg ?_;simp;try (refine hK _ rfl ?_;clear hK K)
    refine AW.block (AW.loopS (ι:=Nat) (fun j=>[(0,Ap m),(4,.int .i64 (i:Nat)),(5,.int .i64 (j:Nat))]) (fun _=>Ac.emp)
     (fun j=>j≤(Aj m i).length∧∀k,k<j→(rr (Aj m i) k).ok=true) (fun j=>(Aj m i).length-j) 0 ⟨by simp,by simp⟩ rfl (by simp) ?_)
    rintro j ⟨g1,g2⟩;refine AW.seq_ex (ι:=Unit) (fun _=>[(0,Ap m),(4,.int .i64 (i:Nat)),(5,.int .i64 (j:Nat))]) (fun _=>Ac.emp) (fun _=>j<(Aj m i).length) ?_ ?_
    ·(repeat refine AW.seq_k fun K hK=>?_);refine AW.rg ?_;simp[hi];try (refine hK _ rfl ?_;clear hK K)
     (repeat refine AW.seq ?_);refine AW.cs (fun hj=>?_) (fun hj=>?_) rfl<;>(try simp at hj)
     ·refine AW.skip ?_;try simp
      exact hj
     ·refine AW.exit ?_;try simp
      exact⟨h4,fun k hk=>g2 k (by omega)⟩
    rintro _ hj;have w2:=Au (j+1) (by omega);have hv:Ai Tryz.prog 42 [(rr (Aj m i) j).av] Ac.emp fun v mm=>v=.bool (rr (Aj m i) j).ok∧mm=Ac.emp:=F5 _ _ _ _ (Jg (hm.row i) j).1 (Jg (hm.row i) j).2;refine AW.seq_ex (ι:=Unit) (fun _=>[(0,Ap m),(4,.int .i64 (i:Nat)),(5,.int .i64 (j:Nat))]) (fun _=>Ac.emp) (fun _=>(rr (Aj m i) j).ok=true) ?_ ?_
    ·(repeat refine AW.seq ?_);refine AW.block ?_;(repeat refine AW.seq_k fun K hK=>?_);refine AW.rg ?_;simp[hi,hj];try (refine hK _ rfl ?_;clear hK K)
     refine Aa.val hv ?_;simp;refine hK _ rfl ?_;clear hK K;by_cases h5:(rr (Aj m i) j).ok=true
     ·refine AW.no ?_ (by simp[h5]);exact AW.skip ⟨(),h5,rfl,rfl,by simp⟩
     ·refine AW.yes ?_ (by simp[h5]);(repeat refine AW.seq_k fun K hK=>?_);refine AW.rg ?_;simp;try (refine hK _ rfl ?_;clear hK K)
      exact AW.ret (Ag rfl _ (.same _) ⟨by rw[Oh hnb (fun h=>h5 ((h i hi).2 j hj))];rfl,rfl⟩)
    ·rintro _ h5;(repeat refine AW.seq_k fun K hK=>?_);refine AW.rg ?_;simp[-Int.natCast_add,w2];try (refine hK _ rfl ?_;clear hK K)
     refine⟨⟨by omega,fun k hk=>?_⟩,by omega⟩;rcases Nat.lt_succ_iff_lt_or_eq.1 hk with h | rfl
     ·exact g2 k h
     ·exact h5
   ·rintro _ h3;(repeat refine AW.seq_k fun K hK=>?_);refine AW.rg ?_;simp[-Int.natCast_add,w1];try (refine hK _ rfl ?_;clear hK K)
    refine⟨⟨by omega,fun k hk=>?_⟩,by omega⟩;rcases Nat.lt_succ_iff_lt_or_eq.1 hk with h | rfl
    ·exact h2 k h
    ·exact h3
  rintro _ hok;(repeat refine AW.seq_k fun K hK=>?_);refine AW.rg ?_;simp;try (refine hK _ rfl ?_;clear hK K)
  exact AW.ret (Ag rfl _ (.same _) ⟨by rw[Qcj hnb hok];rfl,rfl⟩)
end Go.Av
end
section
namespace Go.Av
open Go.Proofs
@[simp] theorem Qln (b z i j:Nat):Kh (.ptr b z i j)=some (.ptr b z i j):=(rfl)
@[simp] theorem Qkq (l:List AV):Kh (.rptr l)=some (.rptr l):=(rfl)
def RR.q (r:RR):Rat:=mkRat (if r.n1=true then -(val r.l1:Int) else val r.l1) (val r.l2)
theorem Hn (q:Rat):(Aq q).q=q:=by
 unfold RR.q Aq;simp only[A2,decide_eq_true_eq];have:(if q.num<0 then -(q.num.natAbs:Int) else (q.num.natAbs:Int))=q.num:=by split<;>omega
 rw[this,Rat.mkRat_self]
theorem Ez {r:RR} (hl:r.Lb) (h:r.ok=true):Bu r.q∧r=Aq r.q:=by
 obtain⟨q,h1,h2⟩:=Qq5 hl h;subst h2;rw[Hn];exact⟨h1,rfl⟩
theorem Rh {r:RR} (hl:r.Lb) (h:r.ok=true):r.av=Gl r.q:=by
 have:=(Ez hl h).2
 calc r.av=(Aq r.q).av:=by rw[←this]
  _=Gl r.q:=rfl
def Ve:RR:=⟨false,[],false,[]⟩
theorem Xv:Ve.av=B5:=rfl
theorem Qmb:Ve.Lb:=⟨fun x hx=>(by cases hx),fun x hx=>(by cases hx)⟩
def Dg (e:Int) (a:RR) (q:Option Rat):Int × RR:=if e=0 then (match q with | some q=>(0,Aq q) | none=>(2,Ve)) else (e,a)
theorem X8 {e:Int} {a:RR} {q:Option Rat} (h:a.Lb):(Dg e a q).2.Lb:=by
 unfold Dg;split
 ·cases q with
  |none=>exact Qmb
  |some q=>exact D9 q
 ·exact h
def Nu (c:Nat) (x:AV):Ac:=Ac.emp.set c ⟨118,1,[x]⟩
def G4 (x:AV) (e:Int):Prop:=x.cells=[.int .i64 e]
theorem Nn (c:Nat) (x:AV) (e f:Int) (hx:G4 x e) (r:RR):Ai Tryz.prog 158 [.ptr c 1 0 0,r.av,.int .i64 f] (Nu c x) fun v m=>v=r.av∧∃x',G4 x' (if e=0 then f else e)∧m=Nu c x':=by
 unfold G4 at hx;unfold RR.av Nu;refine Ad Tryz.func158 rfl rfl 17 rfl (Nat.le_of_ble_eq_true rfl) ?_;(repeat refine AW.seq_k fun K hK=>?_);refine AW.rgR [4] ?_;simp[Al];try (refine hK _ rfl ?_;clear hK K)
 refine Af.intro fun b6 hb6=>?_;simp only[Am,Aw,and_true]at hb6;refine hK _ rfl ?_;clear hK K;refine AW.seq_ex (ι:=AV) (fun x'=>[(0,.ptr c 1 0 0),(4,.rptr [.bool r.n1,Ao r.l1,.bool r.n2,Ao r.l2]),(6,.ptr b6 4 0 0)]) (fun x'=>(Ac.emp.set c ⟨118,1,[x']⟩).set b6 ⟨44,4,[.agg [.bool false,.nil,.bool false,.nil]]⟩) (fun x'=>G4 x' (if e=0 then f else e)) ?_ ?_
 ·(repeat refine AW.seq_k fun K hK=>?_);refine AW.rg ?_;simp[hb6,hx];try (refine hK _ rfl ?_;clear hK K)
  (repeat refine AW.seq ?_);refine AW.cs (fun he=>?_) (fun he=>?_) rfl<;>(try simp at he)
  ·(repeat refine AW.seq_k fun K hK=>?_);refine AW.rg ?_;simp[hb6,hx];try (refine hK _ rfl ?_;clear hK K)
   refine⟨.int .i64 f,by simp[G4,he],?_⟩;rw[Z9 _ hb6.2]
  ·refine AW.skip ⟨x,?_,rfl,rfl,by simp⟩;simp[G4,he];exact hx
 rintro x' hx';(repeat refine AW.seq_k fun K hK=>?_);refine AW.rg ?_;simp[hb6];try (refine hK _ rfl ?_;clear hK K)
 refine AW.ret (Df (vs:=[.agg [.bool r.n1,Ao r.l1,.bool r.n2,Ao r.l2]]) [.agg [.bool r.n1,Ao r.l1,.bool r.n2,Ao r.l2]] c ⟨118,1,[x']⟩ (by simp[hb6]) (by simp[hb6]) ?_ (A9 _ _ _) ⟨rfl,x',hx',rfl⟩);intro v hv;simp at hv;subst hv;unfold G4 at hx';rw[hx'];rfl
theorem Qhc (c:Nat) (x:AV) (e:Int) (hx:G4 x e) (a b:RR) (ha:a.Lb) (hb:b.Lb) (h:e=0→a.ok=true∧b.ok=true):Ai Tryz.prog 146 [.ptr c 1 0 0,a.av,b.av] (Nu c x) fun v m=>v=(Dg e a (Cz a.q b.q)).2.av∧∃x',G4 x' (Dg e a (Cz a.q b.q)).1∧m=Nu c x':=by
 have hone:∀x' e',G4 x' e'→∀v∈(⟨118,1,[x']⟩:Ev).l,v.cells.all AV.one=true:=by
  intro x' e' hx' v hv;simp at hv;subst hv;unfold G4 at hx';rw[hx'];rfl
 have hone:=hone;have hx0:=hx;unfold G4 at hx;by_cases he:e=0
 ·obtain⟨o1,o2⟩:=h he;obtain⟨g1,e1⟩:=Ez ha o1;obtain⟨g2,e2⟩:=Ez hb o2;have hr:=Mg a.q b.q g1 g2;rw[←Rh ha o1,←Rh hb o2]at hr;have hk:=Nn c x e;subst he;generalize Cz a.q b.q=q at *;unfold Nu at hk ⊢;unfold RR.av at hr ⊢;refine Ad Tryz.func146 rfl rfl 20 rfl (Nat.le_of_ble_eq_true rfl) ?_;(repeat refine AW.seq_k fun K hK=>?_);refine AW.rgR [4,5] ?_;simp[Al];try (refine hK _ rfl ?_;clear hK K)
  refine Af.intro fun b6 hb6=>?_;simp only[Am,Aw,and_true]at hb6;refine hK _ rfl ?_;clear hK K;(repeat refine AW.seq_k fun K hK=>?_);refine AW.rg ?_;simp[hb6,hx];try (refine hK _ rfl ?_;clear hK K)
  refine AW.no ?_ rfl;refine AW.skip ?_;try simp
  refine hK _ rfl ?_;clear hK K;cases q with
  |none =>
   (repeat refine AW.seq_k fun K hK=>?_);refine AW.rg ?_;simp[hb6];try (refine hK _ rfl ?_;clear hK K)
   refine Aa.val hr ?_;simp[C0,B5];have hk2:=hk 2 hx0 Ve;refine Aa.grant (R:=fun v y=>v=Ve.av∧∃x',G4 x' 2∧y=⟨118,1,[x']⟩) c ⟨118,1,[x]⟩ (by simp[hb6]) (by simp) (hk2.mono fun v m ⟨h1,x',h2,h3⟩=>⟨_,⟨h1,x',h2,rfl⟩,h3⟩) ?_;rintro _ _ ⟨rfl,x',hx',rfl⟩;simp[hb6,Xv,B5];refine hK _ rfl ?_;clear hK K;refine AW.ret (Df (vs:=[B5]) [B5] c ⟨118,1,[x']⟩ (by simp[hb6,B5]) (by simp[hb6]) (hone x' 2 hx') (A9 _ _ _) ⟨rfl,x',hx',rfl⟩)
  |some q =>
   (repeat refine AW.seq_k fun K hK=>?_);refine AW.rg ?_;simp[hb6];try (refine hK _ rfl ?_;clear hK K)
   refine Aa.val hr ?_;simp[C0];have hk2:=hk 0 hx0 (Aq q);refine Aa.grant (R:=fun v y=>v=(Aq q).av∧∃x',G4 x' 0∧y=⟨118,1,[x']⟩) c ⟨118,1,[x]⟩ (by simp[hb6]) (by simp) (hk2.mono fun v m ⟨h1,x',h2,h3⟩=>⟨_,⟨h1,x',h2,rfl⟩,h3⟩) ?_;rintro _ _ ⟨rfl,x',hx',rfl⟩;simp[hb6];refine hK _ rfl ?_;clear hK K;refine AW.ret (Df (vs:=[(Aq q).av]) [(Aq q).av] c ⟨118,1,[x']⟩ (by simp[hb6,RR.av]) (by simp[hb6]) (hone x' 0 hx') (A9 _ _ _) ⟨rfl,x',hx',rfl⟩)
 ·have e3:Dg e a (Cz a.q b.q)=(e,a):=if_neg he;rw[e3];unfold Nu;unfold RR.av;refine Ad Tryz.func146 rfl rfl 20 rfl (Nat.le_of_ble_eq_true rfl) ?_;(repeat refine AW.seq_k fun K hK=>?_);refine AW.rgR [4,5] ?_;simp[Al];try (refine hK _ rfl ?_;clear hK K)
  refine Af.intro fun b6 hb6=>?_;simp only[Am,Aw,and_true]at hb6;refine hK _ rfl ?_;clear hK K;(repeat refine AW.seq_k fun K hK=>?_);refine AW.rg ?_;simp[hb6,hx];try (refine hK _ rfl ?_;clear hK K)
  refine AW.yes ?_ (by simp[he]);(repeat refine AW.seq_k fun K hK=>?_);refine AW.rg ?_;simp[hb6];try (refine hK _ rfl ?_;clear hK K)
  refine AW.ret (Df (vs:=[.agg [.bool a.n1,Ao a.l1,.bool a.n2,Ao a.l2]]) [.agg [.bool a.n1,Ao a.l1,.bool a.n2,Ao a.l2]] c ⟨118,1,[x]⟩ (by simp[hb6]) (by simp[hb6]) (hone x e hx0) (A9 _ _ _) ⟨rfl,x,hx0,rfl⟩)
theorem Qg4 (c:Nat) (x:AV) (e:Int) (hx:G4 x e) (a b:RR) (ha:a.Lb) (hb:b.Lb) (h:e=0→a.ok=true∧b.ok=true):Ai Tryz.prog 111 [.ptr c 1 0 0,a.av,b.av] (Nu c x) fun v m=>v=(Dg e a (D4 a.q b.q)).2.av∧∃x',G4 x' (Dg e a (D4 a.q b.q)).1∧m=Nu c x':=by
 have hone:∀x' e',G4 x' e'→∀v∈(⟨118,1,[x']⟩:Ev).l,v.cells.all AV.one=true:=by
  intro x' e' hx' v hv;simp at hv;subst hv;unfold G4 at hx';rw[hx'];rfl
 have hone:=hone;have hx0:=hx;unfold G4 at hx;by_cases he:e=0
 ·obtain⟨o1,o2⟩:=h he;obtain⟨g1,e1⟩:=Ez ha o1;obtain⟨g2,e2⟩:=Ez hb o2;have hr:=Qht a.q b.q g1 g2;rw[←Rh ha o1,←Rh hb o2]at hr;have hk:=Nn c x e;subst he;generalize D4 a.q b.q=q at *;unfold Nu at hk ⊢;unfold RR.av at hr ⊢;refine Ad Tryz.func111 rfl rfl 20 rfl (Nat.le_of_ble_eq_true rfl) ?_;(repeat refine AW.seq_k fun K hK=>?_);refine AW.rgR [4,5] ?_;simp[Al];try (refine hK _ rfl ?_;clear hK K)
  refine Af.intro fun b6 hb6=>?_;simp only[Am,Aw,and_true]at hb6;refine hK _ rfl ?_;clear hK K;(repeat refine AW.seq_k fun K hK=>?_);refine AW.rg ?_;simp[hb6,hx];try (refine hK _ rfl ?_;clear hK K)
  refine AW.no ?_ rfl;refine AW.skip ?_;try simp
  refine hK _ rfl ?_;clear hK K;cases q with
  |none =>
   (repeat refine AW.seq_k fun K hK=>?_);refine AW.rg ?_;simp[hb6];try (refine hK _ rfl ?_;clear hK K)
   refine Aa.val hr ?_;simp[C0,B5];have hk2:=hk 2 hx0 Ve;refine Aa.grant (R:=fun v y=>v=Ve.av∧∃x',G4 x' 2∧y=⟨118,1,[x']⟩) c ⟨118,1,[x]⟩ (by simp[hb6]) (by simp) (hk2.mono fun v m ⟨h1,x',h2,h3⟩=>⟨_,⟨h1,x',h2,rfl⟩,h3⟩) ?_;rintro _ _ ⟨rfl,x',hx',rfl⟩;simp[hb6,Xv,B5];refine hK _ rfl ?_;clear hK K;refine AW.ret (Df (vs:=[B5]) [B5] c ⟨118,1,[x']⟩ (by simp[hb6,B5]) (by simp[hb6]) (hone x' 2 hx') (A9 _ _ _) ⟨rfl,x',hx',rfl⟩)
  |some q =>
   (repeat refine AW.seq_k fun K hK=>?_);refine AW.rg ?_;simp[hb6];try (refine hK _ rfl ?_;clear hK K)
   refine Aa.val hr ?_;simp[C0];have hk2:=hk 0 hx0 (Aq q);refine Aa.grant (R:=fun v y=>v=(Aq q).av∧∃x',G4 x' 0∧y=⟨118,1,[x']⟩) c ⟨118,1,[x]⟩ (by simp[hb6]) (by simp) (hk2.mono fun v m ⟨h1,x',h2,h3⟩=>⟨_,⟨h1,x',h2,rfl⟩,h3⟩) ?_;rintro _ _ ⟨rfl,x',hx',rfl⟩;simp[hb6];refine hK _ rfl ?_;clear hK K;refine AW.ret (Df (vs:=[(Aq q).av]) [(Aq q).av] c ⟨118,1,[x']⟩ (by simp[hb6,RR.av]) (by simp[hb6]) (hone x' 0 hx') (A9 _ _ _) ⟨rfl,x',hx',rfl⟩)
 ·have e3:Dg e a (D4 a.q b.q)=(e,a):=if_neg he;rw[e3];unfold Nu;unfold RR.av;refine Ad Tryz.func111 rfl rfl 20 rfl (Nat.le_of_ble_eq_true rfl) ?_;(repeat refine AW.seq_k fun K hK=>?_);refine AW.rgR [4,5] ?_;simp[Al];try (refine hK _ rfl ?_;clear hK K)
  refine Af.intro fun b6 hb6=>?_;simp only[Am,Aw,and_true]at hb6;refine hK _ rfl ?_;clear hK K;(repeat refine AW.seq_k fun K hK=>?_);refine AW.rg ?_;simp[hb6,hx];try (refine hK _ rfl ?_;clear hK K)
  refine AW.yes ?_ (by simp[he]);(repeat refine AW.seq_k fun K hK=>?_);refine AW.rg ?_;simp[hb6];try (refine hK _ rfl ?_;clear hK K)
  refine AW.ret (Df (vs:=[.agg [.bool a.n1,Ao a.l1,.bool a.n2,Ao a.l2]]) [.agg [.bool a.n1,Ao a.l1,.bool a.n2,Ao a.l2]] c ⟨118,1,[x]⟩ (by simp[hb6]) (by simp[hb6]) (hone x e hx0) (A9 _ _ _) ⟨rfl,x,hx0,rfl⟩)
theorem Qgj (c:Nat) (x:AV) (e:Int) (hx:G4 x e) (a b:RR) (ha:a.Lb) (hb:b.Lb) (h:e=0→a.ok=true∧b.ok=true∧b.q≠0):Ai Tryz.prog 145 [.ptr c 1 0 0,a.av,b.av] (Nu c x) fun v m=>v=(Dg e a (Ft a.q b.q)).2.av∧∃x',G4 x' (Dg e a (Ft a.q b.q)).1∧m=Nu c x':=by
 have hone:∀x' e',G4 x' e'→∀v∈(⟨118,1,[x']⟩:Ev).l,v.cells.all AV.one=true:=by
  intro x' e' hx' v hv;simp at hv;subst hv;unfold G4 at hx';rw[hx'];rfl
 have hone:=hone;have hx0:=hx;unfold G4 at hx;by_cases he:e=0
 ·obtain⟨o1,o2,o3⟩:=h he;obtain⟨g1,e1⟩:=Ez ha o1;obtain⟨g2,e2⟩:=Ez hb o2;have hr:=Qhp a.q b.q g1 g2 o3;rw[←Rh ha o1,←Rh hb o2]at hr;have hk:=Nn c x e;subst he;generalize Ft a.q b.q=q at *;unfold Nu at hk ⊢;unfold RR.av at hr ⊢;refine Ad Tryz.func145 rfl rfl 20 rfl (Nat.le_of_ble_eq_true rfl) ?_;(repeat refine AW.seq_k fun K hK=>?_);refine AW.rgR [4,5] ?_;simp[Al];try (refine hK _ rfl ?_;clear hK K)
  refine Af.intro fun b6 hb6=>?_;simp only[Am,Aw,and_true]at hb6;refine hK _ rfl ?_;clear hK K;(repeat refine AW.seq_k fun K hK=>?_);refine AW.rg ?_;simp[hb6,hx];try (refine hK _ rfl ?_;clear hK K)
  refine AW.no ?_ rfl;refine AW.skip ?_;try simp
  refine hK _ rfl ?_;clear hK K;cases q with
  |none =>
   (repeat refine AW.seq_k fun K hK=>?_);refine AW.rg ?_;simp[hb6];try (refine hK _ rfl ?_;clear hK K)
   refine Aa.val hr ?_;simp[C0,B5];have hk2:=hk 2 hx0 Ve;refine Aa.grant (R:=fun v y=>v=Ve.av∧∃x',G4 x' 2∧y=⟨118,1,[x']⟩) c ⟨118,1,[x]⟩ (by simp[hb6]) (by simp) (hk2.mono fun v m ⟨h1,x',h2,h3⟩=>⟨_,⟨h1,x',h2,rfl⟩,h3⟩) ?_;rintro _ _ ⟨rfl,x',hx',rfl⟩;simp[hb6,Xv,B5];refine hK _ rfl ?_;clear hK K;refine AW.ret (Df (vs:=[B5]) [B5] c ⟨118,1,[x']⟩ (by simp[hb6,B5]) (by simp[hb6]) (hone x' 2 hx') (A9 _ _ _) ⟨rfl,x',hx',rfl⟩)
  |some q =>
   (repeat refine AW.seq_k fun K hK=>?_);refine AW.rg ?_;simp[hb6];try (refine hK _ rfl ?_;clear hK K)
   refine Aa.val hr ?_;simp[C0];have hk2:=hk 0 hx0 (Aq q);refine Aa.grant (R:=fun v y=>v=(Aq q).av∧∃x',G4 x' 0∧y=⟨118,1,[x']⟩) c ⟨118,1,[x]⟩ (by simp[hb6]) (by simp) (hk2.mono fun v m ⟨h1,x',h2,h3⟩=>⟨_,⟨h1,x',h2,rfl⟩,h3⟩) ?_;rintro _ _ ⟨rfl,x',hx',rfl⟩;simp[hb6];refine hK _ rfl ?_;clear hK K;refine AW.ret (Df (vs:=[(Aq q).av]) [(Aq q).av] c ⟨118,1,[x']⟩ (by simp[hb6,RR.av]) (by simp[hb6]) (hone x' 0 hx') (A9 _ _ _) ⟨rfl,x',hx',rfl⟩)
 ·have e3:Dg e a (Ft a.q b.q)=(e,a):=if_neg he;rw[e3];unfold Nu;unfold RR.av;refine Ad Tryz.func145 rfl rfl 20 rfl (Nat.le_of_ble_eq_true rfl) ?_;(repeat refine AW.seq_k fun K hK=>?_);refine AW.rgR [4,5] ?_;simp[Al];try (refine hK _ rfl ?_;clear hK K)
  refine Af.intro fun b6 hb6=>?_;simp only[Am,Aw,and_true]at hb6;refine hK _ rfl ?_;clear hK K;(repeat refine AW.seq_k fun K hK=>?_);refine AW.rg ?_;simp[hb6,hx];try (refine hK _ rfl ?_;clear hK K)
  refine AW.yes ?_ (by simp[he]);(repeat refine AW.seq_k fun K hK=>?_);refine AW.rg ?_;simp[hb6];try (refine hK _ rfl ?_;clear hK K)
  refine AW.ret (Df (vs:=[.agg [.bool a.n1,Ao a.l1,.bool a.n2,Ao a.l2]]) [.agg [.bool a.n1,Ao a.l1,.bool a.n2,Ao a.l2]] c ⟨118,1,[x]⟩ (by simp[hb6]) (by simp[hb6]) (hone x e hx0) (A9 _ _ _) ⟨rfl,x,hx0,rfl⟩)
end Go.Av
end
section
namespace Go.Av
open Go.Proofs
def Kw (n:Int):Rat:=Rat.divInt n 1
theorem F7:Kw 0=0:=Rat.zero_divInt 1
theorem Io:Kw 1=1:=by decide
theorem Vy {n:Int} (h:n.natAbs<18446744073709551616):Bu (Kw n):=G7 (Ti h) (by decide) (by omega)
theorem Nx (n:Int) (h1:-9223372036854775808≤n) (h2:n<9223372036854775808):Ai Tryz.prog 152 [.int .i64 n] Ac.emp fun v m=>v=(Aq (Kw n)).av∧m=Ac.emp:=by
 have ho:=Qef n 1 h1 h2 (by omega) (by omega) (by omega);have e:Rat.divInt n 1=Kw n:=rfl;rw[e,C0]at ho;generalize Kw n=q at *;rw[Dl];unfold Gl at *;refine Ad Tryz.func152 rfl rfl 11 rfl (Nat.le_of_ble_eq_true rfl) ?_;(repeat refine AW.seq_k fun K hK=>?_);refine AW.rg ?_;simp[Al];try (refine hK _ rfl ?_;clear hK K)
 refine Af.intro fun b2 _=>?_;refine hK _ rfl ?_;clear hK K;(repeat refine AW.seq_k fun K hK=>?_);refine AW.rg ?_;simp;try (refine hK _ rfl ?_;clear hK K)
 refine Aa.val ho ?_;simp;refine Af.intro fun b3 hb3=>?_;simp only[Am,Aw,and_true]at hb3;try simp[hb3]
 refine hK _ rfl ?_;clear hK K;(repeat refine AW.seq_k fun K hK=>?_);refine AW.rg ?_;simp[hb3];try (refine hK _ rfl ?_;clear hK K)
 exact AW.ret (Ae (vs:=[.agg [.bool (decide (q.num<0)),Ao (Ar q.num.natAbs),.bool false,Ao (Ar q.den)]]) [.agg [.bool (decide (q.num<0)),Ao (Ar q.num.natAbs),.bool false,Ao (Ar q.den)]] (by simp[hb3]) (by simp) ⟨rfl,rfl⟩)
section
variable {P:Program} {av:Nat→Prop} {f:FuncId} {args:List AV} {m:Ac} {k:AV→Ac→Prop}
theorem Aa.make {R:Nat→AV→Ev→Prop} (h:Ai P f args Ac.emp fun v m'=>∃b x,R b v x∧m'=Ac.emp.set b x) (hk:∀b v x,R b v x→m b=none→¬av b→k v (m.set b x)):Aa P av f args m k:=by
 refine .inl ⟨Ac.emp,_,fun c y hy=>(by cases hy),h,?_⟩;rintro v g' ⟨b,x,hr,rfl⟩ hf;have hb:=hf b (by simp);rcases hb with hb | ⟨h1,h2⟩
 ·exact absurd rfl hb
 ·have e:Eu m Ac.emp (Ac.emp.set b x)=m.set b x:=by
   funext c
   unfold Eu;simp only[A6,Aw];by_cases hc:c=b
   ·simp[hc]
   ·simp[hc]
  rw[e];exact hk b v x hr h1 h2
end
def Qkb:AV:=.agg [.bool false,.nil,.bool false,.nil]
def Lm (l:List RR) (i n:Nat):List AV:=Bg (l.take i)++List.replicate (n-i) Qkb
theorem Uw (l:List RR) (n:Nat):Lm l 0 n=List.replicate n Qkb:=by simp[Lm]
theorem Ub (l:List RR):Lm l l.length l.length=Bg l:=by simp[Lm]
theorem Uj (l:List RR) (i:Nat) (h:i<l.length):(Lm l i l.length).set i (rr l i).av=Lm l (i+1) l.length:=by
 unfold Lm;have hl:(Bg (l.take i)).length=i:=by simp;omega
 rw[List.set_append_right _ _ (by omega),hl,Nat.sub_self,show l.length-i=(l.length-(i+1))+1 by omega,List.replicate_succ,List.set_cons_zero];have e:l.take (i+1)=l.take i++[l[i]]:=by rw[List.take_add_one,List.getElem?_eq_getElem h];rfl
 rw[e];simp only[Bg,List.map_append,List.append_assoc,List.map_cons,List.map_nil,List.cons_append,List.nil_append,G6 h]
@[simp] theorem fillL_get? {l:List RR} {i:Nat} (h:i<l.length):(Lm l i l.length)[i]?=some Qkb:=by
 unfold Lm;have hl:(Bg (l.take i)).length=i:=by simp;omega
 rw[List.getElem?_append_right (by omega),hl,Nat.sub_self,show l.length-i=(l.length-(i+1))+1 by omega,List.replicate_succ];rfl
theorem Qbj (n:Nat) (hn:n<2^40):Ai Tryz.prog 109 [.int .i64 n] Ac.emp fun v m=>∃b x,(v=.osl b 4 0 n∧x=⟨44,4,Bg (List.replicate n (Aq 0))⟩)∧m=Ac.emp.set b x:=by
 have hw:=Nx 0 (by omega) (by omega);rw[F7]at hw;generalize hl:List.replicate n (Aq 0)=l at *;have hlen:l.length=n:=by rw[←hl];simp
 have hget:∀i,i<n→rr l i=Aq 0:=by
  intro i hi;rw[G6 (by omega)];subst hl;simp
 generalize Aq 0=z at *;clear hl;subst hlen;refine Ad Tryz.func109 rfl rfl 18 rfl (Nat.le_of_ble_eq_true rfl) ?_;(repeat refine AW.seq_k fun K hK=>?_);refine AW.rg ?_;simp[Al];try (refine hK _ rfl ?_;clear hK K)
 (repeat refine AW.seq_k fun K hK=>?_);refine AW.rg ?_;simp[-Int.natCast_mul];try (refine hK _ rfl ?_;clear hK K)
 refine⟨by omega,Af.intro fun b _=>?_⟩;refine hK _ rfl ?_;clear hK K;refine AW.seq_has [(3,.osl b 4 0 l.length)] (Ac.emp.set b ⟨44,4,Bg l⟩) ?_ ?_
 ·(repeat refine AW.seq_k fun K hK=>?_);refine AW.rg ?_;simp;try (refine hK _ rfl ?_;clear hK K)
  refine AW.block (AW.loopS (ι:=Nat) (fun i=>[(3,.osl b 4 0 l.length),(8,.int .i64 (l.length:Nat)),(9,.int .i64 (i:Nat))]) (fun i=>Ac.emp.set b ⟨44,4,Lm l i l.length⟩)
   (fun i=>i≤l.length) (fun i=>l.length-i) 0 (by simp) (by rw[Uw];rfl) (by simp) ?_)
  intro i h1;(repeat refine AW.seq_k fun K hK=>?_);refine AW.rg ?_;simp;try (refine hK _ rfl ?_;clear hK K)
  refine AW.seq_k fun K hK=>?_;(repeat refine AW.seq ?_);refine AW.cs (fun hi=>?_) (fun hi=>?_) rfl<;>(try simp at hi)
  ·refine AW.skip ?_;try simp
   refine hK _ rfl ?_;clear hK K;have w1:=Au (i+1) (by omega);(repeat refine AW.seq ?_);refine AW.block ?_;(repeat refine AW.seq_k fun K hK=>?_);refine AW.rg ?_;simp;try (refine hK _ rfl ?_;clear hK K)
   (repeat refine AW.seq_k fun K hK=>?_);refine AW.rg ?_;simp[hi];try (refine hK _ rfl ?_;clear hK K)
   refine Aa.val hw ?_;simp[hi,Qkb];rw[←hget i hi,Uj l i hi];(repeat refine AW.seq_k fun K hK=>?_);refine AW.rg ?_;simp[-Int.natCast_add,w1];try (refine hK _ rfl ?_;clear hK K)
   exact⟨i+1,hi,by omega,rfl,rfl⟩
  ·refine AW.exit ?_;try simp
   have:i=l.length:=by omega
   subst this;rw[Ub]
 (repeat refine AW.seq_k fun K hK=>?_);refine AW.rg ?_;simp;try (refine hK _ rfl ?_;clear hK K)
 exact AW.ret (Bo rfl (Sk (Gc l)) ⟨b,_,⟨rfl,rfl⟩,rfl⟩)
theorem Y0 (l:List RR) (hl:∀x∈l,x.l1.length<2^40∧x.l2.length<2^40) (hn:l.length<2^40):Ai Tryz.prog 143 [An l] Ac.emp fun v m=>∃b x,(v=.osl b 4 0 l.length∧x=⟨44,4,Bg l⟩)∧m=Ac.emp.set b x:=by
 refine Ad Tryz.func143 rfl rfl 23 rfl (Nat.le_of_ble_eq_true rfl) ?_;(repeat refine AW.seq_k fun K hK=>?_);refine AW.rg ?_;simp[Al];try (refine hK _ rfl ?_;clear hK K)
 (repeat refine AW.seq_k fun K hK=>?_);refine AW.rg ?_;simp[-Int.natCast_mul];try (refine hK _ rfl ?_;clear hK K)
 refine⟨by omega,Af.intro fun b _=>?_⟩;refine hK _ rfl ?_;clear hK K;refine AW.seq_has [(3,.osl b 4 0 l.length)] (Ac.emp.set b ⟨44,4,Bg l⟩) ?_ ?_
 ·(repeat refine AW.seq_k fun K hK=>?_);refine AW.rg ?_;simp;try (refine hK _ rfl ?_;clear hK K)
  refine AW.block (AW.loopS (ι:=Nat) (fun i=>[(0,An l),(3,.osl b 4 0 l.length),(9,.int .i64 (l.length:Nat)),(10,.int .i64 (i:Nat))]) (fun i=>Ac.emp.set b ⟨44,4,Lm l i l.length⟩)
   (fun i=>i≤l.length) (fun i=>l.length-i) 0 (by simp) (by rw[Uw];rfl) (by simp) ?_)
  intro i h1;(repeat refine AW.seq_k fun K hK=>?_);refine AW.rg ?_;simp;try (refine hK _ rfl ?_;clear hK K)
  refine AW.seq_k fun K hK=>?_;(repeat refine AW.seq ?_);refine AW.cs (fun hi=>?_) (fun hi=>?_) rfl<;>(try simp at hi)
  ·refine AW.skip ?_;try simp
   refine hK _ rfl ?_;clear hK K;have w1:=Au (i+1) (by omega);have hx:=hl (rr l i) (by rw[G6 hi];exact List.getElem_mem hi);have ho:=Qkl (rr l i) hx.1 hx.2;(repeat refine AW.seq ?_);refine AW.block ?_;(repeat refine AW.seq_k fun K hK=>?_);refine AW.rg ?_;simp;try (refine hK _ rfl ?_;clear hK K)
   (repeat refine AW.seq_k fun K hK=>?_);refine AW.rg ?_;simp[hi];try (refine hK _ rfl ?_;clear hK K)
   refine Aa.val ho ?_;simp[hi,Qkb];rw[Uj l i hi];(repeat refine AW.seq_k fun K hK=>?_);refine AW.rg ?_;simp[-Int.natCast_add,w1];try (refine hK _ rfl ?_;clear hK K)
   exact⟨i+1,hi,by omega,rfl,rfl⟩
  ·refine AW.exit ?_;try simp
   have:i=l.length:=by omega
   subst this;rw[Ub]
 (repeat refine AW.seq_k fun K hK=>?_);refine AW.rg ?_;simp;try (refine hK _ rfl ?_;clear hK K)
 exact AW.ret (Bo rfl (Sk (Gc l)) ⟨b,_,⟨rfl,rfl⟩,rfl⟩)
end Go.Av
end
section
namespace Go.Av
open Go.Proofs
def Gi (bs:List Nat) (rows:List (List RR)):List AV:=List.zipWith (fun b (r:List RR)=>.osl b 4 0 r.length) bs rows
def nb (bs:List Nat) (i:Nat):Nat:=bs.getD i 0
theorem Im {bs:List Nat} {i:Nat} (h:i<bs.length):nb bs i=bs[i]:=by unfold nb;rw[List.getD_eq_getElem?_getD,List.getElem?_eq_getElem h];rfl
theorem Ex {bs:List Nat} {i:Nat} (h:i<bs.length):nb bs i∈bs:=by rw[Im h];exact List.getElem_mem h
theorem B8 {bs:List Nat} {rows:List (List RR)} (h:bs.length=rows.length):(Gi bs rows).length=rows.length:=by simp[Gi,h]
theorem hdrs_get? {bs:List Nat} {rows:List (List RR)} (h:bs.length=rows.length) {i:Nat} (hi:i<rows.length):(Gi bs rows)[i]?=some (.osl (nb bs i) 4 0 (Aj rows i).length):=by
 unfold Gi;rw[List.getElem?_zipWith,List.getElem?_eq_getElem (by omega),List.getElem?_eq_getElem hi,Im (by omega),Ea hi]
structure D7 (M:Ac) (B:Nat) (bs:List Nat) (rows:List (List RR)):Prop where
 top:M B=some ⟨51,1,Gi bs rows⟩
 len:bs.length=rows.length
 row:∀i,i<rows.length→M (nb bs i)=some ⟨44,4,Bg (Aj rows i)⟩
 nd:bs.Nodup
 nB:B ∉ bs
theorem Qb9 {bs:List Nat} (hnd:bs.Nodup) {i j:Nat} (hi:i<bs.length) (hj:j<bs.length) (h:nb bs i=nb bs j):i=j:=by
 rw[Im hi,Im hj]at h;exact(List.getElem_inj hnd).1 h
section
variable {M:Ac} {B:Nat} {bs:List Nat} {rows:List (List RR)}
theorem D7.ne (h:D7 M B bs rows) {i:Nat} (hi:i<rows.length):nb bs i≠B:=fun e=>h.nB (e ▸ Ex (by rw[h.len];exact hi))
theorem D7.get (h:D7 M B bs rows) {i:Nat} (hi:i<rows.length):(Gi bs rows)[i]?=some (.osl (nb bs i) 4 0 (Aj rows i).length):=hdrs_get? h.len hi
theorem Qgg {bs:List Nat} {rows:List (List RR)} (i:Nat) (r:List RR) (hr:r.length=(Aj rows i).length):Gi bs (rows.set i r)=Gi bs rows:=by
 unfold Gi;refine List.ext_getElem? fun k=>?_;rw[List.getElem?_zipWith,List.getElem?_zipWith,List.getElem?_set];by_cases hk:i=k
 ·subst hk;rw[if_pos rfl];by_cases hi:i<rows.length
  ·rw[if_pos hi,List.getElem?_eq_getElem hi];cases bs[i]? with
   |none=>rfl
   |some b=>simp[hr,Ea hi]
  ·rw[if_neg hi,List.getElem?_eq_none (l:=rows) (by omega)]
 ·rw[if_neg hk]
theorem Fo {α:Type} {rows:List (List α)} {i:Nat} (hi:i<rows.length) (r:List α) (k:Nat):Aj (rows.set i r) k=if k=i then r else Aj rows k:=by
 unfold Aj;rw[List.getD_eq_getElem?_getD,List.getElem?_set];by_cases h:i=k
 ·subst h;simp[hi]
 ·rw[if_neg h,if_neg (Ne.symm h),←List.getD_eq_getElem?_getD]
theorem D7.setRow (h:D7 M B bs rows) {i:Nat} (hi:i<rows.length) (r:List RR) (hr:r.length=(Aj rows i).length):D7 (M.set (nb bs i) ⟨44,4,Bg r⟩) B bs (rows.set i r):=by
 refine⟨?_,by simpa using h.len,fun k hk=>?_,h.nd,h.nB⟩
 ·rw[Qgg i r hr];simp only[A6];rw[if_neg (Ne.symm (h.ne hi))];exact h.top
 ·have hk':k<rows.length:=by simpa using hk
  simp only[A6];rw[Fo hi];by_cases hki:k=i
  ·subst hki;simp
  ·have:nb bs k≠nb bs i:=fun e=>hki (Qb9 h.nd (by rw[h.len];exact hk') (by rw[h.len];exact hi) e);rw[if_neg this,if_neg hki];exact h.row k hk'
theorem D7.other (h:D7 M B bs rows) {c:Nat} (h1:c≠B) (h2:c ∉ bs) (x:Ev):D7 (M.set c x) B bs rows:=by
 refine⟨?_,h.len,fun k hk=>?_,h.nd,h.nB⟩
 ·simp only[A6];rw[if_neg (Ne.symm h1)];exact h.top
 ·have:nb bs k≠c:=fun e=>h2 (e ▸ Ex (by rw[h.len];exact hk));simp only[A6];rw[if_neg this];exact h.row k hk
theorem Wp (bs:List Nat) (rows:List (List RR)):∀v∈Gi bs rows,v.cells.all AV.one=true:=by
 intro v hv;unfold Gi at hv;obtain⟨k,hk⟩:=List.getElem?_of_mem hv;rw[List.getElem?_zipWith]at hk;cases h1:bs[k]?<;>cases h2:rows[k]?<;>simp[h1,h2]at hk
 subst hk;rfl
theorem D7.view (h:D7 M B bs rows):Br M Ac.emp (.osl B 1 0 rows.length) (Ap rows):=by
 refine .osl B 1 0 rows.length _ _ h.top rfl rfl (by simp) (by simp[B8 h.len]) fun k v v' h1 h2=>?_;simp only[Nat.zero_add]at h1;have hk:k<rows.length:=by
  have:=(List.getElem?_eq_some_iff.1 h2).1;simpa using this
 rw[h.get hk]at h1;rw[List.getElem?_map,List.getElem?_eq_getElem hk]at h2;cases h1;cases h2;rw[←Ea hk];refine .osl (nb bs k) 4 0 _ _ _ (h.row k hk) rfl rfl (by simp) (by simp) fun j u u' g1 g2=>?_;simp only[Nat.zero_add]at g1;rw[g1]at g2;cases g2;exact .same _
end
def Dc (M:Ac) (l:List Nat):Prop:=∀b,M b≠none→b∈l
theorem Dc.none {M:Ac} {l:List Nat} (h:Dc M l) {b:Nat} (hb:b ∉ l):M b=Option.none:=by
 cases hx:M b with
 |none=>rfl
 |some x=>exact absurd (h b (by rw[hx];simp)) hb
theorem D7.ones {M:Ac} {B:Nat} {bs:List Nat} {rows:List (List RR)} (h:D7 M B bs rows) {l:List Nat} (ho:Dc M (l++B::bs)) (hl:∀c∈l,∀x,M c=some x→∀v∈x.l,v.cells.all AV.one=true):∀(b:Nat) (x:Ev),M b=some x→∀v∈x.l,v.cells.all AV.one=true:=by
 intro b x hx;have:=ho b (by rw[hx];simp);rcases List.mem_append.1 this with h1 | h1
 ·exact hl b h1 x hx
 ·rcases List.mem_cons.1 h1 with rfl|h1
  ·rw[h.top]at hx;cases hx;exact Wp bs rows
  ·obtain⟨i,hi⟩:=List.getElem?_of_mem h1;have hib:i<bs.length:=(List.getElem?_eq_some_iff.1 hi).1;have hir:i<rows.length:=by rw[←h.len];exact hib
   have e:nb bs i=b:=by rw[Im hib];exact(List.getElem?_eq_some_iff.1 hi).2
   have:=h.row i hir;rw[e,hx]at this;cases this;exact Gc _
structure Qho (M:Ac) (B:Nat) (bs:List Nat) (rows:List (List RR)) (k:Nat):Prop where
 top:M B=some ⟨51,1,Gi bs rows++List.replicate k AV.nil⟩
 len:bs.length=rows.length
 row:∀i,i<rows.length→M (nb bs i)=some ⟨44,4,Bg (Aj rows i)⟩
 nd:bs.Nodup
 nB:B ∉ bs
 only:Dc M (B::bs)
theorem V3 {bs:List Nat} {rows:List (List RR)} (h:bs.length=rows.length) (b:Nat) (r:List RR):Gi (bs++[b]) (rows++[r])=Gi bs rows++[.osl b 4 0 r.length]:=by
 unfold Gi;rw[List.zipWith_append h];rfl
theorem V8 {α:Type} (rows:List (List α)) (r:List α) (i:Nat) (hi:i<rows.length+1):Aj (rows++[r]) i=if i<rows.length then Aj rows i else r:=by
 unfold Aj;rw[List.getD_eq_getElem?_getD];by_cases h:i<rows.length
 ·rw[if_pos h,List.getElem?_append_left h,←List.getD_eq_getElem?_getD]
 ·rw[if_neg h,List.getElem?_append_right (by omega),show i-rows.length=0 by omega];rfl
theorem Qex (bs:List Nat) (b:Nat) (i:Nat) (hi:i<bs.length+1):nb (bs++[b]) i=if i<bs.length then nb bs i else b:=by
 unfold nb;rw[List.getD_eq_getElem?_getD];by_cases h:i<bs.length
 ·rw[if_pos h,List.getElem?_append_left h,←List.getD_eq_getElem?_getD]
 ·rw[if_neg h,List.getElem?_append_right (by omega),show i-bs.length=0 by omega];rfl
theorem Qho.step {M:Ac} {B:Nat} {bs:List Nat} {rows:List (List RR)} {k:Nat} (h:Qho M B bs rows (k+1)) {b:Nat} (hb:M b=none) (r:List RR) :
  Qho ((M.set b ⟨44,4,Bg r⟩).set B ⟨51,1,(Gi bs rows++List.replicate (k+1) AV.nil).set rows.length (.osl b 4 0 r.length)⟩) B (bs++[b]) (rows++[r]) k:=by
 have hbB:b≠B:=by rintro rfl;rw[h.top]at hb;cases hb
 have hbb:b ∉ bs:=by
  intro hm;obtain⟨i,hi⟩:=List.getElem?_of_mem hm;have hib:i<bs.length:=(List.getElem?_eq_some_iff.1 hi).1;have e:nb bs i=b:=by rw[Im hib];exact(List.getElem?_eq_some_iff.1 hi).2
  have:=h.row i (by rw[←h.len];exact hib);rw[e,hb]at this;cases this
 refine⟨?_,by simp[h.len],fun i hi=>?_,?_,?_,fun c hc=>?_⟩
 ·simp only[A6,if_true];rw[V3 h.len,List.set_append_right _ _ (by rw[B8 h.len];omega),B8 h.len,Nat.sub_self,List.replicate_succ,List.set_cons_zero];simp
 ·have hi':i<rows.length+1:=by simpa using hi
  rw[Qex bs b i (by rw[h.len];exact hi'),V8 rows r i hi',h.len];by_cases hlt:i<rows.length
  ·rw[if_pos hlt,if_pos hlt];have n1:nb bs i≠B:=fun e=>h.nB (e ▸ Ex (by rw[h.len];exact hlt));have n2:nb bs i≠b:=fun e=>hbb (e ▸ Ex (by rw[h.len];exact hlt));simp only[A6];rw[if_neg n1,if_neg n2];exact h.row i hlt
  ·rw[if_neg hlt,if_neg hlt];simp[hbB]
 ·rw[List.nodup_append];exact⟨h.nd,by simp,fun x hx y hy=>by simp at hy;subst hy;exact fun e=>hbb (e ▸ hx)⟩
 ·simp only[List.mem_append,List.mem_singleton,not_or];exact⟨h.nB,Ne.symm hbB⟩
 ·simp only[A6]at hc;by_cases h1:c=B
  ·simp[h1]
  ·rw[if_neg h1]at hc;by_cases h2:c=b
   ·simp[h2]
   ·rw[if_neg h2]at hc;have:=h.only c hc;simp at this ⊢;rcases this with h3 | h3
    ·exact absurd h3 h1
    ·exact .inr (.inl h3)
theorem Qho.full {M:Ac} {B:Nat} {bs:List Nat} {rows:List (List RR)} (h:Qho M B bs rows 0):D7 M B bs rows∧Dc M (B::bs) :=
 ⟨⟨by rw[h.top];simp,h.len,h.row,h.nd,h.nB⟩,h.only⟩
def Qj3 (m:List (List RR)):Prop:=∀r∈m,∀x∈r,x.l1.length<2^40∧x.l2.length<2^40
theorem Qd9 (m:List (List RR)) (hs:Qj3 m) (h1:m.length<2^40) (h2:∀r∈m,r.length<2^40):Ai Tryz.prog 100 [Ap m] Ac.emp fun v M=>∃B bs,v=.osl B 1 0 m.length∧D7 M B bs m∧Dc M (B::bs):=by
 refine Ad Tryz.func100 rfl rfl 23 rfl (Nat.le_of_ble_eq_true rfl) ?_;(repeat refine AW.seq_k fun K hK=>?_);refine AW.rg ?_;simp[Al];try (refine hK _ rfl ?_;clear hK K)
 (repeat refine AW.seq_k fun K hK=>?_);refine AW.rg ?_;simp;try (refine hK _ rfl ?_;clear hK K)
 refine⟨by omega,Af.intro fun B _=>?_⟩;refine hK _ rfl ?_;clear hK K;refine AW.seq_ex (ι:=Ac × List Nat) (fun z=>[(3,.osl B 1 0 m.length)]) (fun z=>z.1) (fun z=>D7 z.1 B z.2 m∧Dc z.1 (B::z.2)) ?_ ?_
 ·(repeat refine AW.seq_k fun K hK=>?_);refine AW.rg ?_;simp;try (refine hK _ rfl ?_;clear hK K)
  refine AW.block (AW.loopS (ι:=Nat × Ac × List Nat) (fun z=>[(0,Ap m),(3,.osl B 1 0 m.length),(9,.int .i64 (m.length:Nat)),(10,.int .i64 (z.1:Nat))]) (fun z=>z.2.1)
   (fun z=>z.1≤m.length∧Qho z.2.1 B z.2.2 (m.take z.1) (m.length-z.1)) (fun z=>m.length-z.1) (0,Ac.emp.set B ⟨51,1,List.replicate m.length .nil⟩,[]) ⟨by simp,⟨by simp[Gi],rfl,fun i hi=>(by simp at hi),by simp,by simp,fun b hb=>by
    simp only[A6,Aw]at hb;by_cases h:b=B
    ·simp[h]
    ·simp[h]at hb⟩⟩ rfl (by simp) ?_)
  rintro⟨i,M,bs⟩ ⟨g1,g2⟩;simp only at g1 g2;(repeat refine AW.seq_k fun K hK=>?_);refine AW.rg ?_;simp;try (refine hK _ rfl ?_;clear hK K)
  refine AW.seq_k fun K hK=>?_;(repeat refine AW.seq ?_);refine AW.cs (fun hi=>?_) (fun hi=>?_) rfl<;>(try simp at hi)
  ·refine AW.skip ?_;try simp
   refine hK _ rfl ?_;clear hK K;have w1:=Au (i+1) (by omega);obtain⟨k,hk⟩:∃k,m.length-i=k+1:=⟨m.length-i-1,by omega⟩;rw[hk]at g2;have hmem:Aj m i∈m:=by rw[Ea hi];exact List.getElem_mem hi
   have ho:=Y0 (Aj m i) (hs _ hmem) (h2 _ hmem);have htl:(m.take i).length=i:=by simp;omega
   have hlen:(Gi bs (m.take i)++List.replicate (k+1) AV.nil)[i]?=some .nil:=by
    rw[List.getElem?_append_right (by rw[B8 g2.len];omega),B8 g2.len,htl,Nat.sub_self];rfl
   (repeat refine AW.seq ?_);refine AW.block ?_;(repeat refine AW.seq_k fun K hK=>?_);refine AW.rg ?_;simp;try (refine hK _ rfl ?_;clear hK K)
   (repeat refine AW.seq_k fun K hK=>?_);refine AW.rg ?_;simp[hi];try (refine hK _ rfl ?_;clear hK K)
   refine Aa.make ho ?_;rintro b _ _ ⟨rfl,rfl⟩ hb _;have hbB:B≠b:=by rintro rfl;rw[g2.top]at hb;cases hb
   simp[hi,hbB,g2.top,hlen];have hst:=g2.step hb (Aj m i);rw[htl]at hst;(repeat refine AW.seq_k fun K hK=>?_);refine AW.rg ?_;simp[-Int.natCast_add,w1];try (refine hK _ rfl ?_;clear hK K)
   refine⟨i+1,_,⟨hi,bs++[b],?_⟩,by omega,rfl,rfl⟩;have e:m.take (i+1)=m.take i++[Aj m i]:=by rw[List.take_add_one,List.getElem?_eq_getElem hi,Ea hi];rfl
   rw[e,show m.length-(i+1)=k by omega];exact hst
  ·refine AW.exit ?_;try simp
   have:i=m.length:=by omega
   subst this;rw[Nat.sub_self,List.take_length]at g2;exact⟨bs,g2.full⟩
 rintro⟨M,bs⟩ ⟨g1,g2⟩;simp only at g1 g2;(repeat refine AW.seq_k fun K hK=>?_);refine AW.rg ?_;simp;try (refine hK _ rfl ?_;clear hK K)
 refine AW.ret (Bo rfl ?_ ⟨B,bs,rfl,g1,g2⟩);exact g1.ones (l:=[]) g2 (by simp)
end Go.Av
end
section
namespace Go.Av
open Go.Proofs
def A3 {α:Type} (f:Nat→α→Option α):Nat→α→Option α
 |0,s=>some s
 |n+1,s=>(A3 f n s).bind (f n)
theorem Cq {α:Type} (f:Nat→α→Option α) (n:Nat) (s:α):A3 f (n+1) s=(A3 f n s).bind (f n):=rfl
theorem So {α:Type} {f:Nat→α→Option α} {n:Nat} {s:α} (h:A3 f n s=none):∀k,A3 f (n+k) s=none
 |0=>h
 |k+1=>by rw[←Nat.add_assoc,Cq,So h k];rfl
theorem Ha {α:Type} {f:Nat→α→Option α} {n m:Nat} {s:α} (h:A3 f n s=none) (hm:n≤m):A3 f m s=none:=by
 have:=So h (m-n)
 rwa [Nat.add_sub_cancel' hm]at this
def Cd (r:List Rat) (i:Nat):Rat:=r.getD i 0
def B4 (M:List (List Rat)) (i j:Nat):Rat:=Cd (Aj M i) j
def Be (M:List (List Rat)):List (List RR):=M.map fun r=>r.map Aq
def Ee (M:List (List Rat)):Prop:=∀r∈M,∀q∈r,Bu q
def Cl {α:Type} (l:List (List α)) (i j:Nat):List (List α):=(l.set i (Aj l j)).set j (Aj l i)
def Gf (op:Rat→Nat→Option Rat) (k:Nat) (row:List Rat):Option (List Rat):=(op (Cd row k) k).map (row.set k)
def Ca (d:Rat):Nat→List Rat→Option (List Rat):=Gf fun q _=>Ft q d
def I0 (a f b:Rat):Option Rat:=(D4 b f).bind (Cz a)
def Dy (by_:List Rat) (f:Rat):Nat→List Rat→Option (List Rat):=Gf fun q k=>I0 q f (Cd by_ k)
def Bi (r j i:Nat) (M:List (List Rat)):Option (List (List Rat)) :=
 if i=r∨B4 M i j=0 then some M else (A3 (Dy (Aj M r) (B4 M i j)) (Aj M i).length (Aj M i)).map (M.set i)
def Fh (M:List (List Rat)) (j r:Nat):Option (List (List Rat)) :=
 (A3 (Ca (B4 M r j)) (Aj M r).length (Aj M r)).bind fun row=>A3 (Bi r j) M.length (M.set r row)
def Ts (M:List (List Rat)) (j r:Nat):Option Nat:=(List.range M.length).find? fun i=>decide (r≤i)&&!decide (B4 M i j=0)
def Cb (j:Nat) (z:List (List Rat) × List Nat):Option (List (List Rat) × List Nat) :=
 match Ts z.1 j z.2.length with
 |none=>some z
 |some i=>(Fh (Cl z.1 i z.2.length) j z.2.length).map fun M=>(M,z.2++[j])
def Ep (M:List (List Rat)):Option (List (List Rat) × List Nat):=A3 Cb (Aj M 0).length (M,[])
/-! ### The numbers in memory -/
theorem A1 (M:List (List Rat)):(Be M).length=M.length:=by simp[Be]
theorem Bq (M:List (List Rat)) (i:Nat):Aj (Be M) i=(Aj M i).map Aq:=by
 unfold Aj Be;rw[List.getD_eq_getElem?_getD,List.getD_eq_getElem?_getD,List.getElem?_map];cases M[i]?<;>rfl
theorem Ew {r:List Rat} {i:Nat} (h:i<r.length):rr (r.map Aq) i=Aq (Cd r i):=by
 unfold rr Cd;rw[List.getD_eq_getElem?_getD,List.getD_eq_getElem?_getD,List.getElem?_map,List.getElem?_eq_getElem h];rfl
theorem Oy (M:List (List Rat)) (i:Nat) (r:List Rat):Be (M.set i r)=(Be M).set i (r.map Aq):=by simp[Be,List.map_set]
theorem Qaz (M:List (List Rat)) (i j:Nat):Be (Cl M i j)=Cl (Be M) i j:=by
 unfold Cl;rw[Oy,Oy,Bq,Bq]
theorem Ee.at {M:List (List Rat)} (h:Ee M) {i j:Nat} (hj:j<(Aj M i).length):Bu (B4 M i j):=by
 unfold B4 Cd;have hi:i<M.length:=by
  rcases Nat.lt_or_ge i M.length with h|h
  ·exact h
  ·unfold Aj at hj;rw[List.getD_eq_getElem?_getD,List.getElem?_eq_none h]at hj;simp at hj
 rw[List.getD_eq_getElem?_getD,List.getElem?_eq_getElem hj];refine h (Aj M i) ?_ _ (List.getElem_mem hj);rw[Ea hi];exact List.getElem_mem hi
theorem Ee.set {M:List (List Rat)} (h:Ee M) (i:Nat) {r:List Rat} (hr:∀q∈r,Bu q):Ee (M.set i r):=by
 intro x hx q hq;rcases List.mem_or_eq_of_mem_set hx with h1 | rfl
 ·exact h x h1 q hq
 ·exact hr q hq
theorem Ee.row {M:List (List Rat)} (h:Ee M) (i:Nat):∀q∈Aj M i,Bu q:=by
 intro q hq;unfold Aj at hq;rw[List.getD_eq_getElem?_getD]at hq;cases hm:M[i]? with
 |none=>rw[hm]at hq;cases hq
 |some r=>rw[hm]at hq;exact h r (List.mem_of_getElem? hm) q hq
theorem Jl {r:List Rat} (h:∀q∈r,Bu q) (k:Nat) {x:Rat} (hx:Bu x):∀q∈r.set k x,Bu q:=by
 intro q hq;rcases List.mem_or_eq_of_mem_set hq with h1 | rfl
 ·exact h q h1
 ·exact hx
theorem Ee.swap {M:List (List Rat)} (h:Ee M) (i j:Nat):Ee (Cl M i j):=(h.set i (h.row j)).set j (h.row i)
def J3 {α:Type} (M:List (List α)) (w:Nat):Prop:=∀i,i<M.length→(Aj M i).length=w
theorem J3.set {α:Type} {M:List (List α)} {w:Nat} (h:J3 M w) {i:Nat} {r:List α} (hr:r.length=w):J3 (M.set i r) w:=by
 intro k hk;have hk':k<M.length:=by simpa using hk
 by_cases hi:i<M.length
 ·rw[Fo hi];split
  ·exact hr
  ·exact h k hk'
 ·rw[List.set_eq_of_length_le (by omega)];exact h k hk'
theorem J3.swap {α:Type} {M:List (List α)} {w:Nat} (h:J3 M w) {i j:Nat} (hi:i<M.length) (hj:j<M.length):J3 (Cl M i j) w:=(h.set (h j hj)).set (h i hi)
theorem Kf {α:Type} (M:List (List α)) (i j:Nat):(Cl M i j).length=M.length:=by simp[Cl]
theorem Xt {M:List (List Rat)} {w:Nat} (h:J3 M w):J3 (Be M) w:=by
 intro i hi;rw[Bq,List.length_map];exact h i (by simpa[Be]using hi)
theorem I7 (M:List (List Rat)):Sb (Be M):=by
 intro r hr x hx;obtain⟨s,_,rfl⟩:=List.mem_map.1 hr;obtain⟨q,_,rfl⟩:=List.mem_map.1 hx;exact D9 q
theorem Sb.set {M:List (List RR)} (h:Sb M) (i:Nat) {r:List RR} (hr:∀x∈r,x.Lb):Sb (M.set i r):=by
 intro x hx q hq;rcases List.mem_or_eq_of_mem_set hx with h1 | rfl
 ·exact h x h1 q hq
 ·exact hr q hq
theorem Qsg {r:List RR} (h:∀x∈r,x.Lb) (k:Nat) {y:RR} (hy:y.Lb):∀x∈r.set k y,x.Lb:=by
 intro x hx;rcases List.mem_or_eq_of_mem_set hx with h1 | rfl
 ·exact h x h1
 ·exact hy
theorem Sb.swap {M:List (List RR)} (h:Sb M) (i j:Nat):Sb (Cl M i j):=(h.set i (h.row j)).set j (h.row i)
def U9 (e:Int) (rows:List (List RR)) (X:Option (List (List Rat))):Prop :=
 match X with
 |some M=>e=0∧rows=Be M∧Ee M
 |none=>e=2
theorem Qim {op:Rat→Nat→Option Rat} (hop:∀q k x,op q k=some x→Bu x) {X:Option (List (List Rat))} {n w r k:Nat} {e e':Int} {rows:List (List RR)} {y:RR} (hn:rows.length=n) (hr:r<n) (hd:J3 rows w) (hk:k<w)
  {Z:Option (List (List Rat) × List Rat)} (hZ:X=Z.map fun z=>z.1.set r z.2) (hM:U9 e rows X) (h1:e≠0→e'=e) (h2:e=0→match op (rr (Aj rows r) k).q k with | some z=>e'=0∧y=Aq z | none=>e'=2) :
  U9 e' (rows.set r ((Aj rows r).set k y)) (Z.bind fun z=>(Gf op k z.2).map fun row=>z.1.set r row):=by
 cases Z with
 |none =>
  subst hZ;have:e=2:=hM;exact(h1 (by omega)).trans this
 |some z =>
  subst hZ;obtain⟨M,row⟩:=z;obtain⟨m1,m2,m3⟩:e=0∧rows=Be (M.set r row)∧Ee (M.set r row):=hM;have hMl:M.length=n:=by rw[m2]at hn;simpa[Be]using hn
  have hrow:Aj rows r=row.map Aq:=by rw[m2,Bq,Fo (by omega),if_pos rfl]
  have hkr:k<row.length:=by
   have:=hd r (by omega);rw[hrow,List.length_map]at this;omega
  have hq:(rr (Aj rows r) k).q=Cd row k:=by rw[hrow,Ew hkr,Hn]
  have h2:=h2 m1;rw[hq]at h2;show U9 e' _ ((Gf op k row).map fun row=>M.set r row)
  unfold Gf;cases ho:op (Cd row k) k with
  |none=>rw[ho]at h2;exact h2
  |some z =>
   rw[ho]at h2;obtain⟨e1,e2⟩:=h2;refine⟨e1,?_,?_⟩
   ·rw[e2,hrow,m2,Oy,Oy,List.set_set,List.map_set]
   ·have:=m3.set r (r:=row.set k z) (Jl (by have:=m3.row r;rwa [Fo (by omega),if_pos rfl]at this) k (hop _ _ _ ho))
    rwa [List.set_set]at this
theorem Ig {q:Rat}:Qay q=0↔q=0:=by
 unfold Qay;constructor
 ·intro h;split at h
  ·cases h
  ·split at h
   ·rename_i h2;exact Rat.num_eq_zero.1 h2
   ·cases h
 ·rintro rfl;rfl
def Y4 (rows:List (List RR)) (j r:Nat):Option Nat:=(List.range rows.length).find? fun i=>decide (r≤i)&&!decide (Dm (rr (Aj rows i) j)=0)
theorem Sq {α:Type} {p q:α→Bool}:∀{l:List α},(∀x∈l,p x=q x)→l.find? p=l.find? q
 |[],_=>rfl
 |a::l,h=>by
  rw[List.find?_cons,List.find?_cons,h a (by simp),Sq fun x hx=>h x (by simp[hx])]
theorem Qag {M:List (List Rat)} (hg:Ee M) {w j:Nat} (hd:J3 M w) (hj:j<w) (r:Nat):Y4 (Be M) j r=Ts M j r:=by
 unfold Y4 Ts;rw[A1];refine Sq ?_;intro i hi;have hi':i<M.length:=List.mem_range.1 hi;have hl:j<(Aj M i).length:=by rw[hd i hi'];exact hj
 rw[Bq,Ew hl,show Cd (Aj M i) j=B4 M i j from rfl,Ma (hg.at hl)]
 congr 2
 simp only[Ig]
theorem Qc7 {n:Nat} {p:Nat→Bool} {i:Nat} (h:(List.range n).find? p=some i):i<n∧p i=true∧∀k,k<i→p k=false:=by
 rw[List.find?_range_eq_some]at h;exact⟨List.mem_range.1 h.2.1,h.1,fun k hk=>by simpa using h.2.2 k hk⟩
end Go.Av
end
section
namespace Go.Av
open Go.Proofs
section
variable {P:Program} {av:Nat→Prop} {f:FuncId} {args:List AV} {m:Ac} {k:AV→Ac→Prop}
def Ac.only (m:Ac) (l:List Nat):Ac:=fun b=>if b∈l then m b else none
def Ac.back (m:Ac) (l:List Nat) (g:Ac):Ac:=fun b=>match g b with
 |some x=>some x
 |none=>if b∈l then none else m b
theorem Bx {l:List Nat} {b:Nat} (h:b∈l):m.only l b=m b:=if_pos h
theorem Bv {l:List Nat} {b:Nat} (h:b ∉ l):m.only l b=none:=if_neg h
theorem Jp {l:List Nat} {g:Ac} {b:Nat} {x:Ev} (h:g b=some x):m.back l g b=some x:=by unfold Ac.back;rw[h]
theorem Ge {l:List Nat} {g:Ac} {b:Nat} (h:g b=none) (hb:b ∉ l):m.back l g b=m b:=by unfold Ac.back;rw[h];exact if_neg hb
theorem Qfi {l:List Nat} {g:Ac} {b:Nat} (hb:b∈l):m.back l g b=g b:=by
 unfold Ac.back;cases h:g b with
 |none=>exact if_pos hb
 |some x=>rfl
theorem Aa.hand {R:AV→Ac→Prop} (l:List Nat) (hl:∀b∈l,¬av b) (h:Ai P f args (m.only l) R) (hk:∀v g,R v g→(∀b,g b≠none→b∈l∨(m b=none∧¬av b))→k v (m.back l g)):Aa P av f args m k:=by
 refine .inl ⟨m.only l,R,fun c y hy=>?_,h,?_⟩
 ·by_cases hc:c∈l
  ·rw[Bx hc]at hy;exact⟨hy,hl c hc⟩
  ·rw[Bv hc]at hy;cases hy
 ·intro v g hr hf;have e:Eu m (m.only l) g=m.back l g:=by
   funext c
   unfold Eu Ac.back;cases g c with
   |some x=>rfl
   |none =>
    by_cases hc:c∈l
    ·rw[Bx hc,if_pos hc];cases hm:m c<;>rfl
    ·rw[Bv hc,if_neg hc]
  rw[e];refine hk v g hr fun b hb=>?_;rcases hf b hb with h1 | h1
  ·by_cases hc:b∈l
   ·exact .inl hc
   ·exact absurd (Bv hc) h1
  ·exact .inr h1
end
theorem D7.only {M:Ac} {B:Nat} {bs:List Nat} {rows:List (List RR)} (h:D7 M B bs rows) {l:List Nat} (hl:∀b,b=B∨b∈bs→b∈l):D7 (M.only l) B bs rows :=
 ⟨by rw[Bx (hl B (.inl rfl))];exact h.top,h.len,fun i hi=>by rw[Bx (hl _ (.inr (Ex (by rw[h.len];exact hi))))];exact h.row i hi,h.nd,h.nB⟩
theorem Tl (M:Ac) (l:List Nat):Dc (M.only l) l:=by
 intro b hb;rcases Classical.em (b∈l)with h | h
 ·exact h
 ·exact absurd (Bv h) hb
theorem D7.back {M g:Ac} {B:Nat} {bs:List Nat} {rows:List (List RR)} (h:D7 g B bs rows) (l:List Nat):D7 (M.back l g) B bs rows :=
 ⟨Jp h.top,h.len,fun i hi=>Jp (h.row i hi),h.nd,h.nB⟩
theorem Qfs {M:Ac} {l:List Nat} (h:Dc M l):M.only l=M:=by
 funext b
 by_cases hb:b∈l
 ·exact Bx hb
 ·rw[Bv hb,h.none hb]
def Fk (bs:List Nat) (i r:Nat):List Nat:=(bs.set i (nb bs r)).set r (nb bs i)
theorem Qi0 {bs:List Nat} {i:Nat} (hi:i<bs.length) (b k:Nat):nb (bs.set i b) k=if k=i then b else nb bs k:=by
 unfold nb;rw[List.getD_eq_getElem?_getD,List.getElem?_set];by_cases h:i=k
 ·subst h;simp[hi]
 ·rw[if_neg h,if_neg (Ne.symm h),←List.getD_eq_getElem?_getD]
theorem Iu {bs:List Nat} {i r:Nat} (hi:i<bs.length) (hr:r<bs.length) (k:Nat):nb (Fk bs i r) k=if k=r then nb bs i else if k=i then nb bs r else nb bs k:=by
 unfold Fk;rw[Qi0 (by simpa using hr),Qi0 hi]
theorem H4 {α:Type} {rows:List (List α)} {i r:Nat} (hi:i<rows.length) (hr:r<rows.length) (k:Nat):Aj (Cl rows i r) k=if k=r then Aj rows i else if k=i then Aj rows r else Aj rows k:=by
 unfold Cl;rw[Fo (by simpa using hr),Fo hi]
theorem Mo {bs:List Nat} {i r:Nat} (hi:i<bs.length) (hr:r<bs.length) (b:Nat):b∈Fk bs i r↔b∈bs:=by
 have hl:(Fk bs i r).length=bs.length:=by simp[Fk]
 constructor
 ·intro h;obtain⟨k,hk,e⟩:=List.mem_iff_getElem.1 h;rw[←e,←Im hk,Iu hi hr];rw[hl]at hk;split
  ·exact Ex hi
  ·split
   ·exact Ex hr
   ·exact Ex hk
 ·intro h;obtain⟨k,hk,e⟩:=List.mem_iff_getElem.1 h;rw[←e,←Im hk];have key:∀k',k'<bs.length→nb (Fk bs i r) k'∈Fk bs i r:=fun k' h'=>Ex (by rw[hl];exact h');by_cases h1:k=i
  ·have:=key r hr;rw[Iu hi hr,if_pos rfl]at this;rw[h1];exact this
  ·by_cases h2:k=r
   ·have:=key i hi;rw[Iu hi hr]at this;rw[h2];by_cases h3:i=r
    ·rw[if_pos h3]at this;rw[←h3];rw[←h3]at this;exact this
    ·rw[if_neg h3,if_pos rfl]at this;exact this
   ·have:=key k hk
    rwa [Iu hi hr,if_neg h2,if_neg h1]at this
theorem Qil {bs:List Nat} {i r:Nat} (hi:i<bs.length) (hr:r<bs.length) (h:bs.Nodup):(Fk bs i r).Nodup:=by
 have hl:(Fk bs i r).length=bs.length:=by simp[Fk]
 unfold List.Nodup;rw[List.pairwise_iff_getElem];intro x y hx hy hxy;rw[←Im hx,←Im hy,Iu hi hr,Iu hi hr];rw[hl]at hy hx;intro e;have inj:∀{a b},a<bs.length→b<bs.length→nb bs a=nb bs b→a=b:=fun ha hb=>Qb9 h ha hb;split at e<;>split at e<;>(try split at e)<;>(try split at e)<;>have:=inj (by omega) (by omega) e<;>omega
theorem Qhr {bs:List Nat} {rows:List (List RR)} (h:bs.length=rows.length) {i r:Nat} (hi:i<rows.length) (hr:r<rows.length) :
  ((Gi bs rows).set i (.osl (nb bs r) 4 0 (Aj rows r).length)).set r (.osl (nb bs i) 4 0 (Aj rows i).length)=Gi (Fk bs i r) (Cl rows i r):=by
 have hl:(Fk bs i r).length=(Cl rows i r).length:=by simp[Fk,Cl,h]
 have h0:(Cl rows i r).length=rows.length:=Kf _ _ _;refine List.ext_getElem? fun k=>?_;by_cases hk:k<rows.length
 ·rw[hdrs_get? hl (by rw[h0];exact hk),Iu (by omega) (by omega),H4 hi hr,List.getElem?_set,List.getElem?_set,hdrs_get? h hk];have e:=B8 h;simp only[List.length_set,e,hi,hr,if_true];by_cases h1:r=k
  ·subst h1;simp
  ·rw[if_neg h1,if_neg (Ne.symm h1),if_neg (Ne.symm h1)];by_cases h2:i=k
   ·subst h2;simp
   ·rw[if_neg h2,if_neg (Ne.symm h2),if_neg (Ne.symm h2)]
 ·rw[List.getElem?_eq_none (by simp[B8 h];omega),List.getElem?_eq_none (by rw[B8 hl,h0];omega)]
theorem D7.swap {M:Ac} {B:Nat} {bs:List Nat} {rows:List (List RR)} (h:D7 M B bs rows) {i r:Nat} (hi:i<rows.length) (hr:r<rows.length) :
  D7 (M.set B ⟨51,1,((Gi bs rows).set i (.osl (nb bs r) 4 0 (Aj rows r).length)).set r (.osl (nb bs i) 4 0 (Aj rows i).length)⟩) B (Fk bs i r) (Cl rows i r):=by
 have h0:(Cl rows i r).length=rows.length:=Kf _ _ _;have hi':i<bs.length:=by rw[h.len];exact hi
 have hr':r<bs.length:=by rw[h.len];exact hr
 refine⟨by rw[Qhr h.len hi hr];simp,by rw[h0,←h.len];simp[Fk],fun k hk=>?_,Qil hi' hr' h.nd,fun hm=>h.nB ((Mo hi' hr' B).1 hm)⟩;rw[h0]at hk;rw[Iu hi' hr',H4 hi hr];have key:∀k,k<rows.length→(M.set B ⟨51,1,((Gi bs rows).set i (.osl (nb bs r) 4 0 (Aj rows r).length)).set r (.osl (nb bs i) 4 0 (Aj rows i).length)⟩) (nb bs k)=some ⟨44,4,Bg (Aj rows k)⟩:=fun k hk=>by
  simp only[A6];rw[if_neg (h.ne hk)];exact h.row k hk
 split
 ·exact key i hi
 ·split
  ·exact key r hr
  ·exact key k hk
attribute [simp high] rrs_get?
theorem Dc.set {M:Ac} {l:List Nat} (h:Dc M l) {b:Nat} (hb:b∈l) (x:Ev):Dc (M.set b x) l:=by
 intro c hc;simp only[A6]at hc;by_cases e:c=b
 ·rw[e];exact hb
 ·rw[if_neg e]at hc;exact h c hc
theorem Dc.sub {M:Ac} {l l':List Nat} (h:Dc M l) (hs:∀b∈l,b∈l'):Dc M l':=fun c hc=>hs c (h c hc)
theorem Wt {rows:List (List RR)} {j r:Nat} (h:∀k,r≤k→k<rows.length→Dm (rr (Aj rows k) j)=0):Y4 rows j r=none:=by
 unfold Y4;rw[List.find?_eq_none];intro k hk;have hk:=List.mem_range.1 hk;by_cases hr:r≤k
 ·simp[h k hr hk]
 ·simp[hr]
theorem Vu {rows:List (List RR)} {j r i:Nat} (h:∀k,r≤k→k<i→Dm (rr (Aj rows k) j)=0) (hr:r≤i) (hi:i<rows.length) (hs:¬Dm (rr (Aj rows i) j)=0):Y4 rows j r=some i:=by
 unfold Y4;rw[List.find?_range_eq_some];refine⟨by simp[hr,hs],List.mem_range.2 hi,fun k hk=>?_⟩;by_cases hrk:r≤k
 ·simp[h k hrk hk]
 ·simp[hrk]
def Xl (M:Ac) (B:Nat) (bs:List Nat) (rows:List (List RR)) (j r:Nat) (v:AV) (M':Ac):Prop :=
 match Y4 rows j r with
 |none=>v=.tup [.bool false,.bool false]∧M'=M
 |some i=>v=.tup [.bool true,.bool (decide (i≠r))]∧D7 M' B (Fk bs i r) (Cl rows i r)∧Dc M' (B::bs)
theorem Qec (M:Ac) (B:Nat) (bs:List Nat) (rows:List (List RR)) (hM:D7 M B bs rows) (hO:Dc M (B::bs)) (hlb:Sb rows) (w j r:Nat) (hd:J3 rows w) (hj:j<w) (h1:rows.length<2^40) (h2:w<2^40) (h3:r<2^40) :
  Ai Tryz.prog 144 [.osl B 1 0 rows.length,.int .i64 j,.int .i64 r] M (Xl M B bs rows j r):=by
 have hones:=hM.ones (l:=[]) hO (by simp);refine Ad Tryz.func144 rfl rfl 42 rfl (Nat.le_of_ble_eq_true rfl) ?_;(repeat refine AW.seq_k fun K hK=>?_);refine AW.rg ?_;simp[Al];try (refine hK _ rfl ?_;clear hK K)
 refine AW.scope (AW.seq (AW.label ?_));intro _;refine AW.seq_ex (ι:=Unit) (fun _=>[]) (fun _=>M) (fun _=>∀k,r≤k→k<rows.length→Dm (rr (Aj rows k) j)=0) ?_ ?_
 ·(repeat refine AW.seq_k fun K hK=>?_);refine AW.rg ?_;simp;try (refine hK _ rfl ?_;clear hK K)
  refine AW.block (AW.loopS (ι:=Nat) (fun i=>[(0,.osl B 1 0 rows.length),(1,.int .i64 j),(2,.int .i64 r),(8,.int .i64 (i:Nat))]) (fun _=>M) (fun i=>r≤i∧∀k,r≤k→k<i→Dm (rr (Aj rows k) j)=0) (fun i=>rows.length-i) r ⟨by omega,by omega⟩ rfl (by simp) ?_);rintro i ⟨g1,g2⟩;(repeat refine AW.seq_k fun K hK=>?_);refine AW.rg ?_;simp;try (refine hK _ rfl ?_;clear hK K)
  (repeat refine AW.seq ?_);refine AW.cs (fun hi=>?_) (fun hi=>?_) rfl<;>(try simp at hi)
  ·refine AW.skip ?_;try simp
   refine hK _ rfl ?_;clear hK K;have w1:=Au (i+1) (by omega);have hri:r<rows.length:=by omega
   have hwi:=hd i hi;refine AW.seq_ex (ι:=Unit) (fun _=>[(0,.osl B 1 0 rows.length),(1,.int .i64 j),(2,.int .i64 r),(8,.int .i64 (i:Nat))]) (fun _=>M) (fun _=>Dm (rr (Aj rows i) j)=0) ?_ ?_
   ·(repeat refine AW.seq ?_);refine AW.block ?_;have hs:=Ns (rr (Aj rows i) j) (Jg (hlb.row i) j);refine AW.seq_ex (ι:=Unit) (fun _=>[(0,.osl B 1 0 rows.length),(1,.int .i64 j),(2,.int .i64 r),(8,.int .i64 (i:Nat))]) (fun _=>M) (fun _=>¬Dm (rr (Aj rows i) j)=0) ?_ ?_
    ·(repeat refine AW.seq_k fun K hK=>?_);refine AW.rg ?_;simp[hi,hM.top,↓hM.get hi,hM.row i hi,hwi,hj];try (refine hK _ rfl ?_;clear hK K)
     refine Aa.val hs ?_;simp;refine hK _ rfl ?_;clear hK K;(repeat refine AW.seq ?_);refine AW.cs (fun h0=>?_) (fun h0=>?_) rfl<;>(try simp at h0)
     ·refine AW.exit ?_;try simp
      exact h0
     ·refine AW.skip ?_;try simp
      exact h0
    rintro _ h0;(repeat refine AW.seq_k fun K hK=>?_);refine AW.rdA B [0,1,2,3,4,5,6,7,8,9,10,11,12,13,14,15] C6 (by simp[hi,hri,hM.top,↓hM.get hi,↓hM.get hri,B8 hM.len]) ?_;simp[hi,hri,hM.top,↓hM.get hi,↓hM.get hri,B8 hM.len];try (refine hK _ rfl ?_;clear hK K)
    (repeat refine AW.seq_k fun K hK=>?_);refine AW.rg ?_;simp;try (refine hK _ rfl ?_;clear hK K)
    have hO':Dc (M.set B ⟨51,1,((Gi bs rows).set i (.osl (nb bs r) 4 0 (Aj rows r).length)).set r (.osl (nb bs i) 4 0 (Aj rows i).length)⟩) (B::bs):=hO.set (by simp) _;have hb:∀b,b∈B::Fk bs i r↔b∈B::bs:=fun b=>by simp[Mo (bs:=bs) (i:=i) (r:=r) (by rw[hM.len];exact hi) (by rw[hM.len];exact hri) b]
    refine AW.ret (Bo rfl ?_ ?_)
    ·exact(hM.swap hi hri).ones (l:=[]) (hO'.sub fun b h=>(hb b).2 h) (by simp)
    ·unfold Xl;rw[Vu g2 g1 hi h0];refine⟨?_,hM.swap hi hri,hO'⟩;by_cases e:i=r
     ·simp[e]
     ·simp[e]
   ·rintro _ h0;(repeat refine AW.seq_k fun K hK=>?_);refine AW.rg ?_;simp[-Int.natCast_add,w1];try (refine hK _ rfl ?_;clear hK K)
    refine⟨⟨by omega,fun k hk1 hk2=>?_⟩,by omega⟩;rcases Nat.lt_succ_iff_lt_or_eq.1 hk2 with h | rfl
    ·exact g2 k hk1 h
    ·exact h0
  ·refine AW.exit ?_;try simp
   exact fun k a b=>g2 k a (by omega)
 rintro _ hno;(repeat refine AW.seq_k fun K hK=>?_);refine AW.rg ?_;simp;try (refine hK _ rfl ?_;clear hK K)
 refine AW.ret (Bo rfl hones ?_);unfold Xl;rw[Wt hno];exact⟨rfl,rfl⟩
end Go.Av
end
section
namespace Go.Av
open Go.Proofs
theorem Ba.sub {m m':Ac} (h:∀b x,m' b=some x→m b=some x∧∀v∈x.l,v.cells.all AV.one=true):Ba m m':=by
 refine⟨fun c y hy=>⟨y,(h c y hy).1,rfl,rfl,rfl,fun k v v' q1 q2=>?_⟩⟩;rw[q1]at q2;cases q2;exact⟨.same _,(h c y hy).2 v (List.mem_of_getElem? q1)⟩
theorem Ba.drop {m:Ac} {b:Nat} {x:Ev} (hb:m b=none) (h1:∀c y,m c=some y→∀v∈y.l,v.cells.all AV.one=true):Ba (m.set b x) m :=
 Ba.sub fun c y hy=>⟨by
  simp only[A6];rw[if_neg (by rintro rfl;rw[hb]at hy;cases hy)];exact hy,h1 c y hy⟩
theorem De {M:Ac} {b z:Nat} {e:TypeId} {cs:List AV} (hb:M b=none):Br (M.set b ⟨e,z,[.agg cs]⟩) M (.ptr b z 0 0) (.rptr cs) :=
 Br.ptr b z 0 0 ⟨e,z,[.agg cs]⟩ (.agg cs) (Ac.set_same _ _ _) hb rfl rfl
section
variable {av:Nat→Prop} {m:Ac} {k:AV→Ac→Prop} {c:Nat} {x:AV} {e:Int} {a b:RR}
theorem Qj1 (hc:m c=some ⟨118,1,[x]⟩) (hv:¬av c) (hx:G4 x e) (ha:a.Lb) (hb:b.Lb) (h:e=0→a.ok=true∧b.ok=true) (hk:∀x',G4 x' (Dg e a (Cz a.q b.q)).1→k (Dg e a (Cz a.q b.q)).2.av (m.set c ⟨118,1,[x']⟩)):Aa Tryz.prog av 146 [.ptr c 1 0 0,a.av,b.av] m k :=
 Aa.grant (R:=fun v y=>v=(Dg e a (Cz a.q b.q)).2.av∧∃x',G4 x' (Dg e a (Cz a.q b.q)).1∧y=⟨118,1,[x']⟩) c _ hc hv ((Qhc c x e hx a b ha hb h).mono fun v m ⟨h1,x',h2,h3⟩=>⟨_,⟨h1,x',h2,rfl⟩,h3⟩) (by rintro _ _ ⟨rfl,x',hx',rfl⟩;exact hk x' hx')
theorem Qsn (hc:m c=some ⟨118,1,[x]⟩) (hv:¬av c) (hx:G4 x e) (ha:a.Lb) (hb:b.Lb) (h:e=0→a.ok=true∧b.ok=true) (hk:∀x',G4 x' (Dg e a (D4 a.q b.q)).1→k (Dg e a (D4 a.q b.q)).2.av (m.set c ⟨118,1,[x']⟩)):Aa Tryz.prog av 111 [.ptr c 1 0 0,a.av,b.av] m k :=
 Aa.grant (R:=fun v y=>v=(Dg e a (D4 a.q b.q)).2.av∧∃x',G4 x' (Dg e a (D4 a.q b.q)).1∧y=⟨118,1,[x']⟩) c _ hc hv ((Qg4 c x e hx a b ha hb h).mono fun v m ⟨h1,x',h2,h3⟩=>⟨_,⟨h1,x',h2,rfl⟩,h3⟩) (by rintro _ _ ⟨rfl,x',hx',rfl⟩;exact hk x' hx')
theorem Qsv (hc:m c=some ⟨118,1,[x]⟩) (hv:¬av c) (hx:G4 x e) (ha:a.Lb) (hb:b.Lb) (h:e=0→a.ok=true∧b.ok=true∧b.q≠0) (hk:∀x',G4 x' (Dg e a (Ft a.q b.q)).1→k (Dg e a (Ft a.q b.q)).2.av (m.set c ⟨118,1,[x']⟩)):Aa Tryz.prog av 145 [.ptr c 1 0 0,a.av,b.av] m k :=
 Aa.grant (R:=fun v y=>v=(Dg e a (Ft a.q b.q)).2.av∧∃x',G4 x' (Dg e a (Ft a.q b.q)).1∧y=⟨118,1,[x']⟩) c _ hc hv ((Qgj c x e hx a b ha hb h).mono fun v m ⟨h1,x',h2,h3⟩=>⟨_,⟨h1,x',h2,rfl⟩,h3⟩) (by rintro _ _ ⟨rfl,x',hx',rfl⟩;exact hk x' hx')
end
theorem Xf {e:Int} {rows:List (List RR)} {Z:Option (List (List Rat))} (h:U9 e rows Z) (he:e=0) {i j:Nat} (hj:j<(Aj rows i).length):(rr (Aj rows i) j).ok=true:=by
 cases Z with
 |none=>have:e=2:=h;omega
 |some M =>
  obtain⟨_,m2,m3⟩:e=0∧rows=Be M∧Ee M:=h;subst m2;rw[Bq,List.length_map]at hj;rw[Bq,Ew hj];exact Dq (m3.at hj)
theorem Mi {e:Int} {a:RR} {q:Option Rat} (h:e≠0):Dg e a q=(e,a):=if_neg h
theorem Qfb {e:Int} {a:RR} {q:Option Rat} (h:e=0):match q with | some z=>(Dg e a q).1=0∧(Dg e a q).2=Aq z | none=>(Dg e a q).1=2:=by
 unfold Dg;rw[if_pos h];cases q with
 |none=>rfl
 |some z=>exact⟨rfl,rfl⟩
theorem P4 {e:Int} {a:RR} (h:e=0):Dg e a none=(2,Ve):=if_pos h
theorem Ml {e:Int} {a:RR} {z:Rat} (h:e=0):Dg e a (some z)=(0,Aq z):=if_pos h
def Ax (l:List Nat):List AV:=l.map fun p=>.int .i64 (p:Nat)
@[simp] theorem Lj (l:List Nat):(Ax l).length=l.length:=by simp[Ax]
theorem Cu (l:List Nat):∀v∈Ax l,v.cells.all AV.one=true:=by
 intro v hv;obtain⟨p,_,rfl⟩:=List.mem_map.1 hv;rfl
theorem Ek (l:List Nat) (p:Nat):Ax (l++[p])=Ax l++[.int .i64 (p:Nat)]:=by simp[Ax]
def Yc (M:Ac) (pv:AV) (pb ps:List Nat):Prop :=
 (ps=[]∧pb=[]∧pv=.nil)∨∃b,pb=[b]∧pv=.osl b 1 0 ps.length∧M b=some ⟨3,1,Ax ps⟩
theorem Yc.keep {M M':Ac} {pv:AV} {pb ps:List Nat} (h:Yc M pv pb ps) (hm:∀b∈pb,M' b=M b):Yc M' pv pb ps:=by
 rcases h with h|⟨b,h1,h2,h3⟩
 ·exact .inl h
 ·exact .inr ⟨b,h1,h2,by rw[hm b (by simp[h1])];exact h3⟩
theorem Yc.len {M:Ac} {pv:AV} {pb ps:List Nat} (h:Yc M pv pb ps) (size bytes:Nat) (e:TypeId) (zero:AV) (fs:List (Nat × Nat × Option Bool)):Kt ⟨size,bytes,.slice e,zero,fs⟩ pv=some (.int .i64 ps.length):=by
 rcases h with⟨rfl,_,rfl⟩|⟨b,_,rfl,_⟩
 ·simp
 ·simp
theorem Yc.view {M:Ac} {pv:AV} {pb ps:List Nat} (h:Yc M pv pb ps):Br M Ac.emp pv (.sl 1 (Ax ps)):=by
 rcases h with⟨rfl,_,rfl⟩|⟨b,_,rfl,h⟩
 ·exact .nilsl 1
 ·refine .osl b 1 0 ps.length _ _ h rfl rfl (by simp) (by simp) fun j u u' g1 g2=>?_;simp only[Nat.zero_add]at g1;rw[g1]at g2;cases g2;exact .same _
structure D3 (M:Ac) (c B:Nat) (bs:List Nat) (rows:List (List RR)) (x pv:AV) (pb ps:List Nat):Prop where
 mat:D7 M B bs rows
 cell:M c=some ⟨118,1,[x]⟩
 piv:Yc M pv pb ps
 only:Dc M (c::B::(bs++pb))
 cB:c≠B
 cb:c ∉ bs
 pB:B ∉ pb
 pc:c ∉ pb
 pd:∀b∈pb,b ∉ bs
section
variable {M:Ac} {c B:Nat} {bs:List Nat} {rows:List (List RR)} {x pv:AV} {pb ps:List Nat}
theorem Qeg {x:AV} {e:Int} (h:G4 x e):x.cells.all AV.one=true:=by unfold G4 at h;rw[h];rfl
theorem D3.nc (h:D3 M c B bs rows x pv pb ps) {i:Nat} (hi:i<rows.length):nb bs i≠c:=fun e=>h.cb (e ▸ Ex (by rw[h.mat.len];exact hi))
theorem D3.np (h:D3 M c B bs rows x pv pb ps) {i:Nat} (hi:i<rows.length):nb bs i ∉ pb:=fun e=>h.pd _ e (Ex (by rw[h.mat.len];exact hi))
theorem D3.setE (h:D3 M c B bs rows x pv pb ps) (x':AV):D3 (M.set c ⟨118,1,[x']⟩) c B bs rows x' pv pb ps :=
 ⟨h.mat.other h.cB h.cb _,by simp,h.piv.keep fun b hb=>by simp only[A6];rw[if_neg (by rintro rfl;exact h.pc hb)],h.only.set (by simp) _,h.cB,h.cb,h.pB,h.pc,h.pd⟩
theorem D3.setRow (h:D3 M c B bs rows x pv pb ps) {i:Nat} (hi:i<rows.length) (r:List RR) (hr:r.length=(Aj rows i).length):D3 (M.set (nb bs i) ⟨44,4,Bg r⟩) c B bs (rows.set i r) x pv pb ps :=
 ⟨h.mat.setRow hi r hr,by simp only[A6];rw[if_neg (Ne.symm (h.nc hi))];exact h.cell,h.piv.keep fun b hb=>by simp only[A6];rw[if_neg (by rintro rfl;exact h.np hi hb)],
  h.only.set (by simp[Ex (show i<bs.length by rw[h.mat.len];exact hi)]) _,h.cB,h.cb,h.pB,h.pc,h.pd⟩
theorem D3.ones (h:D3 M c B bs rows x pv pb ps) {e:Int} (hx:G4 x e):∀(b:Nat) (y:Ev),M b=some y→∀v∈y.l,v.cells.all AV.one=true:=by
 refine h.mat.ones (l:=c::pb) (h.only.sub fun b hb=>by simp at hb ⊢;rcases hb with h | h | h | h<;>simp[h]) fun b hb y hy=>?_
 rcases List.mem_cons.1 hb with rfl|hb
 ·rw[h.cell]at hy;cases hy;intro v hv;simp at hv;subst hv;exact Qeg hx
 ·rcases h.piv with⟨_,h1,_⟩|⟨b',h1,_,h3⟩
  ·rw[h1]at hb;cases hb
  ·rw[h1]at hb;simp at hb;subst hb;rw[h3]at hy;cases hy;exact Cu ps
theorem D3.back (h:D3 M c B bs rows x pv pb ps) {g:Ac} {bs':List Nat} {rows':List (List RR)} (hg:D7 g B bs' rows') (ho:Dc g (B::bs)) (hb:∀b,b∈bs'↔b∈bs):D3 (M.back (B::bs) g) c B bs' rows' x pv pb ps:=by
 have hout:∀b,b ∉ B::bs→(M.back (B::bs) g) b=M b:=fun b hb=>Ge (ho.none hb) hb;refine⟨hg.back _,by rw[hout c (by simp[h.cB,h.cb])];exact h.cell,h.piv.keep fun b hb'=>hout b ?_,fun b hb'=>?_,h.cB,fun hh=>h.cb ((hb _).1 hh),h.pB,h.pc,fun b h1 h2=>h.pd b h1 ((hb _).1 h2)⟩
 ·simp only[List.mem_cons,not_or];exact⟨by rintro rfl;exact h.pB hb',h.pd b hb'⟩
 ·by_cases hm:b∈B::bs
  ·simp only[List.mem_cons,List.mem_append,hb]at hm ⊢;rcases hm with h | h<;>simp[h]
  ·rw[hout b hm]at hb';have:=h.only b hb';simp only[List.mem_cons,List.mem_append,hb]at this ⊢;exact this
theorem D3.matOnly (h:D3 M c B bs rows x pv pb ps):D7 (M.only (B::bs)) B bs rows∧Dc (M.only (B::bs)) (B::bs) :=
 ⟨h.mat.only fun b hb=>by simpa using hb,Tl _ _⟩
theorem D3.fresh (h:D3 M c B bs rows x pv pb ps) {b:Nat} (hb:M b=none):b≠c∧b≠B∧b ∉ bs∧b ∉ pb:=by
 refine⟨(by rintro rfl;rw[h.cell]at hb;cases hb),(by rintro rfl;rw[h.mat.top]at hb;cases hb),fun hm=>?_,fun hm=>?_⟩
 ·obtain⟨i,hi,e⟩:=List.mem_iff_getElem.1 hm;rw[←Im hi]at e;have:=h.mat.row i (by rw[←h.mat.len];exact hi);rw[e,hb]at this;cases this
 ·rcases h.piv with⟨_,h1,_⟩|⟨b',h1,_,h3⟩
  ·rw[h1]at hm;cases hm
  ·rw[h1]at hm;simp at hm;subst hm;rw[h3]at hb;cases hb
theorem D3.push0 (h:D3 M c B bs rows x .nil [] []) {b:Nat} (hb:M b=none) (j:Nat):D3 (M.set b ⟨3,1,[.int .i64 (j:Nat)]⟩) c B bs rows x (.osl b 1 0 1) [b] [j]:=by
 obtain⟨f1,f2,f3,_⟩:=h.fresh hb;refine⟨h.mat.other f2 f3 _,by simp only[A6];rw[if_neg (Ne.symm f1)];exact h.cell,.inr ⟨b,rfl,rfl,by simp[Ax]⟩,?_,h.cB,h.cb,by simpa using Ne.symm f2,by simpa using Ne.symm f1,by simpa using f3⟩;exact(h.only.sub fun a ha=>by simp at ha ⊢;rcases ha with h | h | h<;>simp[h]).set (by simp) _
theorem D3.push1 {b0:Nat} (h:D3 M c B bs rows x (.osl b0 1 0 ps.length) [b0] ps) {b:Nat} (hb:(M.del b0) b=none) (j:Nat):D3 ((M.del b0).set b ⟨3,1,Ax ps++[.int .i64 (j:Nat)]⟩) c B bs rows x (.osl b 1 0 (ps.length+1)) [b] (ps++[j]):=by
 have hB:B≠b0:=by have:=h.pB;simpa using this
 have hc:c≠b0:=by have:=h.pc;simpa using this
 have hd:b0 ∉ bs:=h.pd b0 (by simp);have hh:D3 (M.del b0) c B bs rows x .nil [] []:=by
  have hdel:∀a,a≠b0→(M.del b0) a=M a:=fun a ha=>if_neg ha;refine⟨⟨by rw[hdel B hB];exact h.mat.top,h.mat.len,fun i hi=>?_,h.mat.nd,h.mat.nB⟩,by rw[hdel c hc];exact h.cell,.inl ⟨rfl,rfl,rfl⟩,fun a ha=>?_,h.cB,h.cb,by simp,by simp,by simp⟩
  ·rw[hdel _ (fun e=>hd (e ▸ Ex (by rw[h.mat.len];exact hi)))];exact h.mat.row i hi
  ·have h1:a≠b0:=by
    rintro rfl;exact ha (if_pos rfl)
   rw[hdel a h1]at ha;have:=h.only a ha;simp at this ⊢;rcases this with h | h | h | h
   ·exact .inl h
   ·exact .inr (.inl h)
   ·exact .inr (.inr h)
   ·exact absurd h h1
 obtain⟨f1,f2,f3,_⟩:=hh.fresh hb;refine⟨hh.mat.other f2 f3 _,by simp only[A6];rw[if_neg (Ne.symm f1)];exact hh.cell,.inr ⟨b,rfl,by simp,by simp[Ek]⟩,?_,h.cB,h.cb,by simpa using Ne.symm f2,by simpa using Ne.symm f1,by simpa using f3⟩;exact(hh.only.sub fun a ha=>by simp at ha ⊢;rcases ha with h | h | h<;>simp[h]).set (by simp) _
end
end Go.Av
end
section
namespace Go.Av
open Go.Proofs
theorem Qhb (M:Ac) (l:List Nat):M.back l (M.only l)=M:=by
 funext b
 by_cases hb:b∈l
 ·rw[Qfi hb,Bx hb]
 ·rw[Ge (Bv hb) hb]
def Qii (c B:Nat) (X0:List (List Rat)) (v:AV) (M':Ac):Prop :=
 ∃x',M' c=some ⟨118,1,[x']⟩∧(∀b y,M' b=some y→∀v∈y.l,v.cells.all AV.one=true)∧match Ep X0 with
 |none=>G4 x' 2
 |some z=>G4 x' 0∧∃bs' pb,D3 M' c B bs' (Be z.1) x' v pb z.2
structure Qp7 where
 X:List (List Rat)
 ps:List Nat
 M:Ac
 bs:List Nat
 pv:AV
 pb:List Nat
 x:AV
structure Xd where
 M:Ac
 rows:List (List RR)
 x:AV
 e:Int
def Qv3 (X0:List (List Rat)) (c B w j:Nat) (s:Qp7):Prop :=
 A3 Cb j (X0,[])=some (s.X,s.ps)∧Ee s.X∧J3 s.X w∧s.X.length=X0.length∧s.ps.length≤j∧D3 s.M c B s.bs (Be s.X) s.x s.pv s.pb s.ps∧G4 s.x 0
def Ky (c B:Nat) (bs:List Nat) (pv:AV) (pb ps:List Nat) (w n:Nat) (Z:Option (List (List Rat))) (s:Xd):Prop :=
 D3 s.M c B bs s.rows s.x pv pb ps∧G4 s.x s.e∧Sb s.rows∧J3 s.rows w∧s.rows.length=n∧U9 s.e s.rows Z
theorem Ky.row {op:Rat→Nat→Option Rat} (hop:∀q k x,op q k=some x→Bu x) {c B:Nat} {bs:List Nat} {pv:AV} {pb ps:List Nat} {w n:Nat} {Z0:Option (List (List Rat))} {s:Xd} (h:Ky c B bs pv pb ps w n Z0 s) {i k:Nat} (hi:i<n) (hk:k<w)
  {Z:Option (List (List Rat) × List Rat)} (hZ:Z0=Z.map fun z=>z.1.set i z.2) {e':Int} {y:RR} {x':AV} (hx:G4 x' e') (hy:y.Lb) (h1:s.e≠0→e'=s.e) (h2:s.e=0→match op (rr (Aj s.rows i) k).q k with | some z=>e'=0∧y=Aq z | none=>e'=2) :
  Ky c B bs pv pb ps w n (Z.bind fun z=>(Gf op k z.2).map fun row=>z.1.set i row) ⟨(s.M.set c ⟨118,1,[x']⟩).set (nb bs i) ⟨44,4,Bg ((Aj s.rows i).set k y)⟩,s.rows.set i ((Aj s.rows i).set k y),x',e'⟩:=by
 obtain⟨g1,g2,g3,g4,g5,g6⟩:=h;exact⟨(g1.setE x').setRow (by omega) _ (by simp),hx,g3.set i (Qsg (g3.row i) k hy),g4.set (by rw[List.length_set];exact g4 i (by omega)),by simp[g5],Qim hop g5 hi g4 hk hZ g6 h1 h2⟩
theorem U9.mono {e:Int} {rows:List (List RR)} {Z Z':Option (List (List Rat))} (h:U9 e rows Z) (hZ:Z'=Z):U9 e rows Z':=hZ ▸ h
theorem Ky.to {c B:Nat} {bs:List Nat} {pv:AV} {pb ps:List Nat} {w n:Nat} {Z Z':Option (List (List Rat))} {s:Xd} (h:Ky c B bs pv pb ps w n Z s) (hZ:Z'=Z):Ky c B bs pv pb ps w n Z' s:=hZ ▸ h
theorem Qjj {e:Int} {a b f:RR} {bq fq:Rat} (hb:e=0→b.q=bq∧f.q=fq) {e1:Int} {p:RR} (hp:Dg e b (D4 b.q f.q)=(e1,p)) :
  (e≠0→(Dg e1 a (Cz a.q p.q)).1=e)∧(e=0→match I0 a.q fq bq with | some z=>(Dg e1 a (Cz a.q p.q)).1=0∧(Dg e1 a (Cz a.q p.q)).2=Aq z | none=>(Dg e1 a (Cz a.q p.q)).1=2):=by
 constructor
 ·intro he;rw[Mi he]at hp;cases hp;rw[Mi he]
 ·intro he;obtain⟨h1,h2⟩:=hb he;unfold I0;rw[h1,h2]at hp;cases hm:D4 bq fq with
  |none =>
   rw[hm,P4 he]at hp;cases hp;show(Dg 2 a _).1=2
   rw[Mi (by omega)]
  |some m =>
   rw[hm,Ml he]at hp;cases hp;rw[Hn];exact Qfb rfl
theorem Qmh {e:Int} {b f:RR} (hg:∀z,D4 b.q f.q=some z→Bu z) {e1:Int} {p:RR} (hp:Dg e b (D4 b.q f.q)=(e1,p)) (h1:e1=0):e=0∧p.ok=true:=by
 by_cases he:e=0
 ·refine⟨he,?_⟩;cases hm:D4 b.q f.q with
  |none=>rw[hm,P4 he]at hp;cases hp;omega
  |some m =>
   rw[hm,Ml he]at hp;cases hp;exact Dq (hg m hm)
 ·rw[Mi he]at hp;cases hp;exact absurd h1 he
theorem L9 {a f b c:Rat} (h:I0 a f b=some c):Bu c:=by
 unfold I0 at h;cases hm:D4 b f with
 |none=>rw[hm]at h;cases h
 |some m=>rw[hm]at h;exact Qa2 h
theorem Mf {M:List (List Rat)} {j r i:Nat} (h:Ts M j r=some i):i<M.length∧r≤i∧B4 M i j≠0:=by
 obtain⟨h1,h2,_⟩:=Qc7 h;simp at h2;exact⟨h1,h2.1,h2.2⟩
theorem Yl (M0:Ac) (c B:Nat) (bs0:List Nat) (X0:List (List Rat)) (x0:AV) (w:Nat) (hR0:D3 M0 c B bs0 (Be X0) x0 .nil [] []) (hx0:G4 x0 0) (hg0:Ee X0) (hd0:J3 X0 w) (hw:w=(Aj X0 0).length) (hn:X0.length<2^40) (hw2:w<2^40) :
  Ai Tryz.prog 101 [.ptr c 1 0 0,.osl B 1 0 X0.length] M0 (Qii c B X0):=by
 have hwid:=Su (Be X0);have e0:(Aj (Be X0) 0).length=w:=by rw[Bq,List.length_map,hw]
 have hv0:=hR0.mat.view;rw[A1]at hv0;rw[e0]at hwid;have hq:Ep X0=A3 Cb w (X0,[]):=by unfold Ep;rw[hw]
 generalize hN:X0.length=n at *;refine Ad Tryz.func101 rfl rfl 129 rfl (Nat.le_of_ble_eq_true rfl) ?_;(repeat refine AW.seq_k fun K hK=>?_);refine AW.rg ?_;simp[Al];try (refine hK _ rfl ?_;clear hK K)
 refine AW.scope ?_;(repeat refine AW.seq_k fun K hK=>?_);refine AW.rg ?_;simp;try (refine hK _ rfl ?_;clear hK K)
 refine AW.seq (AW.label ?_);intro _;refine AW.seq_ex (ι:=Ac × AV) (fun z=>[(5,z.2)]) (fun z=>z.1) (fun z=>Qii c B X0 z.2 z.1) ?_ ?_
 ·(repeat refine AW.seq_k fun K hK=>?_);refine AW.rg ?_;simp;try (refine hK _ rfl ?_;clear hK K)
  refine Aa.borrow [Ap (Be X0)] (by simpa using hv0) hwid ?_;rintro _ rfl;refine⟨rfl,?_⟩;simp;refine hK _ rfl ?_;clear hK K;refine AW.block (AW.loopS (ι:=Nat × Qp7) (fun z=>[(0,.ptr c 1 0 0),(1,.osl B 1 0 n),(5,z.2.pv),(16,.int .i64 w),(17,.int .i64 (z.1:Nat))]) (fun z=>z.2.M) (fun z=>z.1≤w∧Qv3 X0 c B w z.1 z.2) (fun z=>w-z.1) (0,⟨X0,[],M0,bs0,.nil,[],x0⟩) ⟨by simp,rfl,hg0,hd0,rfl,by simp,hR0,hx0⟩ rfl (by simp) ?_);rintro⟨j,X,ps,M,bs,pv,pb,x⟩ ⟨hjw,i1,i2,i3,i4,i5,i6,i7⟩;simp only at hjw i1 i2 i3 i4 i5 i6 i7;rw[hN]at i4;simp only
  (repeat refine AW.seq_k fun K hK=>?_);refine AW.rg ?_;simp;try (refine hK _ rfl ?_;clear hK K)
  (repeat refine AW.seq ?_);refine AW.cs (fun hj=>?_) (fun hj=>?_) rfl<;>(try simp at hj)
  ·refine AW.skip ?_;try simp
   have w1:=Au (j+1) (by omega);have hlen:=i6.piv.len;refine AW.seq_ex (ι:=Qp7) (fun s=>[(0,.ptr c 1 0 0),(1,.osl B 1 0 n),(5,s.pv),(16,.int .i64 w),(17,.int .i64 (j:Nat))]) (fun s=>s.M) (fun s=>Qv3 X0 c B w (j+1) s) ?_ ?_
   ·(repeat refine AW.seq ?_);refine AW.block ?_;(repeat refine AW.seq_k fun K hK=>?_);refine AW.rg ?_;simp;try (refine hK _ rfl ?_;clear hK K)
    (repeat refine AW.seq_k fun K hK=>?_);refine AW.rg ?_;simp[hlen];try (refine hK _ rfl ?_;clear hK K)
    have hp:=Qec _ B bs (Be X) i6.matOnly.1 i6.matOnly.2 (I7 X) w j ps.length (Xt i3) hj (by rw[A1];omega) hw2 (by omega);rw[A1,i4]at hp;(repeat refine AW.seq_k fun K hK=>?_);refine AW.rg ?_;simp;try (refine hK _ rfl ?_;clear hK K)
    refine Aa.hand (B::bs) (by simp) hp ?_;intro v g hv _;unfold Xl at hv;rw[Qag i2 i3 hj]at hv;have hcol:A3 Cb (j+1) (X0,[])=Cb j (X,ps):=by rw[Cq,i1];rfl
    cases hpq:Ts X j ps.length with
    |none =>
     rw[hpq]at hv;obtain⟨rfl,rfl⟩:=hv;rw[Qhb];simp;refine hK _ rfl ?_;clear hK K;(repeat refine AW.seq_k fun K hK=>?_);refine AW.rg ?_;simp;try (refine hK _ rfl ?_;clear hK K)
     refine AW.yes ?_ rfl;refine AW.exit ?_;try simp
     refine⟨⟨X,ps,M,bs,pv,pb,x⟩,⟨?_,i2,i3,by rw[hN];exact i4,by show ps.length≤j+1;omega,i6,i7⟩,by simp⟩;rw[hcol];unfold Cb;simp only[hpq]
    |some i =>
     rw[hpq]at hv;obtain⟨rfl,hg1,hg2⟩:=hv;obtain⟨p1,p2,p3⟩:=Mf hpq;rw[i4]at p1;have hr:ps.length<n:=by omega
     have hR1:=i6.back hg1 hg2 (fun b=>Mo (bs:=bs) (i:=i) (r:=ps.length) (by rw[i6.mat.len,A1,i4];exact p1) (by rw[i6.mat.len,A1,i4];exact hr) b);rw[←Qaz]at hR1;have hcol:A3 Cb (j+1) (X0,[])=(Fh (Cl X i ps.length) j ps.length).map fun M=>(M,ps++[j]):=by rw[hcol];unfold Cb;simp only[hpq]
     have hX1:Ee (Cl X i ps.length):=i2.swap _ _;have hd1:J3 (Cl X i ps.length) w:=i3.swap (by omega) (by omega);have hn1:(Cl X i ps.length).length=n:=by rw[Kf,i4]
     have hdq:B4 (Cl X i ps.length) ps.length j≠0:=by
      unfold B4;rw[H4 (by omega) (by omega),if_pos rfl];exact p3
     generalize Cl X i ps.length=X1 at *;generalize M.back (B::bs) g=M1 at *;generalize Fk bs i ps.length=bs1 at *;generalize decide (i≠ps.length)=sw;simp;refine hK _ rfl ?_;clear hK K;(repeat refine AW.seq_k fun K hK=>?_);refine AW.rg ?_;simp;try (refine hK _ rfl ?_;clear hK K)
     refine AW.no ?_ rfl;refine AW.skip ?_;try simp
     refine hK _ rfl ?_;clear hK K;have hrl:(Aj (Be X1) ps.length).length=w:=by rw[Bq,List.length_map];exact hd1 _ (by omega)
     have hre:ps.length<(Be X1).length:=by rw[A1,hn1];exact hr
     have hde:rr (Aj (Be X1) ps.length) j=Aq (B4 X1 ps.length j):=by rw[Bq,Ew (by rw[hd1 _ (by omega)];exact hj)];rfl
     have hd0:Bu (B4 X1 ps.length j):=hX1.at (by rw[hd1 _ (by omega)];exact hj);(repeat refine AW.seq_k fun K hK=>?_);refine AW.rg ?_;simp[hr,hR1.mat.top,↓hR1.mat.get hre,hR1.mat.row ps.length hre,hrl,hj];try (refine hK _ rfl ?_;clear hK K)
     refine Af.intro fun b10 hb10=>?_;refine hK _ rfl ?_;clear hK K;have hdlb:(rr (Aj (Be X1) ps.length) j).Lb:=Jg ((I7 X1).row _) j;generalize hrr:ps.length=r at *;generalize hdr:rr (Aj (Be X1) r) j=dr at *;refine AW.turn [(0,.ptr c 1 0 0),(1,.osl B 1 0 n),(5,pv),(16,.int .i64 w),(17,.int .i64 (j:Nat)),(6,.int .i64 (j:Nat)),(7,.int .i64 r),(10,.rptr [.bool dr.n1,Ao dr.l1,.bool dr.n2,Ao dr.l2])] M1 (Ba.drop hb10 (hR1.ones i7)) ?_ ?_
     ·simp[De hb10]
     generalize hrow0:Aj X1 r=row0 at *;generalize hd:B4 X1 r j=d at *;refine AW.seq_ex (ι:=Xd) (fun s=>[(0,.ptr c 1 0 0),(1,.osl B 1 0 n),(5,pv),(16,.int .i64 w),(17,.int .i64 (j:Nat)),(6,.int .i64 (j:Nat)),(7,.int .i64 r),(10,.rptr [.bool dr.n1,Ao dr.l1,.bool dr.n2,Ao dr.l2])]) (fun s=>s.M) (fun s=>Ky c B bs1 pv pb ps w n ((A3 (Ca d) w row0).map fun row=>X1.set r row) s) ?_ ?_
     ·(repeat refine AW.seq_k fun K hK=>?_);refine AW.rg ?_;simp[hr,hR1.mat.top,↓hR1.mat.get hre,hrl];try (refine hK _ rfl ?_;clear hK K)
      refine AW.block (AW.loopS (ι:=Nat × Xd) (fun z=>[(0,.ptr c 1 0 0),(1,.osl B 1 0 n),(5,pv),(16,.int .i64 w),(17,.int .i64 (j:Nat)),(6,.int .i64 (j:Nat)),(7,.int .i64 r),(10,.rptr [.bool dr.n1,Ao dr.l1,.bool dr.n2,Ao dr.l2]),(42,.int .i64 w),(43,.int .i64 (z.1:Nat))]) (fun z=>z.2.M) (fun z=>z.1≤w∧Ky c B bs1 pv pb ps w n ((A3 (Ca d) z.1 row0).map fun row=>X1.set r row) z.2) (fun z=>w-z.1) (0,⟨M1,Be X1,x,0⟩) ⟨by simp,hR1,i7,I7 X1,Xt hd1,by rw[A1,hn1],?_⟩ rfl (by simp) ?_)
      ·show U9 0 (Be X1) (some (X1.set r row0))
       rw[←hrow0,Ea (by omega),List.set_getElem_self];exact⟨rfl,rfl,hX1⟩
      rintro⟨k,M,rows,x,e⟩ ⟨g1,g2,g3,g4,g5,g6,g7⟩;simp only at g1 g2 g3 g4 g5 g6 g7;(repeat refine AW.seq_k fun K hK=>?_);refine AW.rg ?_;simp;try (refine hK _ rfl ?_;clear hK K)
      (repeat refine AW.seq ?_);refine AW.cs (fun hk=>?_) (fun hk=>?_) rfl<;>(try simp at hk)
      ·refine AW.skip ?_;try simp
       (repeat refine AW.seq ?_);refine AW.block ?_;(repeat refine AW.seq_k fun K hK=>?_);refine AW.rg ?_;simp;try (refine hK _ rfl ?_;clear hK K)
       have hrr':r<rows.length:=by omega
       have hlr:=g5 r hrr';(repeat refine AW.seq_k fun K hK=>?_);refine AW.rdT [] [10] [] [B,nb bs1 r] [0,1,2,3,4,5,6,7,8,9,10,11,12,13,14,15,16] C6 (by simp[hr,hk,g2.mat.top,↓g2.mat.get hrr',g2.mat.row r hrr',hlr]) (by simp[hr,hk,g2.mat.top,↓g2.mat.get hrr',g2.mat.row r hrr',hlr]) (by simp[hr,hk,g2.mat.top,↓g2.mat.get hrr',g2.mat.row r hrr',hlr]) (by simp[hr,hk,g2.mat.top,↓g2.mat.get hrr',g2.mat.row r hrr',hlr]) (by simp[hr,hk,g2.mat.top,↓g2.mat.get hrr',g2.mat.row r hrr',hlr]) ?_;simp[hr,hk,g2.mat.top,↓g2.mat.get hrr',g2.mat.row r hrr',hlr]
       try (refine hK _ rfl ?_;clear hK K)
       have nB:=Ne.symm g2.cB;have nR:=g2.nc hrr';have n0:=g2.mat.ne hrr';refine Qsv (a:=rr (Aj rows r) k) (b:=dr) g2.cell (by simp[nB,Ne.symm nR,g2.cB]) g3 (Jg (g4.row r) k) hdlb (fun he=>⟨Xf g7 he (by rw[hlr];exact hk),by rw[hde];exact Dq hd0,by rw[hde,Hn];exact hdq⟩) ?_;intro x' hx';simp[hr,hk,nR,n0,g2.mat.row r hrr',hlr];have w2:=Au (k+1) (by omega);(repeat refine AW.seq_k fun K hK=>?_);refine AW.rg ?_;simp[-Int.natCast_add,w2];try (refine hK _ rfl ?_;clear hK K)
       have hs:=Ky.row (op:=fun q _=>Ft q d) (y:=(Dg e (rr (Aj rows r) k) (Ft (rr (Aj rows r) k).q dr.q)).2) (fun q k x hx=>Od hdq hx) (s:=⟨M,rows,x,e⟩) ⟨g2,g3,g4,g5,g6,g7⟩ hr hk (Z:=(A3 (Ca d) k row0).map fun row=>(X1,row)) (by cases A3 (Ca d) k row0<;>rfl) hx' (X8 (Jg (g4.row r) k)) (fun he=>by rw[Mi he]) (fun he=>by
        have:=Qfb (a:=rr (Aj rows r) k) (q:=Ft (rr (Aj rows r) k).q dr.q) he;rw[hde,Hn]at this ⊢;exact this)
       exact⟨k+1,_,⟨hk,hs.to (by rw[Cq];cases A3 (Ca d) k row0<;>rfl)⟩,by omega,rfl,rfl⟩
      ·refine AW.exit ?_;try simp
       have:k=w:=by omega
       subst this;exact⟨⟨M,rows,x,e⟩,⟨g2,g3,g4,g5,g6,g7⟩,rfl⟩
     rintro⟨M2,rows2,x2,e2⟩ hs2;simp only;refine AW.seq_ex (ι:=Xd) (fun s=>[(0,.ptr c 1 0 0),(1,.osl B 1 0 n),(5,pv),(16,.int .i64 w),(17,.int .i64 (j:Nat)),(6,.int .i64 (j:Nat)),(7,.int .i64 r),(10,.rptr [.bool dr.n1,Ao dr.l1,.bool dr.n2,Ao dr.l2])]) (fun s=>s.M) (fun s=>Ky c B bs1 pv pb ps w n ((A3 (Ca d) w row0).bind fun row=>A3 (Bi r j) n (X1.set r row)) s) ?_ ?_
     ·(repeat refine AW.seq_k fun K hK=>?_);refine AW.rg ?_;simp;try (refine hK _ rfl ?_;clear hK K)
      refine AW.block (AW.loopS (ι:=Nat × Xd) (fun z=>[(0,.ptr c 1 0 0),(1,.osl B 1 0 n),(5,pv),(16,.int .i64 w),(17,.int .i64 (j:Nat)),(6,.int .i64 (j:Nat)),(7,.int .i64 r),(10,.rptr [.bool dr.n1,Ao dr.l1,.bool dr.n2,Ao dr.l2]),(64,.int .i64 n),(65,.int .i64 (z.1:Nat))]) (fun z=>z.2.M) (fun z=>z.1≤n∧Ky c B bs1 pv pb ps w n ((A3 (Ca d) w row0).bind fun row=>A3 (Bi r j) z.1 (X1.set r row)) z.2) (fun z=>n-z.1) (0,⟨M2,rows2,x2,e2⟩) ⟨by simp,hs2.to (by cases A3 (Ca d) w row0<;>rfl)⟩ rfl (by simp) ?_)
      rintro⟨i,M,rows,x,e⟩ ⟨g1,g2,g3,g4,g5,g6,g7⟩;simp only at g1 g2 g3 g4 g5 g6 g7;generalize hZ:((A3 (Ca d) w row0).bind fun row=>A3 (Bi r j) i (X1.set r row))=Z at g7;have hZ1:((A3 (Ca d) w row0).bind fun row=>A3 (Bi r j) (i+1) (X1.set r row))=Z.bind (Bi r j i):=by
       rw[←hZ];cases A3 (Ca d) w row0<;>rfl
      (repeat refine AW.seq_k fun K hK=>?_);refine AW.rg ?_;simp;try (refine hK _ rfl ?_;clear hK K)
      (repeat refine AW.seq ?_);refine AW.cs (fun hi=>?_) (fun hi=>?_) rfl<;>(try simp at hi)
      ·refine AW.skip ?_;try simp
       have hi':i<rows.length:=by omega
       have hr':r<rows.length:=by omega
       have hli:=g5 i hi';have hlr:=g5 r hr';have w3:=Au (i+1) (by omega);refine AW.seq_ex (ι:=Xd) (fun s=>[(0,.ptr c 1 0 0),(1,.osl B 1 0 n),(5,pv),(16,.int .i64 w),(17,.int .i64 (j:Nat)),(6,.int .i64 (j:Nat)),(7,.int .i64 r),(10,.rptr [.bool dr.n1,Ao dr.l1,.bool dr.n2,Ao dr.l2]),(64,.int .i64 n),(65,.int .i64 (i:Nat))]) (fun s=>s.M) (fun s=>Ky c B bs1 pv pb ps w n ((A3 (Ca d) w row0).bind fun row=>A3 (Bi r j) (i+1) (X1.set r row)) s) ?_ ?_
       ·(repeat refine AW.seq ?_);refine AW.block ?_;(repeat refine AW.seq_k fun K hK=>?_);refine AW.rg ?_;simp;try (refine hK _ rfl ?_;clear hK K)
        (repeat refine AW.seq_k fun K hK=>?_);refine AW.rg ?_;simp[hi,g2.mat.top,↓g2.mat.get hi',g2.mat.row i hi',hli,hj];try (refine hK _ rfl ?_;clear hK K)
        refine Af.intro fun b13 hb13=>?_;refine hK _ rfl ?_;clear hK K;have hflb:(rr (Aj rows i) j).Lb:=Jg (g4.row i) j;have hfq:∀X',Z=some X'→rr (Aj rows i) j=Aq (B4 X' i j)∧Bu (B4 X' i j):=by
         intro X' hX';subst hX';obtain⟨_,m2,m3⟩:e=0∧rows=Be X'∧Ee X':=g7;subst m2;have hjl:j<(Aj X' i).length:=by rw[Bq,List.length_map]at hli;omega
         exact⟨by rw[Bq,Ew hjl];rfl,m3.at hjl⟩
        have hsg:=Ns _ hflb;generalize hfr:rr (Aj rows i) j=fr at *;refine AW.turn [(0,.ptr c 1 0 0),(1,.osl B 1 0 n),(5,pv),(16,.int .i64 w),(17,.int .i64 (j:Nat)),(6,.int .i64 (j:Nat)),(7,.int .i64 r),(10,.rptr [.bool dr.n1,Ao dr.l1,.bool dr.n2,Ao dr.l2]),(64,.int .i64 n),(65,.int .i64 (i:Nat)),(12,.int .i64 (i:Nat)),(13,.rptr [.bool fr.n1,Ao fr.l1,.bool fr.n2,Ao fr.l2])] M (Ba.drop hb13 (g2.ones g3)) ?_ ?_
        ·simp[De hb13]
        have hskip:i=r∨Dm fr=0→((A3 (Ca d) w row0).bind fun row=>A3 (Bi r j) (i+1) (X1.set r row))=Z:=by
         intro h;rw[hZ1];cases Z with
         |none=>rfl
         |some X' =>
          obtain⟨q1,q2⟩:=hfq X' rfl;have:i=r∨B4 X' i j=0:=h.imp id fun h=>by rw[q1,Ma q2]at h;exact Ig.1 h
          exact if_pos this
        refine AW.seq_ex (ι:=Unit) (fun _=>[(0,.ptr c 1 0 0),(1,.osl B 1 0 n),(5,pv),(16,.int .i64 w),(17,.int .i64 (j:Nat)),(6,.int .i64 (j:Nat)),(7,.int .i64 r),(10,.rptr [.bool dr.n1,Ao dr.l1,.bool dr.n2,Ao dr.l2]),(64,.int .i64 n),(65,.int .i64 (i:Nat)),(12,.int .i64 (i:Nat)),(13,.rptr [.bool fr.n1,Ao fr.l1,.bool fr.n2,Ao fr.l2])]) (fun _=>M) (fun _=>i≠r∧Dm fr≠0) ?_ ?_
        ·by_cases hir:i=r
         ·(repeat refine AW.seq_k fun K hK=>?_);refine AW.rg ?_;simp[hir];try (refine hK _ rfl ?_;clear hK K)
          refine AW.yes ?_ rfl;refine AW.exit ?_;try simp
          exact⟨⟨M,rows,x,e⟩,Ky.to ⟨g2,g3,g4,g5,g6,g7⟩ (hskip (.inl hir)),by simp[hir]⟩
         ·(repeat refine AW.seq_k fun K hK=>?_);refine AW.rg ?_;simp[hir];try (refine hK _ rfl ?_;clear hK K)
          refine Aa.val hsg ?_;simp;refine hK _ rfl ?_;clear hK K;(repeat refine AW.seq ?_);refine AW.cs (fun h0=>?_) (fun h0=>?_) rfl<;>(try simp at h0)
          ·refine AW.exit ?_;try simp
           exact⟨⟨M,rows,x,e⟩,Ky.to ⟨g2,g3,g4,g5,g6,g7⟩ (hskip (.inr h0)),by simp⟩
          ·refine AW.skip ?_;try simp
           exact⟨hir,h0⟩
        rintro _ ⟨h1,h2⟩;have hgo:∀X',Z=some X'→Bi r j i X'=(A3 (Dy (Aj X' r) (B4 X' i j)) (Aj X' i).length (Aj X' i)).map (X'.set i):=by
         intro X' hX';obtain⟨q1,q2⟩:=hfq X' hX';refine if_neg ?_;rintro(h | h)
         ·exact h1 h
         ·exact h2 (by rw[q1,Ma q2];exact Ig.2 h)
        clear hskip;have hZl:∀X',Z=some X'→X'.length=n∧∀k,k<n→(Aj X' k).length=w:=by
         intro X' hX';subst hX';obtain⟨_,m2,_⟩:e=0∧rows=Be X'∧Ee X':=g7;subst m2;rw[A1]at g6;exact⟨g6,fun k hk=>by have:=g5 k (by rw[A1];omega);rwa [Bq,List.length_map]at this⟩
        have hend:((A3 (Ca d) w row0).bind fun row=>A3 (Bi r j) (i+1) (X1.set r row))=Z.bind fun X'=>(A3 (Dy (Aj X' r) (B4 X' i j)) w (Aj X' i)).map (X'.set i):=by
         rw[hZ1];cases hZ2:Z with
         |none=>rfl
         |some X' =>
          show Bi r j i X'=_
          rw[hgo X' hZ2,(hZl X' hZ2).2 i hi];rfl
        have hbeg:(Z.bind fun X'=>(A3 (Dy (Aj X' r) (B4 X' i j)) 0 (Aj X' i)).map (X'.set i))=Z:=by
         cases hZ2:Z with
         |none=>rfl
         |some X' =>
          have:=(hZl X' hZ2).1;show some (X'.set i (Aj X' i))=some X'
          rw[Ea (by omega),List.set_getElem_self]
        (repeat refine AW.seq_k fun K hK=>?_);refine AW.rg ?_;simp[hi,g2.mat.top,↓g2.mat.get hi',hli];try (refine hK _ rfl ?_;clear hK K)
        refine AW.block (AW.loopS (ι:=Nat × Xd) (fun z=>[(0,.ptr c 1 0 0),(1,.osl B 1 0 n),(5,pv),(16,.int .i64 w),(17,.int .i64 (j:Nat)),(6,.int .i64 (j:Nat)),(7,.int .i64 r),(10,.rptr [.bool dr.n1,Ao dr.l1,.bool dr.n2,Ao dr.l2]),(64,.int .i64 n),(65,.int .i64 (i:Nat)),(12,.int .i64 (i:Nat)),(13,.rptr [.bool fr.n1,Ao fr.l1,.bool fr.n2,Ao fr.l2]),(87,.int .i64 w),(88,.int .i64 (z.1:Nat))]) (fun z=>z.2.M) (fun z=>z.1≤w∧Ky c B bs1 pv pb ps w n (Z.bind fun X'=>(A3 (Dy (Aj X' r) (B4 X' i j)) z.1 (Aj X' i)).map (X'.set i)) z.2) (fun z=>w-z.1) (0,⟨M,rows,x,e⟩) ⟨by simp,Ky.to ⟨g2,g3,g4,g5,g6,g7⟩ hbeg⟩ rfl (by simp) ?_)
        clear hbeg;clear g2 g3 g4 g5 g6 hi' hr' hli hlr;rintro⟨k,M,rows,x,e⟩ ⟨g1,g2,g3,g4,g5,g6,g8⟩;simp only at g1 g2 g3 g4 g5 g6 g8;(repeat refine AW.seq_k fun K hK=>?_);refine AW.rg ?_;simp;try (refine hK _ rfl ?_;clear hK K)
        (repeat refine AW.seq ?_);refine AW.cs (fun hk=>?_) (fun hk=>?_) rfl<;>(try simp at hk)
        ·refine AW.skip ?_;try simp
         (repeat refine AW.seq ?_);refine AW.block ?_;(repeat refine AW.seq_k fun K hK=>?_);refine AW.rg ?_;simp;try (refine hK _ rfl ?_;clear hK K)
         have hi':i<rows.length:=by omega
         have hr':r<rows.length:=by omega
         have hli:=g5 i hi';have hlr:=g5 r hr';have nB:=Ne.symm g2.cB;have nI:=g2.nc hi';have nR:=g2.nc hr';have n0:=g2.mat.ne hi';have hb:e=0→(rr (Aj rows r) k).q=Cd (Aj (Z.getD []) r) k∧fr.q=B4 (Z.getD []) i j:=by
          intro he;cases hZ2:Z with
          |none=>rw[hZ2]at g8;have:e=2:=g8;omega
          |some X' =>
           rw[hZ2]at g8;obtain⟨q1,q2⟩:=hfq X' hZ2;show _=Cd (Aj X' r) k∧fr.q=B4 X' i j
           refine⟨?_,by rw[q1,Hn]⟩;replace g8:U9 e rows ((A3 (Dy (Aj X' r) (B4 X' i j)) k (Aj X' i)).map (X'.set i)):=g8;cases hit:A3 (Dy (Aj X' r) (B4 X' i j)) k (Aj X' i)with
           |none=>rw[hit]at g8;have:e=2:=g8;omega
           |some row =>
            rw[hit]at g8;obtain⟨_,m2,_⟩:e=0∧rows=Be (X'.set i row)∧Ee (X'.set i row):=g8;rw[m2,Bq,Fo (by rw[(hZl X' hZ2).1];exact hi),if_neg (Ne.symm h1),Ew (by rw[(hZl X' hZ2).2 r hr];exact hk),Hn]
         (repeat refine AW.seq_k fun K hK=>?_);refine AW.rdT [] [13] [] [B,nb bs1 i,nb bs1 r] [0,1,2,3,4,5,6,7,8,9,10,11,12,13,14,15,16,17,18,19,20,21,22,23,24,25] C6 (by simp[hi,hr,hk,g2.mat.top,↓g2.mat.get hi',↓g2.mat.get hr',g2.mat.row i hi',g2.mat.row r hr',hli,hlr]) (by simp[hi,hr,hk,g2.mat.top,↓g2.mat.get hi',↓g2.mat.get hr',g2.mat.row i hi',g2.mat.row r hr',hli,hlr]) (by simp[hi,hr,hk,g2.mat.top,↓g2.mat.get hi',↓g2.mat.get hr',g2.mat.row i hi',g2.mat.row r hr',hli,hlr]) (by simp[hi,hr,hk,g2.mat.top,↓g2.mat.get hi',↓g2.mat.get hr',g2.mat.row i hi',g2.mat.row r hr',hli,hlr]) (by simp[hi,hr,hk,g2.mat.top,↓g2.mat.get hi',↓g2.mat.get hr',g2.mat.row i hi',g2.mat.row r hr',hli,hlr]) ?_
         simp[hi,hr,hk,g2.mat.top,↓g2.mat.get hi',↓g2.mat.get hr',g2.mat.row i hi',g2.mat.row r hr',hli,hlr];try (refine hK _ rfl ?_;clear hK K)
         have hfok:e=0→fr.ok=true:=by
          intro he;cases hZ2:Z with
          |none=>rw[hZ2]at g8;have:e=2:=g8;omega
          |some X'=>obtain⟨q1,q2⟩:=hfq X' hZ2;rw[q1];exact Dq q2
         refine Qsn (a:=rr (Aj rows r) k) (b:=fr) g2.cell (by simp[nB,Ne.symm nR,Ne.symm nI,g2.cB]) g3 (Jg (g4.row r) k) hflb (fun he=>⟨Xf g8 he (by rw[hlr];exact hk),hfok he⟩) ?_;intro x1 hx1;have hplb:(Dg e (rr (Aj rows r) k) (D4 (rr (Aj rows r) k).q fr.q)).2.Lb:=X8 (Jg (g4.row r) k);have hlo:=Qjj (a:=rr (Aj rows i) k) hb (e1:=(Dg e (rr (Aj rows r) k) (D4 (rr (Aj rows r) k).q fr.q)).1) (p:=(Dg e (rr (Aj rows r) k) (D4 (rr (Aj rows r) k).q fr.q)).2) rfl;have hlk:=Qmh (b:=rr (Aj rows r) k) (f:=fr) (e:=e) (fun z hz=>Qam hz) (e1:=(Dg e (rr (Aj rows r) k) (D4 (rr (Aj rows r) k).q fr.q)).1) (p:=(Dg e (rr (Aj rows r) k) (D4 (rr (Aj rows r) k).q fr.q)).2) rfl
         generalize(Dg e (rr (Aj rows r) k) (D4 (rr (Aj rows r) k).q fr.q))=ep at *;obtain⟨e1,p⟩:=ep;simp only at hx1 hplb hlo hlk;simp;refine Qj1 (a:=rr (Aj rows i) k) (b:=p) (Ac.set_same _ _ _) (by simp[nB,Ne.symm nR,Ne.symm nI,g2.cB]) hx1 (Jg (g4.row i) k) hplb (fun he=>⟨Xf g8 (hlk he).1 (by rw[hli];exact hk),(hlk he).2⟩) ?_;intro x2 hx2;simp[hi,hk,nI,nR,n0,g2.mat.row i hi',hli];have w2:=Au (k+1) (by omega);(repeat refine AW.seq_k fun K hK=>?_);refine AW.rg ?_;simp[-Int.natCast_add,w2];try (refine hK _ rfl ?_;clear hK K)
         have hs:=Ky.row (op:=fun q k=>I0 q (B4 (Z.getD []) i j) (Cd (Aj (Z.getD []) r) k)) (y:=(Dg e1 (rr (Aj rows i) k) (Cz (rr (Aj rows i) k).q p.q)).2) (fun q k x hx=>L9 hx) (s:=⟨M,rows,x,e⟩) ⟨g2,g3,g4,g5,g6,g8⟩ hi hk (Z:=Z.bind fun X'=>(A3 (Dy (Aj X' r) (B4 X' i j)) k (Aj X' i)).map fun row=>(X',row)) (by
          cases Z with
          |none=>rfl
          |some X' =>
           show(A3 _ k (Aj X' i)).map _=_
           cases hit:A3 (Dy (Aj X' r) (B4 X' i j)) k (Aj X' i)<;>simp[hit]) hx2 (X8 (Jg (g4.row i) k)) hlo.1 hlo.2
         exact⟨k+1,_,⟨hk,hs.to (by
          cases Z with
          |none=>rfl
          |some X' =>
           show(A3 _ (k+1) (Aj X' i)).map _=_
           rw[Cq];cases hit:A3 (Dy (Aj X' r) (B4 X' i j)) k (Aj X' i)with
           |none=>simp[hit]
           |some row=>simp[hit];rfl)⟩,by omega,rfl,rfl⟩
        ·refine AW.exit ?_;try simp
         have:k=w:=by omega
         subst this;exact⟨⟨M,rows,x,e⟩,Ky.to ⟨g2,g3,g4,g5,g6,g8⟩ hend,rfl⟩
       rintro⟨M3,rows3,x3,e3⟩ hs3;(repeat refine AW.seq_k fun K hK=>?_);refine AW.rg ?_;simp[-Int.natCast_add,w3];try (refine hK _ rfl ?_;clear hK K)
       exact⟨i+1,⟨M3,rows3,x3,e3⟩,⟨hi,hs3⟩,by omega,rfl,rfl⟩
      ·refine AW.exit ?_;try simp
       have:i=n:=by omega
       subst this;exact⟨⟨M,rows,x,e⟩,⟨g2,g3,g4,g5,g6,hZ ▸ g7⟩,rfl⟩
     rintro⟨M3,rows3,x3,e3⟩ ⟨g1,g2,g3,g4,g5,g6⟩;simp only at g1 g2 g3 g4 g5 g6;simp only;have hcl:Fh X1 j r=(A3 (Ca d) w row0).bind fun row=>A3 (Bi r j) n (X1.set r row):=by
      unfold Fh;rw[hd,hrow0,hn1,show row0.length=w by rw[←hrow0];exact hd1 r (by omega)]
     rw[hcl]at hcol;refine AW.seq_ex (ι:=Ac × Nat) (fun z=>[(0,.ptr c 1 0 0),(1,.osl B 1 0 n),(5,.osl z.2 1 0 (r+1)),(16,.int .i64 w),(17,.int .i64 (j:Nat))]) (fun z=>z.1) (fun z=>D3 z.1 c B bs1 rows3 x3 (.osl z.2 1 0 (r+1)) [z.2] (ps++[j])) ?_ ?_
     ·rcases g1.piv with⟨z1,z2,z3⟩|⟨b0,z2,z3,z4⟩
      ·subst z1 z2 z3;have hr0:r=0:=hrr.symm;subst hr0;(repeat refine AW.seq_k fun K hK=>?_);refine AW.rgR [120] ?_;simp;try (refine hK _ rfl ?_;clear hK K)
       exact⟨by unfold maxLen;omega,Af.intro fun b hb=>g1.push0 hb j⟩
      ·subst z2 z3;have hps:ps.length<2^40:=by omega
       (repeat refine AW.seq_k fun K hK=>?_);refine AW.rgR [120] ?_;simp[z4];try (refine hK _ rfl ?_;clear hK K)
       refine⟨by omega,by unfold maxLen;omega,Af.intro fun b hb=>⟨_,b,?_,rfl,rfl,hrr⟩⟩;have:=g1.push1 hb j
       rwa [hrr]at this
     rintro⟨M4,b4⟩ hR4;simp only at hR4;have hx3:x3.cells=[.int .i64 e3]:=g2;(repeat refine AW.seq_k fun K hK=>?_);refine AW.rg ?_;simp[hR4.cell,hx3];try (refine hK _ rfl ?_;clear hK K)
     (repeat refine AW.seq ?_);refine AW.cs (fun he=>?_) (fun he=>?_) rfl<;>(try simp at he)
     ·refine AW.exit ?_;try simp
      have hno:A3 Cb (j+1) (X0,[])=none:=by
       rw[hcol];generalize((A3 (Ca d) w row0).bind fun row=>A3 (Bi r j) n (X1.set r row))=Z at g6;cases Z with
       |none=>rfl
       |some Y=>exact absurd g6.1 he
      have he2:e3=2:=by
       generalize((A3 (Ca d) w row0).bind fun row=>A3 (Bi r j) n (X1.set r row))=Z at g6;cases Z with
       |none=>exact g6
       |some Y=>exact absurd g6.1 he
      refine⟨x3,hR4.cell,hR4.ones g2,?_⟩;rw[hq,Ha hno (by omega)];rw[he2]at g2;exact g2
     ·refine AW.skip ?_;try simp
      generalize((A3 (Ca d) w row0).bind fun row=>A3 (Bi r j) n (X1.set r row))=Z at g6 hcol;cases Z with
      |none=>have:e3=2:=g6;omega
      |some Y =>
       obtain⟨_,m2,m3⟩:e3=0∧rows3=Be Y∧Ee Y:=g6;subst m2;refine⟨⟨Y,ps++[j],M4,bs1,.osl b4 1 0 (r+1),[b4],x3⟩,⟨hcol,m3,?_,?_,by simp[hrr];omega,hR4,he ▸ g2⟩,rfl,rfl⟩
       ·intro i hi;have:=g4 i (by rw[A1];exact hi)
        rwa [Bq,List.length_map]at this
       ·rw[A1]at g5;rw[hN];exact g5
   rintro⟨X,ps,M,bs,pv,pb,x⟩ hs;(repeat refine AW.seq_k fun K hK=>?_);refine AW.rg ?_;simp[-Int.natCast_add,w1];try (refine hK _ rfl ?_;clear hK K)
   exact⟨j+1,⟨X,ps,M,bs,pv,pb,x⟩,⟨hj,hs⟩,by omega,by simp⟩
  ·refine AW.exit ?_;try simp
   have:j=w:=by omega
   subst this;refine⟨x,i6.cell,i6.ones i7,?_⟩;rw[hq,i1];exact⟨i7,bs,pb,i6⟩
 rintro⟨M,pv⟩ hs;(repeat refine AW.seq_k fun K hK=>?_);refine AW.rg ?_;simp;try (refine hK _ rfl ?_;clear hK K)
 obtain⟨x',h1,h2,h3⟩:=hs;exact AW.ret (Bo rfl h2 ⟨x',h1,h2,h3⟩)
end Go.Av
end
section
namespace Go.Av
open Go.Proofs
section
variable {P:Program} {av:Nat→Prop} {f:FuncId} {args:List AV} {m:Ac} {k:AV→Ac→Prop}
theorem Aa.news {R:AV→Ac→Prop} (h:Ai P f args Ac.emp R) (hk:∀v g,R v g→(∀b,g b≠none→m b=none∧¬av b)→k v (m.back [] g)):Aa P av f args m k:=by
 have e:m.only []=Ac.emp:=by funext b;rfl
 refine Aa.hand [] (by simp) (by rw[e];exact h) fun v g hr hf=>hk v g hr fun b hb=>?_;rcases hf b hb with h | h
 ·cases h
 ·exact h
theorem Aa.whole {R:AV→Ac→Prop} (hav:∀b,¬av b) (h:Ai P f args m R) (hk:∀v g,R v g→k v g):Aa P av f args m k:=by
 refine .inl ⟨m,R,fun c y hy=>⟨hy,hav c⟩,h,fun v g hr _=>?_⟩;have e:Eu m m g=g:=by
  funext c
  unfold Eu;cases g c with
  |some x=>rfl
  |none=>cases hm:m c<;>rfl
 rw[e];exact hk v g hr
end
def P9 (m:List (List RR)):List (List Rat):=m.map fun r=>r.map RR.q
theorem Fv (m:List (List RR)):(P9 m).length=m.length:=by simp[P9]
theorem G3 (m:List (List RR)) (i:Nat):Aj (P9 m) i=(Aj m i).map RR.q:=by
 unfold Aj P9;rw[List.getD_eq_getElem?_getD,List.getD_eq_getElem?_getD,List.getElem?_map];cases m[i]?<;>rfl
theorem Qjk {m:List (List RR)} (h:Uz m=0):¬(64<m.length∨Je m)∧Nk m:=by
 by_cases h1:64<m.length∨Je m
 ·rw[O8 h1]at h;omega
 ·refine⟨h1,?_⟩;by_cases h2:Nk m
  ·exact h2
  ·rw[Oh h1 h2]at h;omega
theorem Xj {m:List (List RR)} {r:List RR} (h:r∈m):∃i,i<m.length∧Aj m i=r:=by
 obtain⟨i,hi,e⟩:=List.mem_iff_getElem.1 h;exact⟨i,hi,by rw[Ea hi,e]⟩
theorem Qrb {r:List RR} {x:RR} (h:x∈r):∃j,j<r.length∧rr r j=x:=by
 obtain⟨j,hj,e⟩:=List.mem_iff_getElem.1 h;exact⟨j,hj,by rw[G6 hj,e]⟩
theorem Sg {m:List (List RR)} (hm:Sb m) (h:Uz m=0):m=Be (P9 m)∧Ee (P9 m)∧J3 (P9 m) (Aj (P9 m) 0).length∧m.length≤64∧(Aj (P9 m) 0).length≤64:=by
 obtain⟨h1,h2⟩:=Qjk h;have hok:∀r∈m,∀x∈r,x.ok=true:=by
  intro r hr x hx;obtain⟨i,hi,rfl⟩:=Xj hr;obtain⟨j,hj,rfl⟩:=Qrb hx;exact(h2 i hi).2 j hj
 refine⟨?_,?_,?_,?_,?_⟩
 ·unfold Be P9;rw[List.map_map]
  conv=>lhs;rw[←List.map_id m]
  refine List.map_congr_left fun r hr=>?_;show r=(r.map RR.q).map Aq
  rw[List.map_map]
  conv=>lhs;rw[←List.map_id r]
  refine List.map_congr_left fun x hx=>?_;exact(Ez (hm r hr x hx) (hok r hr x hx)).2
 ·intro r hr q hq;obtain⟨s,hs,rfl⟩:=List.mem_map.1 hr;obtain⟨x,hx,rfl⟩:=List.mem_map.1 hq;exact(Ez (hm s hs x hx) (hok s hs x hx)).1
 ·intro i hi;rw[G3,G3,List.length_map,List.length_map];exact(h2 i (by rwa [Fv]at hi)).1
 ·rcases Nat.lt_or_ge 64 m.length with h|h
  ·exact absurd (.inl h) h1
  ·exact h
 ·rw[G3,List.length_map];rcases Nat.lt_or_ge 64 (Aj m 0).length with h | h
  ·rcases Nat.eq_zero_or_pos m.length with h0|h0
   ·have:m=[]:=List.eq_nil_of_length_eq_zero h0;subst this;simp[Aj]at h
   ·exact absurd (.inr ⟨0,h0,h⟩) h1
  ·exact h
/-! ### What the steps keep -/
def C8 (r:List Rat):Prop:=∀q∈r,Bu q
theorem Jw {α:Type} {f:Nat→α→Option α} {p:α→Prop} (h:∀i s t,p s→f i s=some t→p t):∀{n:Nat} {s t:α},p s→A3 f n s=some t→p t
 |0,s,t,hs,he=>by cases he;exact hs
 |n+1,s,t,hs,he=>by
  rw[Cq]at he;cases hm:A3 f n s with
  |none=>rw[hm]at he;cases he
  |some u=>rw[hm]at he;exact h n u t (Jw h hs hm) he
theorem Hv {op:Rat→Nat→Option Rat} (hop:∀q k x,op q k=some x→Bu x) {w k:Nat} {row row':List Rat} (h:C8 row∧row.length=w) (he:Gf op k row=some row'):C8 row'∧row'.length=w:=by
 unfold Gf at he;cases ho:op (Cd row k) k with
 |none=>rw[ho]at he;cases he
 |some z=>rw[ho]at he;cases he;exact⟨Jl h.1 k (hop _ _ _ ho),by simpa using h.2⟩
def Bp (n w:Nat) (M:List (List Rat)):Prop:=Ee M∧J3 M w∧M.length=n
theorem Bp.set {n w:Nat} {M:List (List Rat)} (h:Bp n w M) (i:Nat) {r:List Rat} (hr:C8 r∧r.length=w):Bp n w (M.set i r) :=
 ⟨h.1.set i hr.1,h.2.1.set hr.2,by simpa using h.2.2⟩
theorem Bp.row {n w:Nat} {M:List (List Rat)} (h:Bp n w M) {i:Nat} (hi:i<n):C8 (Aj M i)∧(Aj M i).length=w:=⟨h.1.row i,h.2.1 i (by rw[h.2.2];exact hi)⟩
theorem Bp.swap {n w:Nat} {M:List (List Rat)} (h:Bp n w M) {i j:Nat} (hi:i<n) (hj:j<n):Bp n w (Cl M i j):=(h.set i (h.row hj)).set j (h.row hi)
theorem Vm {n w r j i:Nat} {M M':List (List Rat)} (hi:i<n) (h:Bp n w M) (he:Bi r j i M=some M'):Bp n w M':=by
 unfold Bi at he;split at he
 ·cases he;exact h
 ·cases hm:A3 (Dy (Aj M r) (B4 M i j)) (Aj M i).length (Aj M i)with
  |none=>rw[hm]at he;cases he
  |some row =>
   rw[hm]at he;cases he;exact h.set i (Jw (p:=fun row=>C8 row∧row.length=w) (fun k s t hs hst=>Hv (fun q k x hx=>L9 hx) hs hst) (h.row hi) hm)
theorem Ty {α:Type} {f:Nat→α→Option α} {p:α→Prop}:∀{n:Nat} (h:∀i s t,i<n→p s→f i s=some t→p t) {s t:α},p s→A3 f n s=some t→p t
 |0,_,s,t,hs,he=>by cases he;exact hs
 |n+1,h,s,t,hs,he=>by
  rw[Cq]at he;cases hm:A3 f n s with
  |none=>rw[hm]at he;cases he
  |some u=>rw[hm]at he;exact h n u t (by omega) (Ty (fun i s t hi=>h i s t (by omega)) hs hm) he
theorem N0 {n w r j:Nat} {M M':List (List Rat)} (hr:r<n) (h:Bp n w M) (hd:B4 M r j≠0) (he:Fh M j r=some M'):Bp n w M':=by
 unfold Fh at he;cases hm:A3 (Ca (B4 M r j)) (Aj M r).length (Aj M r)with
 |none=>rw[hm]at he;cases he
 |some row =>
  rw[hm]at he;have h1:=Jw (p:=fun row=>C8 row∧row.length=w) (fun k s t hs hst=>Hv (fun q k x hx=>Od hd hx) hs hst) (h.row hr) hm;have he':A3 (Bi r j) n (M.set r row)=some M':=by rw[←h.2.2];exact he
  exact Ty (p:=Bp n w) (fun i s t hi hs hst=>Vm hi hs hst) (h.set r h1) he'
def Iv (n w j:Nat) (z:List (List Rat) × List Nat):Prop:=Bp n w z.1∧z.2.length≤n∧z.2.length≤j∧∀p∈z.2,p<j
theorem Qkf {n w j:Nat} {z z':List (List Rat) × List Nat} (h:Iv n w j z) (he:Cb j z=some z'):Iv n w (j+1) z':=by
 obtain⟨h1,h2,h3,h4⟩:=h;unfold Cb at he;cases hp:Ts z.1 j z.2.length with
 |none=>simp only[hp]at he;cases he;exact⟨h1,h2,by omega,fun p hp=>by have:=h4 p hp;omega⟩
 |some i =>
  simp only[hp]at he;obtain⟨p1,p2,p3⟩:=Mf hp;rw[h1.2.2]at p1;have hr:z.2.length<n:=by omega
  cases hc:Fh (Cl z.1 i z.2.length) j z.2.length with
  |none=>rw[hc]at he;cases he
  |some M =>
   rw[hc]at he;cases he;refine⟨N0 hr (h1.swap p1 hr) ?_ hc,by simp;omega,by simp;omega,fun p hp=>?_⟩
   ·unfold B4;rw[H4 (by rw[h1.2.2];exact p1) (by rw[h1.2.2];exact hr),if_pos rfl];exact p3
   ·simp at hp;rcases hp with hp | rfl
    ·have:=h4 p hp;omega
    ·omega
theorem P3 {n w:Nat} {z0:List (List Rat) × List Nat} (h:Iv n w 0 z0):∀{j:Nat} {z:List (List Rat) × List Nat},A3 Cb j z0=some z→Iv n w j z
 |0,z,he=>by cases he;exact h
 |j+1,z,he=>by
  rw[Cq]at he;cases hm:A3 Cb j z0 with
  |none=>rw[hm]at he;cases he
  |some u=>rw[hm]at he;exact Qkf (P3 h hm) he
theorem Li {n w:Nat} {M:List (List Rat)} (h:Bp n w M) {z:List (List Rat) × List Nat} (he:Ep M=some z):Iv n (w) ((Aj M 0).length) z :=
 P3 (z0:=(M,[])) ⟨h,by simp,by simp,by simp⟩ he
/-! ### Reduce -/
theorem Qfr {X:List (List Rat)} (h:Ee X):Qj3 (Be X):=by
 intro r hr x hx;obtain⟨s,hs,rfl⟩:=List.mem_map.1 hr;obtain⟨q,hq,rfl⟩:=List.mem_map.1 hx;have:=h s hs q hq;have key:∀n,n<Bk→(Ar n).length<2^40:=fun n hn=>by
  have:=Bd hn;omega
 exact⟨key _ this.1,key _ this.2⟩
noncomputable def Ei (m:List (List RR)):Int × List (List Rat) × List Nat :=
 if Uz m≠0 then (Uz m,[],[]) else match Ep (P9 m)with
  |none=>(2,[],[])
  |some z=>(0,z.1,z.2)
theorem D3.start {X:List (List Rat)} {c:Nat} {x:AV} {g:Ac} {B:Nat} {bs:List Nat} (hg:D7 g B bs (Be X)) (ho:Dc g (B::bs)) (hf:∀b,g b≠none→(Ac.emp.set c ⟨118,1,[x]⟩) b=none) :
  D3 ((Ac.emp.set c ⟨118,1,[x]⟩).back [] g) c B bs (Be X) x .nil [] []:=by
 have hc:g c=none:=by
  cases h:g c with
  |none=>rfl
  |some y=>have:=hf c (by rw[h];simp);simp at this
 refine⟨hg.back _,by rw[Ge hc (by simp)];simp,.inl ⟨rfl,rfl,rfl⟩,fun b hb=>?_,?_,fun hm=>?_,by simp,by simp,by simp⟩
 ·cases h:g b with
  |some y=>have:=ho b (by rw[h];simp);simp at this ⊢;exact .inr this
  |none =>
   rw[Ge h (by simp)]at hb;by_cases e:b=c
   ·simp[e]
   ·simp[e]at hb
 ·rintro rfl;rw[hg.top]at hc;cases hc
 ·obtain⟨i,hi,e⟩:=List.mem_iff_getElem.1 hm;rw[←Im hi]at e;have:=hg.row i (by rw[←hg.len];exact hi);rw[e,hc]at this;cases this
theorem Xe (m:List (List RR)) (hm:Sb m):Ai Tryz.prog 66 [Ap m] Ac.emp fun v mm=>v=.tup [Ap (Be (Ei m).2.1),.sl 1 (Ax (Ei m).2.2),.int .i64 (Ei m).1]∧mm=Ac.emp:=by
 have hck:=Qd4 m hm;by_cases h0:Uz m=0
 ·obtain⟨h1,h2,h3,h4,h5⟩:=Sg hm h0;have hR:Ei m=match Ep (P9 m)with
   |none=>(2,[],[])
   |some z=>(0,z.1,z.2):=by unfold Ei;rw[if_neg (by simp[h0])]
  have hlen:=Fv m;rw[h0]at hck;have hcl:=Qd9 m (by rw[h1];exact Qfr h2) (by omega) (fun r hr=>by
   obtain⟨i,hi,rfl⟩:=Xj hr;have:=h3 i (by rw[hlen];exact hi);rw[G3,List.length_map]at this;omega)
  rw[hR];clear hR;generalize P9 m=X at *;subst h1;rw[A1]at *;have hrd:=fun(M0:Ac) (c B:Nat) (bs0:List Nat) (x0:AV) (hR0:D3 M0 c B bs0 (Be X) x0 .nil [] []) (hx0:G4 x0 0)=>Yl M0 c B bs0 X x0 _ hR0 hx0 h2 h3 rfl (by omega) (by omega);refine Ad Tryz.func66 rfl rfl 32 rfl (Nat.le_of_ble_eq_true rfl) ?_;(repeat refine AW.seq_k fun K hK=>?_);refine AW.rg ?_;simp[Al];try (refine hK _ rfl ?_;clear hK K)
  (repeat refine AW.seq_k fun K hK=>?_);refine AW.rg ?_;simp;try (refine hK _ rfl ?_;clear hK K)
  refine Aa.val hck ?_;simp;refine hK _ rfl ?_;clear hK K;(repeat refine AW.seq_k fun K hK=>?_);refine AW.rg ?_;simp;try (refine hK _ rfl ?_;clear hK K)
  refine AW.no ?_ rfl;refine AW.skip ?_;try simp
  refine hK _ rfl ?_;clear hK K;(repeat refine AW.seq_k fun K hK=>?_);refine AW.rg ?_;simp;try (refine hK _ rfl ?_;clear hK K)
  refine Af.intro fun c hc=>?_;refine hK _ rfl ?_;clear hK K;(repeat refine AW.seq_k fun K hK=>?_);refine AW.rg ?_;simp;try (refine hK _ rfl ?_;clear hK K)
  refine Aa.news hcl ?_;rintro _ g ⟨B,bs,rfl,g1,g2⟩ hf;have hM:=D3.start g1 g2 (c:=c) (x:=.agg [.int .i64 0]) (fun b hb=>(hf b hb).1);generalize(Ac.emp.set c ⟨118,1,[.agg [.int .i64 0]]⟩).back [] g=M at *;simp;refine hK _ rfl ?_;clear hK K;(repeat refine AW.seq_k fun K hK=>?_);refine AW.rg ?_;simp;try (refine hK _ rfl ?_;clear hK K)
  refine Aa.whole (by simp) (hrd M c B bs _ hM rfl) ?_;rintro v M' ⟨x',q1,q2,q3⟩;simp;refine hK _ rfl ?_;clear hK K;cases hq:Ep X with
  |none =>
   rw[hq]at q3;have hx':x'.cells=[.int .i64 2]:=q3;(repeat refine AW.seq_k fun K hK=>?_);refine AW.rg ?_;simp[q1,hx'];try (refine hK _ rfl ?_;clear hK K)
   refine AW.yes ?_ rfl;(repeat refine AW.seq_k fun K hK=>?_);refine AW.rdA c [0,1,2,3,4,5,6] C6 (by simp[q1,hx']) ?_;simp[q1,hx'];try (refine hK _ rfl ?_;clear hK K)
   exact AW.ret (Ae [Ap [],.sl 1 [],.int .i64 2] rfl ⟨.nilsl 1,.nilsl 1,.same _,trivial⟩ ⟨rfl,rfl⟩)
  |some z =>
   obtain⟨Y,ps⟩:=z;rw[hq]at q3;obtain⟨q3,bs',pb,q4⟩:=q3;have hx':x'.cells=[.int .i64 0]:=q3;(repeat refine AW.seq_k fun K hK=>?_);refine AW.rg ?_;simp[q1,hx'];try (refine hK _ rfl ?_;clear hK K)
   refine AW.no ?_ rfl;refine AW.skip ?_;try simp
   refine hK _ rfl ?_;clear hK K;(repeat refine AW.seq_k fun K hK=>?_);refine AW.rg ?_;simp;try (refine hK _ rfl ?_;clear hK K)
   have hk:=Li ⟨h2,h3,rfl⟩ hq;have hv:=q4.mat.view;rw[A1,hk.1.2.2]at hv;exact AW.ret (Ae [Ap (Be Y),.sl 1 (Ax ps),.int .i64 0] rfl ⟨hv,q4.piv.view,.same _,trivial⟩ ⟨rfl,rfl⟩)
 ·have hR:Ei m=(Uz m,[],[]):=by unfold Ei;rw[if_pos h0]
  rw[hR];generalize Uz m=e at *;refine Ad Tryz.func66 rfl rfl 32 rfl (Nat.le_of_ble_eq_true rfl) ?_;(repeat refine AW.seq_k fun K hK=>?_);refine AW.rg ?_;simp[Al];try (refine hK _ rfl ?_;clear hK K)
  (repeat refine AW.seq_k fun K hK=>?_);refine AW.rg ?_;simp;try (refine hK _ rfl ?_;clear hK K)
  refine Aa.val hck ?_;simp;refine hK _ rfl ?_;clear hK K;(repeat refine AW.seq_k fun K hK=>?_);refine AW.rg ?_;simp[h0];try (refine hK _ rfl ?_;clear hK K)
  refine AW.yes ?_ rfl;(repeat refine AW.seq_k fun K hK=>?_);refine AW.rg ?_;simp;try (refine hK _ rfl ?_;clear hK K)
  exact AW.ret (Ae [Ap [],.sl 1 [],.int .i64 e] rfl ⟨.nilsl 1,.nilsl 1,.same _,trivial⟩ ⟨rfl,rfl⟩)
end Go.Av
end
section
namespace Go.Av
open Go.Proofs
@[simp high] theorem Qjo (P:Program) (size bytes:Nat) (e:TypeId) (zero:AV) (fs:List (Nat × Nat × Option Bool)) (k:IntKind) (n:Int) (l:List Nat):B0 P ⟨size,bytes,.slice e,zero,fs⟩ (.sl 1 (Ax l)) (.int k n)=(Ak P e).bind fun te=>if 1=te.size∧0≤n∧n<l.length then some (.rptr [.int .i64 ((l.getD n.toNat 0:Nat):Int)]) else none:=by
 rw[Hy]
 congr 1
 funext te
 rw[Lj];by_cases h:1=te.size∧0≤n∧n<l.length
 ·rw[if_pos h,if_pos h];have h1:n.toNat<l.length:=by omega
  unfold Ax;rw[List.getD_eq_getElem?_getD,List.getD_eq_getElem?_getD,List.getElem?_map,List.getElem?_eq_getElem h1];rfl
 ·rw[if_neg h,if_neg h]
theorem Tf {M M':Ac} {b n:Nat} {e:TypeId} {r:List RR} (hb:M b=some ⟨e,4,Bg r⟩) (hb':M' b=none) (hn:r.length=n):Br M M' (.osl b 4 0 n) (An r):=by
 refine .osl b 4 0 n _ _ hb hb' rfl (by simp[hn]) (by simp[hn]) fun j u u' g1 g2=>?_;simp only[Nat.zero_add]at g1;rw[g1]at g2;cases g2;exact .same _
theorem Ac.set_self {m:Ac} {b:Nat} {x:Ev} (h:m b=some x):m.set b x=m:=by
 funext k
 simp only[A6];split
 ·rename_i e;rw[e,h]
 ·rfl
theorem Sp {m:Ac} {b c:Nat} (h:c≠b) (x x' y y':Ev):(((m.set c x).set b y).set c x').set b y'=(m.set c x').set b y':=by
 funext k
 simp only[A6];by_cases h1:k=b
 ·simp[h1]
 ·by_cases h2:k=c
  ·subst h2;simp[h]
  ·simp[h1,h2]
def Kz (M:Ac) (ty:TypeId) (z:Nat) (ov:AV) (ob:List Nat) (l:List AV):Prop :=
 (l=[]∧ob=[]∧ov=.nil)∨∃b,ob=[b]∧ov=.osl b z 0 l.length∧M b=some ⟨ty,z,l⟩
theorem Kz.keep {M M':Ac} {ty:TypeId} {z:Nat} {ov:AV} {ob:List Nat} {l:List AV} (h:Kz M ty z ov ob l) (hm:∀b∈ob,M' b=M b):Kz M' ty z ov ob l:=by
 rcases h with h|⟨b,h1,h2,h3⟩
 ·exact .inl h
 ·exact .inr ⟨b,h1,h2,by rw[hm b (by simp[h1])];exact h3⟩
theorem Kz.len {M:Ac} {ty:TypeId} {z:Nat} {ov:AV} {ob:List Nat} {l:List AV} (h:Kz M ty z ov ob l) (size bytes:Nat) (e:TypeId) (zero:AV) (fs:List (Nat × Nat × Option Bool)):Kt ⟨size,bytes,.slice e,zero,fs⟩ ov=some (.int .i64 l.length):=by
 rcases h with⟨rfl,_,rfl⟩|⟨b,_,rfl,_⟩
 ·simp
 ·simp
theorem Kz.view {M M':Ac} {ty:TypeId} {z:Nat} {ov:AV} {ob:List Nat} {l:List AV} (h:Kz M ty z ov ob l) (hm:∀b∈ob,M' b=none):Br M M' ov (.sl z l):=by
 rcases h with⟨rfl,_,rfl⟩|⟨b,h1,rfl,h⟩
 ·exact .nilsl z
 ·refine .osl b z 0 l.length _ _ h (hm b (by simp[h1])) rfl rfl (by simp) fun j u u' g1 g2=>?_;simp only[Nat.zero_add]at g1;rw[g1]at g2;cases g2;exact .same _
structure Jz (M:Ac) (c:Nat) (x:AV) (ty:TypeId) (z:Nat) (ov:AV) (ob:List Nat) (l:List AV):Prop where
 cell:M c=some ⟨118,1,[x]⟩
 lst:Kz M ty z ov ob l
 only:Dc M (c::ob)
 pc:c ∉ ob
section
variable {M:Ac} {c:Nat} {x ov:AV} {ty:TypeId} {z:Nat} {ob:List Nat} {l:List AV}
theorem Jz.setE (h:Jz M c x ty z ov ob l) (x':AV):Jz (M.set c ⟨118,1,[x']⟩) c x' ty z ov ob l :=
 ⟨by simp,h.lst.keep fun b hb=>by simp only[A6];rw[if_neg (by rintro rfl;exact h.pc hb)],h.only.set (by simp) _,h.pc⟩
theorem Jz.fresh (h:Jz M c x ty z ov ob l) {b:Nat} (hb:M b=none):b≠c∧b ∉ ob:=by
 refine⟨(by rintro rfl;rw[h.cell]at hb;cases hb),fun hm=>?_⟩;rcases h.lst with⟨_,h1,_⟩ | ⟨b',h1,_,h3⟩
 ·rw[h1]at hm;cases hm
 ·rw[h1]at hm;simp at hm;subst hm;rw[h3]at hb;cases hb
theorem Jz.ones (h:Jz M c x ty z ov ob l) {e:Int} (hx:G4 x e) (hl:∀v∈l,v.cells.all AV.one=true):∀(b:Nat) (y:Ev),M b=some y→∀v∈y.l,v.cells.all AV.one=true:=by
 intro b y hy;have:=h.only b (by rw[hy];simp);rcases List.mem_cons.1 this with rfl | hb
 ·rw[h.cell]at hy;cases hy;intro v hv;simp at hv;subst hv;exact Qeg hx
 ·rcases h.lst with⟨_,h1,_⟩|⟨b',h1,_,h3⟩
  ·rw[h1]at hb;cases hb
  ·rw[h1]at hb;simp at hb;subst hb;rw[h3]at hy;cases hy;exact hl
theorem Jz.start (c:Nat) (x:AV) (ty:TypeId) (z:Nat):Jz (Ac.emp.set c ⟨118,1,[x]⟩) c x ty z .nil [] [] :=
 ⟨by simp,.inl ⟨rfl,rfl,rfl⟩,fun b hb=>by
  by_cases e:b=c
  ·simp[e]
  ·simp[e]at hb,by simp⟩
theorem Jz.push0 (h:Jz M c x ty z .nil [] []) {b:Nat} (hb:M b=none) (v:AV):Jz (M.set b ⟨ty,z,[v]⟩) c x ty z (.osl b z 0 1) [b] [v]:=by
 obtain⟨f1,_⟩:=h.fresh hb;refine⟨by simp only[A6];rw[if_neg (Ne.symm f1)];exact h.cell,.inr ⟨b,rfl,rfl,by simp⟩,?_,by simpa using Ne.symm f1⟩;exact(h.only.sub fun a ha=>by simp at ha ⊢;exact .inl ha).set (by simp) _
theorem Jz.push1 {b0:Nat} (h:Jz M c x ty z (.osl b0 z 0 l.length) [b0] l) {b:Nat} (hb:(M.del b0) b=none) (v:AV):Jz ((M.del b0).set b ⟨ty,z,l++[v]⟩) c x ty z (.osl b z 0 (l.length+1)) [b] (l++[v]):=by
 have hc:c≠b0:=by have:=h.pc;simpa using this
 have hh:Jz (M.del b0) c x ty z .nil [] []:=by
  have hdel:∀a,a≠b0→(M.del b0) a=M a:=fun a ha=>if_neg ha;refine⟨by rw[hdel c hc];exact h.cell,.inl ⟨rfl,rfl,rfl⟩,fun a ha=>?_,by simp⟩;have h1:a≠b0:=by
   rintro rfl;exact ha (if_pos rfl)
  rw[hdel a h1]at ha;have:=h.only a ha;simp at this ⊢;exact this.resolve_right h1
 obtain⟨f1,_⟩:=hh.fresh hb;refine⟨by simp only[A6];rw[if_neg (Ne.symm f1)];exact hh.cell,.inr ⟨b,rfl,by simp,by simp⟩,?_,by simpa using Ne.symm f1⟩;exact(hh.only.sub fun a ha=>by simp at ha ⊢;exact .inl ha).set (by simp) _
end
/-! ### The kernel -/
def Le (Y:List (List Rat)) (ps:List Nat) (j:Nat):Nat→List Rat→List Rat
 |0,v=>v
 |k+1,v=>(Le Y ps j k v).set (ps.getD k 0) (-(B4 Y k j))
def P2 (Y:List (List Rat)) (ps:List Nat) (w j:Nat):List Rat:=Le Y ps j ps.length ((List.replicate w 0).set j 1)
def F9 (Y:List (List Rat)) (ps:List Nat) (w j:Nat):List (List Rat):=((List.range j).filter fun i=>decide (i ∉ ps)).map (P2 Y ps w)
theorem Md (Y:List (List Rat)) (ps:List Nat) (w j:Nat):F9 Y ps w (j+1)=if j∈ps then F9 Y ps w j else F9 Y ps w j++[P2 Y ps w j]:=by
 unfold F9;rw[List.range_succ,List.filter_append];by_cases h:j∈ps
 ·rw[if_pos h];simp[h]
 ·rw[if_neg h];simp[h]
theorem Ix (Y:List (List Rat)) (ps:List Nat) (j:Nat) (v:List Rat):∀k,(Le Y ps j k v).length=v.length
 |0=>rfl
 |k+1=>by unfold Le;rw[List.length_set,Ix]
theorem Lo (Y:List (List Rat)) (ps:List Nat) (w j:Nat):(P2 Y ps w j).length=w:=by unfold P2;rw[Ix];simp
noncomputable def K3 (m:List (List RR)):Int × List (List Rat) :=
 if (Ei m).1≠0 then ((Ei m).1,[]) else (0,F9 (Ei m).2.1 (Ei m).2.2 (Aj m 0).length (Aj m 0).length)
theorem Lx {n w:Nat} {z0:List (List Rat) × List Nat} (h:Iv n w 0 z0) (hs:z0.2.Pairwise (·<·)):∀{j:Nat} {z:List (List Rat) × List Nat},A3 Cb j z0=some z→z.2.Pairwise (·<·)
 |0,z,he=>by cases he;exact hs
 |j+1,z,he=>by
  rw[Cq]at he;cases hm:A3 Cb j z0 with
  |none=>rw[hm]at he;cases he
  |some u =>
   rw[hm]at he;have h1:=Lx h hs hm;have h2:=P3 h hm;replace he:Cb j u=some z:=he;unfold Cb at he;cases hp:Ts u.1 j u.2.length with
   |none=>simp only[hp]at he;cases he;exact h1
   |some i =>
    simp only[hp]at he;cases hc:Fh (Cl u.1 i u.2.length) j u.2.length with
    |none=>rw[hc]at he;cases he
    |some M =>
     rw[hc]at he;cases he;rw[List.pairwise_append];exact⟨h1,by simp,fun a ha b hb=>by simp at hb;subst hb;exact h2.2.2.2 a ha⟩
theorem Uq {q:Rat} (h:Bu q):Cz 0 q=some (-q)∧Bu (-q):=by
 have hg:Bu (-q):=by
  unfold Bu at h ⊢;rw[Rat.neg_num,Rat.neg_den,Int.natAbs_neg];exact h
 refine⟨?_,hg⟩;unfold Cz;rw[Rat.sub_eq_add_neg,Rat.zero_add];have n0:(0:Rat).num=0:=rfl;have d0:(0:Rat).den=1:=rfl;have hb:0<Bk:=by unfold Bk;exact Nat.pow_pos (by omega)
 have h1:=h.1;have h2:=h.2;rw[n0,d0,if_pos];unfold Cf;generalize Bk=b at *;simp only[Bool.and_eq_true,decide_eq_true_eq,Int.zero_mul,Int.natAbs_zero];refine⟨⟨⟨hb,?_⟩,?_⟩,?_⟩<;>omega
theorem Qkm {m:Ac} {c b:Nat} (h:c≠b) (x y x':Ev):((m.set c x).set b y).set c x'=(m.set c x').set b y:=by
 funext k
 simp only[A6];by_cases h1:k=c
 ·subst h1;simp[h]
 ·simp[h1]
theorem Me:Bu 0:=by rw[←F7];exact Vy (by decide)
theorem Yq:Bu 1:=by rw[←Io];exact Vy (by decide)
structure Qm8 where
 next:Nat
 x:AV
 M:Ac
 ov:AV
 ob:List Nat
def Qqm (c:Nat) (Y:List (List Rat)) (ps:List Nat) (w j:Nat) (s:Qm8):Prop :=
 Jz s.M c s.x 51 1 s.ov s.ob ((Be (F9 Y ps w j)).map An)∧G4 s.x 0∧s.next≤ps.length∧(∀i,i<s.next→ps.getD i 0<j)∧∀i,s.next≤i→i<ps.length→j≤ps.getD i 0
theorem Qej {ps:List Nat} (h:ps.Pairwise (·<·)) {i j:Nat} (hij:i<j) (hj:j<ps.length):ps.getD i 0<ps.getD j 0:=by
 rw[List.getD_eq_getElem?_getD,List.getD_eq_getElem?_getD,List.getElem?_eq_getElem hj,List.getElem?_eq_getElem (by omega)];exact List.pairwise_iff_getElem.1 h i j (by omega) hj hij
theorem X9 (m:List (List RR)) (hm:Sb m):Ai Tryz.prog 106 [Ap m] Ac.emp fun v mm=>v=.tup [Ap (Be (K3 m).2),.int .i64 (K3 m).1]∧mm=Ac.emp:=by
 have hr:=Xe m hm;have hwid:=Su m;by_cases h0:(Ei m).1=0
 ·have hck:Uz m=0:=by
   by_cases h:Uz m=0
   ·exact h
   ·unfold Ei at h0;rw[if_pos h]at h0;exact absurd h0 h
  have hK:K3 m=(0,F9 (Ei m).2.1 (Ei m).2.2 (Aj m 0).length (Aj m 0).length):=if_neg (by simp[h0]);obtain⟨h1,h2,h3,h4,h5⟩:=Sg hm hck;have hcol:∃Y ps,Ei m=(0,Y,ps)∧Iv m.length (Aj m 0).length (Aj m 0).length (Y,ps)∧ps.Pairwise (·<·):=by
   unfold Ei at h0 ⊢;rw[if_neg (by simp[hck])]at h0 ⊢;cases hq:Ep (P9 m)with
   |none=>rw[hq]at h0;exact absurd h0 (by simp)
   |some z =>
    have e0:(Aj (P9 m) 0).length=(Aj m 0).length:=by rw[G3,List.length_map]
    have k1:=Li (n:=m.length) (w:=(Aj m 0).length) ⟨h2,e0 ▸ h3,Fv m⟩ hq;rw[e0]at k1;refine⟨z.1,z.2,rfl,k1,?_⟩;exact Lx (n:=m.length) (w:=(Aj m 0).length) (z0:=(P9 m,[])) ⟨⟨h2,e0 ▸ h3,Fv m⟩,by simp,by simp,by simp⟩ (by simp) hq
  obtain⟨Y,ps,hred,⟨⟨y1,y2,y3⟩,y4,y5,y6⟩,y7⟩:=hcol;simp only at y1 y2 y3 y4 y5 y6;rw[hK];rw[hred]at hr ⊢;simp only at hr ⊢;have h5:(Aj m 0).length≤64:=by rw[G3,List.length_map]at h5;exact h5
  clear h1 h2 h3 hK;generalize hw:(Aj m 0).length=w at *;have hvec:=Qbj w (by omega);have hone:=Nx 1 (by omega) (by omega);have hzero:=Nx 0 (by omega) (by omega);rw[Io]at hone;rw[F7]at hzero;refine Ad Tryz.func106 rfl rfl 87 rfl (Nat.le_of_ble_eq_true rfl) ?_;(repeat refine AW.seq_k fun K hK=>?_);refine AW.rg ?_;simp[Al];try (refine hK _ rfl ?_;clear hK K)
  (repeat refine AW.seq_k fun K hK=>?_);refine AW.rg ?_;simp;try (refine hK _ rfl ?_;clear hK K)
  refine Aa.val hr ?_;simp;refine hK _ rfl ?_;clear hK K;(repeat refine AW.seq_k fun K hK=>?_);refine AW.rg ?_;simp;try (refine hK _ rfl ?_;clear hK K)
  refine AW.no ?_ rfl;refine AW.skip ?_;try simp
  refine hK _ rfl ?_;clear hK K;(repeat refine AW.seq_k fun K hK=>?_);refine AW.rg ?_;simp;try (refine hK _ rfl ?_;clear hK K)
  refine Af.intro fun c hc=>?_;refine hK _ rfl ?_;clear hK K;(repeat refine AW.seq_k fun K hK=>?_);refine AW.rg ?_;simp;try (refine hK _ rfl ?_;clear hK K)
  (repeat refine AW.seq_k fun K hK=>?_);refine AW.rg ?_;simp;try (refine hK _ rfl ?_;clear hK K)
  refine AW.seq_ex (ι:=Ac × AV × AV × List Nat) (fun z=>[(7,.ptr c 1 0 0),(8,z.2.2.1)]) (fun z=>z.1) (fun z=>Jz z.1 c z.2.1 51 1 z.2.2.1 z.2.2.2 ((Be (F9 Y ps w w)).map An)∧G4 z.2.1 0) ?_ ?_
  ·(repeat refine AW.seq_k fun K hK=>?_);refine AW.rg ?_;simp;try (refine hK _ rfl ?_;clear hK K)
   refine Aa.val hwid ?_;simp;refine hK _ rfl ?_;clear hK K;refine AW.block (AW.loopS (ι:=Nat × Qm8) (fun z=>[(0,Ap m),(4,Ap (Be Y)),(5,.sl 1 (Ax ps)),(7,.ptr c 1 0 0),(8,z.2.ov),(9,.int .i64 (z.2.next:Nat)),(26,.int .i64 w),(27,.int .i64 (z.1:Nat))]) (fun z=>z.2.M) (fun z=>z.1≤w∧Qqm c Y ps w z.1 z.2) (fun z=>w-z.1) (0,⟨0,.agg [.int .i64 0],Ac.emp.set c ⟨118,1,[.agg [.int .i64 0]]⟩,.nil,[]⟩) ⟨by simp,Jz.start _ _ _ _,rfl,by simp,by simp,by simp⟩ rfl (by simp) ?_);rintro⟨j,next,x,M,ov,ob⟩ ⟨g1,g2,g3,g4,g5,g6⟩;simp only at g1 g2 g3 g4 g5 g6
   simp only;(repeat refine AW.seq_k fun K hK=>?_);refine AW.rg ?_;simp;try (refine hK _ rfl ?_;clear hK K)
   (repeat refine AW.seq ?_);refine AW.cs (fun hj=>?_) (fun hj=>?_) rfl<;>(try simp at hj)
   ·refine AW.skip ?_;try simp
    have w1:=Au (j+1) (by omega);have w2:=Au (next+1) (by omega);refine AW.seq_ex (ι:=Qm8) (fun s=>[(0,Ap m),(4,Ap (Be Y)),(5,.sl 1 (Ax ps)),(7,.ptr c 1 0 0),(8,s.ov),(9,.int .i64 (s.next:Nat)),(26,.int .i64 w),(27,.int .i64 (j:Nat))]) (fun s=>s.M) (fun s=>Qqm c Y ps w (j+1) s) ?_ ?_
    ·(repeat refine AW.seq ?_);refine AW.block ?_;(repeat refine AW.seq_k fun K hK=>?_);refine AW.rg ?_;simp;try (refine hK _ rfl ?_;clear hK K)
     refine AW.seq_ex (ι:=Unit) (fun _=>[(0,Ap m),(4,Ap (Be Y)),(5,.sl 1 (Ax ps)),(7,.ptr c 1 0 0),(8,ov),(9,.int .i64 (next:Nat)),(10,.int .i64 (j:Nat)),(26,.int .i64 w),(27,.int .i64 (j:Nat))]) (fun _=>M) (fun _=>j ∉ ps∧∀i,next≤i→i<ps.length→j+1≤ps.getD i 0) ?_ ?_
     ·by_cases hn:next<ps.length
      ·have hgn:ps.getD next 0=ps[next]:=by rw[List.getD_eq_getElem?_getD,List.getElem?_eq_getElem hn];rfl
       by_cases hp:ps[next]=j
       ·(repeat refine AW.seq_k fun K hK=>?_);refine AW.rg ?_;simp[hn,hp];try (refine hK _ rfl ?_;clear hK K)
        refine AW.yes ?_ rfl;(repeat refine AW.seq_k fun K hK=>?_);refine AW.rg ?_;simp[-Int.natCast_add,w2];try (refine hK _ rfl ?_;clear hK K)
        refine AW.exit ?_;try simp[-Int.natCast_add]
        have hmem:j∈ps:=by rw[←hp];exact List.getElem_mem hn
        rw[←hgn]at hp;refine⟨⟨next+1,x,M,ov,ob⟩,⟨?_,g3,hn,fun i hi=>?_,fun i hi hi2=>?_⟩,by simp⟩
        ·rw[Md,if_pos hmem];exact g2
        ·rcases Nat.lt_succ_iff_lt_or_eq.1 hi with h|rfl
         ·have:=g5 i h;omega
         ·omega
        ·have hi:next+1≤i:=hi;have:=Qej y7 (i:=next) (j:=i) (by omega) hi2;omega
       ·(repeat refine AW.seq_k fun K hK=>?_);refine AW.rg ?_;simp[hn,hp];try (refine hK _ rfl ?_;clear hK K)
        refine AW.no ?_ rfl;refine AW.skip ?_;try simp
        have hge:∀i,next≤i→i<ps.length→j+1≤ps.getD i 0:=fun i hi hi2=>by
         have h1:=g6 next (by omega) hn;rw[←hgn]at hp;rcases Nat.lt_or_eq_of_le hi with h | h
         ·have:=Qej y7 (i:=next) (j:=i) h hi2;omega
         ·subst h;omega
        refine⟨fun hm=>?_,hge⟩;obtain⟨i,hi,e⟩:=List.mem_iff_getElem.1 hm;have e:ps.getD i 0=j:=by rw[List.getD_eq_getElem?_getD,List.getElem?_eq_getElem hi];exact e
        rcases Nat.lt_or_ge i next with h|h
        ·have:=g5 i h;omega
        ·have:=hge i h hi;omega
      ·(repeat refine AW.seq_k fun K hK=>?_);refine AW.rg ?_;simp[hn];try (refine hK _ rfl ?_;clear hK K)
       refine AW.no ?_ rfl;refine AW.skip ?_;try simp
       refine⟨fun hm=>?_,fun i hi hi2=>by omega⟩;obtain⟨i,hi,e⟩:=List.mem_iff_getElem.1 hm;have e:ps.getD i 0=j:=by rw[List.getD_eq_getElem?_getD,List.getElem?_eq_getElem hi];exact e
       have:=g5 i (by omega);omega
     rintro _ ⟨hnm,hge⟩;(repeat refine AW.seq_k fun K hK=>?_);refine AW.rg ?_;simp;try (refine hK _ rfl ?_;clear hK K)
     refine Aa.val hwid ?_;simp;refine Aa.make hvec ?_;rintro bv _ _ ⟨rfl,rfl⟩ hbv _;simp;refine hK _ rfl ?_;clear hK K;obtain⟨nbc,nbo⟩:=g2.fresh hbv;(repeat refine AW.seq_k fun K hK=>?_);refine AW.rg ?_;simp;try (refine hK _ rfl ?_;clear hK K)
     refine Aa.val hone ?_;simp[hj];refine hK _ rfl ?_;clear hK K;generalize hv0:(List.replicate w (0:Rat)).set j 1=v0 at *;have hv0l:v0.length=w:=by rw[←hv0];simp
     have hv0e:(Bg (List.replicate w (Aq 0))).set j (Aq 1).av=Bg (v0.map Aq):=by
      rw[Er,←hv0,List.map_set,List.map_replicate]
     refine AW.seq_ex (ι:=AV) (fun x=>[(0,Ap m),(4,Ap (Be Y)),(5,.sl 1 (Ax ps)),(7,.ptr c 1 0 0),(8,ov),(9,.int .i64 (next:Nat)),(10,.int .i64 (j:Nat)),(11,.osl bv 4 0 w),(26,.int .i64 w),(27,.int .i64 (j:Nat))]) (fun x=>(M.set c ⟨118,1,[x]⟩).set bv ⟨44,4,Bg ((P2 Y ps w j).map Aq)⟩) (fun x=>G4 x 0) ?_ ?_
     ·(repeat refine AW.seq_k fun K hK=>?_);refine AW.rg ?_;simp;try (refine hK _ rfl ?_;clear hK K)
      refine AW.block (AW.loopS (ι:=Nat × AV) (fun z=>[(0,Ap m),(4,Ap (Be Y)),(5,.sl 1 (Ax ps)),(7,.ptr c 1 0 0),(8,ov),(9,.int .i64 (next:Nat)),(10,.int .i64 (j:Nat)),(11,.osl bv 4 0 w),(26,.int .i64 w),(27,.int .i64 (j:Nat)),(51,.sl 1 (Ax ps)),(52,.int .i64 ps.length),(53,.int .i64 (z.1:Nat))]) (fun z=>(M.set c ⟨118,1,[z.2]⟩).set bv ⟨44,4,Bg ((Le Y ps j z.1 v0).map Aq)⟩) (fun z=>z.1≤ps.length∧G4 z.2 0) (fun z=>ps.length-z.1) (0,x) ⟨by simp,g3⟩ ?_ (by simp) ?_)
      ·show M.set bv _=(M.set c _).set bv _
       rw[Ac.set_self g2.cell];rw[Er]at hv0e;rw[hv0e];rfl
      rintro⟨k,x⟩ ⟨q1,q2⟩;simp only at q1 q2;(repeat refine AW.seq_k fun K hK=>?_);refine AW.rg ?_;simp;try (refine hK _ rfl ?_;clear hK K)
      (repeat refine AW.seq ?_);refine AW.cs (fun hk=>?_) (fun hk=>?_) rfl<;>(try simp at hk)
      ·refine AW.skip ?_;try simp
       (repeat refine AW.seq ?_);refine AW.block ?_;(repeat refine AW.seq_k fun K hK=>?_);refine AW.rg ?_;simp[hk];try (refine hK _ rfl ?_;clear hK K)
       have hkY:k<Y.length:=by omega
       have hkE:k<(Be Y).length:=by rw[A1];exact hkY
       have hlk:(Aj (Be Y) k).length=w:=by rw[Bq,List.length_map];exact y2 k hkY
       have hjl:j<(Aj Y k).length:=by rw[y2 k hkY];exact hj
       have hel:rr (Aj (Be Y) k) j=Aq (B4 Y k j):=by rw[Bq,Ew hjl];rfl
       have hgd:Bu (B4 Y k j):=y1.at hjl;obtain⟨n1,n2⟩:=Uq hgd;have hpk:ps.getD k 0=ps[k]:=by rw[List.getD_eq_getElem?_getD,List.getElem?_eq_getElem hk];rfl
       have hpw:ps[k]<w:=y6 _ (List.getElem_mem hk);have hlf:(Le Y ps j k v0).length=w:=by rw[Ix,hv0l]
       have w3:=Au (k+1) (by omega);(repeat refine AW.seq_k fun K hK=>?_);refine AW.rd [0,1,2,4,5,6,7,8,9,10,3,11,12,13] C6 ?_;simp[hkE,hlk,hj,hel];try (refine hK _ rfl ?_;clear hK K)
       refine Aa.val hzero ?_;simp;refine Qj1 (c:=c) (x:=x) (e:=0) (a:=Aq 0) (b:=Aq (B4 Y k j)) (by simp[Ne.symm nbc]) (by simp) q2 (D9 _) (D9 _) (fun _=>⟨Dq Me,Dq hgd⟩) ?_;rw[Hn,Hn,n1,Ml rfl];intro x' hx';simp[hpw,hlf,nbc];(repeat refine AW.seq_k fun K hK=>?_);refine AW.rg ?_;simp[-Int.natCast_add,w3];try (refine hK _ rfl ?_;clear hK K)
       refine⟨k+1,x',⟨hk,hx'⟩,by omega,?_,rfl⟩;rw[Sp (Ne.symm nbc)];rw[show Le Y ps j (k+1) v0=(Le Y ps j k v0).set (ps.getD k 0) (-(B4 Y k j)) from rfl,hpk,List.map_set]
      ·refine AW.exit ?_;try simp
       have:k=ps.length:=by omega
       subst this;exact⟨x,q2,by unfold P2;rw[hv0]⟩
     rintro x' hx';have g2':=g2.setE x';have hM':(M.set c ⟨118,1,[x']⟩) bv=none:=by simp only[A6];rw[if_neg nbc];exact hbv
     refine AW.turn [(0,Ap m),(4,Ap (Be Y)),(5,.sl 1 (Ax ps)),(7,.ptr c 1 0 0),(8,ov),(9,.int .i64 (next:Nat)),(10,.int .i64 (j:Nat)),(11,An ((P2 Y ps w j).map Aq)),(26,.int .i64 w),(27,.int .i64 (j:Nat))] (M.set c ⟨118,1,[x']⟩) (Ba.drop hM' (g2'.ones hx' ?_)) ?_ ?_
     ·intro v hv;obtain⟨r,_,rfl⟩:=List.mem_map.1 hv;rfl
     ·simp;exact Tf (Ac.set_same _ _ _) hM' (by rw[List.length_map,Lo])
     have hfin:∀s:Qm8,s.next=next→G4 s.x 0→Jz s.M c s.x 51 1 s.ov s.ob ((Be (F9 Y ps w j)).map An++[An ((P2 Y ps w j).map Aq)])→Qqm c Y ps w (j+1) s:=by
      intro s h1 h2 h3;refine⟨?_,h2,by rw[h1];exact g4,fun i hi=>?_,by rw[h1];exact hge⟩
      ·rw[Md,if_neg hnm];simpa[Be]using h3
      ·rw[h1]at hi;have:=g5 i hi;omega
     have hll:((Be (F9 Y ps w j)).map An).length≤j:=by
      rw[List.length_map,A1];unfold F9;rw[List.length_map];exact Nat.le_trans (List.length_filter_le _ _) (by simp)
     generalize(Be (F9 Y ps w j)).map An=l at *;generalize M.set c ⟨118,1,[x']⟩=M' at *;rcases g2'.lst with⟨z1,z2,z3⟩ | ⟨b0,z2,z3,z4⟩
     ·subst z1 z2 z3;(repeat refine AW.seq_k fun K hK=>?_);refine AW.rgR [74] ?_;simp;try (refine hK _ rfl ?_;clear hK K)
      exact⟨by unfold maxLen;omega,Af.intro fun b hb=>⟨⟨next,x',_,_,[b]⟩,hfin _ rfl hx' (g2'.push0 hb _),rfl,rfl,rfl⟩⟩
     ·subst z2 z3;have hl2:l.length<2^40:=by omega
      (repeat refine AW.seq_k fun K hK=>?_);refine AW.rgR [74] ?_;simp[z4];try (refine hK _ rfl ?_;clear hK K)
      exact⟨by omega,by unfold maxLen;omega,Af.intro fun b hb=>⟨⟨next,x',_,_,[b]⟩,hfin _ rfl hx' (g2'.push1 hb _),rfl,rfl,rfl⟩⟩
    rintro⟨next,x,M,ov,ob⟩ hs;(repeat refine AW.seq_k fun K hK=>?_);refine AW.rg ?_;simp[-Int.natCast_add,w1];try (refine hK _ rfl ?_;clear hK K)
    exact⟨j+1,⟨next,x,M,ov,ob⟩,⟨hj,hs⟩,by omega,by simp⟩
   ·refine AW.exit ?_;try simp
    have:j=w:=by omega
    subst this;exact⟨x,⟨ob,g2⟩,g3⟩
  rintro⟨M,x,ov,ob⟩ ⟨g1,g2⟩;simp only at g1 g2;have hx:x.cells=[.int .i64 0]:=g2;(repeat refine AW.seq_k fun K hK=>?_);refine AW.rg ?_;simp[g1.cell,hx];try (refine hK _ rfl ?_;clear hK K)
  refine AW.no ?_ rfl;refine AW.skip ?_;try simp
  refine hK _ rfl ?_;clear hK K;(repeat refine AW.seq_k fun K hK=>?_);refine AW.rg ?_;simp;try (refine hK _ rfl ?_;clear hK K)
  have hv:=g1.lst.view (M':=Ac.emp) (fun _ _=>rfl);exact AW.ret (Ae [Ap (Be (F9 Y ps w w)),.int .i64 0] rfl ⟨hv,.same _,trivial⟩ ⟨rfl,rfl⟩)
 ·have hK:K3 m=((Ei m).1,[]):=if_pos h0;rw[hK];generalize Ei m=z at *;obtain⟨e,Y,ps⟩:=z;simp only at h0 hr ⊢;refine Ad Tryz.func106 rfl rfl 87 rfl (Nat.le_of_ble_eq_true rfl) ?_;(repeat refine AW.seq_k fun K hK=>?_);refine AW.rg ?_;simp[Al];try (refine hK _ rfl ?_;clear hK K)
  (repeat refine AW.seq_k fun K hK=>?_);refine AW.rg ?_;simp;try (refine hK _ rfl ?_;clear hK K)
  refine Aa.val hr ?_;simp;refine hK _ rfl ?_;clear hK K;(repeat refine AW.seq_k fun K hK=>?_);refine AW.rg ?_;simp[h0];try (refine hK _ rfl ?_;clear hK K)
  refine AW.yes ?_ rfl;(repeat refine AW.seq_k fun K hK=>?_);refine AW.rg ?_;simp;try (refine hK _ rfl ?_;clear hK K)
  exact AW.ret (Ae [Ap [],.int .i64 e] rfl ⟨.nilsl 1,.same _,trivial⟩ ⟨rfl,rfl⟩)
end Go.Av
end
section
namespace Go.Av
section
variable {P:Program}
def Qr6 (o:Oper):Bool:=match o.op with
 |.call c=>match c.callee,c.args.toList with
  |.builtin .min,[_,_,_]=>true
  |_,_=>false
 |_=>false
def Qxc (a b d:Int):Int:=if d<(if b<a then b else a) then d else (if b<a then b else a)
def Qw1 (o:Oper) (s:St):Option AV:=match o.op with
 |.call c=>match c.callee,c.args.toList with
  |.builtin .min,[x,y,z]=>match s.ev x,s.ev y,s.ev z with
   |.int k a,.int _ b,.int _ d=>some (.int k (Qxc a b d))
   |_,_,_=>none
  |_,_=>none
 |_=>none
def Qxm (P:Program) (cf:D6) (o:Oper) (K:St→Prop) (s:St):Prop:=if Qr6 o=true then ∃v,Qw1 o s=some v∧K ({s with m:=s.m}.put o.dst v) else E1 P cf o K s
def Qfc (P:Program) (cf:D6):List Oper→(St→Prop)→St→Prop
 |[],K,s=>K s
 |o::rest,K,s=>o.guard=none∧Qxm P cf o (Qfc P cf rest K) s
@[simp] theorem Qug (cf:D6) (K:St→Prop) (s:St):Qfc P cf [] K s=K s:=(rfl)
@[simp] theorem Qr9 (cf:D6) (d:Option Tmp) (op:Op) (t:TypeId) (p:String) (a:Array Edge) (l:List Oper) (K:St→Prop) (s:St) :
  Qfc P cf ({dst:=d,op:=op,type:=t,pos:=p,after:=a,guard:=none}::l) K s↔Qxm P cf {dst:=d,op:=op,type:=t,pos:=p,after:=a,guard:=none} (Qfc P cf l K) s:=by
 show(_∧_)↔_
 simp
end
end Go.Av
end
section
namespace Go.Av
section
variable {P:Program}
def isY (o:Oper):Bool:=match o.op with
 |.slice _ _ (some _) (some _) none=>true
 |.call c=>match c.callee with | .builtin .clear=>true | _=>false
 |_=>false
def Ql2 (P:Program) (o:Oper) (s:St) (k:AV→Ac→Prop):Prop:=match o.op with
 |.slice t x (some lo) (some hi) none=>∃ti e te b i n blk k1 k2,∃l h:Nat,Ak P t=some ti∧ti.cls=.slice e∧Ak P e=some te∧s.ev x=.osl b te.size i n∧s.m b=some blk∧blk.z=te.size ∧
   s.ev lo=.int k1 l∧s.ev hi=.int k2 h∧l<h∧i+h≤blk.l.length∧k (.osl b te.size (i+l) (h-l)) s.m
 |.call c=>match c.callee with
  |.builtin .clear=>∃x t ti e te b i n l,c.args.toList=[x]∧c.argTypes.toList=[t]∧Ak P t=some ti∧ti.cls=.slice e∧Ak P e=some te∧te.size=1∧te.zero.one=true ∧
    s.ev x=.osl b 1 i n∧s.m b=some ⟨e,1,l⟩∧0<n∧i+n≤l.length∧k .any (s.m.set b ⟨e,1,l.take i++List.replicate n te.zero++l.drop (i+n)⟩)
  |_=>False
 |_=>False
theorem U5 (z:Value) (hz:z.cells=#[z]) (n:Nat):(Builtin.zeroCells z.cells n).toList=List.replicate n z:=by
 rw[hz];refine List.ext_getElem? fun k=>?_;rw[Array.getElem?_toList,List.getElem?_replicate];simp only[Builtin.zeroCells,List.size_toArray,List.length_cons,List.length_nil,Nat.mul_one,Nat.zero_add,Array.getElem?_map];by_cases h:k<n
 ·rw[if_pos h,Array.getElem?_range,if_pos h];simp[Nat.mod_one]
 ·rw[if_neg h,Array.getElem?_range,if_neg h];rfl
theorem Qdi {F G:Nat→Prop} {w0 w:World} {s:St} {a:Act} (hrel:Eb F G w0 s a w) {o:Oper} (hok:Gu s.n o=true) {K:St→Prop} (h:Ql2 P o s fun v m'=>K ({s with m:=m'}.put o.dst v)) (Q:Exit→Act→World→Prop):o.wp P a w (Fp F G w0 s.n K) Q:=by
 have hd:Nb s.n o.dst=true:=by unfold Gu at hok;rw[Bool.and_eq_true]at hok;exact hok.1
 have hall:∀x∈o.op.operands.toList,Gn s.n x=true:=by unfold Gu at hok;rw[Bool.and_eq_true]at hok;exact List.all_eq_true.1 hok.2
 unfold Ql2 at h;split at h
 ·rename_i t x lo hi ho
  rw[ho]at hall;obtain⟨ti,e,te,b,i,n,blk,k1,k2,l,hh,ht,hc,hte,hx,hb,hbz,hlo,hhi,hlh,hin,hk⟩:=h;obtain⟨inf,d,z,hinf,hdd,hz,g1,g2,g3,g4,g5⟩:=(Et ht).get;obtain⟨ie,de,ze,hie,hde,hze,q1,q2,q3,q4,q5⟩:=(Et hte).get;rw[←g3]at hc;cases d<;>simp only[Dn,reduceCtorEq,Lc.slice.injEq]at hc
  subst hc;have hxv:=hrel.ev (hall x (by simp[Op.operands]));have hlv:=hrel.ev (hall lo (by simp[Op.operands]));have hhv:=hrel.ev (hall hi (by simp[Op.operands]));rw[hx]at hxv;rw[hlo]at hlv;rw[hhi]at hhv;obtain⟨cx,e1⟩:∃c,a.eval x=c:=⟨_,rfl⟩;obtain⟨cl,e2⟩:∃c,a.eval lo=c:=⟨_,rfl⟩;obtain⟨ch,e3⟩:∃c,a.eval hi=c:=⟨_,rfl⟩;rw[e1]at hxv;rw[e2]at hlv;rw[e3]at hhv;obtain⟨z0,zs,ones,cells,cap,h1,h2,h3,h4,h5⟩:=hrel.heap b blk hb;cases hlv;cases hhv;cases hxv with
  |osl _ _ _ _ c hcn hm =>
   obtain⟨cells',e',m1,m2⟩:=hm;rw[h1]at m1;cases m1;have hcap:i+c=cap:=Nat.eq_of_mul_eq_mul_right (m:=te.size) (by rw[←hbz];exact z0) (by rw[m2,h2,hbz]);have hlc:(l:Int)≤((hh:Nat):Int):=by omega
   have b1:=run_sliceBound (P:=P) w k2 (hh:Int) c BoundsCode.sliceAcap (by omega) (by omega);have b2:=run_sliceBound (P:=P) w k1 (l:Int) ((hh:Int).toNat) BoundsCode.sliceB (by omega) (by omega);refine Dt (cv:=.slice (some ⟨b,(i+l)*te.size,none⟩) (hh-l) (c-l)) ?_ ⟨_,hk,I5 _ _ _,hrel.put hd (.osl _ _ _ _ _ (by omega) ⟨_,_,h1,by rw[←m2];congr 1;omega⟩)⟩;unfold execOp;rw[ho];have hne:¬c=l:=by omega
   simp only[Int.toNat_natCast]at b1 b2;simp[e1,e2,e3,Instr.sliceAt,Instr.slice,run_underlying hdd,Instr.sliceBounds,b1,b2,Fi hie,q1,hne,Eg,Nat.add_mul]
 ·rename_i c ho
  rw[ho]at hall;split at h
  ·rename_i hcal
   obtain⟨x,t,ti,e,te,b,i,n,l,hxs,hts,ht,hc,hte,hz1,hone,hx,hb,hn0,hin,hk⟩:=h;obtain⟨callee,args,argTypes⟩:=c;simp only at hcal hxs hts;subst hcal;have ha:args=#[x]:=Array.toList_inj.1 hxs;have hat:argTypes=#[t]:=Array.toList_inj.1 hts;subst ha;subst hat;obtain⟨inf,d,z,hinf,hdd,hz,g1,g2,g3,g4,g5⟩:=(Et ht).get;obtain⟨ie,de,ze,hie,hde,hze,q1,q2,q3,q4,q5⟩:=(Et hte).get;rw[←g3]at hc;cases d<;>simp only[Dn,reduceCtorEq,Lc.slice.injEq]at hc
   subst hc
   rename_i e
   have hxv:=hrel.ev (hall x (by simp[Op.operands,Call.operands]));rw[hx]at hxv;obtain⟨cx,e1⟩:∃c,a.eval x=c:=⟨_,rfl⟩;rw[e1]at hxv;obtain⟨z0,zs,ones,cells,cap,h1,h2,h3,h4,h5⟩:=hrel.heap b _ hb;simp only[Nat.mul_one]at z0 zs ones h1 h2 h4 h5;have hzv:VR w (Cy F s.m) te.zero ze:=by rw[←q4];exact I1 w _ ze
   have hzo:=hzv.oneCell hone;have hzc:ze.cells=#[ze]:=by cases ze<;>first | rfl | (simp[Value.oneCell']at hzo)
   cases hxv with
   |osl _ _ _ _ cc hcn hm =>
    have hlen:(List.replicate n ze).length=n:=List.length_replicate;have hfit:i*1+(List.replicate n ze).length≤cells.size:=by rw[hlen];omega
    have hst:=run_storeCells_at P b (i*1) e (List.replicate n ze) 0 cells w h1 (by simpa using hfit) (fun v hv=>by rw[(List.mem_replicate.1 hv).2];exact hzo);simp only[Nat.add_zero]at hst;have hsz:=K8 cells (List.replicate n ze) (i*1) hfit;refine Dt (cv:=.tuple #[]) (w':=w.setRow b (cells.toList.take (i*1)++List.replicate n ze++cells.toList.drop (i*1+(List.replicate n ze).length)).toArray) ?_ ⟨_,hk,by rw[I5],(hrel.setRow hb (⟨e,1,l.take i++List.replicate n te.zero++l.drop (i+n)⟩:Ev) rfl rfl h1 _ hsz ?_ (fun v hv=>?_) (fun i' j u hu=>?_) (fun i' j u hu=>?_)).put hd (.any _)⟩
    ·unfold execOp;rw[ho];have hn:n≠0:=by omega
     obtain⟨n',rfl⟩:∃n',n=n'+1:=⟨n-1,by omega⟩;have hzv':(zeroValue e).run P w=.ok ze w:=by simp[zeroValue,typeInfo,hie,hze]
     have hzl:=U5 ze hzc (n'+1);simp only[Nat.mul_one,List.length_replicate,List.append_assoc]at hst;simp[resolve,invoke,builtin,e1,Builtin.clear_,run_underlying hdd,hzv',hzl];rw[hst];simp
    ·simp;omega
    ·rcases List.mem_append.1 hv with hv|hv
     ·rcases List.mem_append.1 hv with hv|hv
      ·exact zs v (List.mem_of_mem_take hv)
      ·rw[(List.mem_replicate.1 hv).2];cases hz0:te.zero<;>rw[hz0]at hone<;>first | rfl | cases hone
     ·exact zs v (List.mem_of_mem_drop hv)
    ·have hget:∀k,(l.take i++List.replicate n te.zero++l.drop (i+n))[k]?=if i≤k∧k<i+n then some te.zero else l[k]?:=by
      intro k;by_cases p1:k<i
      ·rw[if_neg (by omega),List.append_assoc,List.getElem?_append_left (by simp;omega),List.getElem?_take,if_pos p1]
      ·by_cases p2:k<i+n
       ·rw[if_pos (by omega),List.append_assoc,List.getElem?_append_right (by simp;omega),List.getElem?_append_left (by simp;omega),List.getElem?_replicate,if_pos (by simp;omega)]
       ·rw[if_neg (by omega),List.getElem?_append_right (by simp;omega),List.getElem?_drop];congr 1;simp;omega
     unfold A4 at hu;rw[hget]at hu;split at hu
     ·have:te.zero.cells=[te.zero]:=by cases hz0:te.zero<;>rw[hz0]at hone<;>first | rfl | cases hone
      simp only[Option.bind_some,this]at hu;rcases j with _ | j
      ·simp at hu;rw[←hu];exact hone
      ·simp at hu
     ·exact ones i' j u hu
    ·have hget:∀k,(l.take i++List.replicate n te.zero++l.drop (i+n))[k]?=if i≤k∧k<i+n then some te.zero else l[k]?:=by
      intro k;by_cases p1:k<i
      ·rw[if_neg (by omega),List.append_assoc,List.getElem?_append_left (by simp;omega),List.getElem?_take,if_pos p1]
      ·by_cases p2:k<i+n
       ·rw[if_pos (by omega),List.append_assoc,List.getElem?_append_right (by simp;omega),List.getElem?_append_left (by simp;omega),List.getElem?_replicate,if_pos (by simp;omega)]
       ·rw[if_neg (by omega),List.getElem?_append_right (by simp;omega),List.getElem?_drop];congr 1;simp;omega
     have hseg:=Mm cells (List.replicate n ze) (i*1) (i'*1+j) hfit;simp only[hlen,Nat.mul_one]at hseg ⊢;have htz:te.zero.cells=[te.zero]:=by cases hz0:te.zero<;>rw[hz0]at hone<;>first | rfl | cases hone
     unfold A4 at hu;rw[hget]at hu;split at hu
     ·rename_i hb'
      simp only[Option.bind_some,htz]at hu;rcases j with _ | j
      ·simp at hu;refine⟨ze,?_,by rw[←hu];exact hzv⟩;rw[hseg,if_pos (by omega),List.getElem?_replicate,if_pos (by omega)]
      ·simp at hu
     ·rename_i hb'
      have hj0:j=0:=by
       obtain⟨v,hv1,hv2⟩:=Option.bind_eq_some_iff.1 hu;have:=zs v (List.mem_of_getElem? hv1);have:=(List.getElem?_eq_some_iff.1 hv2).1;omega
      subst hj0;obtain⟨v,p1,p2⟩:=h5 i' 0 u hu;refine⟨v,?_,p2⟩;rw[hseg,if_neg (by omega)];exact p1
  ·exact h.elim
 ·exact h.elim
def Qg3 (P:Program) (cf:D6) (o:Oper) (K:St→Prop) (s:St):Prop:=if isY o=true then Ql2 P o s fun v m'=>K ({s with m:=m'}.put o.dst v) else E1 P cf o K s
def M9 (P:Program) (cf:D6):List Oper→(St→Prop)→St→Prop
 |[],K,s=>K s
 |o::rest,K,s=>o.guard=none∧Qg3 P cf o (M9 P cf rest K) s
theorem Qdq {F G:Nat→Prop} {w0 w:World} {s:St} {a:Act} (hrel:Eb F G w0 s a w) {cf:D6} (hav:∀b,cf.av b→b<w.heap.size) {o:Oper} (hok:Gu s.n o=true) {K:St→Prop} (h:Qg3 P cf o K s) (Q:Exit→Act→World→Prop):o.wp P a w (Fp F G w0 s.n K) Q:=by
 unfold Qg3 at h;split at h
 ·exact Qdi hrel hok h Q
 ·exact Mn hrel hav hok h Q
theorem Rc {F G:Nat→Prop} {w0:World} {cf:D6} (hcf:∀b,¬cf.av b) {ops:Array Oper} {K:St→Prop} {QQ:Exit→Act→World→Prop} (n:Nat) (hQ:∀a w,Fp F G w0 n K a w→QQ .normal a w) :
  ∀(l:List Oper) (s:St) (a:Act) (w:World),s.n=n→(∀o∈l,(Gu n o&&Jo ops n o)=true)→Eb F G w0 s a w→M9 P cf l K s→wpList P ops QQ l a w
 |[],s,a,w,hn,_,hr,hk=>hQ a w ⟨s,hk,hn,hr⟩
 |o::rest,s,a,w,hn,hok,hr,hk=>by
  have ho:=hok o (by simp);rw[Bool.and_eq_true]at ho;have hrest:∀o∈rest,(Gu n o&&Jo ops n o)=true:=fun x hx=>hok x (by simp[hx]);have hmono:∀{s:St} {a:Act} {w:World},s.n=n→Fp F G w0 s.n (M9 P cf rest K) a w→wpList P ops QQ rest a w:=by
   rintro s a w hn ⟨s',h1,h2,h3⟩;exact Rc hcf n hQ rest s' a w (h2.trans hn) hrest h3 h1
  have hop:Eb F G w0 s a w→Qg3 P cf o (M9 P cf rest K) s→o.wp P a w (wpList P ops QQ rest) QQ:=by
   intro hr hk;have:=Qdq hr (fun b hb=>(hcf b hb).elim) (by rw[hn];exact ho.1) hk QQ;unfold Oper.wp at this ⊢
   revert this
   generalize(execOp a.eval o).run P w=res;intro this;have hm:∀a w,Fp F G w0 s.n (M9 P cf rest K) a w→wpList P ops QQ rest a w:=fun a w h=>hmono hn h;unfold Oper.upon at this ⊢;split at this<;>first
    |exact hm _ _ this
    |(refine Calls.mono this ?_;intro e w' h;cases e<;>first | exact hm _ _ h | exact h)
    |(refine Rows.mono this ?_;intro e w' h;exact hm _ _ h)
    |exact this
    |exact this.elim
  unfold wpList;unfold M9 at hk;rw[if_pos (by simp[Region.wanted,hk.1])];exact .inl (hop hr hk.2)
theorem AW.rgY {Q:Exit→St→Prop} {s:St} {id:Nat} {ops:Array Oper} (h:M9 P (D6.txt fun _=>false) ops.toList (Q .normal) s) (hok:Ce s.n ops=true:=by kernel_rfl):AW P (.region id ops false) Q s:=by
 intro F G w0 a w hr;refine wp_region_list (Rc (F:=F) (G:=G) (w0:=w0) (cf:=D6.txt fun _=>false) (fun _ h=>h) s.n (K:=Q .normal) (fun a w h=>h) ops.toList s a w rfl (fun o ho=>?_) hr h);unfold Ce at hok;exact List.all_eq_true.1 hok o ho
@[simp] theorem Qs0 (cf:D6) (K:St→Prop) (s:St):M9 P cf [] K s=K s:=(rfl)
@[simp] theorem Qpu (cf:D6) (d:Option Tmp) (op:Op) (t:TypeId) (p:String) (a:Array Edge) (l:List Oper) (K:St→Prop) (s:St) :
  M9 P cf ({dst:=d,op:=op,type:=t,pos:=p,after:=a,guard:=none}::l) K s↔Qg3 P cf {dst:=d,op:=op,type:=t,pos:=p,after:=a,guard:=none} (M9 P cf l K) s:=by
 show(_∧_)↔_
 simp
theorem AW.rdL {Q:Exit→St→Prop} {s:St} {id:Nat} {ops:Array Oper} (bl:List Nat) (plan:List Nat) (hm:P.follows .mixedOrders=true) (hb:∀c∈bl,s.m c≠none) (h:Db P ⟨fun _=>false,fun c=>c∈bl,true⟩ ops plan (Q .normal) s)
  (hok:Ce s.n ops=true:=by kernel_rfl) (hp:Ib P (fun _=>false) ops plan=true:=by kernel_rfl):AW P (.region id ops true) Q s :=
 AW.draw (fun _=>false) (fun c=>c∈bl) plan hm hok hp hb h
theorem AW.rdLR {Q:Exit→St→Prop} {s:St} {id:Nat} {ops:Array Oper} (ro bl:List Nat) (plan:List Nat) (hm:P.follows .mixedOrders=true) (hb:∀c∈bl,s.m c≠none) (h:Db P ⟨roL ro,fun c=>c∈bl,true⟩ ops plan (Q .normal) s)
  (hok:Ce s.n ops=true:=by kernel_rfl) (hp:Ib P (roL ro) ops plan=true:=by kernel_rfl):AW P (.region id ops true) Q s :=
 AW.draw (roL ro) (fun c=>c∈bl) plan hm hok hp hb h
theorem Eb.shrink {F G:Nat→Prop} {w0 w:World} {s:St} {a:Act} (h:Eb F G w0 s a w) {b:Nat} {e:TypeId} {z:Nat} {l:List AV} (hb:s.m b=some ⟨e,z,l⟩) (k:Nat):Eb F G w0 {s with m:=s.m.set b ⟨e,z,l.take k⟩} a w:=by
 have hO:∀c,s.m.set b ⟨e,z,l.take k⟩ c≠none→s.m c≠none:=fun c hc=>by
  by_cases hcb:c=b
  ·subst hcb;rw[hb];simp
  ·rwa [Ac.set_other _ _ hcb]at hc
 have hF:∀c,c<w.heap.size→Cy F (s.m.set b ⟨e,z,l.take k⟩) c→Cy F s.m c:=fun c _ hc=>hc.elim .inl fun x=>.inr (hO c x);refine h.world _ (En.refl _ w) (fun c x hx=>?_) (fun c hc=>.inl (hO c hc));by_cases hcb:c=b
 ·subst hcb;rw[Ac.set_same]at hx;cases hx;obtain⟨z0,zs,ones,cells,cap,h1,h2,h3,h4,h5⟩:=h.heap c _ hb;have hcell:∀i j u,A4 (l.take k) i j=some u→A4 l i j=some u:=fun i j u hu=>by
   unfold A4 at hu ⊢;rw[List.getElem?_take]at hu;split at hu
   ·exact hu
   ·simp at hu
  exact⟨z0,fun v hv=>zs v (List.mem_of_mem_take hv),fun i j u hu=>ones i j u (hcell i j u hu),cells,cap,h1,h2,h3,Nat.le_trans (by simp only[List.length_take];exact Nat.min_le_right _ _) h4,fun i j u hu=>by
   obtain⟨v,p1,p2⟩:=h5 i j u (hcell i j u hu);exact⟨v,p1,p2.mono (En.refl (fun _=>False) w) (fun _ _ x=>x.elim) hF⟩⟩
 ·rw[Ac.set_other _ _ hcb]at hx;exact(h.heap c x hx).mono (En.refl (fun _=>False) w) (fun x=>x) (fun _ _ x=>x.elim) hF
theorem AW.shrink {Q:Exit→St→Prop} {c:Code} {n:Nat} {L:List (Nat × AV)} {m:Ac} {b:Nat} {e:TypeId} {z:Nat} {l:List AV} (hb:m b=some ⟨e,z,l⟩) (k:Nat) (h:AW P c Q (Av.S n L (m.set b ⟨e,z,l.take k⟩))):AW P c Q (Av.S n L m):=by
 intro F G w0 a w hr;exact h F G w0 a w (hr.shrink hb k)
@[simp] theorem Qk7 (P:Program) (size bytes m e:Nat) (zero:AV) (fs:List (Nat × Nat × Option Bool)) (b z i j:Nat) (k:IntKind) (n:Int):B0 P ⟨size,bytes,.array m e,zero,fs⟩ (.ptr b z i j) (.int k n)=(Ak P e).bind fun te=>if 0≤n∧n<m then some (.ptr b z i (j+n.toNat*te.size)) else none:=by
 unfold B0
 dsimp only
 cases Ak P e<;>rfl
@[simp] theorem Qj0 (P:Program) (size bytes m e:Nat) (zero:AV) (fs:List (Nat × Nat × Option Bool)) (cs:List AV) (k:IntKind) (n:Int):B0 P ⟨size,bytes,.array m e,zero,fs⟩ (.rptr cs) (.int k n)=(Ak P e).bind fun te=>if 0≤n∧n<m then some (.rptr (cs.drop (n.toNat*te.size))) else none:=by
 unfold B0
 dsimp only
 cases Ak P e<;>rfl
section
variable {cf:D6} {K:St→Prop} {s:St} {d:Option Tmp} {ty:TypeId} {p:String} {a:Array Edge} {g:Option (Nat × Bool)}
@[simp] theorem Qse (t:TypeId) (x m:Operand) (lo hi:Option Operand):E1 P cf ⟨d,.slice t x lo hi (some m),ty,p,a,g⟩ K s↔Dx ((Ak P t).bind fun ti=>Lq P ti (s.ev x) (lo.map s.ev) (hi.map s.ev) (s.ev m)) (Fl K s d):=Iff.rfl
end
@[simp] theorem Qrk (P:Program) (size bytes e:Nat) (zero:AV) (fs:List (Nat × Nat × Option Bool)) (b z i n:Nat) (k k' k'':IntKind) (l h m:Int):Lq P ⟨size,bytes,.slice e,zero,fs⟩ (.osl b z i n) (some (.int k l)) (some (.int k' h)) (.int k'' m) =
  (Ak P e).bind fun _=>if 0≤m∧m≤n then (Es m.toNat (some (.int k l)) (some (.int k' h))).map (fun(q:Nat × Nat)=>if m.toNat=q.1 then .zc else .any) else none:=(rfl)
theorem Vs (P:Program) (size bytes e:Nat) (zero:AV) (fs:List (Nat × Nat × Option Bool)) (b z i n:Nat) (lo hi:Option AV):Hu P ⟨size,bytes,.slice e,zero,fs⟩ (.osl b z i n) lo hi=(Ak P e).bind fun te=>if z=te.size then (Es n lo hi).map fun(q:Nat × Nat)=>if q.1=0 then .osl b z i q.2 else if q.2=q.1 then .sl z [] else .osl b z (i+q.1) (q.2-q.1) else none:=by
 unfold Hu
 dsimp only
 cases Ak P e<;>rfl
end
end Go.Av
end
section
namespace Go.Lam
abbrev Ed:=Nat × Nat
def ins (X:Nat→Bool) (e:Ed):Bool:=X e.1&&X e.2
def spn (L:List Ed) (X:Nat→Bool):Nat:=L.countP (ins X)
def sz (n:Nat) (X:Nat→Bool):Nat:=(List.range n).countP X
def Bf (n:Nat) (L:List Ed):Prop:=∀X,2≤sz n X→spn L X+3≤2*sz n X
def D0 (n:Nat) (L:List Ed) (X:Nat→Bool):Prop:=2≤sz n X∧spn L X+3=2*sz n X
def Dz (n:Nat) (e:Ed):Prop:=e.1<n∧e.2<n∧e.1≠e.2
def uni (X Y:Nat→Bool):Nat→Bool:=fun v=>X v || Y v
def cap (X Y:Nat→Bool):Nat→Bool:=fun v=>X v&&Y v
def Fe (a b:Nat):Nat→Bool:=fun v=>v==a || v==b
theorem We {α:Type} (l:List α) (p q:α→Bool):l.countP (fun a=>p a || q a)+l.countP (fun a=>p a&&q a)=l.countP p+l.countP q:=by
 induction l with
 |nil=>rfl
 |cons a l ih=>simp only[List.countP_cons];cases p a<;>cases q a<;>simp<;>omega
theorem Qfe (n:Nat) (X Y:Nat→Bool):sz n (uni X Y)+sz n (cap X Y)=sz n X+sz n Y:=We _ X Y
theorem countP_le {α:Type} {l:List α} {p q:α→Bool} (h:∀a∈l,p a=true→q a=true):l.countP p≤l.countP q:=List.countP_mono_left h
theorem Qqf (L:List Ed) (X Y:Nat→Bool):spn L X+spn L Y≤spn L (uni X Y)+spn L (cap X Y):=by
 have h:=We L (ins X) (ins Y);have h1:L.countP (fun a=>ins X a || ins Y a)≤spn L (uni X Y):=countP_le (fun e _=>by simp only[ins,uni];cases X e.1<;>cases X e.2<;>cases Y e.1<;>cases Y e.2<;>simp)
 have h2:L.countP (fun a=>ins X a&&ins Y a)≤spn L (cap X Y):=countP_le (fun e _=>by simp only[ins,cap];cases X e.1<;>cases X e.2<;>cases Y e.1<;>cases Y e.2<;>simp)
 unfold spn at *;omega
theorem Qjy {n:Nat} {L:List Ed} (hs:Bf n L) {X Y:Nat→Bool} (hx:D0 n L X) (hy:D0 n L Y) (hc:2≤sz n (cap X Y)):D0 n L (uni X Y)∧D0 n L (cap X Y):=by
 have h1:=Qfe n X Y;have h2:=Qqf L X Y;have h3:=hs _ hc;obtain⟨a1,a2⟩:=hx;obtain⟨b1,b2⟩:=hy;have hu:2≤sz n (uni X Y):=by
  have:sz n X≤sz n (uni X Y):=countP_le (fun v _ h=>by simp[uni,h]);omega
 have h4:=hs _ hu;exact⟨⟨hu,by omega⟩,⟨hc,by omega⟩⟩
theorem Qpc (n:Nat) (X:Nat→Bool):sz n X≤n:=by
 have:=List.countP_le_length (p:=X) (l:=List.range n);simpa[sz]using this
theorem X7 {n:Nat} {X Y:Nat→Bool} (h:∀v,v<n→X v=true→Y v=true):sz n X≤sz n Y:=countP_le (fun v hv=>h v (List.mem_range.1 hv))
theorem Y6 {n:Nat} {X Y:Nat→Bool} (h:∀v,v<n→X v=Y v):sz n X=sz n Y:=List.countP_congr (fun v hv=>by rw[h v (List.mem_range.1 hv)])
theorem V0 {n:Nat} {L:List Ed} (hL:∀e∈L,Dz n e) {X Y:Nat→Bool} (h:∀v,v<n→X v=Y v):spn L X=spn L Y:=List.countP_congr (fun e he=>by
 obtain⟨h1,h2,_⟩:=hL e he;simp only[ins];rw[h _ h1,h _ h2])
theorem Qif {n v:Nat} {X:Nat→Bool} (hv:v<n) (h:X v=true):1≤sz n X:=List.countP_pos_iff.2 ⟨v,List.mem_range.2 hv,h⟩
theorem Qbf (n v:Nat):(List.range n).count v=if v<n then 1 else 0:=by
 split
 ·rename_i h
  exact List.nodup_range.count (a:=v) |>.trans (by simp[h])
 ·rename_i h
  exact List.count_eq_zero.2 (by simpa using h)
theorem Mp (n a:Nat) (ha:a<n):sz n (fun v=>v==a)=1:=by
 have:=Qbf n a;rw[if_pos ha]at this;exact this
theorem Qfj {n a b:Nat} (ha:a<n) (hb:b<n) (h:a≠b):sz n (Fe a b)=2:=by
 have h1:=Qfe n (fun v=>v==a) (fun v=>v==b);rw[Mp n a ha,Mp n b hb]at h1;have:sz n (cap (fun v=>v==a) (fun v=>v==b))=0:=by
  refine List.countP_eq_zero.2 fun v _=>?_;simp only[cap,Bool.and_eq_true,beq_iff_eq];rintro⟨rfl,h'⟩;exact h h'
 rw[this]at h1;exact h1
theorem Yh {n a b:Nat} {X:Nat→Bool} (ha:a<n) (hb:b<n) (h:a≠b) (h1:X a=true) (h2:X b=true):2≤sz n X:=by
 rw[←Qfj ha hb h];refine X7 fun v _ hv=>?_;simp only[Fe,Bool.or_eq_true,beq_iff_eq]at hv;rcases hv with rfl | rfl<;>assumption
theorem Qgu {n a b:Nat} {X:Nat→Bool} (h:sz n X≤1) (ha:a<n) (hb:b<n) (h1:X a=true) (h2:X b=true):a=b:=by
 rcases Nat.decEq a b with h'|h'
 ·have:=Yh ha hb h' h1 h2;omega
 ·exact h'
theorem Sh {n:Nat} {L:List Ed} (hL:∀e∈L,Dz n e) {X:Nat→Bool} (h:sz n X≤1):spn L X=0:=by
 refine List.countP_eq_zero.2 fun e he hx=>?_;obtain⟨h1,h2,h3⟩:=hL e he;simp only[ins,Bool.and_eq_true]at hx;exact h3 (Qgu h h1 h2 hx.1 hx.2)
theorem Tk (e:Ed) (L:List Ed) (X:Nat→Bool):spn (e::L) X=spn L X+if ins X e=true then 1 else 0:=List.countP_cons
theorem J5 (L M:List Ed) (X:Nat→Bool):spn (L++M) X=spn L X+spn M X:=List.countP_append
theorem Qiz {L M:List Ed} (h:L.Perm M) (X:Nat→Bool):spn L X=spn M X:=h.countP_eq _
theorem Bf.perm {n:Nat} {L M:List Ed} (h:L.Perm M) (hs:Bf n L):Bf n M:=fun X hX=>by rw[←Qiz h];exact hs X hX
theorem Bf.sub {n:Nat} {L M:List Ed} (h:∀X,spn L X≤spn M X) (hs:Bf n M):Bf n L:=fun X hX=>by
 have:=h X;have:=hs X hX;omega
theorem Tg {n:Nat} {L:List Ed} (hs:Bf n L) (e:Ed):Bf n (L++[e])↔∀X,D0 n L X→ins X e=false:=by
 constructor
 ·intro h X hX;cases hi:ins X e with
  |false=>rfl
  |true =>
   have h1:=h X hX.1;rw[J5,Tk,hi]at h1;simp[spn]at h1;have:=hX.2;unfold spn at this;omega
 ·intro h X hX;rw[J5,Tk];have h1:=hs X hX;cases hi:ins X e with
  |false=>simp[spn]at *;omega
  |true =>
   have:spn L X+3≠2*sz n X:=fun e'=>by rw[h X ⟨hX,e'⟩]at hi;cases hi
   simp[spn]at *;omega
end Go.Lam
end
section
namespace Go.Lam
def sm (n:Nat) (f:Nat→Nat):Nat:=((List.range n).map f).sum
theorem Mb (n:Nat) (f:Nat→Nat):sm (n+1) f=sm n f+f n:=by simp[sm,List.range_succ]
theorem Wn {n:Nat} {f g:Nat→Nat} (h:∀v,v<n→f v≤g v):sm n f≤sm n g:=by
 induction n with
 |zero=>simp[sm]
 |succ n ih=>rw[Mb,Mb];have:=ih (fun v hv=>h v (by omega));have:=h n (by omega);omega
theorem Ij {n:Nat} {f g:Nat→Nat} (h:∀v,v<n→f v=g v):sm n f=sm n g :=
 Nat.le_antisymm (Wn fun v hv=>Nat.le_of_eq (h v hv)) (Wn fun v hv=>Nat.le_of_eq (h v hv).symm)
theorem Kn (n:Nat) (f g:Nat→Nat):sm n (fun v=>f v+g v)=sm n f+sm n g:=by
 induction n with
 |zero=>rfl
 |succ n ih=>simp only[Mb];omega
theorem Qd5 (n:Nat) (X:Nat→Bool):sm n (fun v=>if X v=true then 2 else 0)=2*sz n X:=by
 induction n with
 |zero=>rfl
 |succ n ih=>rw[Mb,ih];simp only[sz,List.range_succ,List.countP_append,List.countP_cons,List.countP_nil];split<;>omega
theorem Ob {n a:Nat} (ha:a<n) (c:Nat):sm n (fun v=>if v=a then c else 0)=c:=by
 induction n with
 |zero=>omega
 |succ n ih =>
  rw[Mb];by_cases h:n=a
  ·subst h;have:sm n (fun v=>if v=n then c else 0)=0:=by
    have:=Ij (n:=n) (f:=fun v=>if v=n then c else 0) (g:=fun _=>0) (fun v hv=>by simp;omega);rw[this];clear this;clear ha ih;induction n with
    |zero=>rfl
    |succ n ih=>rw[Mb,ih]
   simp[this]
  ·rw[ih (by omega)];simp[h]
structure Inv (n:Nat) (E:Nat→Ed) (A:List Nat) (fr:Nat→Nat) (cv:Nat→List Nat):Prop where
 two:∀v,v<n→fr v+(cv v).length=2
 perm:((List.range n).flatMap cv).Perm A
 ends:∀v,v<n→∀e∈cv v,(E e).1=v∨(E e).2=v
 ok:∀e∈A,Dz n (E e)
def Uy (n:Nat) (fr:Nat→Nat) (X:Nat→Bool):Nat:=sm n fun v=>if X v=true then fr v else 0
section
variable {n:Nat} {E:Nat→Ed} {A:List Nat} {fr:Nat→Nat} {cv:Nat→List Nat}
theorem Inv.mem (h:Inv n E A fr cv) {v e:Nat} (hv:v<n) (he:e∈cv v):e∈A:=h.perm.mem_iff.1 (List.mem_flatMap.2 ⟨v,List.mem_range.2 hv,he⟩)
theorem Inv.okAt (h:Inv n E A fr cv) {v e:Nat} (hv:v<n) (he:e∈cv v):Dz n (E e):=h.ok e (h.mem hv he)
def Gj (E:Nat→Ed) (e j:Nat):Nat:=(E e).1+(E e).2-j
theorem Inv.oth_lt (h:Inv n E A fr cv) {v e:Nat} (hv:v<n) (he:e∈cv v):Gj E e v<n∧Gj E e v≠v:=by
 obtain⟨h1,h2,h3⟩:=h.okAt hv he;unfold Gj;rcases h.ends v hv e he with h4|h4<;>omega
theorem Inv.ins_iff (h:Inv n E A fr cv) {v e:Nat} (hv:v<n) (he:e∈cv v) (X:Nat→Bool):ins X (E e)=(X v&&X (Gj E e v)):=by
 obtain⟨h1,h2,h3⟩:=h.okAt hv he;unfold Gj ins;rcases h.ends v hv e he with h4|h4
 ·rw[show(E e).1+(E e).2-v=(E e).2 by omega,h4]
 ·rw[show(E e).1+(E e).2-v=(E e).1 by omega,h4,Bool.and_comm]
theorem Inv.spn (h:Inv n E A fr cv) (X:Nat→Bool):spn (A.map E) X=sm n fun v=>(cv v).countP fun e=>ins X (E e):=by
 have e1:Lam.spn (A.map E) X=A.countP fun e=>ins X (E e):=by simp[Lam.spn,List.countP_map,Function.comp_def]
 rw[e1,←h.perm.countP_eq,List.countP_flatMap];rfl
theorem Inv.le (h:Inv n E A fr cv) (X:Nat→Bool):Lam.spn (A.map E) X+Uy n fr X≤2*sz n X:=by
 rw[h.spn,Uy,←Kn,←Qd5];refine Wn fun v hv=>?_;have h2:=h.two v hv;have hl:=List.countP_le_length (p:=fun e=>ins X (E e)) (l:=cv v);cases hx:X v with
 |true=>simp;omega
 |false =>
  have:(cv v).countP (fun e=>ins X (E e))=0:=List.countP_eq_zero.2 fun e he=>by rw[h.ins_iff hv he,hx];simp
  simp[this]
def Qgw (n:Nat) (E:Nat→Ed) (cv:Nat→List Nat) (X:Nat→Bool):Prop:=∀v,v<n→X v=true→∀e∈cv v,X (Gj E e v)=true
theorem Inv.eq (h:Inv n E A fr cv) {X:Nat→Bool} (hs:Qgw n E cv X):Lam.spn (A.map E) X+Uy n fr X=2*sz n X:=by
 rw[h.spn,Uy,←Kn,←Qd5];refine Ij fun v hv=>?_;have h2:=h.two v hv;cases hx:X v with
 |true =>
  have:(cv v).countP (fun e=>ins X (E e))=(cv v).length:=List.countP_eq_length.2 fun e he=>by rw[h.ins_iff hv he,hx,hs v hv hx e he];rfl
  simp[this];omega
 |false =>
  have:(cv v).countP (fun e=>ins X (E e))=0:=List.countP_eq_zero.2 fun e he=>by rw[h.ins_iff hv he,hx];simp
  simp[this]
theorem Inv.shut (h:Inv n E A fr cv) {X:Nat→Bool} (he:2*sz n X≤Lam.spn (A.map E) X+Uy n fr X):Qgw n E cv X:=by
 intro v hv hx e hm;rcases Bool.eq_false_or_eq_true (X (Gj E e v))with h1 | h1
 ·exact h1
 ·exfalso
  have key:∀w,w<n→((cv w).countP fun e=>ins X (E e))+(if X w=true then fr w else 0)≤if X w=true then 2 else 0:=by
   intro w hw;have h2:=h.two w hw;have hl:=List.countP_le_length (p:=fun e=>ins X (E e)) (l:=cv w);cases hx:X w with
   |true=>simp;omega
   |false =>
    have:(cv w).countP (fun e=>ins X (E e))=0:=List.countP_eq_zero.2 fun e he=>by rw[h.ins_iff hw he,hx];simp
    simp[this]
  have strict:sm n (fun w=>((cv w).countP fun e=>ins X (E e))+(if X w=true then fr w else 0))+1≤sm n fun w=>if X w=true then 2 else 0:=by
   rw[←Ob hv 1,←Kn];refine Wn fun w hw=>?_;by_cases hwv:w=v
   ·subst hwv;have h2:=h.two w hw;have:(cv w).countP (fun e=>ins X (E e))<(cv w).length:=by
     rcases Nat.lt_or_ge ((cv w).countP fun e=>ins X (E e)) (cv w).length with h3 | h3
     ·exact h3
     ·have:=List.countP_eq_length.1 (Nat.le_antisymm List.countP_le_length h3) e hm;rw[h.ins_iff hw hm,h1]at this;simp at this
    simp[hx];omega
   ·simp only[hwv,if_false];exact key w hw
  rw[Qd5,Kn,←h.spn]at strict;unfold Uy at he;omega
theorem Qj6 {X Y:Nat→Bool} (h:∀v,v<n→X v=true→Y v=true):Uy n fr X≤Uy n fr Y:=Wn fun v hv=>by
 cases hx:X v with
 |true=>simp[h v hv hx]
 |false=>simp
theorem O1 {a b:Nat} (ha:a<n) (hb:b<n) (hab:a≠b):Uy n fr (Fe a b)=fr a+fr b:=by
 rw[←Ob ha (fr a),←Ob hb (fr b),←Kn];refine Ij fun v _=>?_;simp only[Fe,Bool.or_eq_true,beq_iff_eq];by_cases h1:v=a
 ·subst h1;simp[hab]
 ·by_cases h2:v=b
  ·subst h2;simp[h1]
  ·simp[h1,h2]
theorem Sx {a:Nat} (ha:a<n):Uy n fr (fun v=>v==a)=fr a:=by
 rw[←Ob ha (fr a)];exact Ij fun v _=>by by_cases h:v=a<;>simp[h]
theorem Qbp {X Y:Nat→Bool} (h:∀v,v<n→X v=true→Y v=false→fr v=0) (hy:∀v,v<n→Y v=true→X v=true):Uy n fr X=Uy n fr Y:=Ij fun v hv=>by
 cases hx:X v with
 |true=>cases hyv:Y v with
  |true=>rfl
  |false=>simp[h v hv hx hyv]
 |false=>cases hyv:Y v with
  |true=>rw[hy v hv hyv]at hx;cases hx
  |false=>rfl
theorem Inv.first (h:Inv n E A fr cv) (hs:Bf n (A.map E)) {a:Nat} (ha:a<n) {X:Nat→Bool} (hX:Qgw n E cv X) (hXa:X a=true) (hz:∀v,v<n→X v=true→v≠a→fr v=0):2≤fr a:=by
 have e1:=h.eq hX;have e2:Uy n fr X=fr a:=by
  rw[←Sx (n:=n) (fr:=fr) ha];exact Qbp (fun v hv hx hy=>hz v hv hx (by simpa using hy)) (fun v _ hv=>by simp at hv;rw[hv];exact hXa)
 rcases Nat.lt_or_ge (sz n X) 2 with h1|h1
 ·have h0:Lam.spn (A.map E) X=0:=Sh (n:=n) (fun e he=>by
   obtain⟨k,hk,rfl⟩:=List.mem_map.1 he;exact h.ok k hk) (by omega)
  have:=Qif ha hXa;omega
 ·have:=hs X h1;omega
theorem Inv.second (h:Inv n E A fr cv) (hs:Bf n (A.map E)) {a b:Nat} (ha:a<n) (hb:b<n) (hab:a≠b) (h2:fr a=2) {X:Nat→Bool} (hX:Qgw n E cv X) (hXa:X a=true) (hXb:X b=true)
  (hz:∀v,v<n→X v=true→v≠a→v≠b→fr v=0) (hlt:fr b<2):fr b=1∧D0 n (A.map E) X:=by
 have e1:=h.eq hX;have e2:Uy n fr X=fr a+fr b:=by
  rw[←O1 (n:=n) (fr:=fr) ha hb hab];refine Qbp (fun v hv hx hy=>?_) (fun v _ hv=>?_)
  ·simp only[Fe,Bool.or_eq_false_iff,beq_eq_false_iff_ne]at hy;exact hz v hv hx hy.1 hy.2
  ·simp only[Fe,Bool.or_eq_true,beq_iff_eq]at hv;rcases hv with rfl | rfl<;>assumption
 have h3:=Yh ha hb hab hXa hXb;have:=hs X h3;exact⟨by omega,h3,by omega⟩
theorem Inv.four (h:Inv n E A fr cv) {a b:Nat} (ha:a<n) (hb:b<n) (hab:a≠b) (h4:fr a+fr b=4) (X:Nat→Bool) (hXa:X a=true) (hXb:X b=true):¬D0 n (A.map E) X:=by
 intro ht;have e1:=h.le X;have e2:Uy n fr (Fe a b)≤Uy n fr X:=Qj6 fun v _ hv=>by
  simp only[Fe,Bool.or_eq_true,beq_iff_eq]at hv;rcases hv with rfl | rfl<;>assumption
 rw[O1 ha hb hab]at e2;have:=ht.2;omega
end
end Go.Lam
end
section
namespace Go.Lam
def Cm (m:Nat):Nat→Bool:=fun v=>m.testBit v
theorem K6 (n:Nat) (X:Nat→Bool):∃m,m<2^n∧∀v,v<n→Cm m v=X v:=by
 induction n with
 |zero=>exact⟨0,by simp,fun v hv=>by omega⟩
 |succ n ih =>
  obtain⟨m,h1,h2⟩:=ih;cases hx:X n with
  |false =>
   refine⟨m,by rw[Nat.pow_succ];omega,fun v hv=>?_⟩;by_cases hvn:v=n
   ·subst hvn;rw[hx];exact Nat.testBit_lt_two_pow h1
   ·exact h2 v (by omega)
  |true =>
   refine⟨2^n+m,by rw[Nat.pow_succ];omega,fun v hv=>?_⟩;unfold Cm;by_cases hvn:v=n
   ·subst hvn;rw[hx,Nat.testBit_two_pow_add_eq,Nat.testBit_lt_two_pow h1];rfl
   ·rw[Nat.testBit_two_pow_add_gt (by omega)];exact h2 v (by omega)
def My (n:Nat) (L:List Ed):Bool:=(List.range (2^n)).all fun m=>!(decide (2≤sz n (Cm m))&&decide (2*sz n (Cm m)<spn L (Cm m)+3))
theorem H3 {n:Nat} {L:List Ed} (hL:∀e∈L,Dz n e):My n L=true↔Bf n L:=by
 unfold My;rw[List.all_eq_true];constructor
 ·intro h X hX;obtain⟨m,h1,h2⟩:=K6 n X;have h3:=h m (List.mem_range.2 h1);rw[Y6 h2,V0 hL h2]at h3;simp only[Bool.not_eq_true',Bool.and_eq_false_iff,decide_eq_false_iff_not]at h3;omega
 ·intro h m _;simp only[Bool.not_eq_true',Bool.and_eq_false_iff,decide_eq_false_iff_not];have:=h (Cm m);omega
def Jm (n:Nat) (E:Nat→Ed) (out:List Nat) (e:Nat):List Nat:=if My n ((out++[e]).map E)=true then out++[e] else out
def B6 (n:Nat) (E:Nat→Ed) (out s:List Nat):List Nat:=s.foldl (Jm n E) out
theorem Bf.nil (n:Nat):Bf n []:=fun X hX=>by simp[spn];omega
theorem Bf.append_left {n:Nat} {L M:List Ed} (h:Bf n (L++M)):Bf n L:=h.sub fun X=>by rw[J5];omega
theorem Bf.sublist {n:Nat} {L M:List Ed} (h:L.Sublist M) (hs:Bf n M):Bf n L:=hs.sub fun _=>h.countP_le
section
variable {n:Nat} {E:Nat→Ed}
theorem Qa5 {out:List Nat} {e:Nat} (ho:∀k∈out,Dz n (E k)) (he:Dz n (E e)) (hs:Bf n (out.map E)):Bf n ((Jm n E out e).map E):=by
 unfold Jm;split
 ·rename_i h
  exact(H3 (by simp only[List.mem_map,List.mem_append,List.mem_singleton];rintro _ ⟨k,hk | rfl,rfl⟩;exact ho k hk;exact he)).1 h
 ·exact hs
theorem Qar {out:List Nat} {e k:Nat} (h:k∈Jm n E out e):k∈out∨k=e:=by
 unfold Jm at h;split at h
 ·simpa using h
 ·exact .inl h
theorem Qu (out:List Nat) (e:Nat) (s:List Nat):B6 n E out (e::s)=B6 n E (Jm n E out e) s:=rfl
theorem U2 (out s t:List Nat):B6 n E out (s++t)=B6 n E (B6 n E out s) t:=by simp[B6]
theorem N3 {k:Nat}:∀{s out:List Nat},k∈B6 n E out s→k∈out∨k∈s
 |[],_,h=>.inl h
 |e::s,out,h=>by
  rcases N3 (s:=s) h with h1|h1
  ·rcases Qar h1 with h2|h2
   ·exact .inl h2
   ·exact .inr (by simp[h2])
  ·exact .inr (by simp[h1])
theorem G2:∀{s out:List Nat},(∀k∈out,Dz n (E k))→(∀k∈s,Dz n (E k))→Bf n (out.map E)→Bf n ((B6 n E out s).map E)
 |[],_,_,_,h=>h
 |e::s,out,ho,hs,h=>G2 (s:=s) (fun k hk=>by
   rcases Qar hk with h2|h2
   ·exact ho k h2
   ·rw[h2];exact hs e (by simp)) (fun k hk=>hs k (by simp[hk])) (Qa5 ho (hs e (by simp)) h)
theorem Nl:∀(s out:List Nat),∃t,t.Sublist s∧B6 n E out s=out++t
 |[],out=>⟨[],.slnil,by simp[B6]⟩
 |e::s,out=>by
  obtain⟨t,h1,h2⟩:=Nl s (Jm n E out e);rw[Qu,h2];unfold Jm;split
  ·exact⟨e::t,h1.cons₂ e,by simp⟩
  ·exact⟨t,h1.cons e,rfl⟩
theorem Ss:∀{s out:List Nat},(∀k∈out,Dz n (E k))→(∀k∈s,Dz n (E k))→Bf n ((out++s).map E)→B6 n E out s=out++s
 |[],out,_,_,_=>by simp[B6]
 |e::s,out,ho,hs,h=>by
  have h1:Jm n E out e=out++[e]:=by
   unfold Jm;rw[if_pos];refine(H3 ?_).2 ?_
   ·simp only[List.mem_map,List.mem_append,List.mem_singleton];rintro _ ⟨k,hk | rfl,rfl⟩;exact ho k hk;exact hs _ (by simp)
   ·have:(out++e::s).map E=(out++[e]).map E++s.map E:=by simp
    rw[this]at h;exact h.append_left
  rw[Qu,h1,Ss (s:=s)]
  ·simp
  ·intro k hk;simp only[List.mem_append,List.mem_singleton]at hk;rcases hk with hk | rfl
   ·exact ho k hk
   ·exact hs _ (by simp)
  ·exact fun k hk=>hs k (by simp[hk])
  ·simpa using h
theorem Gq (s out:List Nat):(B6 n E out s).length≤out.length+s.length:=by
 obtain⟨t,h1,h2⟩:=Nl (n:=n) (E:=E) s out;rw[h2,List.length_append];have:=h1.length_le;omega
theorem Y2 {s:List Nat} (hs:∀k∈s,Dz n (E k)):(B6 n E [] s).length=s.length↔My n (s.map E)=true:=by
 have hL:∀e∈s.map E,Dz n e:=by simp only[List.mem_map];rintro _ ⟨k,hk,rfl⟩;exact hs k hk
 constructor
 ·intro h;obtain⟨t,h1,h2⟩:=Nl (n:=n) (E:=E) s [];rw[h2]at h;have h3:t=s:=h1.eq_of_length (by simpa using h);have h4:=G2 (n:=n) (E:=E) (s:=s) (out:=[]) (by simp) hs (Bf.nil n);rw[h2,h3]at h4;exact(H3 hL).2 (by simpa using h4)
 ·intro h;rw[Ss (by simp) hs (by simpa using(H3 hL).1 h)];simp
end
end Go.Lam
end
section
namespace Go.Lam
def Qdb (n:Nat) (L:List Ed) (m:Nat):Bool:=decide (2≤sz n (Cm m))&&decide (spn L (Cm m)+3=2*sz n (Cm m))
theorem Qc0 {n:Nat} {L:List Ed} {m:Nat}:Qdb n L m=true↔D0 n L (Cm m):=by simp[Qdb,D0]
def Ll (n:Nat) (L:List Ed):List Nat:=(List.range (2^n)).filter (Qdb n L)
def blocks (n:Nat) (L:List Ed):List Nat:=(Ll n L).filter fun m=>(Ll n L).all fun k=>k==m || k &&& m != m
theorem D0.congr {n:Nat} {L:List Ed} (hL:∀e∈L,Dz n e) {X Y:Nat→Bool} (h:∀v,v<n→X v=Y v) (ht:D0 n L X):D0 n L Y:=by
 unfold D0 at *;rw[←Y6 h,←V0 hL h];exact ht
theorem Qjv {m k:Nat}:k &&& m=m↔∀v,Cm m v=true→Cm k v=true:=by
 constructor
 ·intro h v hv;rw[←h]at hv;unfold Cm at *;rw[Nat.testBit_and]at hv;simp at hv;exact hv.1
 ·intro h;refine Nat.eq_of_testBit_eq fun v=>?_;rw[Nat.testBit_and];have:=h v;unfold Cm at this;cases h1:m.testBit v<;>cases h2:k.testBit v<;>simp_all
theorem Qme {n m:Nat} (h:m<2^n) {v:Nat} (hv:Cm m v=true):v<n:=by
 rcases Nat.lt_or_ge v n with h1|h1
 ·exact h1
 ·unfold Cm at hv;rw[Nat.testBit_lt_two_pow (Nat.lt_of_lt_of_le h (Nat.pow_le_pow_right (by omega) h1))]at hv;cases hv
theorem Ut {n m k:Nat} (hm:m<2^n) (hk:k<2^n) (h:∀v,v<n→Cm m v=Cm k v):m=k:=Nat.eq_of_testBit_eq fun v=>by
 rcases Nat.lt_or_ge v n with h1|h1
 ·exact h v h1
 ·rw[Nat.testBit_lt_two_pow (Nat.lt_of_lt_of_le hm (Nat.pow_le_pow_right (by omega) h1)),Nat.testBit_lt_two_pow (Nat.lt_of_lt_of_le hk (Nat.pow_le_pow_right (by omega) h1))]
theorem Qcz (m k:Nat):Cm (m ||| k)=uni (Cm m) (Cm k):=by funext v;simp[Cm,uni,Nat.testBit_or]
section
variable {n:Nat} {L:List Ed}
theorem Ch {m:Nat}:m∈Ll n L↔m<2^n∧D0 n L (Cm m):=by simp[Ll,Qc0]
theorem Dj {m:Nat}:m∈blocks n L↔m∈Ll n L∧∀k∈Ll n L,(∀v,Cm m v=true→Cm k v=true)→k=m:=by
 unfold blocks;rw[List.mem_filter,List.all_eq_true];refine and_congr_right fun _=>forall_congr' fun k=>forall_congr' fun _=>?_;rw[←Qjv];by_cases h1:k=m
 ·simp[h1]
 ·by_cases h2:k &&& m=m<;>simp[h1,h2]
theorem Ji (hL:∀e∈L,Dz n e) {X:Nat→Bool} (h:D0 n L X):∃m∈blocks n L,∀v,v<n→X v=true→Cm m v=true:=by
 suffices H:∀d,∀X,n≤sz n X+d→D0 n L X→∃m∈blocks n L,∀v,v<n→X v=true→Cm m v=true from H n X (by omega) h
 intro d
 induction d with
 |zero =>
  intro X hd hX;obtain⟨m,h1,h2⟩:=K6 n X;have ht:D0 n L (Cm m):=hX.congr hL fun v hv=>(h2 v hv).symm;refine⟨m,Dj.2 ⟨Ch.2 ⟨h1,ht⟩,fun k hk hs=>?_⟩,fun v hv hx=>by rw[h2 v hv];exact hx⟩;have full:∀v,v<n→X v=true:=fun v hv=>by
   rcases Bool.eq_false_or_eq_true (X v)with h3|h3
   ·exact h3
   ·have a1:=Qfe n X (fun w=>w==v);rw[Mp n v hv]at a1;have a2:sz n (cap X fun w=>w==v)=0:=List.countP_eq_zero.2 fun w _=>by
     simp only[cap,Bool.and_eq_true,beq_iff_eq];rintro⟨h4,rfl⟩;rw[h3]at h4;cases h4
    have:=Qpc n (uni X fun w=>w==v);omega
  exact Ut (Ch.1 hk).1 h1 fun v hv=>by
   have:=hs v (by rw[h2 v hv];exact full v hv);rw[this,h2 v hv,full v hv]
 |succ d ih =>
  intro X hd hX;obtain⟨m,h1,h2⟩:=K6 n X;have ht:D0 n L (Cm m):=hX.congr hL fun v hv=>(h2 v hv).symm;by_cases hm:m∈blocks n L
  ·exact⟨m,hm,fun v hv hx=>by rw[h2 v hv];exact hx⟩
  ·rw[Dj]at hm;have hm':¬∀k∈Ll n L,(∀v,Cm m v=true→Cm k v=true)→k=m:=fun hc=>hm ⟨Ch.2 ⟨h1,ht⟩,hc⟩;have ⟨k,hk⟩:=Classical.not_forall.1 hm';have ⟨hk1,hk2⟩:=Classical.not_imp.1 hk;have ⟨hk3,hk4⟩:=Classical.not_imp.1 hk2;obtain⟨hk5,hk6⟩:=Ch.1 hk1;have hlt:sz n X<sz n (Cm k):=by
    have a1:sz n X≤sz n (Cm k):=X7 fun v hv hx=>hk3 v (by rw[h2 v hv];exact hx);rcases Nat.lt_or_ge (sz n X) (sz n (Cm k))with h3 | h3
    ·exact h3
    ·exfalso
     refine hk4 (Ut hk5 h1 fun v hv=>?_);rw[h2 v hv];cases hb:Cm k v with
     |false =>
      cases hx:X v with
      |false=>rfl
      |true=>rw[hk3 v (by rw[h2 v hv];exact hx)]at hb;cases hb
     |true =>
      cases hx:X v with
      |true=>rfl
      |false =>
       have b1:=Qfe n X (fun w=>w==v);rw[Mp n v hv]at b1;have b2:sz n (cap X fun w=>w==v)=0:=List.countP_eq_zero.2 fun w _=>by
        simp only[cap,Bool.and_eq_true,beq_iff_eq];rintro⟨h4,rfl⟩;rw[hx]at h4;cases h4
       have b3:sz n (uni X fun w=>w==v)≤sz n (Cm k):=X7 fun w hw h5=>by
        simp only[uni,Bool.or_eq_true,beq_iff_eq]at h5;rcases h5 with h5 | rfl
        ·exact hk3 w (by rw[h2 w hw];exact h5)
        ·exact hb
       omega
   obtain⟨m',h3,h4⟩:=ih (Cm k) (by omega) hk6;exact⟨m',h3,fun v hv hx=>h4 v hv (hk3 v (by rw[h2 v hv];exact hx))⟩
theorem Ol (hs:Bf n L) {m k:Nat} (hm:m∈blocks n L) (hk:k∈blocks n L) (h:2≤sz n (cap (Cm m) (Cm k))):m=k:=by
 obtain⟨hm1,hm2⟩:=Dj.1 hm;obtain⟨hk1,hk2⟩:=Dj.1 hk;have hu:=(Qjy hs (Ch.1 hm1).2 (Ch.1 hk1).2 h).1;rw[←Qcz]at hu;have hlt:m ||| k<2^n:=Nat.or_lt_two_pow (Ch.1 hm1).1 (Ch.1 hk1).1;have e1:=hm2 _ (Ch.2 ⟨hlt,hu⟩) (fun v hv=>by rw[Qcz];simp[uni,hv]);have e2:=hk2 _ (Ch.2 ⟨hlt,hu⟩) (fun v hv=>by rw[Qcz];simp[uni,hv]);exact e1.symm.trans e2
theorem Hp:(blocks n L).Nodup:=(List.nodup_range.filter _).filter _
theorem Kd (hL:∀e∈L,Dz n e) (hs:Bf n L) {e:Ed} (he:e∈L):D0 n L (Fe e.1 e.2):=by
 obtain⟨h1,h2,h3⟩:=hL e he;have h4:sz n (Fe e.1 e.2)=2:=Qfj h1 h2 h3;refine⟨by omega,?_⟩;have:=hs _ (Nat.le_of_eq h4.symm);have h5:0<spn L (Fe e.1 e.2):=List.countP_pos_iff.2 ⟨e,he,by simp[ins,Fe]⟩;omega
theorem S1 {α β:Type} (p:α→β→Bool) (J:List β):∀l:List α,(l.map fun m=>J.countP (p m)).sum=(J.map fun e=>l.countP fun m=>p m e).sum
 |[]=>by
  simp only[List.map_nil,List.sum_nil,List.countP_nil]
  induction J with
  |nil=>rfl
  |cons a J ih=>rw[List.map_cons,List.sum_cons,←ih];rfl
 |a::l=>by
  rw[List.map_cons,List.sum_cons,S1 p J l]
  induction J with
  |nil=>rfl
  |cons b J ih=>simp only[List.countP_cons,List.map_cons,List.sum_cons]at *;omega
theorem Mz {α:Type} {p:α→Bool}:∀{l:List α},l.Nodup→(∀a∈l,∀b∈l,p a=true→p b=true→a=b)→l.countP p≤1
 |[],_,_=>by simp
 |a::l,hn,h=>by
  rw[List.nodup_cons]at hn;rw[List.countP_cons];cases hp:p a with
  |false=>simp;exact Mz hn.2 fun x hx y hy=>h x (by simp[hx]) y (by simp[hy])
  |true =>
   have:l.countP p=0:=List.countP_eq_zero.2 fun b hb hpb=>hn.1 (by rw[h a (by simp) b (by simp[hb]) hp hpb];exact hb);simp[this]
theorem Kj {α:Type} {f g:α→Nat}:∀{l:List α},(∀a∈l,f a≤g a)→(l.map f).sum≤(l.map g).sum
 |[],_=>by simp
 |a::l,h=>by
  have:=h a (by simp);have:=Kj (l:=l) fun b hb=>h b (by simp[hb]);simp;omega
theorem R5 {α:Type}:∀l:List α,(l.map fun _=>1).sum=l.length
 |[]=>rfl
 |a::l=>by rw[List.map_cons,List.sum_cons,R5 l,List.length_cons];omega
theorem Qhh (hs:Bf n L) {e:Ed} (he:Dz n e):(blocks n L).countP (fun m=>ins (Cm m) e)≤1 :=
 Mz Hp fun m hm k hk h1 h2=>by
  simp only[ins,Bool.and_eq_true]at h1 h2;exact Ol hs hm hk (Yh he.1 he.2.1 he.2.2 (by simp only[cap];rw[h1.1,h2.1];rfl) (by simp only[cap];rw[h1.2,h2.2];rfl))
theorem Tb (hL:∀e∈L,Dz n e) (hs:Bf n L):((blocks n L).map fun m=>2*sz n (Cm m)-3).sum=L.length:=by
 have e1:((blocks n L).map fun m=>2*sz n (Cm m)-3)=(blocks n L).map fun m=>L.countP (ins (Cm m)):=List.map_congr_left fun m hm=>by
  have:=(Ch.1 (Dj.1 hm).1).2.2;unfold spn at this;omega
 rw[e1,S1 (fun m e=>ins (Cm m) e) L,←R5 L]
 congr 1
 refine List.map_congr_left fun e he=>Nat.le_antisymm (Qhh hs (hL e he)) ?_;obtain⟨m,h1,h2⟩:=Ji hL (Kd hL hs he);refine List.countP_pos_iff.2 ⟨m,h1,?_⟩;obtain⟨h3,h4,_⟩:=hL e he;simp only[ins,Bool.and_eq_true];exact⟨h2 _ h3 (by simp[Fe]),h2 _ h4 (by simp[Fe])⟩
theorem Qv2 (hL:∀e∈L,Dz n e) (hs:Bf n L) {J:List Ed} (hJ:∀e∈J,Dz n e) (hj:Bf n J) (h:∀e∈J,∃X,D0 n L X∧ins X e=true):J.length≤L.length:=by
 rw[←Tb hL hs,←R5 J];refine Nat.le_trans (Kj (g:=fun e=>(blocks n L).countP fun m=>ins (Cm m) e) fun e he=>?_) ?_
 ·obtain⟨X,hX,hi⟩:=h e he;obtain⟨m,h1,h2⟩:=Ji hL hX;obtain⟨h3,h4,_⟩:=hJ e he;simp only[ins,Bool.and_eq_true]at hi;exact List.countP_pos_iff.2 ⟨m,h1,by simp only[ins,Bool.and_eq_true];exact⟨h2 _ h3 hi.1,h2 _ h4 hi.2⟩⟩
 ·rw[←S1 (fun m e=>ins (Cm m) e) J];refine Kj fun m hm=>?_;have:=hj _ (Ch.1 (Dj.1 hm).1).2.1;unfold spn at this;show J.countP (ins (Cm m))≤_
  omega
end
end Go.Lam
end
section
namespace Go.Lam
def Fg {α:Type} (f:Nat→α) (i:Nat) (x:α):Nat→α:=fun v=>if v=i then x else f v
@[simp] theorem Eh {α:Type} (f:Nat→α) (i:Nat) (x:α):Fg f i x i=x:=by simp[Fg]
theorem Bn {α:Type} (f:Nat→α) {i v:Nat} (x:α) (h:v≠i):Fg f i x v=f v:=by simp[Fg,h]
theorem N4 (n:Nat) (cv:Nat→List Nat) (x:Nat):((List.range n).flatMap cv).count x=sm n fun v=>(cv v).count x:=by
 rw[List.count_flatMap];rfl
theorem T9 {l:List Nat} {k e:Nat} (h:l[k]?=some e) (x:Nat):(l.eraseIdx k).count x+(if x=e then 1 else 0)=l.count x:=by
 induction l generalizing k with
 |nil=>simp at h
 |cons a l ih =>
  cases k with
  |zero =>
   simp at h;subst h;simp only[List.eraseIdx_zero,List.tail_cons,List.count_cons];by_cases hx:x=a
   ·simp[hx]
   ·simp[hx,Ne.symm hx]
  |succ k=>simp only[List.eraseIdx_cons_succ,List.count_cons]at *;have:=ih (by simpa using h);omega
section
variable {n:Nat} {E:Nat→Ed} {A:List Nat} {fr:Nat→Nat} {cv:Nat→List Nat}
theorem Inv.move (h:Inv n E A fr cv) {j k e:Nat} (hj:j<n) (hk:(cv j)[k]?=some e) (hf:0<fr (Gj E e j)) :
  Inv n E A (Fg (Fg fr (Gj E e j) (fr (Gj E e j)-1)) j (fr j+1)) (Fg (Fg cv (Gj E e j) (cv (Gj E e j)++[e])) j ((cv j).eraseIdx k)):=by
 have hm:e∈cv j:=List.mem_of_getElem? hk;obtain⟨hl,hne⟩:=h.oth_lt hj hm;refine⟨fun v hv=>?_,?_,fun v hv x hx=>?_,h.ok⟩
 ·by_cases h1:v=j
  ·subst h1;have:=h.two v hv;have hlt:=(List.getElem?_eq_some_iff.1 hk).1;simp only[Eh,List.length_eraseIdx,hlt,if_true];omega
  ·rw[Bn _ _ h1,Bn _ _ h1];by_cases h2:v=Gj E e j
   ·subst h2;have:=h.two _ hv;simp only[Eh,List.length_append,List.length_cons,List.length_nil];omega
   ·rw[Bn _ _ h2,Bn _ _ h2];exact h.two v hv
 ·refine List.Perm.trans (List.perm_iff_count.2 fun x=>?_) h.perm;rw[N4,N4];have key:sm n (fun v=>(Fg (Fg cv (Gj E e j) (cv (Gj E e j)++[e])) j ((cv j).eraseIdx k) v).count x+if v=j then (if x=e then 1 else 0) else 0)=sm n (fun v=>(cv v).count x+if v=Gj E e j then (if x=e then 1 else 0) else 0):=Ij fun v hv=>by
   by_cases h1:v=j
   ·subst h1;rw[Eh,if_pos rfl,if_neg (Ne.symm hne),T9 hk x];rfl
   ·rw[Bn _ _ h1,if_neg h1];by_cases h2:v=Gj E e j
    ·subst h2;rw[Eh,if_pos rfl,List.count_append,List.count_singleton];by_cases hx:x=e
     ·simp[hx]
     ·simp[hx,Ne.symm hx]
    ·rw[Bn _ _ h2,if_neg h2]
  rw[Kn,Kn,Ob hj,Ob hl]at key;omega
 ·by_cases h1:v=j
  ·subst h1;rw[Eh]at hx;exact h.ends v hv x (List.mem_of_mem_eraseIdx hx)
  ·rw[Bn _ _ h1]at hx;by_cases h2:v=Gj E e j
   ·subst h2;rw[Eh,List.mem_append,List.mem_singleton]at hx;rcases hx with hx | rfl
    ·exact h.ends _ hv x hx
    ·unfold Gj;rcases h.ends j hj x hm with h3 | h3
     ·right;omega
     ·left;omega
   ·rw[Bn _ _ h2]at hx;exact h.ends v hv x hx
theorem Inv.lay (h:Inv n E A fr cv) {a e:Nat} (ha:(E e).1=a) (he:Dz n (E e)) (hf:0<fr a):Inv n E (A++[e]) (Fg fr a (fr a-1)) (Fg cv a (cv a++[e])):=by
 have hl:a<n:=ha ▸ he.1;refine⟨fun v hv=>?_,?_,fun v hv x hx=>?_,fun x hx=>?_⟩
 ·by_cases h1:v=a
  ·subst h1;have:=h.two v hv;simp only[Eh,List.length_append,List.length_cons,List.length_nil];omega
  ·rw[Bn _ _ h1,Bn _ _ h1];exact h.two v hv
 ·refine List.perm_iff_count.2 fun x=>?_;have h1:=List.perm_iff_count.1 h.perm x;rw[N4]at h1 ⊢;rw[List.count_append,←h1];have key:sm n (fun v=>(Fg cv a (cv a++[e]) v).count x)=sm n (fun v=>(cv v).count x+if v=a then [e].count x else 0):=Ij fun v _=>by
   by_cases h2:v=a
   ·subst h2;rw[Eh,if_pos rfl,List.count_append]
   ·rw[Bn _ _ h2,if_neg h2];rfl
  rw[key,Kn,Ob hl]
 ·by_cases h1:v=a
  ·subst h1;rw[Eh,List.mem_append,List.mem_singleton]at hx;rcases hx with hx | rfl
   ·exact h.ends _ hv x hx
   ·exact .inl ha
  ·rw[Bn _ _ h1]at hx;exact h.ends v hv x hx
 ·rw[List.mem_append,List.mem_singleton]at hx;rcases hx with hx | rfl
  ·exact h.ok x hx
  ·exact he
theorem Inv.start (n:Nat) (E:Nat→Ed):Inv n E [] (fun _=>2) (fun _=>[]):=⟨fun _ _=>rfl,by simp,fun _ _ _ h=>by simp at h,fun _ h=>by simp at h⟩
structure Ku (n:Nat) (E:Nat→Ed) (fr:Nat→Nat) (cv:Nat→List Nat) (S T:Nat→Bool):Prop where
 sub:∀v,S v=true→T v=true
 zero:∀v,v<n→S v=false→T v=true→fr v=0
 shut:∀v,v<n→S v=false→T v=true→∀e∈cv v,T (Gj E e v)=true
theorem Ku.refl (S:Nat→Bool):Ku n E fr cv S S:=⟨fun _ h=>h,fun v _ h h'=>(by rw[h]at h';cases h'),fun v _ h h'=>(by rw[h]at h';cases h')⟩
theorem Ku.step {S T T':Nat→Bool} {m:Nat} (h:Ku n E fr cv S T) (hm:fr m=0) (h':Ku n E fr cv (Fg T m true) T') (hs:∀e∈cv m,T' (Gj E e m)=true):Ku n E fr cv S T' where
 sub:=fun v hv=>h'.sub v (by unfold Fg;split;rfl;exact h.sub v hv)
 zero:=fun v hv h1 h2=>by
  by_cases hvm:v=m
  ·subst hvm;exact hm
  ·cases hT:T v with
   |true=>exact h.zero v hv h1 hT
   |false=>exact h'.zero v hv (by rw[Bn _ _ hvm];exact hT) h2
 shut:=fun v hv h1 h2 e he=>by
  by_cases hvm:v=m
  ·subst hvm;exact hs e he
  ·cases hT:T v with
   |true =>
    have h3:=h.shut v hv h1 hT e he;exact h'.sub _ (by unfold Fg;split;rfl;exact h3)
   |false=>exact h'.shut v hv (by rw[Bn _ _ hvm];exact hT) h2 e he
structure Got (n:Nat) (E:Nat→Ed) (A:List Nat) (S:Nat→Bool) (j:Nat) (fr:Nat→Nat) (cv:Nat→List Nat) (fr':Nat→Nat) (cv':Nat→List Nat):Prop where
 inv:Inv n E A fr' cv'
 plus:fr' j=fr j+1
 free:∀v,v<n→S v=true→v≠j→fr' v=fr v
 cover:∀v,v<n→S v=true→v≠j→cv' v=cv v
theorem Got.direct (h:Inv n E A fr cv) {S:Nat→Bool} {j k e:Nat} (hj:j<n) (hk:(cv j)[k]?=some e) (hS:S (Gj E e j)=false) (hf:0<fr (Gj E e j)) :
  Got n E A S j fr cv (Fg (Fg fr (Gj E e j) (fr (Gj E e j)-1)) j (fr j+1)) (Fg (Fg cv (Gj E e j) (cv (Gj E e j)++[e])) j ((cv j).eraseIdx k)) where
 inv:=h.move hj hk hf
 plus:=by simp
 free:=fun v _ hv hvj=>by rw[Bn _ _ hvj,Bn _ _ (fun e'=>by rw[e',hS]at hv;cases hv)]
 cover:=fun v _ hv hvj=>by rw[Bn _ _ hvj,Bn _ _ (fun e'=>by rw[e',hS]at hv;cases hv)]
theorem Got.through {S T:Nat→Bool} {fr':Nat→Nat} {cv':Nat→List Nat} {j k e:Nat} (hsub:∀v,S v=true→T v=true) (hj:j<n) (hSj:S j=true) (hk:(cv j)[k]?=some e) (hS:T (Gj E e j)=false)
  (hne:Gj E e j≠j) (g:Got n E A (Fg T (Gj E e j) true) (Gj E e j) fr cv fr' cv') :
  Got n E A S j fr cv (Fg (Fg fr' (Gj E e j) (fr' (Gj E e j)-1)) j (fr' j+1)) (Fg (Fg cv' (Gj E e j) (cv' (Gj E e j)++[e])) j ((cv' j).eraseIdx k)):=by
 have hin:∀v,S v=true→Fg T (Gj E e j) true v=true:=fun v hv=>by unfold Fg;split;rfl;exact hsub v hv
 have hcj:cv' j=cv j:=g.cover j hj (hin j hSj) (Ne.symm hne);have hfj:fr' j=fr j:=g.free j hj (hin j hSj) (Ne.symm hne);have hno:∀v,S v=true→v≠Gj E e j:=fun v hv e'=>by rw[e']at hv;rw[hsub _ hv]at hS;cases hS
 refine⟨g.inv.move hj (by rw[hcj];exact hk) (by rw[g.plus];omega),by simp[hfj],fun v hv h1 h2=>?_,fun v hv h1 h2=>?_⟩
 ·rw[Bn _ _ h2,Bn _ _ (hno v h1)];exact g.free v hv (hin v h1) (hno v h1)
 ·rw[Bn _ _ h2,Bn _ _ (hno v h1)];exact g.cover v hv (hin v h1) (hno v h1)
end
end Go.Lam
end
section
namespace Go.Lam
def Jt (n m:Nat):List Nat:=(List.range n).filter (Cm m)
def Bw:List Nat→List Nat→Bool
 |[],[]=>false
 |[],_::_=>true
 |_::_,[]=>false
 |a::l,b::m=>if a=b then Bw l m else decide (a<b)
theorem Ic:∀l:List Nat,Bw l l=false
 |[]=>rfl
 |a::l=>by simp[Bw,Ic l]
theorem Gh:∀{a b c:List Nat},Bw a b=true→Bw b c=true→Bw a c=true
 |[],[],_,h,_=>by simp[Bw]at h
 |[],_::_,[],_,h=>by simp[Bw]at h
 |[],_::_,_::_,_,_=>rfl
 |_::_,[],_,h,_=>by simp[Bw]at h
 |_::_,_::_,[],_,h=>by simp[Bw]at h
 |x::a,y::b,z::c,h1,h2=>by
  unfold Bw at *;by_cases e1:x=y
  ·subst e1;rw[if_pos rfl]at h1;by_cases e2:x=z
   ·subst e2;rw[if_pos rfl]at h2 ⊢;exact Gh h1 h2
   ·rw[if_neg e2]at h2 ⊢;exact h2
  ·rw[if_neg e1]at h1;by_cases e2:y=z
   ·subst e2;rw[if_neg e1];exact h1
   ·rw[if_neg e2]at h2;simp only[decide_eq_true_eq]at h1 h2;rw[if_neg (by omega)];simp only[decide_eq_true_eq];omega
theorem Hw:∀(a b:List Nat),a=b∨Bw a b=true∨Bw b a=true
 |[],[]=>.inl rfl
 |[],_::_=>.inr (.inl rfl)
 |_::_,[]=>.inr (.inr rfl)
 |x::a,y::b=>by
  unfold Bw;by_cases e:x=y
  ·subst e;rcases Hw a b with h | h | h
   ·exact .inl (by rw[h])
   ·exact .inr (.inl (by rw[if_pos rfl];exact h))
   ·exact .inr (.inr (by rw[if_pos rfl];exact h))
  ·rw[if_neg e,if_neg (Ne.symm e)];simp only[decide_eq_true_eq];omega
def Asc (l:List (List Nat)):Prop:=l.Pairwise fun x y=>Bw x y=true
theorem Asc.eq:∀{l m:List (List Nat)},Asc l→Asc m→(∀x,x∈l↔x∈m)→l=m
 |[],[],_,_,_=>rfl
 |[],y::m,_,_,h=>by have:=(h y).2 (by simp);simp at this
 |x::l,[],_,_,h=>by have:=(h x).1 (by simp);simp at this
 |x::l,y::m,hl,hm,h=>by
  obtain⟨hl1,hl2⟩:=List.pairwise_cons.1 hl;obtain⟨hm1,hm2⟩:=List.pairwise_cons.1 hm;have hxy:x=y:=by
   rcases List.mem_cons.1 ((h x).1 (by simp))with h1|h1
   ·exact h1
   ·rcases List.mem_cons.1 ((h y).2 (by simp))with h2|h2
    ·exact h2.symm
    ·have:=Gh (hl1 y h2) (hm1 x h1);rw[Ic]at this;cases this
  subst hxy;rw[Asc.eq hl2 hm2 fun z=>?_];constructor
  ·intro hz;rcases List.mem_cons.1 ((h z).1 (by simp[hz]))with rfl | h1
   ·have:=hl1 z hz;rw[Ic]at this;cases this
   ·exact h1
  ·intro hz;rcases List.mem_cons.1 ((h z).2 (by simp[hz]))with rfl | h1
   ·have:=hm1 z hz;rw[Ic]at this;cases this
   ·exact h1
theorem Asc.of_sorted {l:List (List Nat)} (hn:l.Nodup) (h:l.Pairwise fun x y=>Bw y x=false):Asc l:=by
 have:=hn.and h;exact this.imp fun {a b} ⟨h1,h2⟩=>by
  rcases Hw a b with h3|h3|h3
  ·exact absurd h3 h1
  ·exact h3
  ·rw[h2]at h3;cases h3
def Nm:List (List Nat)→List Nat→List (List Nat)
 |[],x=>[x]
 |y::l,x=>if Bw x y=true then x::y::l else y::Nm l x
theorem Lw {x z:List Nat}:∀{l:List (List Nat)},z∈Nm l x↔z=x∨z∈l
 |[]=>by simp[Nm]
 |y::l=>by
  unfold Nm;split
  ·simp
  ·simp only[List.mem_cons,Lw (l:=l)];constructor
   ·rintro(h|h|h)<;>simp[h]
   ·rintro(h|h|h)<;>simp[h]
theorem Qaq {x:List Nat}:∀{l:List (List Nat)},Asc l→x ∉ l→Asc (Nm l x)
 |[],_,_=>by simp[Nm,Asc]
 |y::l,h,hx=>by
  obtain⟨h1,h2⟩:=List.pairwise_cons.1 h;unfold Nm;split
  ·rename_i hb
   refine List.pairwise_cons.2 ⟨fun z hz=>?_,h⟩;rcases List.mem_cons.1 hz with rfl | hz
   ·exact hb
   ·exact Gh hb (h1 z hz)
  ·rename_i hb
   simp only[List.mem_cons,not_or]at hx;refine List.pairwise_cons.2 ⟨fun z hz=>?_,Qaq h2 hx.2⟩;rcases Lw.1 hz with rfl | hz
   ·rcases Hw z y with h3|h3|h3
    ·exact absurd h3 hx.1
    ·exact absurd h3 hb
    ·exact h3
   ·exact h1 z hz
theorem N8 {α:Type} (f:α→List Nat):∀(s:List α) (o:List (List Nat)),Asc o→(s.map f).Nodup→(∀a∈s,f a ∉ o)→Asc (s.foldl (fun o a=>Nm o (f a)) o)∧∀z,z∈s.foldl (fun o a=>Nm o (f a)) o↔z∈o∨z∈s.map f
 |[],o,h,_,_=>⟨h,by simp⟩
 |a::s,o,h,hn,hx=>by
  rw[List.map_cons,List.nodup_cons]at hn;have:=N8 f s (Nm o (f a)) (Qaq h (hx a (by simp))) hn.2 fun b hb hc=>by
   rcases Lw.1 hc with h1|h1
   ·exact hn.1 (by rw[←h1];exact List.mem_map.2 ⟨b,hb,rfl⟩)
   ·exact hx b (by simp[hb]) h1
  refine⟨this.1,fun z=>?_⟩;rw[List.foldl_cons,this.2 z,Lw,List.map_cons,List.mem_cons];constructor
  ·rintro((h|h)|h)<;>simp[h]
  ·rintro(h|h|h)<;>simp[h]
def B2 (L:List Ed) (j:Nat):Bool:=L.all fun e=>!(e.1==j || e.2==j)
def Fc (j:Nat):List Nat:=[j]
def Qs (n:Nat) (L:List Ed):List (List Nat):=((List.range n).filter (B2 L)).foldl (fun o j=>Nm o (Fc j)) ((blocks n L).foldl (fun o m=>Nm o (Jt n m)) [])
theorem W5 {n m v:Nat}:v∈Jt n m↔v<n∧Cm m v=true:=by simp[Jt]
theorem Kc (n m:Nat):(Jt n m).length=sz n (Cm m):=by simp[Jt,sz,List.countP_eq_length_filter]
theorem Vl {n m k:Nat} (hm:m<2^n) (hk:k<2^n) (h:Jt n m=Jt n k):m=k:=Ut hm hk fun v hv=>by
 have h1:v∈Jt n m↔v∈Jt n k:=by rw[h]
 rw[W5,W5]at h1;cases h2:Cm m v<;>cases h3:Cm k v<;>simp_all
section
variable {n:Nat} {L:List Ed}
theorem K1 {m:Nat} (h:m∈blocks n L):m<2^n:=(Ch.1 (Dj.1 h).1).1
theorem F3 {m:Nat} (h:m∈blocks n L):D0 n L (Cm m):=(Ch.1 (Dj.1 h).1).2
theorem E2 {α β:Type} {f:α→β}:∀{l:List α},(∀x∈l,∀y∈l,f x=f y→x=y)→l.Nodup→(l.map f).Nodup
 |[],_,_=>by simp
 |a::l,h,hn=>by
  rw[List.nodup_cons]at hn;rw[List.map_cons,List.nodup_cons];refine⟨fun hc=>?_,E2 (fun x hx y hy=>h x (by simp[hx]) y (by simp[hy])) hn.2⟩;obtain⟨b,hb,e⟩:=List.mem_map.1 hc;rw[h b (by simp[hb]) a (by simp) e]at hb;exact hn.1 hb
theorem N9:Asc (Qs n L)∧∀z,z∈Qs n L↔(∃m∈blocks n L,z=Jt n m)∨∃j,j<n∧B2 L j=true∧z=[j]:=by
 have h1:=N8 (Jt n) (blocks n L) [] (by simp[Asc]) (E2 (fun x hx y hy=>Vl (K1 hx) (K1 hy)) Hp) (by simp);have h2:=N8 Fc ((List.range n).filter (B2 L)) _ h1.1 (E2 (fun x _ y _ h=>by simpa[Fc]using h) (List.nodup_range.filter _)) (fun j _ hc=>by
  rcases(h1.2 _).1 hc with h3|h3
  ·simp at h3
  ·obtain⟨m,hm,e⟩:=List.mem_map.1 h3;have h4:=Kc n m;rw[e]at h4;have:=(F3 hm).1;simp[Fc]at h4;omega)
 refine⟨h2.1,fun z=>?_⟩;unfold Qs;rw[h2.2 z,h1.2 z];simp only[List.not_mem_nil,false_or,List.mem_map,List.mem_filter,List.mem_range,Fc];constructor
 ·rintro(⟨m,hm,rfl⟩|⟨j,⟨hj,ha⟩,rfl⟩)
  ·exact .inl ⟨m,hm,rfl⟩
  ·exact .inr ⟨j,hj,ha,rfl⟩
 ·rintro(⟨m,hm,rfl⟩|⟨j,hj,ha,rfl⟩)
  ·exact .inl ⟨m,hm,rfl⟩
  ·exact .inr ⟨j,⟨hj,ha⟩,rfl⟩
def Hj (n:Nat) (L:List Ed) (e:Ed) (j:Nat):Bool:=(Ll n L).any fun m=>ins (Cm m) e&&Cm m j
theorem Ju (hL:∀e∈L,Dz n e) {e:Ed} {j:Nat} (hj:j<n) (he:Dz n e):Hj n L e j=true↔∃X,D0 n L X∧ins X e=true∧X j=true:=by
 unfold Hj;rw[List.any_eq_true];constructor
 ·rintro⟨m,hm,h⟩;rw[Bool.and_eq_true]at h;exact⟨_,(Ch.1 hm).2,h.1,h.2⟩
 ·rintro⟨X,h1,h2,h3⟩;obtain⟨m,h4,h5⟩:=Ji hL h1;rw[ins,Bool.and_eq_true]at h2;exact⟨m,(Dj.1 h4).1,by rw[ins,h5 _ he.1 h2.1,h5 _ he.2.1 h2.2,h5 _ hj h3];rfl⟩
def Hk (n:Nat) (L:List Ed) (e:Ed):List Nat:=(List.range n).filter (Hj n L e)
theorem Lk (hL:∀e∈L,Dz n e) (hs:Bf n L) {e:Ed} (he:Dz n e) {m:Nat} (hm:m∈blocks n L) (hi:ins (Cm m) e=true):Hk n L e=Jt n m:=by
 refine List.filter_congr fun v hv=>?_;rw[List.mem_range]at hv;cases hb:Cm m v with
 |true=>exact(Ju hL hv he).2 ⟨_,F3 hm,hi,hb⟩
 |false =>
  cases hw:Hj n L e v with
  |false=>rfl
  |true =>
   obtain⟨X,h1,h2,h3⟩:=(Ju hL hv he).1 hw;obtain⟨k,h4,h5⟩:=Ji hL h1;rw[ins,Bool.and_eq_true]at h2 hi;have hmk:=Ol hs hm h4 (Yh he.1 he.2.1 he.2.2 (by rw[cap,hi.1,h5 _ he.1 h2.1];rfl) (by rw[cap,hi.2,h5 _ he.2.1 h2.2];rfl));subst hmk;rw[h5 v hv h3]at hb;cases hb
theorem Sj (hL:∀e∈L,Dz n e) (hs:Bf n L) {e:Ed} (he:e∈L):∃m∈blocks n L,ins (Cm m) e=true:=by
 obtain⟨m,h1,h2⟩:=Ji hL (Kd hL hs he);obtain⟨h3,h4,_⟩:=hL e he;exact⟨m,h1,by rw[ins,h2 _ h3 (by simp[Fe]),h2 _ h4 (by simp[Fe])];rfl⟩
theorem Qdw {m:Nat} (hm:m∈blocks n L):∃e∈L,ins (Cm m) e=true:=by
 have h1:=F3 hm;have h2:=h1.1;have h3:=h1.2;unfold spn at h3;exact List.countP_pos_iff.1 (show 0<L.countP (ins (Cm m)) by omega)
def Nr (o:List (List Nat)) (c:List Nat):List (List Nat):=if c∈o then o else o++[c]
theorem Ks {α:Type} (f:α→List Nat):∀(s:List α) (o:List (List Nat)),o.Nodup→(s.foldl (fun o a=>Nr o (f a)) o).Nodup∧∀z,z∈s.foldl (fun o a=>Nr o (f a)) o↔z∈o∨z∈s.map f
 |[],o,h=>⟨h,by simp⟩
 |a::s,o,h=>by
  have hn:(Nr o (f a)).Nodup:=by
   unfold Nr;split
   ·exact h
   ·rename_i hc
    rw[List.nodup_append];exact⟨h,by simp,fun x hx y hy e=>by simp at hy;subst hy;subst e;exact hc hx⟩
  have hm:∀z,z∈Nr o (f a)↔z∈o∨z=f a:=fun z=>by
   unfold Nr;split
   ·rename_i hc
    exact⟨.inl,fun h=>h.elim id fun e=>e ▸ hc⟩
   ·simp
  have:=Ks f s (Nr o (f a)) hn;refine⟨this.1,fun z=>?_⟩;rw[List.foldl_cons,this.2 z,hm,List.map_cons,List.mem_cons];constructor
  ·rintro((h|h)|h)<;>simp[h]
  ·rintro(h|h|h)<;>simp[h]
def Jd (n:Nat) (L:List Ed):List (List Nat):=L.foldl (fun o e=>Nr o (Hk n L e)) []++((List.range n).filter (B2 L)).map Fc
theorem Wq (hL:∀e∈L,Dz n e) (hs:Bf n L):(Jd n L).Nodup∧∀z,z∈Jd n L↔z∈Qs n L:=by
 have h1:=Ks (Hk n L) L [] (by simp);have hmem:∀z,z∈Jd n L↔z∈Qs n L:=fun z=>by
  unfold Jd;rw[List.mem_append,h1.2 z,N9.2 z];simp only[List.not_mem_nil,false_or,List.mem_map,List.mem_filter,List.mem_range,Fc];constructor
  ·rintro(⟨e,he,rfl⟩|⟨j,⟨hj,ha⟩,rfl⟩)
   ·obtain⟨m,hm,hi⟩:=Sj hL hs he;exact .inl ⟨m,hm,Lk hL hs (hL e he) hm hi⟩
   ·exact .inr ⟨j,hj,ha,rfl⟩
  ·rintro(⟨m,hm,rfl⟩|⟨j,hj,ha,rfl⟩)
   ·obtain⟨e,he,hi⟩:=Qdw hm;exact .inl ⟨e,he,Lk hL hs (hL e he) hm hi⟩
   ·exact .inr ⟨j,⟨hj,ha⟩,rfl⟩
 refine⟨?_,hmem⟩;unfold Jd;rw[List.nodup_append];refine⟨h1.1,E2 (fun x _ y _ h=>by simpa[Fc]using h) (List.nodup_range.filter _),fun x hx y hy e=>?_⟩;subst e;rcases(h1.2 x).1 hx with h3 | h3
 ·simp at h3
 ·obtain⟨e,he,rfl⟩:=List.mem_map.1 h3;obtain⟨m,hm,hi⟩:=Sj hL hs he;obtain⟨j,_,e2⟩:=List.mem_map.1 hy;rw[Lk hL hs (hL e he) hm hi]at e2;have h4:=Kc n m;rw[←e2]at h4;have:=(F3 hm).1;simp[Fc]at h4;omega
theorem Zf (hL:∀e∈L,Dz n e) (hs:Bf n L) {W:List (List Nat)} (hp:W.Perm (Jd n L)) (hw:W.Pairwise fun x y=>Bw y x=false):W=Qs n L:=by
 obtain⟨h1,h2⟩:=Wq hL hs;exact Asc.eq (Asc.of_sorted (hp.nodup_iff.2 h1) hw) N9.1 fun x=>by rw[hp.mem_iff,h2]
end
end Go.Lam
end
section
namespace Go.Lam
section
variable {n:Nat} {L:List Ed}
def Qla:Nat→Bool:=fun _=>true
theorem Qjw (n:Nat):sz n Qla=n:=by
 have h:(List.range n).countP Qla=(List.range n).length:=List.countP_eq_length.2 fun _ _=>rfl;rw[List.length_range]at h;exact h
theorem Ql1 (L:List Ed):spn L Qla=L.length:=List.countP_eq_length.2 fun _ _=>rfl
theorem Zm:sz n (fun j=>!B2 L j)+(List.range n).countP (B2 L)=n:=by
 have h:=List.length_eq_countP_add_countP (B2 L) (l:=List.range n);rw[List.length_range]at h;have e:(List.range n).countP (fun a=>decide ¬B2 L a=true)=sz n (fun j=>!B2 L j):=List.countP_congr fun v _=>by cases B2 L v<;>simp
 omega
theorem Qa1:spn L (fun j=>!B2 L j)=L.length:=List.countP_eq_length.2 fun e he=>by
 have h:∀j,e.1=j∨e.2=j→B2 L j=false:=fun j hj=>by
  cases ha:B2 L j with
  |false=>rfl
  |true =>
   have:=List.all_eq_true.1 ha e he;simp only[Bool.not_eq_true',Bool.or_eq_false_iff,beq_eq_false_iff_ne]at this;omega
 show(!B2 L e.1&&!B2 L e.2)=true
 rw[h e.1 (.inl rfl),h e.2 (.inr rfl)];rfl
theorem Vd (hL:∀e∈L,Dz n e) (hs:Bf n L):(blocks n L).length≤L.length:=by
 rw[←Tb hL hs,←R5];refine Kj fun m hm=>?_;have:=(F3 hm).1;omega
theorem Zr (hL:∀e∈L,Dz n e) (hs:Bf n L):(Jd n L).length=(blocks n L).length+(List.range n).countP (B2 L):=by
 have h1:=Wq hL hs;have hp:(Jd n L).Perm ((blocks n L).map (Jt n)++((List.range n).filter (B2 L)).map Fc):=by
  refine(List.perm_ext_iff_of_nodup h1.1 ?_).2 fun z=>?_
  ·rw[List.nodup_append];refine⟨E2 (fun x hx y hy=>Vl (K1 hx) (K1 hy)) Hp,E2 (fun x _ y _ h=>by simpa[Fc]using h) (List.nodup_range.filter _),fun x hx y hy e=>?_⟩;subst e;obtain⟨m,hm,rfl⟩:=List.mem_map.1 hx;obtain⟨j,_,e2⟩:=List.mem_map.1 hy;have h4:=Kc n m;rw[←e2]at h4;have:=(F3 hm).1;simp[Fc]at h4;omega
  ·rw[h1.2,N9.2];simp only[List.mem_append,List.mem_map,List.mem_filter,List.mem_range,Fc];constructor
   ·rintro(⟨m,hm,rfl⟩|⟨j,hj,ha,rfl⟩)
    ·exact .inl ⟨m,hm,rfl⟩
    ·exact .inr ⟨j,⟨hj,ha⟩,rfl⟩
   ·rintro(⟨m,hm,rfl⟩|⟨j,⟨hj,ha⟩,rfl⟩)
    ·exact .inl ⟨m,hm,rfl⟩
    ·exact .inr ⟨j,hj,ha,rfl⟩
 rw[hp.length_eq,List.length_append,List.length_map,List.length_map,←List.countP_eq_length_filter]
theorem Qjl (hL:∀e∈L,Dz n e) (hs:Bf n L) (h8:n≤8):(Jd n L).length≤12:=by
 rw[Zr hL hs];have h1:=Vd hL hs;have h2:=Zm (n:=n) (L:=L);have h3:=Qpc n fun j=>!B2 L j;rcases Nat.lt_or_ge (sz n fun j=>!B2 L j) 2 with h4 | h4
 ·have:spn L (fun j=>!B2 L j)=0:=Sh hL (by omega);rw[Qa1]at this;omega
 ·have h5:=hs _ h4;rw[Qa1]at h5;rcases Nat.lt_or_ge ((blocks n L).length+(List.range n).countP (B2 L)) 13 with h6 | h6
  ·omega
  ·-- all is one block
   have hn8:n=8∧(List.range n).countP (B2 L)=0∧L.length=13:=by omega
   have hT:D0 n L Qla:=⟨by rw[Qjw];omega,by rw[Ql1,Qjw];omega⟩;obtain⟨m,hm,hall⟩:=Ji hL hT;have h7:∀k∈blocks n L,k=m:=fun k hk=>(Dj.1 hk).2 m (Dj.1 hm).1 (fun v hv=>hall v (Qme (K1 hk) hv) rfl) ▸ rfl;have h8:(blocks n L).length≤1:=by
    have hnd:=Hp (n:=n) (L:=L)
    match hb:blocks n L,hnd with
    |[],_=>simp
    |[a],_=>simp
    |a::b::t,hnd =>
     rw[hb]at h7;have ha:=h7 a (by simp);have hb':=h7 b (by simp);rw[List.nodup_cons]at hnd;exact absurd (by rw[ha,hb'];simp) hnd.1
   omega
theorem Qfg (n:Nat) (X:Nat→Bool):sz (n+1) X=sz n X+if X n=true then 1 else 0:=by
 simp[sz,List.range_succ,List.countP_append,List.countP_cons]
theorem Bf.joint (hs:Bf n L) (hL:∀e∈L,Dz n e):Bf (n+1) L:=fun X hX=>by
 rw[Qfg]at hX ⊢;rcases Nat.lt_or_ge (sz n X) 2 with h | h
 ·rw[Sh hL (by omega)];omega
 ·have:=hs X h;omega
theorem Bf.one (hs:Bf n L) (hL:∀e∈L,Dz n e) {x:Nat} (hx:x<n) {e:Ed} (he:e=(x,n)∨e=(n,x)):Bf (n+1) (L++[e]):=fun X hX=>by
 rw[Qfg]at hX ⊢;rw[J5,Tk];have hi:ins X e=(X x&&X n):=by rcases he with rfl | rfl<;>simp[ins,Bool.and_comm]
 rw[hi];show spn L X+(0+_)+3≤_
 rcases Nat.lt_or_ge (sz n X) 2 with h|h
 ·rw[Sh hL (by omega)];cases h1:X n<;>cases h2:X x<;>simp[h1]at*<;> (try have:=Qif hx h2)<;>omega
 ·have:=hs X h;cases h1:X n<;>cases h2:X x<;>simp<;>omega
end
end Go.Lam
end
section
namespace Go.Av
open Go.Proofs
structure RE where
 a:Int
 b:Int
 sq:RR
def RE.av (e:RE):AV:=.agg [.int .i64 e.a,.int .i64 e.b,.bool e.sq.n1,Ao e.sq.l1,.bool e.sq.n2,Ao e.sq.l2]
def Ff (l:List RE):List AV:=l.map RE.av
def A8 (l:List RE):AV:=.sl 6 (Ff l)
instance:Inhabited RE:=⟨⟨0,0,default⟩⟩
def Ip (l:List RE) (i:Nat):RE:=l.getD i default
theorem Ny {l:List RE} {i:Nat} (h:i<l.length):Ip l i=l[i]:=by unfold Ip;rw[List.getD_eq_getElem?_getD,List.getElem?_eq_getElem h];rfl
@[simp] theorem Qcy (l:List RE):(Ff l).length=l.length:=by simp[Ff]
@[simp] theorem edl_get? {l:List RE} {i:Nat} (h:i<l.length):(Ff l)[i]?=some (Ip l i).av:=by simp[Ff,Ny h,h]
@[simp] theorem edl_get {l:List RE} {i:Nat} (h:i<(Ff l).length):(Ff l)[i]=(Ip l i).av:=by simp[Ff,Ny (by simpa using h:i<l.length)]
@[simp] theorem Qxs {l:List Nat} {i:Nat} (h:i<(Ax l).length):(Ax l)[i]=.int .i64 (l[i]'(by simpa using h):Nat):=by simp[Ax]
@[simp] theorem Qv4 (l:List Nat):(Ax l).all (fun v=>v.cells.length==1&&v.cells.all AV.one)=true:=by simp[Ax,AV.cells,AV.one]
theorem C1 (e:RE):e.av.cells=[.int .i64 e.a,.int .i64 e.b,.bool e.sq.n1,Ao e.sq.l1,.bool e.sq.n2,Ao e.sq.l2]:=rfl
theorem Jq (l:List Nat) (i v:Nat):(Ax l).set i (.int .i64 (v:Nat))=Ax (l.set i v):=by unfold Ax;rw[List.map_set]
theorem L8 {m m':Ac} {b n:Nat} {l:List Nat} (h:m b=some ⟨3,1,Ax l⟩) (hl:l.length=n) (hb:m' b=none:=by simp):Br m m' (.osl b 1 0 n) (.sl 1 (Ax l)) :=
 .osl b 1 0 n _ (Ax l) h hb rfl (by simpa using hl) (by simp[hl]) (fun k v v' h1 h2=>by rw[Nat.zero_add]at h1;rw[h1]at h2;cases h2;exact .same _)
theorem Ww (l:List RE) (hl:l.length≤40):Ai Tryz.prog 45 [A8 l] Ac.emp fun v m=>v=.sl 1 (Ax (List.range l.length))∧m=Ac.emp:=by
 refine Ad Tryz.func45 rfl rfl 19 rfl (Nat.le_of_ble_eq_true rfl) ?_;unfold A8;(repeat refine AW.seq_k fun K hK=>?_);refine AW.rg ?_;simp[Al];try (refine hK _ rfl ?_;clear hK K)
 (repeat refine AW.seq_k fun K hK=>?_);refine AW.rg ?_;simp;try (refine hK _ rfl ?_;clear hK K)
 refine⟨by omega,Af.intro fun bl hbl=>?_⟩;refine hK _ rfl ?_;clear hK K;refine AW.seq_ex (ι:=Unit) (fun _=>[(3,.osl bl 1 0 l.length)]) (fun _=>Ac.emp.set bl ⟨3,1,Ax (List.range l.length)⟩) (fun _=>True) ?_ ?_
 ·(repeat refine AW.seq_k fun K hK=>?_);refine AW.rg ?_;simp;try (refine hK _ rfl ?_;clear hK K)
  refine AW.block (AW.loopS (ι:=Nat × List Nat) (fun z=>[(3,.osl bl 1 0 l.length),(9,.int .i64 (l.length:Nat)),(10,.int .i64 (z.1:Nat))]) (fun z=>Ac.emp.set bl ⟨3,1,Ax z.2⟩)
   (fun z=>z.1≤l.length∧z.2=List.range z.1++List.replicate (l.length-z.1) 0) (fun z=>l.length-z.1) (0,List.replicate l.length 0) ⟨by simp,by simp⟩ (by simp[Ax]) (by simp) ?_)
  rintro⟨i,o⟩ ⟨g1,g2⟩;simp only at g1 g2;have hol:o.length=l.length:=by rw[g2];simp;omega
  (repeat refine AW.seq_k fun K hK=>?_);refine AW.rg ?_;simp;try (refine hK _ rfl ?_;clear hK K)
  (repeat refine AW.seq ?_);refine AW.cs (fun hi=>?_) (fun hi=>?_) rfl<;>(try simp at hi)
  ·refine AW.skip ?_;try simp
   have w1:=Au (i+1) (by omega);(repeat refine AW.seq ?_);refine AW.block ?_;(repeat refine AW.seq_k fun K hK=>?_);refine AW.rg ?_;simp;try (refine hK _ rfl ?_;clear hK K)
   (repeat refine AW.seq_k fun K hK=>?_);refine AW.rg ?_;simp[hol,hi];try (refine hK _ rfl ?_;clear hK K)
   (repeat refine AW.seq_k fun K hK=>?_);refine AW.rg ?_;simp[-Int.natCast_add,w1];try (refine hK _ rfl ?_;clear hK K)
   refine⟨i+1,o.set i i,⟨by omega,?_⟩,by omega,by rw[Jq],rfl⟩;rw[g2,List.set_append_right _ _ (by simp),List.length_range,Nat.sub_self,show l.length-i=(l.length-(i+1))+1 by omega,List.replicate_succ,List.set_cons_zero,List.range_succ,List.append_assoc];rfl
  ·refine AW.exit ?_;try simp
   have:i=l.length:=by omega
   rw[g2,this];simp
 ·rintro _ _;(repeat refine AW.seq_k fun K hK=>?_);refine AW.rg ?_;simp;try (refine hK _ rfl ?_;clear hK K)
  exact AW.ret (Ag rfl _ (L8 (by simp) (by simp)) ⟨rfl,rfl⟩)
end Go.Av
end
section
namespace Go.Av
open Go.Proofs Go.Lam
@[simp] theorem Qtu {l:List Nat} {i:Nat} (h:i<l.length):(Ax l).getD i .any=.int .i64 (l[i]:Nat):=by simp[Ax,h]
def Ah (es:List RE):Nat→Ed:=fun i=>((Ip es i).a.toNat,(Ip es i).b.toNat)
def Ly (n:Nat) (es:List RE):Prop:=∀i,i<es.length→(Ip es i).a=((Ah es i).1:Nat)∧(Ip es i).b=((Ah es i).2:Nat)∧Dz n (Ah es i)
end Go.Av
end
section
namespace Go.Av
open Go.Proofs Go.Lam
def Bt (x y:RE):Bool:=(y.a==x.a&&y.b==x.b) || (y.a==x.b&&y.b==x.a)
def okE (n:Int) (pre:List RE) (x:RE):Bool:=decide (0≤x.a)&&decide (x.a<n)&&decide (0≤x.b)&&decide (x.b<n)&&!(x.a==x.b)&&x.sq.ok&&decide (0<Dm x.sq)&&!(pre.any (Bt x))
def P8 (n:Int) (es:List RE) (i:Nat):Bool:=okE n (es.take i) (Ip es i)
def Ds (n:Int) (es:List RE):Bool:=decide (1≤n)&&decide (n≤12)&&decide (es.length≤40)&&(List.range es.length).all (P8 n es)
def Cg (n:Int) (es:List RE):AV:=.int .i64 (if Ds n es=true then 0 else 1)
def LbE (es:List RE):Prop:=∀x∈es,x.sq.Lb
theorem LbE.at {es:List RE} (h:LbE es) {i:Nat} (hi:i<es.length):(Ip es i).sq.Lb:=by rw[Ny hi];exact h _ (List.getElem_mem hi)
theorem Co {n:Int} {es:List RE} {i:Nat} (hi:i<es.length) (h:P8 n es i=false):Ds n es=false:=by
 unfold Ds;have:(List.range es.length).all (P8 n es)=false:=List.all_eq_false.2 ⟨i,by simpa using hi,by rw[h];simp⟩;rw[this,Bool.and_false]
theorem Qgf {b:Nat} (X:RE):Br (Ac.emp.set b ⟨46,6,[X.av]⟩) Ac.emp (.ptr b 6 0 0) (.rptr [.int .i64 X.a,.int .i64 X.b,.bool X.sq.n1,Ao X.sq.l1,.bool X.sq.n2,Ao X.sq.l2]) :=
 .ptr b 6 0 0 ⟨46,6,[X.av]⟩ X.av (Ac.set_same _ _ _) rfl rfl rfl
theorem Cr {n:Int} {pre:List RE} {x:RE} (h:¬(0≤x.a∧x.a<n∧0≤x.b∧x.b<n∧x.a≠x.b∧x.sq.ok=true∧0<Dm x.sq∧pre.any (Bt x)=false)):okE n pre x=false:=by
 cases hc:okE n pre x with
 |false=>rfl
 |true=>unfold okE at hc;simp only[Bool.and_eq_true,decide_eq_true_eq,Bool.not_eq_true',beq_eq_false_iff_ne]at hc;exact absurd ⟨hc.1.1.1.1.1.1.1,hc.1.1.1.1.1.1.2,hc.1.1.1.1.1.2,hc.1.1.1.1.2,hc.1.1.1.2,hc.1.1.2,hc.1.2,hc.2⟩ h
theorem Qaw {n:Int} {pre:List RE} {x:RE} (h:0≤x.a∧x.a<n∧0≤x.b∧x.b<n∧x.a≠x.b∧x.sq.ok=true∧0<Dm x.sq∧pre.any (Bt x)=false):okE n pre x=true:=by
 obtain⟨h1,h2,h3,h4,h5,h6,h7,h8⟩:=h;unfold okE;rw[h6,h8];simp[h1,h2,h3,h4,h5,h7]
theorem N5 (n:Int) (es:List RE) (hb:LbE es):Ai Tryz.prog 12 [.int .i64 n,A8 es] Ac.emp fun v m=>v=Cg n es∧m=Ac.emp:=by
 refine Ad Tryz.func12 rfl rfl 111 rfl (Nat.le_of_ble_eq_true rfl) ?_;unfold A8;(repeat refine AW.seq_k fun K hK=>?_);refine AW.rg ?_;simp[Al];try (refine hK _ rfl ?_;clear hK K)
 by_cases c1:n<1
 ·have hc:Ds n es=false:=by unfold Ds;simp;omega
  (repeat refine AW.seq_k fun K hK=>?_);refine AW.rg ?_;simp[c1];try (refine hK _ rfl ?_;clear hK K)
  refine AW.yes ?_ rfl;(repeat refine AW.seq_k fun K hK=>?_);refine AW.rg ?_;simp;try (refine hK _ rfl ?_;clear hK K)
  exact AW.ret (Ag rfl _ (.same _) ⟨by unfold Cg;rw[hc];rfl,rfl⟩)
 by_cases c2:12<n
 ·have hc:Ds n es=false:=by unfold Ds;simp;omega
  (repeat refine AW.seq_k fun K hK=>?_);refine AW.rg ?_;simp[c1,c2];try (refine hK _ rfl ?_;clear hK K)
  refine AW.yes ?_ rfl;(repeat refine AW.seq_k fun K hK=>?_);refine AW.rg ?_;simp;try (refine hK _ rfl ?_;clear hK K)
  exact AW.ret (Ag rfl _ (.same _) ⟨by unfold Cg;rw[hc];rfl,rfl⟩)
 by_cases c3:(40:Int)<(es.length:Int)
 ·have hc:Ds n es=false:=by unfold Ds;simp;omega
  (repeat refine AW.seq_k fun K hK=>?_);refine AW.rg ?_;simp[c1,c2,c3];try (refine hK _ rfl ?_;clear hK K)
  refine AW.yes ?_ rfl;(repeat refine AW.seq_k fun K hK=>?_);refine AW.rg ?_;simp;try (refine hK _ rfl ?_;clear hK K)
  exact AW.ret (Ag rfl _ (.same _) ⟨by unfold Cg;rw[hc];rfl,rfl⟩)
 (repeat refine AW.seq_k fun K hK=>?_);refine AW.rg ?_;simp[c1,c2,c3];try (refine hK _ rfl ?_;clear hK K)
 refine AW.no ?_ rfl;refine AW.skip ?_;try simp
 try (refine hK _ rfl ?_;clear hK K)
 refine AW.seq_ex (ι:=Unit) (fun _=>[]) (fun _=>Ac.emp) (fun _=>Ds n es=true) ?_ ?_
 ·(repeat refine AW.seq_k fun K hK=>?_);refine AW.rg ?_;simp;try (refine hK _ rfl ?_;clear hK K)
  refine AW.block (AW.loopS (ι:=Nat) (fun i=>[(0,.int .i64 n),(1,.sl 6 (Ff es)),(5,.int .i64 (i:Nat))]) (fun _=>Ac.emp)
   (fun i=>i≤es.length∧(List.range i).all (P8 n es)=true) (fun i=>es.length-i) 0 ⟨by simp,by simp⟩ rfl (by simp) ?_)
  rintro i ⟨g1,g2⟩;(repeat refine AW.seq_k fun K hK=>?_);refine AW.rg ?_;simp;try (refine hK _ rfl ?_;clear hK K)
  (repeat refine AW.seq ?_);refine AW.cs (fun hi=>?_) (fun hi=>?_) rfl<;>(try simp at hi)
  ·refine AW.skip ?_;try simp
   try (refine hK _ rfl ?_;clear hK K)
   have w1:=Au (i+1) (by omega);have g3:∀x,x<i→P8 n es x=true:=by simpa using g2
   have hx:=hb.at hi;have hv:=F5 (Ip es i).sq.n1 (Ip es i).sq.l1 (Ip es i).sq.n2 (Ip es i).sq.l2 hx.1 hx.2;have hs:=Lz (Ip es i).sq hx;have hp:P8 n es i=okE n (es.take i) (Ip es i):=rfl;generalize hX:Ip es i=X at *;have fin:∀s:St,P8 n es i=false→AW Tryz.prog Code.ret (Ms Tryz.prog Tryz.f12.results.toList fun v m=>v=Cg n es∧m=Ac.emp) (S 111 ((4,.int .i64 1)::[]) Ac.emp):=fun _ hf =>
    AW.ret (Ag rfl _ (.same _) ⟨by unfold Cg;rw[Co hi hf];rfl,rfl⟩)
   (repeat refine AW.seq ?_);refine AW.block ?_;(repeat refine AW.seq_k fun K hK=>?_);refine AW.rg ?_;simp[hi,hX,C1];try (refine hK _ rfl ?_;clear hK K)
   refine Af.intro fun b6 hb6=>?_;refine hK _ rfl ?_;clear hK K;refine AW.toEmp [(0,.int .i64 n),(1,.sl 6 (Ff es)),(5,.int .i64 (i:Nat)),(6,.rptr [.int .i64 X.a,.int .i64 X.b,.bool X.sq.n1,Ao X.sq.l1,.bool X.sq.n2,Ao X.sq.l2])] (by simp;exact Qgf X) ?_;by_cases d1:X.a<0
   ·have hf:P8 n es i=false:=by rw[hp];exact Cr (by rintro⟨q1,q2,q3,q4,q5,_⟩;omega)
    (repeat refine AW.seq_k fun K hK=>?_);refine AW.rg ?_;simp[d1];try (refine hK _ rfl ?_;clear hK K)
    refine AW.yes ?_ rfl;(repeat refine AW.seq_k fun K hK=>?_);refine AW.rg ?_;simp;try (refine hK _ rfl ?_;clear hK K)
    exact AW.ret (Ag rfl _ (.same _) ⟨by unfold Cg;rw[Co hi hf];rfl,rfl⟩)
   by_cases d2:n≤X.a
   ·have hf:P8 n es i=false:=by rw[hp];exact Cr (by rintro⟨q1,q2,q3,q4,q5,_⟩;omega)
    (repeat refine AW.seq_k fun K hK=>?_);refine AW.rg ?_;simp[d1,d2];try (refine hK _ rfl ?_;clear hK K)
    refine AW.yes ?_ rfl;(repeat refine AW.seq_k fun K hK=>?_);refine AW.rg ?_;simp;try (refine hK _ rfl ?_;clear hK K)
    exact AW.ret (Ag rfl _ (.same _) ⟨by unfold Cg;rw[Co hi hf];rfl,rfl⟩)
   by_cases d3:X.b<0
   ·have hf:P8 n es i=false:=by rw[hp];exact Cr (by rintro⟨q1,q2,q3,q4,q5,_⟩;omega)
    (repeat refine AW.seq_k fun K hK=>?_);refine AW.rg ?_;simp[d1,d2,d3];try (refine hK _ rfl ?_;clear hK K)
    refine AW.yes ?_ rfl;(repeat refine AW.seq_k fun K hK=>?_);refine AW.rg ?_;simp;try (refine hK _ rfl ?_;clear hK K)
    exact AW.ret (Ag rfl _ (.same _) ⟨by unfold Cg;rw[Co hi hf];rfl,rfl⟩)
   by_cases d4:n≤X.b
   ·have hf:P8 n es i=false:=by rw[hp];exact Cr (by rintro⟨q1,q2,q3,q4,q5,_⟩;omega)
    (repeat refine AW.seq_k fun K hK=>?_);refine AW.rg ?_;simp[d1,d2,d3,d4];try (refine hK _ rfl ?_;clear hK K)
    refine AW.yes ?_ rfl;(repeat refine AW.seq_k fun K hK=>?_);refine AW.rg ?_;simp;try (refine hK _ rfl ?_;clear hK K)
    exact AW.ret (Ag rfl _ (.same _) ⟨by unfold Cg;rw[Co hi hf];rfl,rfl⟩)
   by_cases d5:X.a=X.b
   ·have hf:P8 n es i=false:=by rw[hp];exact Cr (by rintro⟨q1,q2,q3,q4,q5,_⟩;omega)
    (repeat refine AW.seq_k fun K hK=>?_);refine AW.rg ?_;simp[d1,d2,d3,d4,d5];try (refine hK _ rfl ?_;clear hK K)
    refine AW.yes ?_ rfl;(repeat refine AW.seq_k fun K hK=>?_);refine AW.rg ?_;simp;try (refine hK _ rfl ?_;clear hK K)
    exact AW.ret (Ag rfl _ (.same _) ⟨by unfold Cg;rw[Co hi hf];rfl,rfl⟩)
   by_cases d6:X.sq.ok=false
   ·have hf:P8 n es i=false:=by rw[hp];exact Cr (fun q=>by rw[d6]at q;simp at q)
    have hok:Og X.sq.n1 X.sq.l1 X.sq.n2 X.sq.l2=false:=d6;(repeat refine AW.seq_k fun K hK=>?_);refine AW.rg ?_;simp[d1,d2,d3,d4,d5];try (refine hK _ rfl ?_;clear hK K)
    refine Aa.val hv ?_;simp[hok];try (refine hK _ rfl ?_;clear hK K)
    refine AW.yes ?_ rfl;(repeat refine AW.seq_k fun K hK=>?_);refine AW.rg ?_;simp;try (refine hK _ rfl ?_;clear hK K)
    exact AW.ret (Ag rfl _ (.same _) ⟨by unfold Cg;rw[Co hi hf];rfl,rfl⟩)
   replace d6:X.sq.ok=true:=by simpa using d6
   have hok:Og X.sq.n1 X.sq.l1 X.sq.n2 X.sq.l2=true:=d6;by_cases d7:Dm X.sq≤0
   ·have hf:P8 n es i=false:=by rw[hp];exact Cr (fun q=>by have:=q.2.2.2.2.2.2.1;omega)
    (repeat refine AW.seq_k fun K hK=>?_);refine AW.rg ?_;simp[d1,d2,d3,d4,d5];try (refine hK _ rfl ?_;clear hK K)
    refine Aa.val hv ?_;simp[hok];refine Aa.val hs ?_;simp[d7];try (refine hK _ rfl ?_;clear hK K)
    refine AW.yes ?_ rfl;(repeat refine AW.seq_k fun K hK=>?_);refine AW.rg ?_;simp;try (refine hK _ rfl ?_;clear hK K)
    exact AW.ret (Ag rfl _ (.same _) ⟨by unfold Cg;rw[Co hi hf];rfl,rfl⟩)
   (repeat refine AW.seq_k fun K hK=>?_);refine AW.rg ?_;simp[d1,d2,d3,d4,d5];try (refine hK _ rfl ?_;clear hK K)
   refine Aa.val hv ?_;simp[hok];refine Aa.val hs ?_;simp[d7];try (refine hK _ rfl ?_;clear hK K)
   refine AW.no ?_ rfl;refine AW.skip ?_;try simp
   try (refine hK _ rfl ?_;clear hK K)
   (repeat refine AW.seq_k fun K hK=>?_);refine AW.rg ?_;simp;try (refine hK _ rfl ?_;clear hK K)
   refine AW.block (AW.loopS (ι:=Nat) (fun k=>[(0,.int .i64 n),(1,.sl 6 (Ff es)),(5,.int .i64 (i:Nat)),(6,.rptr [.int .i64 X.a,.int .i64 X.b,.bool X.sq.n1,Ao X.sq.l1,.bool X.sq.n2,Ao X.sq.l2]),(7,.int .i64 (k:Nat))]) (fun _=>Ac.emp)
    (fun k=>k≤i∧∀q,q<k→Bt X (Ip es q)=false) (fun k=>i-k) 0 ⟨by simp,by simp⟩ rfl (by simp) ?_)
   rintro k ⟨k1,k2⟩;(repeat refine AW.seq_k fun K hK=>?_);refine AW.rg ?_;simp;try (refine hK _ rfl ?_;clear hK K)
   (repeat refine AW.seq ?_);refine AW.cs (fun hk=>?_) (fun hk=>?_) rfl<;>(try simp at hk)
   ·refine AW.skip ?_;try simp
    try (refine hK _ rfl ?_;clear hK K)
    have w2:=Au (k+1) (by omega);have hkl:k<es.length:=by omega
    have hmem:Ip es k∈es.take i:=by rw[Ny hkl];exact List.mem_take_iff_getElem.2 ⟨k,by omega,rfl⟩
    generalize hY:Ip es k=Y at *;have hf:Bt X Y=true→P8 n es i=false:=fun hs=>by rw[hp];exact Cr (fun q=>by have:=List.any_eq_false.1 q.2.2.2.2.2.2.2 Y hmem;exact this hs)
    have hno:Bt X Y=false→∀q,q<k+1→Bt X (Ip es q)=false:=fun hs q hq=>by
     rcases Nat.lt_or_ge q k with h1|h1
     ·exact k2 q h1
     ·rw[show q=k by omega,hY];exact hs
    (repeat refine AW.seq ?_);refine AW.block ?_;by_cases e1:Y.a=X.a
    ·by_cases e2:Y.b=X.b
     ·have pe1:(Y.a=X.a)=True:=eq_true e1;have pe2:(Y.b=X.b)=True:=eq_true e2;have hs:Bt X Y=true:=by unfold Bt;simp only[BEq.beq,pe1,pe2];simp
      (repeat refine AW.seq_k fun K hK=>?_);refine AW.rd [0,1,2,3,4,5,6,7,8,9,10,11,12,13,14,15,16,17,18,19,20,21,22,23,24,25,26,27,28,29,30,31,32,33,34,35,36,37] C6 ?_;simp[hkl,hY,C1,pe1,pe2];try (refine hK _ rfl ?_;clear hK K)
      refine AW.yes ?_ rfl;(repeat refine AW.seq_k fun K hK=>?_);refine AW.rg ?_;simp;try (refine hK _ rfl ?_;clear hK K)
      exact AW.ret (Ag rfl _ (.same _) ⟨by unfold Cg;rw[Co hi (hf hs)];rfl,rfl⟩)
     ·by_cases e3:Y.a=X.b
      ·by_cases e4:Y.b=X.a
       ·have pe1:(Y.a=X.a)=True:=eq_true e1;have pe2:(Y.b=X.b)=False:=eq_false e2;have pe3:(Y.a=X.b)=True:=eq_true e3;have pe4:(Y.b=X.a)=True:=eq_true e4;have hs:Bt X Y=true:=by unfold Bt;simp only[BEq.beq,pe1,pe2,pe3,pe4];simp
        (repeat refine AW.seq_k fun K hK=>?_);refine AW.rd [0,1,2,3,4,5,6,7,8,9,10,11,12,13,14,15,16,17,18,19,20,21,22,23,24,25,26,27,28,29,30,31,32,33,34,35,36,37] C6 ?_;simp[hkl,hY,C1,pe1,pe2,pe3,pe4];try (refine hK _ rfl ?_;clear hK K)
        refine AW.yes ?_ rfl;(repeat refine AW.seq_k fun K hK=>?_);refine AW.rg ?_;simp;try (refine hK _ rfl ?_;clear hK K)
        exact AW.ret (Ag rfl _ (.same _) ⟨by unfold Cg;rw[Co hi (hf hs)];rfl,rfl⟩)
       ·have pe1:(Y.a=X.a)=True:=eq_true e1;have pe2:(Y.b=X.b)=False:=eq_false e2;have pe3:(Y.a=X.b)=True:=eq_true e3;have pe4:(Y.b=X.a)=False:=eq_false e4;have hs:Bt X Y=false:=by unfold Bt;simp only[BEq.beq,pe1,pe2,pe3,pe4];simp
        (repeat refine AW.seq_k fun K hK=>?_);refine AW.rd [0,1,2,3,4,5,6,7,8,9,10,11,12,13,14,15,16,17,18,19,20,21,22,23,24,25,26,27,28,29,30,31,32,33,34,35,36,37] C6 ?_;simp[hkl,hY,C1,pe1,pe2,pe3,pe4];try (refine hK _ rfl ?_;clear hK K)
        refine AW.no ?_ rfl;refine AW.skip ?_;try simp
        try (refine hK _ rfl ?_;clear hK K)
        (repeat refine AW.seq_k fun K hK=>?_);refine AW.rg ?_;simp[-Int.natCast_add,w2];try (refine hK _ rfl ?_;clear hK K)
        exact⟨⟨by omega,hno hs⟩,by omega⟩
      ·have pe1:(Y.a=X.a)=True:=eq_true e1;have pe2:(Y.b=X.b)=False:=eq_false e2;have pe3:(Y.a=X.b)=False:=eq_false e3;have hs:Bt X Y=false:=by unfold Bt;simp only[BEq.beq,pe1,pe2,pe3];simp
       (repeat refine AW.seq_k fun K hK=>?_);refine AW.rd [0,1,2,3,4,5,6,7,8,9,10,11,12,13,14,15,16,17,18,19,20,21,22,23,24,25,26,27,28,29,30,31,32,33,34,35,36,37] C6 ?_;simp[hkl,hY,C1,pe1,pe2,pe3];try (refine hK _ rfl ?_;clear hK K)
       refine AW.no ?_ rfl;refine AW.skip ?_;try simp
       try (refine hK _ rfl ?_;clear hK K)
       (repeat refine AW.seq_k fun K hK=>?_);refine AW.rg ?_;simp[-Int.natCast_add,w2];try (refine hK _ rfl ?_;clear hK K)
       exact⟨⟨by omega,hno hs⟩,by omega⟩
    ·by_cases e3:Y.a=X.b
     ·by_cases e4:Y.b=X.a
      ·have pe1:(Y.a=X.a)=False:=eq_false e1;have pe3:(Y.a=X.b)=True:=eq_true e3;have pe4:(Y.b=X.a)=True:=eq_true e4;have hs:Bt X Y=true:=by unfold Bt;simp only[BEq.beq,pe1,pe3,pe4];simp
       (repeat refine AW.seq_k fun K hK=>?_);refine AW.rd [0,1,2,3,4,5,6,7,8,9,10,11,12,13,14,15,16,17,18,19,20,21,22,23,24,25,26,27,28,29,30,31,32,33,34,35,36,37] C6 ?_;simp[hkl,hY,C1,pe1,pe3,pe4];try (refine hK _ rfl ?_;clear hK K)
       refine AW.yes ?_ rfl;(repeat refine AW.seq_k fun K hK=>?_);refine AW.rg ?_;simp;try (refine hK _ rfl ?_;clear hK K)
       exact AW.ret (Ag rfl _ (.same _) ⟨by unfold Cg;rw[Co hi (hf hs)];rfl,rfl⟩)
      ·have pe1:(Y.a=X.a)=False:=eq_false e1;have pe3:(Y.a=X.b)=True:=eq_true e3;have pe4:(Y.b=X.a)=False:=eq_false e4;have hs:Bt X Y=false:=by unfold Bt;simp only[BEq.beq,pe1,pe3,pe4];simp
       (repeat refine AW.seq_k fun K hK=>?_);refine AW.rd [0,1,2,3,4,5,6,7,8,9,10,11,12,13,14,15,16,17,18,19,20,21,22,23,24,25,26,27,28,29,30,31,32,33,34,35,36,37] C6 ?_;simp[hkl,hY,C1,pe1,pe3,pe4];try (refine hK _ rfl ?_;clear hK K)
       refine AW.no ?_ rfl;refine AW.skip ?_;try simp
       try (refine hK _ rfl ?_;clear hK K)
       (repeat refine AW.seq_k fun K hK=>?_);refine AW.rg ?_;simp[-Int.natCast_add,w2];try (refine hK _ rfl ?_;clear hK K)
       exact⟨⟨by omega,hno hs⟩,by omega⟩
     ·have pe1:(Y.a=X.a)=False:=eq_false e1;have pe3:(Y.a=X.b)=False:=eq_false e3;have hs:Bt X Y=false:=by unfold Bt;simp only[BEq.beq,pe1,pe3];simp
      (repeat refine AW.seq_k fun K hK=>?_);refine AW.rd [0,1,2,3,4,5,6,7,8,9,10,11,12,13,14,15,16,17,18,19,20,21,22,23,24,25,26,27,28,29,30,31,32,33,34,35,36,37] C6 ?_;simp[hkl,hY,C1,pe1,pe3];try (refine hK _ rfl ?_;clear hK K)
      refine AW.no ?_ rfl;refine AW.skip ?_;try simp
      try (refine hK _ rfl ?_;clear hK K)
      (repeat refine AW.seq_k fun K hK=>?_);refine AW.rg ?_;simp[-Int.natCast_add,w2];try (refine hK _ rfl ?_;clear hK K)
      exact⟨⟨by omega,hno hs⟩,by omega⟩
   ·refine AW.exit ?_;try simp
    have hki:k=i:=by omega
    have hany:(es.take i).any (Bt X)=false:=by
     rw[List.any_eq_false];intro y hy;obtain⟨q,hq,rfl⟩:=List.mem_take_iff_getElem.1 hy;have:=k2 q (by omega);rw[Ny (by omega)]at this;rw[this];simp
    (repeat refine AW.seq_k fun K hK=>?_);refine AW.rg ?_;simp[-Int.natCast_add,w1];try (refine hK _ rfl ?_;clear hK K)
    exact⟨⟨by omega,by intro q hq;rcases Nat.lt_or_ge q i with h1 | h1;exact g3 q h1;rw[show q=i by omega,hp];exact Qaw ⟨by omega,by omega,by omega,by omega,d5,d6,by omega,hany⟩⟩,by omega⟩
  ·refine AW.exit ?_;try simp
   have:i=es.length:=by omega
   unfold Ds;rw[←this,g2];simp;omega
 ·rintro _ h;(repeat refine AW.seq_k fun K hK=>?_);refine AW.rg ?_;simp;try (refine hK _ rfl ?_;clear hK K)
  exact AW.ret (Ag rfl _ (.same _) ⟨by unfold Cg;rw[h];rfl,rfl⟩)
end Go.Av
end
section
namespace Go.Av
open Go.Proofs Go.Lam
def Uc (pre:List RE) (c:Nat):Bool:=pre.any fun y=>(y.a.toNat*12+y.b.toNat==c) || (y.b.toNat*12+y.a.toNat==c)
def I6 (pre:List RE):List AV:=(List.range 144).map fun c=>.bool (Uc pre c)
@[simp] theorem Ov (pre:List RE):(I6 pre).length=144:=by simp[I6]
theorem Pq (pre:List RE) {c:Nat} (hc:c<144):(I6 pre)[c]?=some (.bool (Uc pre c)):=by simp[I6,hc]
theorem Qg7 (pre:List RE):(I6 pre).all AV.one=true:=by simp[I6,AV.one]
def RE.inB (x:RE):Prop:=0≤x.a∧x.a<12∧0≤x.b∧x.b<12
theorem Gv (pre:List RE) (x:RE) (hx:x.inB):((I6 pre).set (x.a.toNat*12+x.b.toNat) (.bool true)).set (x.b.toNat*12+x.a.toNat) (.bool true)=I6 (pre++[x]):=by
 obtain⟨h1,h2,h3,h4⟩:=hx;refine List.ext_getElem? fun c=>?_;by_cases hc:c<144
 ·rw[Pq _ hc,List.getElem?_set,List.length_set,Ov];by_cases e1:x.b.toNat*12+x.a.toNat=c
  ·rw[if_pos e1,if_pos (by omega)];simp[Uc,e1]
  ·rw[if_neg e1,List.getElem?_set,Ov];by_cases e2:x.a.toNat*12+x.b.toNat=c
   ·rw[if_pos e2,if_pos (by omega)];simp[Uc,e2]
   ·rw[if_neg e2,Pq _ hc];simp[Uc,e1,e2]
 ·rw[List.getElem?_eq_none (by simp;omega),List.getElem?_eq_none (by simp;omega)]
theorem Qca {pre:List RE} {x:RE} (hp:∀y∈pre,y.inB) (hx:x.inB):Uc pre (x.a.toNat*12+x.b.toNat)=pre.any (Bt x):=by
 unfold Uc;rw[Bool.eq_iff_iff,List.any_eq_true,List.any_eq_true];obtain⟨h1,h2,h3,h4⟩:=hx;refine exists_congr fun y=>and_congr_right fun hy=>?_;obtain⟨q1,q2,q3,q4⟩:=hp y hy;unfold Bt;simp only[Bool.or_eq_true,beq_iff_eq,Bool.and_eq_true];omega
theorem Ul {cs:List AV} {j:Nat} (v:Bool) (h:j<cs.length) (hl:cs.length=144):C5 144 1 (.agg cs) (.bool v) j=.agg (cs.set j (.bool v)):=by
 unfold C5;rw[if_neg (by omega)];show AV.agg (cs.take j++[.bool v]++cs.drop (j+1))=_
 rw[List.set_eq_take_append_cons_drop,if_pos h];simp
theorem Qcm (bu:Nat) (pre:List RE):∀c y,Ac.emp.set bu ⟨73,144,[.agg (I6 pre)]⟩ c=some y→∀v∈y.l,v.cells.all AV.one=true:=by
 intro c y hy v hv;simp only[A6,Aw]at hy;split at hy
 ·cases hy;simp only[List.mem_singleton]at hv;subst hv;exact Qg7 pre
 ·cases hy
theorem Qcb {m':Ac} {bu b:Nat} {x:Ev} (X:RE) (h:m' b=none):Br ((Ac.emp.set bu x).set b ⟨46,6,[X.av]⟩) m' (.ptr b 6 0 0) (.rptr [.int .i64 X.a,.int .i64 X.b,.bool X.sq.n1,Ao X.sq.l1,.bool X.sq.n2,Ao X.sq.l2]) :=
 .ptr b 6 0 0 ⟨46,6,[X.av]⟩ X.av (Ac.set_same _ _ _) h rfl rfl
set_option maxRecDepth 8000 in
theorem Pp (n:Int) (es:List RE) (hb:LbE es):Ai Tryz.prog 18 [.int .i64 n,A8 es] Ac.emp fun v m=>v=Cg n es∧m=Ac.emp:=by
 refine Ad Tryz.func18 rfl rfl 84 rfl (Nat.le_of_ble_eq_true rfl) ?_;unfold A8;(repeat refine AW.seq_k fun K hK=>?_);refine AW.rg ?_;simp[Al];try (refine hK _ rfl ?_;clear hK K)
 by_cases c1:n<1
 ·have hc:Ds n es=false:=by unfold Ds;simp;omega
  (repeat refine AW.seq_k fun K hK=>?_);refine AW.rg ?_;simp[c1];try (refine hK _ rfl ?_;clear hK K)
  refine AW.yes ?_ rfl;(repeat refine AW.seq_k fun K hK=>?_);refine AW.rg ?_;simp;try (refine hK _ rfl ?_;clear hK K)
  exact AW.ret (Ag rfl _ (.same _) ⟨by unfold Cg;rw[hc];rfl,rfl⟩)
 by_cases c2:12<n
 ·have hc:Ds n es=false:=by unfold Ds;simp;omega
  (repeat refine AW.seq_k fun K hK=>?_);refine AW.rg ?_;simp[c1,c2];try (refine hK _ rfl ?_;clear hK K)
  refine AW.yes ?_ rfl;(repeat refine AW.seq_k fun K hK=>?_);refine AW.rg ?_;simp;try (refine hK _ rfl ?_;clear hK K)
  exact AW.ret (Ag rfl _ (.same _) ⟨by unfold Cg;rw[hc];rfl,rfl⟩)
 by_cases c3:(40:Int)<(es.length:Int)
 ·have hc:Ds n es=false:=by unfold Ds;simp;omega
  (repeat refine AW.seq_k fun K hK=>?_);refine AW.rg ?_;simp[c1,c2,c3];try (refine hK _ rfl ?_;clear hK K)
  refine AW.yes ?_ rfl;(repeat refine AW.seq_k fun K hK=>?_);refine AW.rg ?_;simp;try (refine hK _ rfl ?_;clear hK K)
  exact AW.ret (Ag rfl _ (.same _) ⟨by unfold Cg;rw[hc];rfl,rfl⟩)
 (repeat refine AW.seq_k fun K hK=>?_);refine AW.rg ?_;simp[c1,c2,c3];try (refine hK _ rfl ?_;clear hK K)
 refine AW.no ?_ rfl;refine AW.skip ?_;try simp
 try (refine hK _ rfl ?_;clear hK K)
 (repeat refine AW.seq_k fun K hK=>?_);refine AW.rg ?_;simp;try (refine hK _ rfl ?_;clear hK K)
 refine Af.intro fun bu hbu=>?_;refine hK _ rfl ?_;clear hK K;refine AW.seq_ex (ι:=Unit) (fun _=>[]) (fun _=>Ac.emp.set bu ⟨73,144,[.agg (I6 es)]⟩) (fun _=>Ds n es=true) ?_ ?_
 ·(repeat refine AW.seq_k fun K hK=>?_);refine AW.rg ?_;simp;try (refine hK _ rfl ?_;clear hK K)
  refine AW.block (AW.loopS (ι:=Nat) (fun i=>[(0,.int .i64 n),(1,.sl 6 (Ff es)),(5,.ptr bu 144 0 0),(19,.sl 6 (Ff es)),(20,.int .i64 (es.length:Nat)),(21,.int .i64 (i:Nat))]) (fun i=>Ac.emp.set bu ⟨73,144,[.agg (I6 (es.take i))]⟩)
   (fun i=>i≤es.length∧(List.range i).all (P8 n es)=true) (fun i=>es.length-i) 0 ⟨by simp,by simp⟩ (by rfl) (by simp) ?_)
  rintro i ⟨g1,g2⟩;(repeat refine AW.seq_k fun K hK=>?_);refine AW.rg ?_;simp;try (refine hK _ rfl ?_;clear hK K)
  (repeat refine AW.seq ?_);refine AW.cs (fun hi=>?_) (fun hi=>?_) rfl<;>(try simp at hi)
  ·refine AW.skip ?_;try simp
   try (refine hK _ rfl ?_;clear hK K)
   have w1:=Au (i+1) (by omega);have g3:∀x,x<i→P8 n es x=true:=by simpa using g2
   have hx:=hb.at hi;have hv:=Fz (Ip es i).sq hx;have hs:=Ns (Ip es i).sq hx;have hp:P8 n es i=okE n (es.take i) (Ip es i):=rfl;have htk:es.take (i+1)=es.take i++[Ip es i]:=by rw[Ny hi,List.take_add_one,List.getElem?_eq_getElem hi];rfl
   have hpre:∀y∈es.take i,y.inB:=by
    intro y hy;obtain⟨q,hq,rfl⟩:=List.mem_take_iff_getElem.1 hy;have h1:=g3 q (by omega);unfold P8 okE at h1;rw[Ny (by omega)]at h1;simp only[Bool.and_eq_true,decide_eq_true_eq]at h1;exact⟨by omega,by omega,by omega,by omega⟩
   generalize hX:Ip es i=X at *;(repeat refine AW.seq ?_);refine AW.block ?_;(repeat refine AW.seq_k fun K hK=>?_);refine AW.rg ?_;simp[hi,hX,C1];try (refine hK _ rfl ?_;clear hK K)
   refine Af.intro fun b6 hb6=>?_;simp only[Am,Aw,and_true]at hb6;have hb6':=hb6.1;have hb6'':=hb6.2;refine hK _ rfl ?_;clear hK K;refine AW.turn [(0,.int .i64 n),(1,.sl 6 (Ff es)),(5,.ptr bu 144 0 0),(7,.rptr [.int .i64 X.a,.int .i64 X.b,.bool X.sq.n1,Ao X.sq.l1,.bool X.sq.n2,Ao X.sq.l2]),(19,.sl 6 (Ff es)),(20,.int .i64 (es.length:Nat)),(21,.int .i64 (i:Nat))] (Ac.emp.set bu ⟨73,144,[.agg (I6 (es.take i))]⟩) (Ba.drop (by simp[hb6',hb6'']) (Qcm bu (es.take i))) ?_ ?_
   ·simp;exact Qcb X (by simp[hb6'])
   by_cases d1:X.a<0
   ·have hf:P8 n es i=false:=by rw[hp];exact Cr (by rintro⟨q1,q2,q3,q4,q5,_⟩;omega)
    (repeat refine AW.seq_k fun K hK=>?_);refine AW.rdL [bu] [0,1,2,3,4,5,6,7,8,9,10,11,12,13,14,15,16,17,18,19,20,21,22,23,24,25,26,27,28,29,30,31,32,33,34,35] C6 (by simp) ?_;simp[d1];try (refine hK _ rfl ?_;clear hK K)
    refine AW.yes ?_ rfl;(repeat refine AW.seq_k fun K hK=>?_);refine AW.rg ?_;simp;try (refine hK _ rfl ?_;clear hK K)
    exact AW.ret (Ag rfl _ (.same _) ⟨by unfold Cg;rw[Co hi hf];rfl,rfl⟩)
   by_cases d2:n≤X.a
   ·have hf:P8 n es i=false:=by rw[hp];exact Cr (by rintro⟨q1,q2,q3,q4,q5,_⟩;omega)
    (repeat refine AW.seq_k fun K hK=>?_);refine AW.rdL [bu] [0,1,2,3,4,5,6,7,8,9,10,11,12,13,14,15,16,17,18,19,20,21,22,23,24,25,26,27,28,29,30,31,32,33,34,35] C6 (by simp) ?_;simp[d1,d2];try (refine hK _ rfl ?_;clear hK K)
    refine AW.yes ?_ rfl;(repeat refine AW.seq_k fun K hK=>?_);refine AW.rg ?_;simp;try (refine hK _ rfl ?_;clear hK K)
    exact AW.ret (Ag rfl _ (.same _) ⟨by unfold Cg;rw[Co hi hf];rfl,rfl⟩)
   by_cases d3:X.b<0
   ·have hf:P8 n es i=false:=by rw[hp];exact Cr (by rintro⟨q1,q2,q3,q4,q5,_⟩;omega)
    (repeat refine AW.seq_k fun K hK=>?_);refine AW.rdL [bu] [0,1,2,3,4,5,6,7,8,9,10,11,12,13,14,15,16,17,18,19,20,21,22,23,24,25,26,27,28,29,30,31,32,33,34,35] C6 (by simp) ?_;simp[d1,d2,d3];try (refine hK _ rfl ?_;clear hK K)
    refine AW.yes ?_ rfl;(repeat refine AW.seq_k fun K hK=>?_);refine AW.rg ?_;simp;try (refine hK _ rfl ?_;clear hK K)
    exact AW.ret (Ag rfl _ (.same _) ⟨by unfold Cg;rw[Co hi hf];rfl,rfl⟩)
   by_cases d4:n≤X.b
   ·have hf:P8 n es i=false:=by rw[hp];exact Cr (by rintro⟨q1,q2,q3,q4,q5,_⟩;omega)
    (repeat refine AW.seq_k fun K hK=>?_);refine AW.rdL [bu] [0,1,2,3,4,5,6,7,8,9,10,11,12,13,14,15,16,17,18,19,20,21,22,23,24,25,26,27,28,29,30,31,32,33,34,35] C6 (by simp) ?_;simp[d1,d2,d3,d4];try (refine hK _ rfl ?_;clear hK K)
    refine AW.yes ?_ rfl;(repeat refine AW.seq_k fun K hK=>?_);refine AW.rg ?_;simp;try (refine hK _ rfl ?_;clear hK K)
    exact AW.ret (Ag rfl _ (.same _) ⟨by unfold Cg;rw[Co hi hf];rfl,rfl⟩)
   by_cases d5:X.a=X.b
   ·have hf:P8 n es i=false:=by rw[hp];exact Cr (by rintro⟨q1,q2,q3,q4,q5,_⟩;omega)
    (repeat refine AW.seq_k fun K hK=>?_);refine AW.rdL [bu] [0,1,2,3,4,5,6,7,8,9,10,11,12,13,14,15,16,17,18,19,20,21,22,23,24,25,26,27,28,29,30,31,32,33,34,35] C6 (by simp) ?_;simp[d1,d2,d3,d4,d5];try (refine hK _ rfl ?_;clear hK K)
    refine AW.yes ?_ rfl;(repeat refine AW.seq_k fun K hK=>?_);refine AW.rg ?_;simp;try (refine hK _ rfl ?_;clear hK K)
    exact AW.ret (Ag rfl _ (.same _) ⟨by unfold Cg;rw[Co hi hf];rfl,rfl⟩)
   have hin:X.inB:=⟨by omega,by omega,by omega,by omega⟩;have hug:=Pq (es.take i) (c:=X.a.toNat*12+X.b.toNat) (by obtain⟨q1,q2,q3,q4⟩:=hin;omega);have hus:=Qca (pre:=es.take i) (x:=X) hpre hin;have l1:X.a<12:=by omega
   have l2:X.b<12:=by omega
   have l3:0≤X.a:=by omega
   have l4:0≤X.b:=by omega
   by_cases d0:(es.take i).any (Bt X)=true
   ·have hf:P8 n es i=false:=by rw[hp];exact Cr (fun q=>by have:=q.2.2.2.2.2.2.2;rw[d0]at this;cases this)
    rw[hus,d0]at hug;(repeat refine AW.seq_k fun K hK=>?_);refine AW.rdL [bu] [0,1,2,3,4,5,6,7,8,9,10,11,12,13,14,15,16,17,18,19,20,21,22,23,24,25,26,27,28,29,30,31,32,33,34,35] C6 (by simp) ?_;simp[d1,d2,d3,d4,d5,l1,l2,l3,l4,hug];try (refine hK _ rfl ?_;clear hK K)
    refine AW.yes ?_ rfl;(repeat refine AW.seq_k fun K hK=>?_);refine AW.rg ?_;simp;try (refine hK _ rfl ?_;clear hK K)
    exact AW.ret (Ag rfl _ (.same _) ⟨by unfold Cg;rw[Co hi hf];rfl,rfl⟩)
   replace d0:(es.take i).any (Bt X)=false:=by simpa using d0
   rw[hus,d0]at hug;(repeat refine AW.seq_k fun K hK=>?_);refine AW.rdL [bu] [0,1,2,3,4,5,6,7,8,9,10,11,12,13,14,15,16,17,18,19,20,21,22,23,24,25,26,27,28,29,30,31,32,33,34,35] C6 (by simp) ?_;simp[d1,d2,d3,d4,d5,l1,l2,l3,l4,hug];try (refine hK _ rfl ?_;clear hK K)
   refine AW.no ?_ rfl;refine AW.skip ?_;try simp
   try (refine hK _ rfl ?_;clear hK K)
   by_cases d6:X.sq.ok=false
   ·have hf:P8 n es i=false:=by rw[hp];exact Cr (fun q=>by rw[d6]at q;simp at q)
    (repeat refine AW.seq_k fun K hK=>?_);refine AW.rg ?_;simp;try (refine hK _ rfl ?_;clear hK K)
    refine Aa.val hv ?_;simp[d6];try (refine hK _ rfl ?_;clear hK K)
    refine AW.yes ?_ rfl;(repeat refine AW.seq_k fun K hK=>?_);refine AW.rg ?_;simp;try (refine hK _ rfl ?_;clear hK K)
    exact AW.ret (Ag rfl _ (.same _) ⟨by unfold Cg;rw[Co hi hf];rfl,rfl⟩)
   replace d6:X.sq.ok=true:=by simpa using d6
   by_cases d7:Dm X.sq≤0
   ·have hf:P8 n es i=false:=by rw[hp];exact Cr (fun q=>by have:=q.2.2.2.2.2.2.1;omega)
    (repeat refine AW.seq_k fun K hK=>?_);refine AW.rg ?_;simp;try (refine hK _ rfl ?_;clear hK K)
    refine Aa.val hv ?_;simp[d6];refine Aa.val hs ?_;simp[d7];try (refine hK _ rfl ?_;clear hK K)
    refine AW.yes ?_ rfl;(repeat refine AW.seq_k fun K hK=>?_);refine AW.rg ?_;simp;try (refine hK _ rfl ?_;clear hK K)
    exact AW.ret (Ag rfl _ (.same _) ⟨by unfold Cg;rw[Co hi hf];rfl,rfl⟩)
   (repeat refine AW.seq_k fun K hK=>?_);refine AW.rg ?_;simp;try (refine hK _ rfl ?_;clear hK K)
   refine Aa.val hv ?_;simp[d6];refine Aa.val hs ?_;simp[d7];try (refine hK _ rfl ?_;clear hK K)
   refine AW.no ?_ rfl;refine AW.skip ?_;try simp
   try (refine hK _ rfl ?_;clear hK K)
   have st1:=Ul (cs:=I6 (es.take i)) (j:=X.a.toNat*12+X.b.toNat) true (by simp;obtain⟨q1,q2,q3,q4⟩:=hin;omega) (by simp);have st2:=Ul (cs:=(I6 (es.take i)).set (X.a.toNat*12+X.b.toNat) (.bool true)) (j:=X.b.toNat*12+X.a.toNat) true (by simp;obtain⟨q1,q2,q3,q4⟩:=hin;omega) (by simp);have pj1:X.a.toNat*12+X.b.toNat<144:=by omega
   have pj2:X.b.toNat*12+X.a.toNat<144:=by omega
   (repeat refine AW.seq_k fun K hK=>?_);refine AW.rdT [] [7,71,73,75,77] [] [] [0,1,2,3,4,5,6,7,8,9,11,10,12,13] C6 (by simp[l1,l2,l3,l4,st1,st2,Gv _ _ hin,pj1,pj2]) (by simp[l1,l2,l3,l4,st1,st2,Gv _ _ hin,pj1,pj2]) (by simp[l1,l2,l3,l4,st1,st2,Gv _ _ hin,pj1,pj2]) (by simp[l1,l2,l3,l4,st1,st2,Gv _ _ hin,pj1,pj2]) (by simp[l1,l2,l3,l4,st1,st2,Gv _ _ hin,pj1,pj2]) ?_;simp[l1,l2,l3,l4,st1,st2,Gv _ _ hin,pj1,pj2];try (refine hK _ rfl ?_;clear hK K)
   refine⟨by omega,by omega,?_⟩;(repeat refine AW.seq_k fun K hK=>?_);refine AW.rg ?_;simp[-Int.natCast_add,w1];try (refine hK _ rfl ?_;clear hK K)
   exact⟨i+1,⟨by omega,by intro q hq;rcases Nat.lt_or_ge q i with h1 | h1;exact g3 q h1;rw[show q=i by omega,hp];exact Qaw ⟨by omega,by omega,by omega,by omega,d5,d6,by omega,d0⟩⟩,by omega,by rw[htk],rfl⟩
  ·refine AW.exit ?_;try simp
   have:i=es.length:=by omega
   refine⟨?_,?_⟩
   ·unfold Ds;rw[←this,g2];simp;omega
   ·rw[List.take_of_length_le (by omega)]
 ·rintro _ h;(repeat refine AW.seq_k fun K hK=>?_);refine AW.rg ?_;simp;try (refine hK _ rfl ?_;clear hK K)
  exact AW.ret (Ag rfl _ (.same _) ⟨by unfold Cg;rw[h];rfl,rfl⟩)
end Go.Av
end
section
namespace Go.Av
open Go.Proofs Go.Lam
theorem El {n:Int} {es:List RE} (h:Ds n es=true):(1≤n∧n≤12∧es.length≤40)∧∀i,i<es.length→okE n (es.take i) (Ip es i)=true:=by
 unfold Ds at h;simp only[Bool.and_eq_true,decide_eq_true_eq,List.all_eq_true,List.mem_range]at h;exact⟨⟨h.1.1.1,h.1.1.2,h.1.2⟩,h.2⟩
theorem Qha {n:Int} {pre:List RE} {x:RE} (h:okE n pre x=true):0≤x.a∧x.a<n∧0≤x.b∧x.b<n∧x.a≠x.b∧x.sq.ok=true∧0<Dm x.sq∧pre.any (Bt x)=false:=by
 unfold okE at h;simp only[Bool.and_eq_true,decide_eq_true_eq,Bool.not_eq_true',beq_eq_false_iff_ne]at h;exact⟨h.1.1.1.1.1.1.1,h.1.1.1.1.1.1.2,h.1.1.1.1.1.2,h.1.1.1.1.2,h.1.1.1.2,h.1.1.2,h.1.2,h.2⟩
theorem Sd {n:Int} {es:List RE} (h:Ds n es=true):Ly n.toNat es:=by
 obtain⟨⟨h1,h2,h3⟩,h4⟩:=El h;intro i hi;obtain⟨q1,q2,q3,q4,q5,_⟩:=Qha (h4 i hi);unfold Ah Dz;simp only;omega
def Ho (n:Int) (es:List RE):List Nat:=if Ds n es=true then B6 n.toNat (Ah es) [] (List.range es.length) else []
theorem Ly.at {n:Nat} {es:List RE} (h:Ly n es) {s:List Nat} (hs:∀i∈s,i<es.length):∀i∈s,Dz n (Ah es i):=fun i hi=>(h i (hs i hi)).2.2
theorem Qga {n:Nat} {E:Nat→Ed} {i k:Nat} (h:k∈B6 n E [] (List.range i)):k<i:=by
 rcases N3 h with h1|h1
 ·simp at h1
 ·simpa using h1
theorem Qhx (n:Nat) (E:Nat→Ed) (i:Nat):(B6 n E [] (List.range i)).length≤i:=by
 have:=Gq (n:=n) (E:=E) (List.range i) [];simpa using this
def Ua (n:Int) (es:List RE):AV:=.int .i64 (if Ds n es=true then (if n=1 then 0 else 2*n-3-((Ho n es).length:Int)) else 0)
theorem Xn {n:Int} {es:List RE} (h:Ds n es=true):(Ho n es).length≤40:=by
 obtain⟨⟨h1,h2,h3⟩,_⟩:=El h;unfold Ho;rw[if_pos h];have:=Qhx n.toNat (Ah es) es.length;omega
end Go.Av
end
section
namespace Go.Av
open Go.Proofs Go.Lam
theorem Z1 (l:List Nat) (e:Nat) (hl:l.length<2^40):Ai Tryz.prog 89 [.sl 1 (Ax l),.int .i64 (e:Nat)] Ac.emp fun v m=>(∃t:Int,v=.int .i64 t∧(0≤t↔e∈l))∧m=Ac.emp:=by
 refine Ad Tryz.func89 rfl rfl 19 rfl (Nat.le_of_ble_eq_true rfl) ?_;(repeat refine AW.seq_k fun K hK=>?_);refine AW.rg ?_;simp[Al];try (refine hK _ rfl ?_;clear hK K)
 refine AW.seq_ex (ι:=Unit) (fun _=>[]) (fun _=>Ac.emp) (fun _=>e ∉ l) ?_ ?_
 ·(repeat refine AW.seq_k fun K hK=>?_);refine AW.rg ?_;simp;try (refine hK _ rfl ?_;clear hK K)
  refine AW.block (AW.loopS (ι:=Nat) (fun i=>[(0,.sl 1 (Ax l)),(1,.int .i64 (e:Nat)),(7,.int .i64 (l.length:Nat)),(8,.int .i64 (i:Nat))]) (fun i=>Ac.emp)
   (fun i=>i≤l.length∧∀k,(h:k<l.length)→k<i→l[k]≠e) (fun i=>l.length-i) 0 ⟨by simp,by omega⟩ rfl (by simp) ?_)
  rintro i ⟨g1,g2⟩;(repeat refine AW.seq_k fun K hK=>?_);refine AW.rg ?_;simp;try (refine hK _ rfl ?_;clear hK K)
  (repeat refine AW.seq ?_);refine AW.cs (fun hi=>?_) (fun hi=>?_) rfl<;>(try simp at hi)
  ·refine AW.skip ?_;try simp
   try (refine hK _ rfl ?_;clear hK K)
   have w1:=Au (i+1) (by omega);(repeat refine AW.seq ?_);refine AW.block ?_;(repeat refine AW.seq_k fun K hK=>?_);refine AW.rg ?_;simp;try (refine hK _ rfl ?_;clear hK K)
   (repeat refine AW.seq_k fun K hK=>?_);refine AW.rg ?_;simp[hi];try (refine hK _ rfl ?_;clear hK K)
   (repeat refine AW.seq ?_);refine AW.cs (fun he=>?_) (fun he=>?_) rfl<;>(try simp at he)
   ·(repeat refine AW.seq_k fun K hK=>?_);refine AW.rg ?_;simp;try (refine hK _ rfl ?_;clear hK K)
    exact AW.ret (Ag rfl _ (.same _) ⟨⟨i,rfl,⟨fun _=>(by rw[he];exact List.getElem_mem hi),fun _=>(by omega)⟩⟩,rfl⟩)
   ·refine AW.skip ?_;try simp
    try (refine hK _ rfl ?_;clear hK K)
    (repeat refine AW.seq_k fun K hK=>?_);refine AW.rg ?_;simp[-Int.natCast_add,w1];try (refine hK _ rfl ?_;clear hK K)
    refine⟨⟨by omega,fun k h hk=>?_⟩,by omega⟩;rcases Nat.lt_or_ge k i with h1 | h1
    ·exact g2 k h h1
    ·have:k=i:=by omega
     subst this;exact fun h=>he h.symm
  ·refine AW.exit ?_;try simp
   intro hm;obtain⟨k,hk,rfl⟩:=List.mem_iff_getElem.1 hm;exact g2 k hk (by omega) rfl
 ·rintro _ h;(repeat refine AW.seq_k fun K hK=>?_);refine AW.rg ?_;simp;try (refine hK _ rfl ?_;clear hK K)
  exact AW.ret (Ag rfl _ (.same _) ⟨⟨-1,rfl,⟨fun h=>(by omega),fun h'=>absurd h' h⟩⟩,rfl⟩)
theorem Uf (l:List Nat) (e:Nat) (hl:l.length<2^40):Ai Tryz.prog 50 [.sl 1 (Ax l),.int .i64 (e:Nat)] Ac.emp fun v m=>v=.bool (decide (e∈l))∧m=Ac.emp:=by
 have hc:=Z1 l e hl;refine Ad Tryz.func50 rfl rfl 9 rfl (Nat.le_of_ble_eq_true rfl) ?_;(repeat refine AW.seq_k fun K hK=>?_);refine AW.rg ?_;simp[Al];try (refine hK _ rfl ?_;clear hK K)
 (repeat refine AW.seq_k fun K hK=>?_);refine AW.rg ?_;simp;try (refine hK _ rfl ?_;clear hK K)
 refine Aa.pure hc ?_;rintro _ ⟨t,rfl,ht⟩;simp;try (refine hK _ rfl ?_;clear hK K)
 exact AW.ret (Ag rfl _ (.same _) ⟨by show AV.bool (decide (0≤t))=_;rw[decide_eq_decide.2 ht],rfl⟩)
theorem Vn (b:Nat) (l:List Nat):∀c y,Ac.emp.set b ⟨3,1,Ax l⟩ c=some y→∀v∈y.l,v.cells.all AV.one=true:=by
 intro c y hy v hv;simp only[A6,Aw]at hy;split at hy
 ·cases hy;exact Cu _ v hv
 ·cases hy
theorem Y3 (l:List Nat) (hl:l.length<2^40) (h0:l≠[]):Ai Tryz.prog 52 [.sl 1 (Ax l)] Ac.emp fun v m=>∃b,v=.osl b 1 0 l.length∧m=Ac.emp.set b ⟨3,1,Ax l⟩:=by
 have hi:Ax l≠[]:=by intro h;have:=Lj l;rw[h]at this;exact h0 (List.eq_nil_of_length_eq_zero this.symm)
 refine Ad Tryz.func52 rfl rfl 8 rfl (Nat.le_of_ble_eq_true rfl) ?_;(repeat refine AW.seq_k fun K hK=>?_);refine AW.rg ?_;simp[Al];try (refine hK _ rfl ?_;clear hK K)
 (repeat refine AW.seq_k fun K hK=>?_);refine AW.rg ?_;simp[Lh,hi];try (refine hK _ rfl ?_;clear hK K)
 refine AW.no ?_ rfl;refine AW.skip ?_;try simp
 try (refine hK _ rfl ?_;clear hK K)
 (repeat refine AW.seq_k fun K hK=>?_);refine AW.rg ?_;simp;try (refine hK _ rfl ?_;clear hK K)
 refine Af.intro fun b5 _=>⟨by omega,by unfold maxLen;omega,Af.intro fun b7 _=>?_⟩;refine hK _ rfl ?_;clear hK K;exact AW.ret (Bo rfl (Vn b7 l) ⟨b7,rfl,rfl⟩)
theorem Pc (b:Nat) (l:List Nat) (k:Nat) (hk:k<l.length) (hl:l.length<2^40):Ai Tryz.prog 51 [.osl b 1 0 l.length,.int .i64 (k:Nat),.int .i64 ((k+1:Nat):Int)] (Ac.emp.set b ⟨3,1,Ax l⟩) fun v m=>v=.osl b 1 0 (l.length-1)∧m=Ac.emp.set b ⟨3,1,Ax (l.eraseIdx k)⟩:=by
 have hkn:¬(k:Int)=((k+1:Nat):Int):=by omega
 refine Ad Tryz.func51 rfl rfl 33 rfl (Nat.le_of_ble_eq_true rfl) ?_;(repeat refine AW.seq_k fun K hK=>?_);refine AW.rg ?_;simp[-Int.natCast_add,Al];try (refine hK _ rfl ?_;clear hK K)
 have w0:((l.length:Int)).toNat=l.length:=by simp
 have c0:(0:Int)≤(l.length:Int):=by omega
 have c1:((k+1:Nat):Int)≤(l.length:Int):=by omega
 have c2:(k:Int)≤((k+1:Nat):Int):=by omega
 have c3:¬l.length=k:=by omega
 (repeat refine AW.seq_k fun K hK=>?_);refine AW.rg ?_;simp[-Int.natCast_add,c0,c1,c2,c3];try (refine hK _ rfl ?_;clear hK K)
 (repeat refine AW.seq_k fun K hK=>?_);refine AW.rg ?_;simp[-Int.natCast_add,hkn];try (refine hK _ rfl ?_;clear hK K)
 refine AW.no ?_ rfl;refine AW.skip ?_;try simp[-Int.natCast_add]
 try (refine hK _ rfl ?_;clear hK K)
 (repeat refine AW.seq_k fun K hK=>?_);refine AW.rg ?_;simp[-Int.natCast_add];try (refine hK _ rfl ?_;clear hK K)
 have key:(Ax l).take k++(Ax l).drop (k+1)++(Ax l).drop (l.length-1)=Ax (l.eraseIdx k++l.drop (l.length-1)):=by
  rw[List.eraseIdx_eq_take_drop_succ];simp[Ax,List.map_take,List.map_drop]
 have hel:(l.eraseIdx k).length=l.length-1:=by rw[List.length_eraseIdx,if_pos hk]
 have hdl:(l.drop (l.length-1)).length=1:=by simp;omega
 have key2:(Ax (l.eraseIdx k++l.drop (l.length-1))).take (l.length-1)=Ax (l.eraseIdx k):=by
  unfold Ax;rw[←List.map_take,List.take_append_of_le_length (by omega),List.take_of_length_le (by omega)]
 refine AW.seq_has [(0,.osl b 1 0 (l.length-1)),(7,.int .i64 (l.length:Nat))] (Ac.emp.set b ⟨3,1,Ax (l.eraseIdx k++l.drop (l.length-1))⟩) ?_ ?_
 ·refine AW.rdLR [26] [] [0,1,2,3,4,5,6,7] C6 (by simp[-Int.natCast_add]) ?_;by_cases hlast:k+1=l.length
  ·have hne:¬l=[]:=by rintro rfl;simp at hk
   simp[c0,c1,c2,hlast,Vs,hne];refine⟨by omega,by omega,by unfold maxLen;omega,by omega,?_,by omega⟩;have hd:(Ax l).drop (k+1)=[]:=List.drop_of_length_le (by simp;omega);rw[hd,List.append_nil,show l.length-1=k by omega]at key;rw[List.take_append_drop]at key;rw[show l.length-1=k by omega,←key]
  ·have c5:¬l.length=k+1:=by omega
   simp[-Int.natCast_add,c0,c1,c2,c5,Vs];have ht:List.take (l.length-(k+1)) (List.drop (k+1) (Ax l))=List.drop (k+1) (Ax l):=List.take_of_length_le (by simp);refine⟨by omega,by omega,fun x hx=>?_,by omega,by unfold maxLen;omega,by omega,?_,by omega⟩
   ·have hm:x∈Ax l:=List.mem_of_mem_drop (List.mem_of_mem_take hx);unfold Ax at hm;obtain⟨y,_,rfl⟩:=List.mem_map.1 hm;exact⟨rfl,by simp[AV.cells,AV.one]⟩
   ·rw[ht,show k+(l.length-(k+1))=l.length-1 by omega,←List.append_assoc,key]
 (repeat refine AW.seq_k fun K hK=>?_);refine AW.rgY ?_;simp[Qg3,isY,Ql2];refine⟨b,0,⟨rfl,rfl⟩,_,⟨rfl,rfl⟩,rfl,.i64,.i64,l.length-1,⟨rfl,rfl⟩,l.length,⟨rfl,rfl⟩,by omega,by simp[hel,hdl];omega,b,_,_,⟨rfl,rfl,rfl⟩,_,⟨rfl,rfl⟩,by omega,by simp[hel,hdl];omega,?_⟩;refine hK _ rfl ?_;clear hK K;(repeat refine AW.seq_k fun K hK=>?_);refine AW.rg ?_;simp;try (refine hK _ rfl ?_;clear hK K)
 refine AW.shrink (b:=b) (e:=3) (z:=1) (by simp only[A6,if_true];rfl) (l.length-1) ?_;simp;rw[List.take_append_of_le_length (by simp[hel,hdl]),List.take_take,Nat.min_self,key2];exact AW.ret (Bo rfl (Vn b _) ⟨rfl,rfl⟩)
end Go.Av
end
