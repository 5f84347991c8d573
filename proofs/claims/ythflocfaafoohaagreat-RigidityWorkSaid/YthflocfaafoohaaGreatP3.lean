/- A part of the proof. -/
import Derived.Test.YthflocfaafoohaaGreatP2
set_option linter.all false
set_option exponentiation.threshold 5000
set_option maxRecDepth 10000
section
namespace Go.Av
open Go.Proofs
def dmQ (x y:Int):Nat:=if (decide (x<0) != decide (y<0))=true∧x.natAbs % y.natAbs≠0 then x.natAbs / y.natAbs+1 else x.natAbs / y.natAbs
def dmR (x y:Int):Nat:=if (decide (x<0) != decide (y<0))=true∧x.natAbs % y.natAbs≠0 then y.natAbs-x.natAbs % y.natAbs else x.natAbs % y.natAbs
theorem Ua {x y:Int} (hy:y≠0):(if (decide (x<0) != decide (y<0))=true then -(dmQ x y:Int) else dmQ x y)=x.fdiv y∧(if decide (y<0)=true then -(dmR x y:Int) else dmR x y)=x.fmod y:=by
 have hr:x.natAbs % y.natAbs<y.natAbs:=Nat.mod_lt _ (by omega);have hd:=Nat.div_add_mod x.natAbs y.natAbs;unfold dmQ dmR;generalize x.natAbs / y.natAbs=q at *;generalize x.natAbs % y.natAbs=r at *;have hd2:((x.natAbs:Nat):Int)=((y.natAbs:Nat):Int)*(q:Int)+(r:Int):=by rw[←hd,Int.natCast_add,Int.natCast_mul]
 have key:∀{q' r':Int},r'+y*q'=x→(0<y→0≤r'∧r'<y)→(y<0→y<r'∧r'≤0)→q'=x.fdiv y∧r'=x.fmod y:=by
  intro q' r' h1 h2 h3;rcases Int.lt_or_gt_of_ne hy with h | h
  ·obtain⟨a,b⟩:=(Int.fdiv_fmod_unique' h).2 ⟨h1,h3 h⟩;exact⟨a.symm,b.symm⟩
  ·obtain⟨a,b⟩:=(Int.fdiv_fmod_unique h).2 ⟨h1,h2 h⟩;exact⟨a.symm,b.symm⟩
 by_cases cx:x<0
 ·have ex:x=-((x.natAbs:Nat):Int):=by omega
  by_cases cy:y<0
  ·have ey:((y.natAbs:Nat):Int)=-y:=by omega
   rw[ey]at hd2;simp only[cx,cy,decide_true,bne_self_eq_false,Bool.false_eq_true,false_and,if_false,if_true];refine key ?_ (fun h=>by omega) (fun h=>by omega);rw[ex,hd2,Int.neg_mul,Int.neg_add,Int.neg_neg];omega
  ·have ey:((y.natAbs:Nat):Int)=y:=by omega
   rw[ey]at hd2;by_cases h0:r=0
   ·subst h0;simp only[cx,cy,decide_true,decide_false,Bool.bne_false,ne_eq,not_true_eq_false,and_false,if_false,if_true,Bool.false_eq_true];refine key ?_ (fun h=>by omega) (fun h=>by omega);rw[ex,hd2,Int.mul_neg];simp
   ·simp only[cx,cy,decide_true,decide_false,Bool.bne_false,ne_eq,h0,not_false_eq_true,and_self,if_true,Bool.false_eq_true,if_false];refine key ?_ (fun h=>by omega) (fun h=>by omega);rw[Int.mul_neg,Int.natCast_add,Int.mul_add,ex,hd2];have:((y.natAbs-r:Nat):Int)=y-r:=by omega
    rw[this];simp;omega
 ·have ex:x=((x.natAbs:Nat):Int):=by omega
  by_cases cy:y<0
  ·have ey:((y.natAbs:Nat):Int)=-y:=by omega
   rw[ey]at hd2;by_cases h0:r=0
   ·subst h0;simp only[cx,cy,decide_true,decide_false,Bool.bne_true,Bool.not_false,ne_eq,not_true_eq_false,and_false,if_false,if_true];refine key ?_ (fun h=>by omega) (fun h=>by omega);rw[ex,hd2,Int.mul_neg,Int.neg_mul];simp
   ·simp only[cx,cy,decide_true,decide_false,Bool.bne_true,Bool.not_false,ne_eq,h0,not_false_eq_true,and_self,if_true];refine key ?_ (fun h=>by omega) (fun h=>by omega);rw[Int.mul_neg,Int.natCast_add,Int.mul_add,ex,hd2];have:((y.natAbs-r:Nat):Int)=-y-r:=by omega
    rw[this,Int.neg_mul];simp;omega
  ·have ey:((y.natAbs:Nat):Int)=y:=by omega
   rw[ey]at hd2;simp only[cx,cy,decide_false,bne_self_eq_false,Bool.false_eq_true,false_and,if_false];refine key ?_ (fun h=>by omega) (fun h=>by omega);rw[ex,hd2];omega
theorem Qft (x y:Int) (hy:y≠0):dmQ x y≤x.natAbs:=by
 unfold dmQ;split
 ·rename_i h
  have hr:x.natAbs % y.natAbs<y.natAbs:=Nat.mod_lt _ (by omega);have hd:=Nat.div_add_mod x.natAbs y.natAbs;have:x.natAbs / y.natAbs≤y.natAbs*(x.natAbs / y.natAbs):=Nat.le_mul_of_pos_left _ (by omega);omega
 ·exact Nat.div_le_self _ _
theorem Qfx (x y:Int) (hy:y≠0):dmR x y<y.natAbs:=by
 have hr:x.natAbs % y.natAbs<y.natAbs:=Nat.mod_lt _ (by omega);unfold dmR;split
 ·omega
 ·exact hr
theorem Uf {x y:Int} (hx:x.natAbs<Bj) (hy:y≠0):(x.fdiv y).natAbs<Bj:=by
 have:=Qft x y hy;rw[←(Ua (x:=x) hy).1];split<;>omega
theorem Uk {x y:Int} (hx:y.natAbs<Bj) (hy:y≠0):(x.fmod y).natAbs<Bj:=by
 have:=Qfx x y hy;rw[←(Ua (x:=x) hy).2];split<;>omega
theorem Ir (x y:Int) (hx:x.natAbs<Bj) (hy:y.natAbs<Bj) (h0:y≠0):Ak Tryz.prog 202 [Ay x,Ay y] Ac.emp fun v m=>v=.tup [Ay (x.fdiv y),Ay (x.fmod y),.int .i64 0]∧m=Ac.emp:=by
 have hb:=Q4 x y hx hy;have lx:=Bi hx;have ly:=Bi hy;have hq:=Qft x y h0;have hr:=Qfx x y h0;obtain⟨s1,s2⟩:=Ua (x:=x) h0;have f1:=Uf hx h0;have f2:=Uk (x:=x) hy h0;have lq:(Ap (dmQ x y)).length≤128:=Bi (by omega);have lr:(Ap (dmR x y)).length≤128:=Bi (by omega);have r1:=C3 (decide (x<0) != decide (y<0)) (Ap (dmQ x y)) (Bb _) (by omega);have r2:=C3 (decide (y<0)) (Ap (dmR x y)) (Bb _) (by omega);rw[A5,s1,Bx,Ti f1,S0 f1,bne]at r1;rw[A5,s2,Bx,Ti f2,S0 f2]at r2
 have hyl:(Ap y.natAbs).length≠0:=by
  intro h;have:=Cw.1 (List.eq_nil_of_length_eq_zero h);omega
 have hdv:=S7 x.natAbs y.natAbs (by omega) (by omega) (by omega);have hmr:x.natAbs % y.natAbs<y.natAbs:=Nat.mod_lt _ (by omega);have hql:(Ap (x.natAbs / y.natAbs)).length≤128:=Bi (Nat.lt_of_le_of_lt (Nat.div_le_self _ _) hx);have hdq:dmQ x y=if (decide (x<0) != decide (y<0))=true∧x.natAbs % y.natAbs≠0 then x.natAbs / y.natAbs+1 else x.natAbs / y.natAbs:=rfl
 have hdr:dmR x y=if (decide (x<0) != decide (y<0))=true∧x.natAbs % y.natAbs≠0 then y.natAbs-x.natAbs % y.natAbs else x.natAbs % y.natAbs:=rfl
 generalize dmQ x y=Q at *;generalize dmR x y=R at *;unfold Ay at *;generalize hsx:decide (x<0)=sx at *;generalize hsy:decide (y<0)=sy at *;generalize hX:x.natAbs=X at *;generalize hY:y.natAbs=Y at *;generalize decide (x.fdiv y<0)=sq at *;generalize decide (x.fmod y<0)=sr at *;generalize(x.fdiv y).natAbs=q' at *;generalize(x.fmod y).natAbs=r' at *;refine Ad Tryz.func202 rfl rfl 74 rfl (Nat.le_of_ble_eq_true rfl) ?_;(repeat refine AW.seq_k fun K hK=>?_);refine AW.rgR [2,3] ?_;simp[Al];try (refine hK _ rfl ?_;clear hK K)
 refine Ae.intro fun b4 _=>Ae.intro fun b5 hb5=>?_;have n5:b4≠b5:=by rintro rfl;simp at hb5
 refine hK _ rfl ?_;clear hK K;(repeat refine AW.seq_k fun K hK=>?_);refine AW.rg ?_;simp;try (refine hK _ rfl ?_;clear hK K)
 refine Aa.val hb ?_;simp;refine hK _ rfl ?_;clear hK K;refine AW.no ?_ rfl;refine AW.skip ?_;try simp
 refine hK _ rfl ?_;clear hK K;(repeat refine AW.seq_k fun K hK=>?_);refine AW.rg ?_;simp[hyl];try (refine hK _ rfl ?_;clear hK K)
 refine AW.no ?_ rfl;refine AW.skip ?_;try simp
 refine hK _ rfl ?_;clear hK K;(repeat refine AW.seq_k fun K hK=>?_);refine AW.rg ?_;simp;try (refine hK _ rfl ?_;clear hK K)
 refine Aa.val hdv ?_;simp;refine hK _ rfl ?_;clear hK K;refine AW.seq_has [(2,.rptr [.bool sx,Ao (Ap X)]),(3,.rptr [.bool sy,Ao (Ap Y)]),(4,.ptr b4 2 0 0),(5,.ptr b5 2 0 0),(6,.int .i64 0),(7,Ao (Ap Q)),(8,Ao (Ap R))] ((Ac.emp.set b4 ⟨42,2,[.agg [.bool false,.nil]]⟩).set b5 ⟨42,2,[.agg [.bool false,.nil]]⟩) ?_ ?_
 ·by_cases ht:sx=sy
  ·subst ht;simp only[bne_self_eq_false,Bool.false_eq_true,false_and,if_false]at hdq hdr;(repeat refine AW.seq_k fun K hK=>?_);refine AW.rg ?_;simp;try (refine hK _ rfl ?_;clear hK K)
   refine AW.no ?_ rfl;refine AW.skip ?_;simp[hdq,hdr]
  ·have hb:(sx==sy)=false:=by simp[ht]
   have hb2:(sx != sy)=true:=by simp[ht]
   by_cases hm:X % Y=0
   ·simp only[hm,ne_eq,not_true_eq_false,and_false,if_false]at hdq hdr;(repeat refine AW.seq_k fun K hK=>?_);refine AW.rg ?_;simp[hb,ht,hm,Bg];try (refine hK _ rfl ?_;clear hK K)
    refine AW.no ?_ rfl;refine AW.skip ?_;simp[hdq,hdr,Bg]
   ·have hml:0<(Ap (X % Y)).length:=by
     rcases Nat.eq_zero_or_pos (Ap (X % Y)).length with h|h
     ·exact absurd (Cw.1 (List.eq_nil_of_length_eq_zero h)) hm
     ·exact h
    simp only[hm,hb2,ne_eq,not_false_eq_true,and_self,if_true]at hdq hdr;(repeat refine AW.seq_k fun K hK=>?_);refine AW.rg ?_;simp[hb,ht,hml];try (refine hK _ rfl ?_;clear hK K)
    refine AW.yes ?_ rfl;(repeat refine AW.seq_k fun K hK=>?_);refine AW.rgR [44,48] ?_;simp;try (refine hK _ rfl ?_;clear hK K)
    have hs:=W3 (Ap (X / Y)) [1] (Bb _) (by intro z hz;simp at hz;omega) (by omega) (by simp);refine Aa.val hs ?_;rw[A5];simp[val];refine hK _ rfl ?_;clear hK K;(repeat refine AW.seq_k fun K hK=>?_);refine AW.rg ?_;simp;try (refine hK _ rfl ?_;clear hK K)
    refine Aa.val (Ex Y (X % Y) (by omega) (by omega)) ?_;simp[hdq,hdr]
 (repeat refine AW.seq_k fun K hK=>?_);refine AW.rg ?_;simp;try (refine hK _ rfl ?_;clear hK K)
 refine Aa.val r1 ?_;simp;refine Ae.intro fun b9 hb9=>?_;have n9:b4≠b9:=by rintro rfl;simp[n5]at hb9
 have n9':b5≠b9:=by rintro rfl;simp at hb9
 try simp
 refine hK _ rfl ?_;clear hK K;(repeat refine AW.seq_k fun K hK=>?_);refine AW.rg ?_;simp;try (refine hK _ rfl ?_;clear hK K)
 refine AW.no ?_ rfl;refine AW.skip ?_;try simp
 refine hK _ rfl ?_;clear hK K;(repeat refine AW.seq_k fun K hK=>?_);refine AW.rg ?_;simp;try (refine hK _ rfl ?_;clear hK K)
 refine Aa.val r2 ?_;simp;refine Ae.intro fun b11 hb11=>?_;have n11:b4≠b11:=by rintro rfl;simp[n5,n9]at hb11
 have n11':b5≠b11:=by rintro rfl;simp[n9']at hb11
 have n11'':b9≠b11:=by rintro rfl;simp at hb11
 try simp
 refine hK _ rfl ?_;clear hK K;(repeat refine AW.seq_k fun K hK=>?_);refine AW.rdT [(9,b9),(11,b11),(4,b4),(5,b5)] [] [] [b9,b11] [0,1,2,3,4] Dm (by simp[n5,Ne.symm n5,n9,n9',n11,n11',n11'',Ne.symm n9,Ne.symm n9',Ne.symm n11,Ne.symm n11',Ne.symm n11'']) (by simp[n5,Ne.symm n5,n9,n9',n11,n11',n11'',Ne.symm n9,Ne.symm n9',Ne.symm n11,Ne.symm n11',Ne.symm n11'']) (by simp[n5,Ne.symm n5,n9,n9',n11,n11',n11'',Ne.symm n9,Ne.symm n9',Ne.symm n11,Ne.symm n11',Ne.symm n11'']) (by simp[n5,Ne.symm n5,n9,n9',n11,n11',n11'',Ne.symm n9,Ne.symm n9',Ne.symm n11,Ne.symm n11',Ne.symm n11'']) (by simp[n5,Ne.symm n5,n9,n9',n11,n11',n11'',Ne.symm n9,Ne.symm n9',Ne.symm n11,Ne.symm n11',Ne.symm n11'']) ?_
 simp[n5,Ne.symm n5,n9,n9',n11,n11',n11'',Ne.symm n9,Ne.symm n9',Ne.symm n11,Ne.symm n11',Ne.symm n11''];try (refine hK _ rfl ?_;clear hK K)
 refine AW.ret (Af (vs:=[.agg [.bool sq,Ao (Ap q')],.agg [.bool sr,Ao (Ap r')],.int .i64 0]) [.agg [.bool sq,Ao (Ap q')],.agg [.bool sr,Ao (Ap r')],.int .i64 0] ?_ (by simp) ⟨rfl,rfl⟩);simp[n5,Ne.symm n5]
theorem Qi (x y:Int) (hx:x.natAbs<Bj) (hy:y.natAbs<Bj) (h0:y≠0):Ak Tryz.prog 176 [Ay x,Ay y] Ac.emp fun v m=>v=.tup [Ay (x.fdiv y),Ay (x.fmod y),.int .i64 0]∧m=Ac.emp:=by
 have v1:=Gm hx;have v2:=Gm hy;have lx:=Bi hx;have ly:=Bi hy;have hq:=Qft x y h0;have hr:=Qfx x y h0;obtain⟨s1,s2⟩:=Ua (x:=x) h0;have f1:=Uf hx h0;have f2:=Uk (x:=x) hy h0;have lq:(Ap (dmQ x y)).length≤128:=Bi (by omega);have lr:(Ap (dmR x y)).length≤128:=Bi (by omega);have r1:=Ev (decide (x<0) != decide (y<0)) (Ap (dmQ x y)) (Bb _) (by omega);have r2:=Ev (decide (y<0)) (Ap (dmR x y)) (Bb _) (by omega);rw[A5,s1,Bx,Ti f1,S0 f1,bne]at r1;rw[A5,s2,Bx,Ti f2,S0 f2]at r2
 have hyl:(Ap y.natAbs).length≠0:=by
  intro h;have:=Cw.1 (List.eq_nil_of_length_eq_zero h);omega
 have hdv:=Qal x.natAbs y.natAbs (by omega) (by omega) (by omega);have hmr:x.natAbs % y.natAbs<y.natAbs:=Nat.mod_lt _ (by omega);have hql:(Ap (x.natAbs / y.natAbs)).length≤128:=Bi (Nat.lt_of_le_of_lt (Nat.div_le_self _ _) hx);have hdq:dmQ x y=if (decide (x<0) != decide (y<0))=true∧x.natAbs % y.natAbs≠0 then x.natAbs / y.natAbs+1 else x.natAbs / y.natAbs:=rfl
 have hdr:dmR x y=if (decide (x<0) != decide (y<0))=true∧x.natAbs % y.natAbs≠0 then y.natAbs-x.natAbs % y.natAbs else x.natAbs % y.natAbs:=rfl
 generalize dmQ x y=Q at *;generalize dmR x y=R at *;unfold Ay at *;generalize hsx:decide (x<0)=sx at *;generalize hsy:decide (y<0)=sy at *;generalize hX:x.natAbs=X at *;generalize hY:y.natAbs=Y at *;generalize decide (x.fdiv y<0)=sq at *;generalize decide (x.fmod y<0)=sr at *;generalize(x.fdiv y).natAbs=q' at *;generalize(x.fmod y).natAbs=r' at *;refine Ad Tryz.func176 rfl rfl 78 rfl (Nat.le_of_ble_eq_true rfl) ?_;(repeat refine AW.seq_k fun K hK=>?_);refine AW.rgR [2,3] ?_;simp[Al];try (refine hK _ rfl ?_;clear hK K)
 refine Ae.intro fun b4 _=>Ae.intro fun b5 hb5=>?_;have n5:b4≠b5:=by rintro rfl;simp at hb5
 refine hK _ rfl ?_;clear hK K;(repeat refine AW.seq_k fun K hK=>?_);refine AW.rg ?_;simp;try (refine hK _ rfl ?_;clear hK K)
 refine Aa.val v1 ?_;simp;refine Aa.val v2 ?_;simp;refine hK _ rfl ?_;clear hK K;refine AW.no ?_ rfl;refine AW.skip ?_;try simp
 refine hK _ rfl ?_;clear hK K;(repeat refine AW.seq_k fun K hK=>?_);refine AW.rg ?_;simp[hyl];try (refine hK _ rfl ?_;clear hK K)
 refine AW.no ?_ rfl;refine AW.skip ?_;try simp
 refine hK _ rfl ?_;clear hK K;(repeat refine AW.seq_k fun K hK=>?_);refine AW.rg ?_;simp;try (refine hK _ rfl ?_;clear hK K)
 refine Aa.val hdv ?_;simp;refine hK _ rfl ?_;clear hK K;refine AW.seq_has [(2,.rptr [.bool sx,Ao (Ap X)]),(3,.rptr [.bool sy,Ao (Ap Y)]),(4,.ptr b4 2 0 0),(5,.ptr b5 2 0 0),(6,.int .i64 0),(7,Ao (Ap Q)),(8,Ao (Ap R))] ((Ac.emp.set b4 ⟨42,2,[.agg [.bool false,.nil]]⟩).set b5 ⟨42,2,[.agg [.bool false,.nil]]⟩) ?_ ?_
 ·by_cases ht:sx=sy
  ·subst ht;simp only[bne_self_eq_false,Bool.false_eq_true,false_and,if_false]at hdq hdr;(repeat refine AW.seq_k fun K hK=>?_);refine AW.rg ?_;simp;try (refine hK _ rfl ?_;clear hK K)
   refine AW.no ?_ rfl;refine AW.skip ?_;simp[hdq,hdr]
  ·have hb:(sx==sy)=false:=by simp[ht]
   have hb2:(sx != sy)=true:=by simp[ht]
   by_cases hm:X % Y=0
   ·simp only[hm,ne_eq,not_true_eq_false,and_false,if_false]at hdq hdr;(repeat refine AW.seq_k fun K hK=>?_);refine AW.rg ?_;simp[hb,ht,hm,Bg];try (refine hK _ rfl ?_;clear hK K)
    refine AW.no ?_ rfl;refine AW.skip ?_;simp[hdq,hdr,Bg]
   ·have hml:0<(Ap (X % Y)).length:=by
     rcases Nat.eq_zero_or_pos (Ap (X % Y)).length with h|h
     ·exact absurd (Cw.1 (List.eq_nil_of_length_eq_zero h)) hm
     ·exact h
    simp only[hm,hb2,ne_eq,not_false_eq_true,and_self,if_true]at hdq hdr;(repeat refine AW.seq_k fun K hK=>?_);refine AW.rg ?_;simp[hb,ht,hml];try (refine hK _ rfl ?_;clear hK K)
    refine AW.yes ?_ rfl;(repeat refine AW.seq_k fun K hK=>?_);refine AW.rgR [44,48] ?_;simp;try (refine hK _ rfl ?_;clear hK K)
    have hs:=Ku (Ap (X / Y)) [1] (Bb _) (by intro z hz;simp at hz;omega) (by omega) (by simp);refine Aa.val hs ?_;rw[A5];simp[val];refine hK _ rfl ?_;clear hK K;(repeat refine AW.seq_k fun K hK=>?_);refine AW.rg ?_;simp;try (refine hK _ rfl ?_;clear hK K)
    refine Aa.val (Gc Y (X % Y) (by omega) (by omega)) ?_;simp[hdq,hdr]
 (repeat refine AW.seq_k fun K hK=>?_);refine AW.rg ?_;simp;try (refine hK _ rfl ?_;clear hK K)
 refine Aa.val r1 ?_;simp;refine Ae.intro fun b9 hb9=>?_;have n9:b4≠b9:=by rintro rfl;simp[n5]at hb9
 have n9':b5≠b9:=by rintro rfl;simp at hb9
 try simp
 refine hK _ rfl ?_;clear hK K;(repeat refine AW.seq_k fun K hK=>?_);refine AW.rg ?_;simp;try (refine hK _ rfl ?_;clear hK K)
 refine AW.no ?_ rfl;refine AW.skip ?_;try simp
 refine hK _ rfl ?_;clear hK K;(repeat refine AW.seq_k fun K hK=>?_);refine AW.rg ?_;simp;try (refine hK _ rfl ?_;clear hK K)
 refine Aa.val r2 ?_;simp;refine Ae.intro fun b11 hb11=>?_;have n11:b4≠b11:=by rintro rfl;simp[n5,n9]at hb11
 have n11':b5≠b11:=by rintro rfl;simp[n9']at hb11
 have n11'':b9≠b11:=by rintro rfl;simp at hb11
 try simp
 refine hK _ rfl ?_;clear hK K;(repeat refine AW.seq_k fun K hK=>?_);refine AW.rdT [(9,b9),(11,b11),(4,b4),(5,b5)] [] [] [b9,b11] [0,1,2,3,4] Dm (by simp[n5,Ne.symm n5,n9,n9',n11,n11',n11'',Ne.symm n9,Ne.symm n9',Ne.symm n11,Ne.symm n11',Ne.symm n11'']) (by simp[n5,Ne.symm n5,n9,n9',n11,n11',n11'',Ne.symm n9,Ne.symm n9',Ne.symm n11,Ne.symm n11',Ne.symm n11'']) (by simp[n5,Ne.symm n5,n9,n9',n11,n11',n11'',Ne.symm n9,Ne.symm n9',Ne.symm n11,Ne.symm n11',Ne.symm n11'']) (by simp[n5,Ne.symm n5,n9,n9',n11,n11',n11'',Ne.symm n9,Ne.symm n9',Ne.symm n11,Ne.symm n11',Ne.symm n11'']) (by simp[n5,Ne.symm n5,n9,n9',n11,n11',n11'',Ne.symm n9,Ne.symm n9',Ne.symm n11,Ne.symm n11',Ne.symm n11'']) ?_
 simp[n5,Ne.symm n5,n9,n9',n11,n11',n11'',Ne.symm n9,Ne.symm n9',Ne.symm n11,Ne.symm n11',Ne.symm n11''];try (refine hK _ rfl ?_;clear hK K)
 refine AW.ret (Af (vs:=[.agg [.bool sq,Ao (Ap q')],.agg [.bool sr,Ao (Ap r')],.int .i64 0]) [.agg [.bool sq,Ao (Ap q')],.agg [.bool sr,Ao (Ap r')],.int .i64 0] ?_ (by simp) ⟨rfl,rfl⟩);simp[n5,Ne.symm n5]
end Go.Av
end
section
namespace Go.Av
open Go.Proofs
theorem Qhi {n:Nat} (h:n<Bj):Bx (if false=true then -(n:Int) else (n:Int))=.tup [.agg [.bool false,Ao (Ap n)],.int .i64 0]:=by
 rw[if_neg (by simp),Bx,Ti (by omega),S0 (by omega),Ay];rw[show decide ((n:Int)<0)=false by simp];rfl
theorem Vm {n:Nat} (h:n<18446744073709551616):n<Bj:=by
 have h1:Bj=4294967296^126*4294967296^2:=by rw[←Nat.pow_add];rfl
 have hp:1≤4294967296^126:=Nat.pow_pos (by omega);rw[h1]
 calc n<1*4294967296^2:=by omega
  _≤_:=Nat.mul_le_mul_right _ hp
theorem Yv (x y:Int) (hx:x.natAbs<Bj) (hy:y.natAbs<Bj):Ak Tryz.prog 88 [Ay x,Ay y] Ac.emp fun v m=>v=.tup [Ay (Nat.gcd x.natAbs y.natAbs:Nat),.int .i64 0]∧m=Ac.emp:=by
 have hb:=Q4 x y hx hy;have hgl:Nat.gcd x.natAbs y.natAbs<Bj:=by
  rcases Nat.eq_zero_or_pos x.natAbs with h|h
  ·rw[h,Nat.gcd_zero_left];exact hy
  ·exact Nat.lt_of_le_of_lt (Nat.gcd_le_left _ h) hx
 have hiG:Ay (Nat.gcd x.natAbs y.natAbs:Nat)=.agg [.bool false,Ao (Ap (Nat.gcd x.natAbs y.natAbs))]:=by
  rw[Ay,show decide (((Nat.gcd x.natAbs y.natAbs:Nat):Int)<0)=false by simp];rfl
 rw[hiG];unfold Ay at hb ⊢;generalize decide (x<0)=sx at *;generalize decide (y<0)=sy at *;generalize x.natAbs=X at *;generalize y.natAbs=Y at *;generalize hG:Nat.gcd X Y=G at *;refine Ad Tryz.func88 rfl rfl 68 rfl (Nat.le_of_ble_eq_true rfl) ?_;(repeat refine AW.seq_k fun K hK=>?_);refine AW.rgR [2,3] ?_;simp[Al];try (refine hK _ rfl ?_;clear hK K)
 refine Ae.intro fun b4 _=>?_;refine hK _ rfl ?_;clear hK K;(repeat refine AW.seq_k fun K hK=>?_);refine AW.rg ?_;simp;try (refine hK _ rfl ?_;clear hK K)
 refine Aa.val hb ?_;simp;refine hK _ rfl ?_;clear hK K;refine AW.no ?_ rfl;refine AW.skip ?_;try simp
 refine hK _ rfl ?_;clear hK K;(repeat refine AW.seq_k fun K hK=>?_);refine AW.rd [0,1,2,3,4,5] Dm ?_;simp;try (refine hK _ rfl ?_;clear hK K)
 refine AW.seq_ex (ι:=Nat × Nat) (fun z=>[(4,.ptr b4 2 0 0),(5,.int .i64 0),(6,Ao (Ap z.1)),(7,Ao (Ap z.2))]) (fun _=>Ac.emp.set b4 ⟨42,2,[.agg [.bool false,.nil]]⟩)
  (fun z=>Nat.gcd z.1 z.2=G∧z.1<Bj∧z.2<Bj∧(z.2=0∨(Ap z.1).length≤2∧(Ap z.2).length≤2)) ?_ ?_
 ·refine AW.block (AW.loopS (ι:=Nat × Nat) (fun z=>[(4,.ptr b4 2 0 0),(5,.int .i64 0),(6,Ao (Ap z.1)),(7,Ao (Ap z.2))]) (fun _=>Ac.emp.set b4 ⟨42,2,[.agg [.bool false,.nil]]⟩)
   (fun z=>Nat.gcd z.1 z.2=G∧z.1<Bj∧z.2<Bj) (fun z=>z.2) (X,Y) ⟨hG,hx,hy⟩ rfl (by simp) ?_)
  rintro⟨p,q⟩ ⟨h1,h2,h3⟩;simp only at h1 h2 h3;simp only;refine AW.seq_ex (ι:=Unit) (fun _=>[(4,.ptr b4 2 0 0),(5,.int .i64 0),(6,Ao (Ap p)),(7,Ao (Ap q))]) (fun _=>Ac.emp.set b4 ⟨42,2,[.agg [.bool false,.nil]]⟩) (fun _=>q≠0) ?_ ?_
  ·by_cases h0:q=0
   ·subst h0;(repeat refine AW.seq_k fun K hK=>?_);refine AW.rg ?_;simp[Bg];try (refine hK _ rfl ?_;clear hK K)
    refine AW.no ?_ rfl;refine AW.exit ?_;try simp
    exact⟨p,0,⟨h1,h2,h3,.inl rfl⟩,rfl,by rw[Bg]⟩
   ·have hl:0<(Ap q).length:=by
     rcases Nat.eq_zero_or_pos (Ap q).length with h|h
     ·exact absurd (Cw.1 (List.eq_nil_of_length_eq_zero h)) h0
     ·exact h
    by_cases h4:2<(Ap p).length
    ·(repeat refine AW.seq_k fun K hK=>?_);refine AW.rg ?_;simp[hl,h4];try (refine hK _ rfl ?_;clear hK K)
     refine AW.yes ?_ rfl;refine AW.skip ?_;try simp
     exact h0
    ·by_cases h5:2<(Ap q).length
     ·(repeat refine AW.seq_k fun K hK=>?_);refine AW.rg ?_;simp[hl,h4,h5];try (refine hK _ rfl ?_;clear hK K)
      refine AW.yes ?_ rfl;refine AW.skip ?_;try simp
      exact h0
     ·(repeat refine AW.seq_k fun K hK=>?_);refine AW.rg ?_;simp[hl,h4,h5];try (refine hK _ rfl ?_;clear hK K)
      refine AW.no ?_ rfl;refine AW.exit ?_;try simp
      exact⟨p,q,⟨h1,h2,h3,.inr ⟨Nat.le_of_not_lt h4,Nat.le_of_not_lt h5⟩⟩,rfl,rfl⟩
  ·rintro _ h0;have l1:=Bi h2;have l2:=Bi h3;(repeat refine AW.seq ?_);refine AW.block ?_;(repeat refine AW.seq_k fun K hK=>?_);refine AW.rg ?_;simp;try (refine hK _ rfl ?_;clear hK K)
   refine Aa.val (S7 p q h0 (by omega) (by omega)) ?_;simp;refine hK _ rfl ?_;clear hK K;(repeat refine AW.seq_k fun K hK=>?_);refine AW.rg ?_;simp;try (refine hK _ rfl ?_;clear hK K)
   exact⟨q,p % q,⟨by rw[←h1,Nat.gcd_comm p q,Nat.gcd_rec q p,Nat.gcd_comm],h3,Nat.lt_trans (Nat.mod_lt _ (Nat.pos_of_ne_zero h0)) h3⟩,Nat.mod_lt _ (Nat.pos_of_ne_zero h0),rfl,rfl⟩
 rintro⟨p,q⟩ ⟨h1,h2,h3,h4⟩;simp only at h1 h2 h3 h4;simp only;have l1:=Bi h2;refine AW.seq_ex (ι:=Unit) (fun _=>[(4,.ptr b4 2 0 0),(5,.int .i64 0),(6,Ao (Ap p)),(7,Ao (Ap q))]) (fun _=>Ac.emp.set b4 ⟨42,2,[.agg [.bool false,.nil]]⟩) (fun _=>(Ap p).length≤2∧(Ap q).length≤2) ?_ ?_
 ·(repeat refine AW.seq_k fun K hK=>?_);refine AW.rg ?_;simp;try (refine hK _ rfl ?_;clear hK K)
  (repeat refine AW.seq ?_);refine AW.cs (fun h5=>?_) (fun h5=>?_) rfl<;>simp at h5
  ·have hq:q=0:=by omega
   subst hq;rw[Nat.gcd_zero_right]at h1;subst h1;(repeat refine AW.seq_k fun K hK=>?_);refine AW.rg ?_;simp;try (refine hK _ rfl ?_;clear hK K)
   refine Aa.val (C3 false (Ap p) (Bb _) (by omega)) ?_;rw[A5,Qhi h2];simp;refine hK _ rfl ?_;clear hK K;refine AW.ret (Dh (b:=b4) (.bool false) (Ao (Ap p)) rfl rfl (by simp;exact⟨rfl,rfl⟩) rfl ?_ ⟨?_,rfl⟩)
   ·simp
   ·rfl
  ·refine AW.skip ?_;try simp
   rcases h4 with rfl|h4
   ·rw[Bg];exact⟨h5,by simp⟩
   ·exact h4
 rintro _ ⟨h5,h6⟩;have hp:=A8.1 h5;have hq:=A8.1 h6;(repeat refine AW.seq_k fun K hK=>?_);refine AW.rg ?_;simp;try (refine hK _ rfl ?_;clear hK K)
 refine Aa.val (Yg p (by omega)) ?_;simp;refine Aa.val (Yg q (by omega)) ?_;simp;refine hK _ rfl ?_;clear hK K;refine AW.seq_ex (ι:=Unit) (fun _=>[(4,.ptr b4 2 0 0),(5,.int .i64 0),(10,.int .u64 (G:Nat))]) (fun _=>Ac.emp.set b4 ⟨42,2,[.agg [.bool false,.nil]]⟩) (fun _=>G<18446744073709551616) ?_ ?_
 ·refine AW.block (AW.loopS (ι:=Nat × Nat) (fun z=>[(4,.ptr b4 2 0 0),(5,.int .i64 0),(10,.int .u64 (z.1:Nat)),(11,.int .u64 (z.2:Nat))]) (fun _=>Ac.emp.set b4 ⟨42,2,[.agg [.bool false,.nil]]⟩)
   (fun z=>Nat.gcd z.1 z.2=G∧z.1<18446744073709551616∧z.2<18446744073709551616) (fun z=>z.2) (p,q) ⟨h1,by omega,by omega⟩ rfl (by simp) ?_)
  rintro⟨n,k⟩ ⟨g1,g2,g3⟩;simp only at g1 g2 g3;simp only;(repeat refine AW.seq_k fun K hK=>?_);refine AW.rg ?_;simp;try (refine hK _ rfl ?_;clear hK K)
  (repeat refine AW.seq ?_);refine AW.cs (fun hk=>?_) (fun hk=>?_) rfl<;>simp at hk
  ·refine AW.skip ?_;try simp
   refine hK _ rfl ?_;clear hK K;(repeat refine AW.seq ?_);refine AW.block ?_;have hk0:k≠0:=by omega
   (repeat refine AW.seq_k fun K hK=>?_);refine AW.rd [0,1,2,3,4,5] Dm ?_;simp[-Int.natCast_emod,hk0];try (refine hK _ rfl ?_;clear hK K)
   exact⟨k,n % k,⟨by rw[←g1,Nat.gcd_comm n k,Nat.gcd_rec k n,Nat.gcd_comm],g3,Nat.lt_trans (Nat.mod_lt _ hk) g3⟩,Nat.mod_lt _ hk,rfl,rfl⟩
  ·refine AW.exit ?_;try simp
   have:k=0:=by omega
   subst this;rw[Nat.gcd_zero_right]at g1;subst g1;exact⟨g2,rfl⟩
 rintro _ hG2;have m1:G / 4294967296<4294967296:=by omega
 have hv:val [G % 4294967296,G / 4294967296 % 4294967296]=G:=by simp[val];omega
 have hr:=C3 false [G % 4294967296,G / 4294967296 % 4294967296] (fun z hz=>by
  simp at hz;rcases hz with rfl | rfl<;>exact Nat.mod_lt _ (by omega)) (by simp)
 rw[hv,Qhi hgl]at hr;(repeat refine AW.seq_k fun K hK=>?_);refine AW.rgR [64] ?_;simp[-Int.natCast_ediv,-Int.natCast_emod];try (refine hK _ rfl ?_;clear hK K)
 refine Aa.val hr ?_;simp[-Int.natCast_ediv,-Int.natCast_emod];refine hK _ rfl ?_;clear hK K;refine AW.ret (Dh (b:=b4) (.bool false) (Ao (Ap G)) rfl rfl (by simp;exact⟨rfl,rfl⟩) rfl ?_ ⟨?_,rfl⟩)
 ·simp
 ·rfl
end Go.Av
end
section
namespace Go.Av
open Go.Proofs
theorem Qb0 (n:Int) (h1:-9223372036854775808≤n) (h2:n<9223372036854775808):Ak Tryz.prog 97 [.int .i64 n] Ac.emp fun v m=>v=Ay n∧m=Ac.emp:=by
 refine Ad Tryz.func97 rfl rfl 22 rfl (Nat.le_of_ble_eq_true rfl) ?_;have hB:Bj=4294967296^126*4294967296^2:=by rw[←Nat.pow_add];rfl
 (repeat refine AW.seq_k fun K hK=>?_);refine AW.rg ?_;simp[Al];try (refine hK _ rfl ?_;clear hK K)
 refine Ae.intro fun b2 _=>?_;refine hK _ rfl ?_;clear hK K;(repeat refine AW.seq_k fun K hK=>?_);refine AW.rg ?_;simp;try (refine hK _ rfl ?_;clear hK K)
 refine AW.seq_has [(0,.int .i64 n),(2,.ptr b2 2 0 0),(3,.int .u64 (n.natAbs:Nat))] (Ac.emp.set b2 ⟨42,2,[.agg [.bool false,.nil]]⟩) ?_ ?_
 ·(repeat refine AW.seq_k fun K hK=>?_);refine AW.rg ?_;simp;try (refine hK _ rfl ?_;clear hK K)
  (repeat refine AW.seq ?_);refine AW.cs (fun hn=>?_) (fun hn=>?_) rfl<;>simp at hn
  ·(repeat refine AW.seq_k fun K hK=>?_);refine AW.rg ?_;simp;try (refine hK _ rfl ?_;clear hK K)
   omega
  ·refine AW.skip ?_;try simp
   omega
 have hv:val [n.natAbs % 4294967296,n.natAbs / 4294967296 % 4294967296]=n.natAbs:=by simp[val];omega
 have hl:Lb [n.natAbs % 4294967296,n.natAbs / 4294967296 % 4294967296]:=fun z hz=>by
  simp at hz;rcases hz with rfl | rfl<;>exact Nat.mod_lt _ (by omega)
 have ht:=D3 [n.natAbs % 4294967296,n.natAbs / 4294967296 % 4294967296] (by simp);rw[Ck hl,hv]at ht;have hlen:(Ap n.natAbs).length≤2:=A8.2 (by omega);(repeat refine AW.seq_k fun K hK=>?_);refine AW.rgR [18] ?_;simp[-Int.natCast_ediv,-Int.natCast_emod];try (refine hK _ rfl ?_;clear hK K)
 refine Ae.intro fun b12 h12=>?_;have n12:b2≠b12:=by rintro rfl;simp at h12
 refine Aa.val ht ?_;simp[-Int.natCast_ediv,-Int.natCast_emod,n12,Ne.symm n12];refine⟨by omega,by unfold maxLen;omega,Ae.intro fun b13 h13=>?_⟩;have n13:b2≠b13:=by rintro rfl;simp[n12]at h13
 simp[-Int.natCast_ediv,-Int.natCast_emod,n12,Ne.symm n12,n13,Ne.symm n13];refine hK _ rfl ?_;clear hK K;refine AW.ret (Af (vs:=[.agg [.bool (decide (n<0)),.osl b13 1 0 (Ap n.natAbs).length]]) [.agg [.bool (decide (n<0)),Ao (Ap n.natAbs)]] (by simp[-Int.natCast_ediv,-Int.natCast_emod]) ?_ ⟨rfl,rfl⟩);simp[-Int.natCast_ediv,-Int.natCast_emod];exact Fk (e:=124) (by simp[n13,Ne.symm n13]) rfl
end Go.Av
end
section
namespace Go.Av
open Go.Proofs
def B0 (q:Rat):Prop:=q.num.natAbs<Bj∧q.den<Bj
def H6 (q:Rat):AV:=.agg [.bool (decide (q.num<0)),Ao (Ap q.num.natAbs),.bool false,Ao (Ap q.den)]
def B9:AV:=.agg [.bool false,Ao [],.bool false,Ao []]
def D6:Option Rat→AV
 |some q=>.tup [H6 q,.int .i64 0]
 |none=>.tup [B9,.int .i64 2]
def B5 (z:Int):Bool:=decide (z.natAbs<Bj)
def Ej (a b:Rat):Option Rat:=if (B5 (a.num*b.den)&&B5 (b.num*a.den)&&B5 (a.num*b.den+b.num*a.den)&&B5 ((a.den:Int)*b.den))=true then some (a+b) else none
def Da (a b:Rat):Option Rat:=if (B5 (a.num*b.den)&&B5 (b.num*a.den)&&B5 (a.num*b.den-b.num*a.den)&&B5 ((a.den:Int)*b.den))=true then some (a-b) else none
def Df (a b:Rat):Option Rat:=if (B5 (a.num*b.num)&&B5 ((a.den:Int)*b.den))=true then some (a*b) else none
def Fu (a b:Rat):Option Rat:=if (B5 (a.num*b.den)&&B5 ((a.den:Int)*b.num))=true then some (a / b) else none
def Xw (a:Rat):Int:=if a.num<0 then -1 else if a.num=0 then 0 else 1
theorem B4 {z:Int}:B5 z=true↔z.natAbs<Bj:=by unfold B5;simp
theorem Oy {n d:Int} (hd:0<d):(Rat.divInt n d).num=n / (Nat.gcd n.natAbs d.natAbs:Nat):=by
 rw[Rat.num_divInt,Int.sign_eq_one_of_pos hd,Int.one_mul,Int.gcd,Nat.gcd_comm]
theorem Pe {n d:Int} (hd:0<d):(Rat.divInt n d).den=d.natAbs / Nat.gcd n.natAbs d.natAbs:=by
 rw[Rat.den_divInt,if_neg (by omega),Int.gcd,Nat.gcd_comm]
theorem Gl {n d:Int} (hn:n.natAbs<Bj) (hd:d.natAbs<Bj) (h0:d≠0):B0 (Rat.divInt n d):=by
 have key:∀{n d:Int},n.natAbs<Bj→d.natAbs<Bj→0<d→B0 (Rat.divInt n d):=by
  intro n d hn hd h0;refine⟨?_,?_⟩
  ·rw[Oy h0];refine Nat.lt_of_le_of_lt ?_ hn;exact Int.natAbs_ediv_le_natAbs _ _
  ·rw[Pe h0];exact Nat.lt_of_le_of_lt (Nat.div_le_self _ _) hd
 rcases Int.lt_or_gt_of_ne h0 with h|h
 ·have:=key (n:=-n) (d:=-d) (by omega) (by omega) (by omega)
  rwa [Rat.neg_divInt_neg]at this
 ·exact key hn hd h
theorem Qlg (a b:Rat):a+b=Rat.divInt (a.num*b.den+b.num*a.den) ((a.den:Int)*b.den):=by
 rw[Rat.add_def',←Int.natCast_mul,Rat.divInt_ofNat]
theorem Qfo (a b:Rat):a-b=Rat.divInt (a.num*b.den-b.num*a.den) ((a.den:Int)*b.den):=by
 rw[Rat.sub_def',←Int.natCast_mul,Rat.divInt_ofNat]
theorem Qex (a b:Rat):a*b=Rat.divInt (a.num*b.num) ((a.den:Int)*b.den):=by
 rw[Rat.mul_def',←Int.natCast_mul,Rat.divInt_ofNat]
theorem Qmr (a b:Rat):a / b=Rat.divInt (a.num*b.den) ((a.den:Int)*b.num):=by
 rw[Rat.div_def,Rat.inv_def,←Rat.num_divInt_den a,Rat.divInt_mul_divInt,Rat.num_divInt_den]
theorem Qbm {a b c:Rat} (h:Ej a b=some c):B0 c:=by
 unfold Ej at h;split at h
 ·rename_i h1
  simp only[Bool.and_eq_true,B4]at h1;cases h;rw[Qlg];refine Gl h1.1.2 h1.2 ?_;have:=a.den_pos;have:=b.den_pos;exact Int.ne_of_gt (Int.mul_pos (by omega) (by omega))
 ·cases h
theorem Qo {a b c:Rat} (h:Da a b=some c):B0 c:=by
 unfold Da at h;split at h
 ·rename_i h1
  simp only[Bool.and_eq_true,B4]at h1;cases h;rw[Qfo];refine Gl h1.1.2 h1.2 ?_;have:=a.den_pos;have:=b.den_pos;exact Int.ne_of_gt (Int.mul_pos (by omega) (by omega))
 ·cases h
theorem Qc0 {a b c:Rat} (h:Df a b=some c):B0 c:=by
 unfold Df at h;split at h
 ·rename_i h1
  simp only[Bool.and_eq_true,B4]at h1;cases h;rw[Qex];refine Gl h1.1 h1.2 ?_;have:=a.den_pos;have:=b.den_pos;exact Int.ne_of_gt (Int.mul_pos (by omega) (by omega))
 ·cases h
theorem P3 {a b c:Rat} (hb:b≠0) (h:Fu a b=some c):B0 c:=by
 unfold Fu at h;split at h
 ·rename_i h1
  simp only[Bool.and_eq_true,B4]at h1;cases h;rw[Qmr];refine Gl h1.1 h1.2 ?_;have:=a.den_pos;exact Int.mul_ne_zero (by omega) (fun e=>hb (Rat.num_eq_zero.1 e))
 ·cases h
structure RR where
 n1:Bool
 l1:List Nat
 n2:Bool
 l2:List Nat
def RR.av (r:RR):AV:=.agg [.bool r.n1,Ao r.l1,.bool r.n2,Ao r.l2]
def RR.Lb (r:RR):Prop:=Av.Lb r.l1∧Av.Lb r.l2
def RR.ok (r:RR):Bool:=Pt r.n1 r.l1 r.n2 r.l2
def Ar (q:Rat):RR:=⟨decide (q.num<0),Ap q.num.natAbs,false,Ap q.den⟩
theorem Dx (q:Rat):(Ar q).av=H6 q:=rfl
theorem Eb (q:Rat):(Ar q).Lb:=⟨Bb _,Bb _⟩
theorem D0 {q:Rat} (h:B0 q):(Ar q).ok=true:=by
 unfold RR.ok Ar Pt;have h1:=Fh (z:=q.num) h.1;have h2:=Fh (z:=(q.den:Int)) (by simpa using h.2);rw[show decide ((q.den:Int)<0)=false by simp,Int.natAbs_natCast]at h2;simp only[h1,h2,Bool.not_false,Bool.and_true,Bool.true_and,Bool.and_eq_true,decide_eq_true_eq,A5];refine⟨fun e=>?_,q.reduced⟩;have:=Cw.1 (List.eq_nil_of_length_eq_zero e);exact q.den_nz this
theorem Qwb {r:RR} (hl:r.Lb) (h:r.ok=true):∃q,B0 q∧r=Ar q:=by
 obtain⟨n1,l1,n2,l2⟩:=r;unfold RR.ok Pt at h;simp only[Bool.and_eq_true,decide_eq_true_eq,Bool.not_eq_true']at h;obtain⟨⟨⟨⟨h1,h2⟩,h3⟩,h4⟩,h5⟩:=h;obtain⟨z1,b1,e1,e1',c1⟩:=Gg hl.1 h1;obtain⟨z2,b2,e2,e2',c2⟩:=Gg hl.2 h2;simp only at e1 e1' c1 e2 e2' c2 h3 h4 h5;subst e1 e1';rw[h3]at e2;have hz2:z2.natAbs≠0:=by
  intro e;rw[e,Bg]at e2';exact h4 (by rw[e2'];rfl)
 refine⟨⟨z1,z2.natAbs,hz2,?_⟩,⟨b1,b2⟩,?_⟩
 ·rw[←c1,←c2]at h5;exact h5
 ·rw[h3];show RR.mk _ _ _ l2=RR.mk _ _ _ (Ap z2.natAbs)
  rw[←e2']
end Go.Av
end
section
namespace Go.Av
open Go.Proofs
theorem Gf (r:RR) (hr:r.Lb):Ak Tryz.prog 48 [r.av] Ac.emp fun v m=>v=.bool r.ok∧m=Ac.emp:=by
 obtain⟨n1,l1,n2,l2⟩:=r;obtain⟨h1,h2⟩:=hr;simp only at h1 h2;unfold RR.ok RR.av Pt;simp only;have v1:=Hp n1 l1;have v2:=Hp n2 l2;have z2:=Kx n2 l2;unfold Er at v1 v2 z2;refine Ad Tryz.func48 rfl rfl 38 rfl (Nat.le_of_ble_eq_true rfl) ?_;(repeat refine AW.seq_k fun K hK=>?_);refine AW.rgR [1] ?_;simp[Al];try (refine hK _ rfl ?_;clear hK K)
 cases o1:Fs n1 l1
 ·rw[o1]at v1;(repeat refine AW.seq_k fun K hK=>?_);refine AW.rg ?_;simp;try (refine hK _ rfl ?_;clear hK K)
  refine Aa.val v1 ?_;simp;refine hK _ rfl ?_;clear hK K;refine AW.yes ?_ rfl;(repeat refine AW.seq_k fun K hK=>?_);refine AW.rg ?_;simp;try (refine hK _ rfl ?_;clear hK K)
  exact AW.ret (Ah rfl _ (.same _) ⟨by simp,rfl⟩)
 rw[o1]at v1;cases o2:Fs n2 l2
 ·rw[o2]at v2;(repeat refine AW.seq_k fun K hK=>?_);refine AW.rg ?_;simp;try (refine hK _ rfl ?_;clear hK K)
  refine Aa.val v1 ?_;simp;refine Aa.val v2 ?_;simp;refine hK _ rfl ?_;clear hK K;refine AW.yes ?_ rfl;(repeat refine AW.seq_k fun K hK=>?_);refine AW.rg ?_;simp;try (refine hK _ rfl ?_;clear hK K)
  exact AW.ret (Ah rfl _ (.same _) ⟨by simp,rfl⟩)
 rw[o2]at v2;obtain⟨z1,b1,rfl,rfl,c1⟩:=Gg h1 o1;obtain⟨z3,b2,e2,rfl,c2⟩:=Gg h2 o2;cases n2
 ·have g:=Yv z1 z3 b1 b2;have on:=Vb z3 b2;unfold Ay at g on;rw[←e2]at g on;(repeat refine AW.seq_k fun K hK=>?_);refine AW.rg ?_;simp;try (refine hK _ rfl ?_;clear hK K)
  refine Aa.val v1 ?_;simp;refine Aa.val v2 ?_;simp;refine Aa.val z2 ?_;simp;refine hK _ rfl ?_;clear hK K;(repeat refine AW.seq ?_);refine AW.cs (fun hl=>?_) (fun hl=>?_) rfl<;>(try simp at hl)
  ·(repeat refine AW.seq_k fun K hK=>?_);refine AW.rg ?_;simp;try (refine hK _ rfl ?_;clear hK K)
   exact AW.ret (Ah rfl _ (.same _) ⟨by simp[hl],rfl⟩)
  ·refine AW.skip ?_;try simp
   refine hK _ rfl ?_;clear hK K;have hg:Nat.gcd z1.natAbs z3.natAbs<Bj:=by
    refine Nat.lt_of_le_of_lt (Nat.le_of_dvd ?_ (Nat.gcd_dvd_right _ _)) b2;rcases Nat.eq_zero_or_pos z3.natAbs with h | h
    ·exact absurd (Cw.2 h) hl
    ·exact h
   have on2:=Vb (Nat.gcd z1.natAbs z3.natAbs:Nat) (by simpa using hg);rw[Ay]at on2;rw[show decide (((Nat.gcd z1.natAbs z3.natAbs:Nat):Int)<0)=false by simp]at g on2;rw[Int.natAbs_natCast]at g on2;rw[A5,A5];simp only[hl,ne_eq,not_false_eq_true,decide_true,Bool.and_true,Bool.true_and,Bool.not_false];(repeat refine AW.seq_k fun K hK=>?_);refine AW.rg ?_;simp;try (refine hK _ rfl ?_;clear hK K)
   refine Aa.val on ?_;simp;refine hK _ rfl ?_;clear hK K;(repeat refine AW.seq ?_);refine AW.cs (fun h3=>?_) (fun h3=>?_) rfl<;>(try simp at h3)
   ·subst h3;(repeat refine AW.seq_k fun K hK=>?_);refine AW.rg ?_;simp;try (refine hK _ rfl ?_;clear hK K)
    exact AW.ret (Ah rfl _ (.same _) ⟨by simp[Cw],rfl⟩)
   ·refine AW.skip ?_;try simp
    refine hK _ rfl ?_;clear hK K;(repeat refine AW.seq_k fun K hK=>?_);refine AW.rg ?_;simp;try (refine hK _ rfl ?_;clear hK K)
    refine Aa.val g ?_;simp;refine Ae.intro fun b3 _=>?_;try simp
    refine hK _ rfl ?_;clear hK K;(repeat refine AW.seq_k fun K hK=>?_);refine AW.rg ?_;simp;try (refine hK _ rfl ?_;clear hK K)
    refine Aa.val on2 ?_;simp;refine hK _ rfl ?_;clear hK K;exact AW.ret (Af [.bool (decide (Nat.gcd z1.natAbs z3.natAbs=1))] rfl (by simp) ⟨by simp[hl],rfl⟩)
 ·(repeat refine AW.seq_k fun K hK=>?_);refine AW.rg ?_;simp;try (refine hK _ rfl ?_;clear hK K)
  refine Aa.val v1 ?_;simp;refine Aa.val v2 ?_;simp;refine hK _ rfl ?_;clear hK K;refine AW.yes ?_ rfl;(repeat refine AW.seq_k fun K hK=>?_);refine AW.rg ?_;simp;try (refine hK _ rfl ?_;clear hK K)
  exact AW.ret (Ah rfl _ (.same _) ⟨by simp,rfl⟩)
def D9 (r:RR):Int:=if r.ok=true then (if r.l1.length=0 then 0 else if r.n1=true then -1 else 1) else 0
theorem Oo (r:RR) (hr:r.Lb):Ak Tryz.prog 49 [r.av] Ac.emp fun v m=>v=.int .i64 (D9 r)∧m=Ac.emp:=by
 have hv:=Gf r hr;have hz:=Kx r.n1 r.l1;unfold Er at hz;unfold RR.av at hv ⊢;refine Ad Tryz.func49 rfl rfl 16 rfl (Nat.le_of_ble_eq_true rfl) ?_;(repeat refine AW.seq_k fun K hK=>?_);refine AW.rgR [1] ?_;simp[Al];try (refine hK _ rfl ?_;clear hK K)
 refine AW.seq_ex (ι:=Unit) (fun _=>[]) (fun _=>Ac.emp) (fun _=>r.ok=true∧¬r.l1.length=0∧r.n1=false) ?_ ?_
 ·(repeat refine AW.seq ?_);refine AW.block ?_;by_cases h1:r.ok=true
  ·rw[h1]at hv;(repeat refine AW.seq_k fun K hK=>?_);refine AW.rg ?_;simp;try (refine hK _ rfl ?_;clear hK K)
   refine Aa.val hv ?_;simp;refine Aa.val hz ?_;simp;refine hK _ rfl ?_;clear hK K;(repeat refine AW.seq ?_);refine AW.cs (fun h2=>?_) (fun h2=>?_) rfl<;>(try simp at h2)
   ·(repeat refine AW.seq_k fun K hK=>?_);refine AW.rg ?_;simp;try (refine hK _ rfl ?_;clear hK K)
    exact AW.ret (Ah rfl _ (.same _) ⟨by simp[D9,h2],rfl⟩)
   ·(repeat refine AW.seq_k fun K hK=>?_);refine AW.rg ?_;simp;try (refine hK _ rfl ?_;clear hK K)
    (repeat refine AW.seq ?_);refine AW.cs (fun h3=>?_) (fun h3=>?_) rfl<;>(try simp at h3)
    ·(repeat refine AW.seq_k fun K hK=>?_);refine AW.rg ?_;simp;try (refine hK _ rfl ?_;clear hK K)
     exact AW.ret (Ah rfl _ (.same _) ⟨by simp[D9,h1,h2,h3],rfl⟩)
    ·refine AW.skip ?_;try simp
     exact⟨h1,h2,h3⟩
  ·have h1':r.ok=false:=by simpa using h1
   rw[h1']at hv;(repeat refine AW.seq_k fun K hK=>?_);refine AW.rg ?_;simp;try (refine hK _ rfl ?_;clear hK K)
   refine Aa.val hv ?_;simp;refine hK _ rfl ?_;clear hK K;refine AW.yes ?_ rfl;(repeat refine AW.seq_k fun K hK=>?_);refine AW.rg ?_;simp;try (refine hK _ rfl ?_;clear hK K)
   exact AW.ret (Ah rfl _ (.same _) ⟨by simp[D9,h1'],rfl⟩)
 rintro _ ⟨h1,h2,h3⟩;(repeat refine AW.seq_k fun K hK=>?_);refine AW.rg ?_;simp;try (refine hK _ rfl ?_;clear hK K)
 exact AW.ret (Ah rfl _ (.same _) ⟨by simp[D9,h1,h2,h3],rfl⟩)
theorem Sn (r:RR) (hr:r.Lb):Ak Tryz.prog 43 [r.av] Ac.emp fun v m=>v=.int .i64 (D9 r)∧m=Ac.emp:=by
 have hv:=Jt r.n1 r.l1 r.n2 r.l2 hr.1 hr.2;have hz:=Jz r.n1 r.l1;unfold Er at hz;unfold Qej at hv;unfold RR.av;have hok:Pt r.n1 r.l1 r.n2 r.l2=r.ok:=rfl;rw[hok]at hv;refine Ad Tryz.func43 rfl rfl 16 rfl (Nat.le_of_ble_eq_true rfl) ?_;(repeat refine AW.seq_k fun K hK=>?_);refine AW.rgR [1] ?_;simp[Al];try (refine hK _ rfl ?_;clear hK K)
 (repeat refine AW.seq_k fun K hK=>?_);refine AW.rg ?_;simp;try (refine hK _ rfl ?_;clear hK K)
 refine Aa.val hv ?_;simp;refine hK _ rfl ?_;clear hK K;by_cases h1:r.ok=true
 ·(repeat refine AW.seq_k fun K hK=>?_);refine AW.rg ?_;simp[h1];try (refine hK _ rfl ?_;clear hK K)
  refine Aa.val hz ?_;simp;refine hK _ rfl ?_;clear hK K;(repeat refine AW.seq ?_);refine AW.cs (fun h2=>?_) (fun h2=>?_) rfl<;>(try simp at h2)
  ·(repeat refine AW.seq_k fun K hK=>?_);refine AW.rg ?_;simp;try (refine hK _ rfl ?_;clear hK K)
   exact AW.ret (Ah rfl _ (.same _) ⟨by simp[D9,h2],rfl⟩)
  ·refine AW.skip ?_;try simp
   refine hK _ rfl ?_;clear hK K;(repeat refine AW.seq_k fun K hK=>?_);refine AW.rg ?_;simp;try (refine hK _ rfl ?_;clear hK K)
   (repeat refine AW.seq ?_);refine AW.cs (fun h3=>?_) (fun h3=>?_) rfl<;>(try simp at h3)
   ·(repeat refine AW.seq_k fun K hK=>?_);refine AW.rg ?_;simp;try (refine hK _ rfl ?_;clear hK K)
    exact AW.ret (Ah rfl _ (.same _) ⟨by simp[D9,h1,h2,h3],rfl⟩)
   ·refine AW.skip ?_;try simp
    refine hK _ rfl ?_;clear hK K;(repeat refine AW.seq_k fun K hK=>?_);refine AW.rg ?_;simp;try (refine hK _ rfl ?_;clear hK K)
    exact AW.ret (Ah rfl _ (.same _) ⟨by simp[D9,h1,h2,h3],rfl⟩)
 ·have h1':r.ok=false:=by simpa using h1
  (repeat refine AW.seq_k fun K hK=>?_);refine AW.rg ?_;simp[h1'];try (refine hK _ rfl ?_;clear hK K)
  refine AW.yes ?_ rfl;(repeat refine AW.seq_k fun K hK=>?_);refine AW.rg ?_;simp;try (refine hK _ rfl ?_;clear hK K)
  exact AW.ret (Ah rfl _ (.same _) ⟨by simp[D9,h1'],rfl⟩)
theorem Ns {q:Rat} (h:B0 q):D9 (Ar q)=Xw q:=by
 unfold D9 Xw;rw[D0 h,if_pos rfl];simp only[Ar,decide_eq_true_eq];by_cases h1:q.num<0
 ·have:(Ap q.num.natAbs).length≠0:=by
   intro e;have:=Cw.1 (List.eq_nil_of_length_eq_zero e);omega
  rw[if_neg this,if_pos h1,if_pos h1]
 ·by_cases h2:q.num=0
  ·rw[h2];simp[Bg]
  ·have:(Ap q.num.natAbs).length≠0:=by
    intro e;have:=Cw.1 (List.eq_nil_of_length_eq_zero e);omega
   rw[if_neg this,if_neg h1,if_neg h1,if_neg h2]
end Go.Av
end
section
namespace Go.Av
open Go.Proofs
theorem Qdd {z:Int} (h:z≠0):decide (-z<0)=!decide (z<0):=by
 by_cases h1:z<0
 ·simp only[h1,decide_true,Bool.not_true,decide_eq_false_iff_not];omega
 ·simp only[h1,decide_false,Bool.not_false,decide_eq_true_eq];omega
theorem Wa (z:Int) (hz:z.natAbs<Bj):Ak Tryz.prog 149 [Ay z] Ac.emp fun v m=>v=Ay (-z)∧m=Ac.emp:=by
 have lz:=Bi hz;unfold Ay;rw[Int.natAbs_neg];refine Ad Tryz.func149 rfl rfl 16 rfl (Nat.le_of_ble_eq_true rfl) ?_;(repeat refine AW.seq_k fun K hK=>?_);refine AW.rgR [1] ?_;simp[Al];try (refine hK _ rfl ?_;clear hK K)
 refine Ae.intro fun b2 _=>?_;refine hK _ rfl ?_;clear hK K;(repeat refine AW.seq_k fun K hK=>?_);refine AW.rg ?_;simp;try (refine hK _ rfl ?_;clear hK K)
 (repeat refine AW.seq ?_);refine AW.cs (fun h=>?_) (fun h=>?_) rfl<;>(try simp at h)
 ·have h0:z=0:=by rw[Cw]at h;omega
  subst h0;(repeat refine AW.seq_k fun K hK=>?_);refine AW.rg ?_;simp;try (refine hK _ rfl ?_;clear hK K)
  exact AW.ret (Af (vs:=[.agg [.bool false,.nil]]) [.agg [.bool false,Ao []]] (by simp) (by simp) ⟨by simp[Bg],rfl⟩)
 ·refine AW.skip ?_;try simp
  refine hK _ rfl ?_;clear hK K;have h0:z≠0:=by rintro rfl;exact h (by simp[Bg])
  rw[Qdd h0];generalize decide (z<0)=s at *;generalize hN:Ap z.natAbs=N at *;(repeat refine AW.seq_k fun K hK=>?_);refine AW.rdT [] [] [] [] [0,1,2,4,5,3,6,7,8] Dm (by simp) (by simp) (by simp) (by simp) (by simp) ?_;simp;try (refine hK _ rfl ?_;clear hK K)
  refine Ae.intro fun b11 hb11=>?_;simp only[Am,Az,and_true]at hb11;refine⟨by omega,by unfold maxLen;omega,Ae.intro fun b14 h14=>?_⟩;have n14:b2≠b14:=by rintro rfl;simp[hb11]at h14
  simp[hb11,n14,Ne.symm n14];refine hK _ rfl ?_;clear hK K;refine AW.ret (Af (vs:=[.agg [.bool (!s),.osl b14 1 0 N.length]]) [.agg [.bool (!s),Ao N]] (by simp) ?_ ⟨rfl,rfl⟩);simp;exact Fk (e:=124) (by simp[Ne.symm n14]) rfl
theorem J4 (z:Int) (hz:z.natAbs<Bj):Ak Tryz.prog 141 [Ay z] Ac.emp fun v m=>v=Ay (-z)∧m=Ac.emp:=by
 have hi:=Jz (decide (z<0)) (Ap z.natAbs);unfold Er at hi;unfold Ay;rw[Int.natAbs_neg];refine Ad Tryz.func141 rfl rfl 12 rfl (Nat.le_of_ble_eq_true rfl) ?_;(repeat refine AW.seq_k fun K hK=>?_);refine AW.rgR [1] ?_;simp[Al];try (refine hK _ rfl ?_;clear hK K)
 refine Ae.intro fun b2 _=>?_;refine hK _ rfl ?_;clear hK K;(repeat refine AW.seq_k fun K hK=>?_);refine AW.rg ?_;simp;try (refine hK _ rfl ?_;clear hK K)
 refine Aa.val hi ?_;simp;refine hK _ rfl ?_;clear hK K;(repeat refine AW.seq ?_);refine AW.cs (fun h=>?_) (fun h=>?_) rfl<;>(try simp at h)
 ·have h0:z=0:=by rw[Cw]at h;omega
  subst h0;(repeat refine AW.seq_k fun K hK=>?_);refine AW.rg ?_;simp;try (refine hK _ rfl ?_;clear hK K)
  exact AW.ret (Af (vs:=[.agg [.bool false,Ao (Ap 0)]]) [.agg [.bool false,Ao (Ap 0)]] (by simp) (by simp) ⟨by simp,rfl⟩)
 ·refine AW.skip ?_;try simp
  refine hK _ rfl ?_;clear hK K;have h0:z≠0:=by rintro rfl;exact h (by simp[Bg])
  rw[Qdd h0];(repeat refine AW.seq_k fun K hK=>?_);refine AW.rg ?_;simp;try (refine hK _ rfl ?_;clear hK K)
  exact AW.ret (Af (vs:=[.agg [.bool (!decide (z<0)),Ao (Ap z.natAbs)]]) [.agg [.bool (!decide (z<0)),Ao (Ap z.natAbs)]] (by simp) (by simp) ⟨rfl,rfl⟩)
theorem Wl (s:Bool) (l:List Nat) (hl:l.length<2^40):Ak Tryz.prog 203 [.agg [.bool s,Ao l]] Ac.emp fun v m=>v=.agg [.bool s,Ao l]∧m=Ac.emp:=by
 refine Ad Tryz.func203 rfl rfl 9 rfl (Nat.le_of_ble_eq_true rfl) ?_;(repeat refine AW.seq_k fun K hK=>?_);refine AW.rgR [1] ?_;simp[Al];try (refine hK _ rfl ?_;clear hK K)
 refine Ae.intro fun b2 _=>?_;refine hK _ rfl ?_;clear hK K;(repeat refine AW.seq_k fun K hK=>?_);refine AW.rdT [] [] [] [] [0,1,2,3,4,5,6] Dm (by simp) (by simp) (by simp) (by simp) (by simp) ?_;simp;try (refine hK _ rfl ?_;clear hK K)
 refine⟨by omega,by unfold maxLen;omega,?_⟩;by_cases h:l=[]
 ·subst h;simp;refine hK _ rfl ?_;clear hK K;exact AW.ret (Af (vs:=[.agg [.bool s,.sl 1 []]]) [.agg [.bool s,Ao []]] (by simp) (by simp[Ao]) ⟨rfl,rfl⟩)
 ·simp[h];refine Ae.intro fun b11 hb11=>?_;simp only[Am,Az,and_true]at hb11;simp[hb11];refine hK _ rfl ?_;clear hK K;refine AW.ret (Af (vs:=[.agg [.bool s,.osl b11 1 0 l.length]]) [.agg [.bool s,Ao l]] (by simp) ?_ ⟨rfl,rfl⟩);simp;exact Fk (e:=124) (by simp[hb11]) rfl
theorem Sv (s:Bool) (l:List Nat) (hl:l.length<2^40):Ak Tryz.prog 198 [.agg [.bool s,Ao l]] Ac.emp fun v m=>v=.agg [.bool s,Ao l]∧m=Ac.emp:=by
 refine Ad Tryz.func198 rfl rfl 16 rfl (Nat.le_of_ble_eq_true rfl) ?_;(repeat refine AW.seq_k fun K hK=>?_);refine AW.rgR [1] ?_;simp[Al];try (refine hK _ rfl ?_;clear hK K)
 refine Ae.intro fun b2 _=>?_;refine hK _ rfl ?_;clear hK K;(repeat refine AW.seq_k fun K hK=>?_);refine AW.rg ?_;simp[-Int.natCast_mul];try (refine hK _ rfl ?_;clear hK K)
 refine⟨by omega,?_⟩;refine Ae.intro fun b3 hb3=>?_;simp only[Am,Az,and_true]at hb3;simp only[C5];refine hK _ rfl ?_;clear hK K;(repeat refine AW.seq_k fun K hK=>?_);refine AW.rg ?_;simp[hb3];try (refine hK _ rfl ?_;clear hK K)
 (repeat refine AW.seq_k fun K hK=>?_);refine AW.rg ?_;simp[hb3];try (refine hK _ rfl ?_;clear hK K)
 refine AW.ret (Af (vs:=[.agg [.bool s,.osl b3 1 0 l.length]]) [.agg [.bool s,Ao l]] (by simp) ?_ ⟨rfl,rfl⟩);simp;exact Fk (e:=124) (by simp[hb3]) rfl
theorem Qn2 (r:RR) (h1:r.l1.length<2^40) (h2:r.l2.length<2^40):Ak Tryz.prog 178 [r.av] Ac.emp fun v m=>v=r.av∧m=Ac.emp:=by
 have o1:=Sv r.n1 r.l1 h1;have o2:=Sv r.n2 r.l2 h2;unfold RR.av;refine Ad Tryz.func178 rfl rfl 10 rfl (Nat.le_of_ble_eq_true rfl) ?_;(repeat refine AW.seq_k fun K hK=>?_);refine AW.rgR [1] ?_;simp[Al];try (refine hK _ rfl ?_;clear hK K)
 refine Ae.intro fun b2 _=>?_;refine hK _ rfl ?_;clear hK K;(repeat refine AW.seq_k fun K hK=>?_);refine AW.rdT [] [] [] [] [0,1,3,4,2,5,6,7] Dm (by simp) (by simp) (by simp) (by simp) (by simp) ?_;simp;try (refine hK _ rfl ?_;clear hK K)
 refine Aa.val o1 ?_;simp;refine Aa.val o2 ?_;simp;refine hK _ rfl ?_;clear hK K;exact AW.ret (Af (vs:=[.agg [.bool r.n1,Ao r.l1,.bool r.n2,Ao r.l2]]) [.agg [.bool r.n1,Ao r.l1,.bool r.n2,Ao r.l2]] (by simp) (by simp) ⟨rfl,rfl⟩)
theorem Qfz (r1 r2:RR) (h1:r1.Lb) (h2:r2.Lb):Ak Tryz.prog 139 [r1.av,r2.av] Ac.emp fun v m=>v=.bool (r1.ok&&r2.ok)∧m=Ac.emp:=by
 have v1:Ak Tryz.prog 42 [r1.av] Ac.emp fun v m=>v=.bool r1.ok∧m=Ac.emp:=Jt r1.n1 r1.l1 r1.n2 r1.l2 h1.1 h1.2;have v2:Ak Tryz.prog 42 [r2.av] Ac.emp fun v m=>v=.bool r2.ok∧m=Ac.emp:=Jt r2.n1 r2.l1 r2.n2 r2.l2 h2.1 h2.2;unfold RR.av at *;refine Ad Tryz.func139 rfl rfl 15 rfl (Nat.le_of_ble_eq_true rfl) ?_;(repeat refine AW.seq_k fun K hK=>?_);refine AW.rgR [2,3] ?_;simp[Al];try (refine hK _ rfl ?_;clear hK K)
 (repeat refine AW.seq_k fun K hK=>?_);refine AW.rg ?_;simp;try (refine hK _ rfl ?_;clear hK K)
 refine Aa.val v1 ?_;simp;refine hK _ rfl ?_;clear hK K;(repeat refine AW.seq_k fun K hK=>?_);refine AW.rg ?_;simp;try (refine hK _ rfl ?_;clear hK K)
 refine Aa.val v2 ?_;simp;refine hK _ rfl ?_;clear hK K;cases o1:r1.ok
 ·(repeat refine AW.seq_k fun K hK=>?_);refine AW.rg ?_;simp;try (refine hK _ rfl ?_;clear hK K)
  exact AW.ret (Ah rfl _ (.same _) ⟨by simp,rfl⟩)
 ·(repeat refine AW.seq_k fun K hK=>?_);refine AW.rg ?_;simp;try (refine hK _ rfl ?_;clear hK K)
  exact AW.ret (Ah rfl _ (.same _) ⟨by simp,rfl⟩)
theorem Ve (r1 r2:RR) (h1:r1.Lb) (h2:r2.Lb):Ak Tryz.prog 180 [.sl 4 [r1.av,r2.av]] Ac.emp fun v m=>v=.bool (r1.ok&&r2.ok)∧m=Ac.emp:=by
 have v1:=Gf r1 h1;have v2:=Gf r2 h2;refine Ad Tryz.func180 rfl rfl 15 rfl (Nat.le_of_ble_eq_true rfl) ?_;(repeat refine AW.seq_k fun K hK=>?_);refine AW.rg ?_;simp[Al];try (refine hK _ rfl ?_;clear hK K)
 refine AW.seq_ex (ι:=Unit) (fun _=>[]) (fun _=>Ac.emp) (fun _=>r1.ok=true∧r2.ok=true) ?_ ?_
 ·(repeat refine AW.seq_k fun K hK=>?_);refine AW.rg ?_;simp;try (refine hK _ rfl ?_;clear hK K)
  refine AW.block (AW.loopS (ι:=Nat) (fun i=>[(5,.sl 4 [r1.av,r2.av]),(6,.int .i64 2),(7,.int .i64 (i:Nat))]) (fun _=>Ac.emp)
   (fun i=>i≤2∧(1≤i→r1.ok=true)∧(2≤i→r2.ok=true)) (fun i=>2-i) 0 ⟨by simp,by simp,by simp⟩ rfl (by simp) ?_)
  rintro i ⟨i1,i2,i3⟩;rcases i with _|_|i
  ·have w:IntKind.i64.wrap 1=1:=rfl;have w2:IntKind.i64.wrap 2=2:=rfl;(repeat refine AW.seq_k fun K hK=>?_);refine AW.rg ?_;simp;try (refine hK _ rfl ?_;clear hK K)
   refine AW.seq_k fun K hK=>?_;refine AW.yes ?_ rfl;refine AW.skip ?_;try simp
   refine hK _ rfl ?_;clear hK K;refine AW.seq_ex (ι:=Unit) (fun _=>[(5,.sl 4 [r1.av,r2.av]),(6,.int .i64 2),(7,.int .i64 0)]) (fun _=>Ac.emp) (fun _=>r1.ok=true) ?_ ?_
   ·(repeat refine AW.seq ?_);refine AW.block ?_;(repeat refine AW.seq_k fun K hK=>?_);refine AW.rg ?_;simp[RR.av];try (refine hK _ rfl ?_;clear hK K)
    refine Ae.intro fun b4 _=>?_;try simp
    refine hK _ rfl ?_;clear hK K;(repeat refine AW.seq_k fun K hK=>?_);refine AW.rg ?_;simp;try (refine hK _ rfl ?_;clear hK K)
    refine Aa.val v1 ?_;simp;refine hK _ rfl ?_;clear hK K;refine AW.toEmp [(5,.sl 4 [r1.av,r2.av]),(6,.int .i64 2),(7,.int .i64 0),(13,.bool (!r1.ok))] (by simp[RR.av]) ?_;by_cases h:r1.ok=true
    ·refine AW.no ?_ (by simp[h]);exact AW.skip ⟨(),h,rfl,rfl,by simp⟩
    ·refine AW.yes ?_ (by simp[h]);(repeat refine AW.seq_k fun K hK=>?_);refine AW.rg ?_;simp;try (refine hK _ rfl ?_;clear hK K)
     exact AW.ret (Ah rfl _ (.same _) ⟨by simp[h],rfl⟩)
   ·rintro _ h;(repeat refine AW.seq_k fun K hK=>?_);refine AW.rg ?_;simp[w,w2];try (refine hK _ rfl ?_;clear hK K)
    exact⟨1,⟨by omega,fun _=>h,fun hh=>absurd hh (by omega)⟩,by omega,by simp⟩
  ·have w:IntKind.i64.wrap 1=1:=rfl;have w2:IntKind.i64.wrap 2=2:=rfl;(repeat refine AW.seq_k fun K hK=>?_);refine AW.rg ?_;simp;try (refine hK _ rfl ?_;clear hK K)
   refine AW.seq_k fun K hK=>?_;refine AW.yes ?_ rfl;refine AW.skip ?_;try simp
   refine hK _ rfl ?_;clear hK K;refine AW.seq_ex (ι:=Unit) (fun _=>[(5,.sl 4 [r1.av,r2.av]),(6,.int .i64 2),(7,.int .i64 1)]) (fun _=>Ac.emp) (fun _=>r2.ok=true) ?_ ?_
   ·(repeat refine AW.seq ?_);refine AW.block ?_;(repeat refine AW.seq_k fun K hK=>?_);refine AW.rg ?_;simp[RR.av];try (refine hK _ rfl ?_;clear hK K)
    refine Ae.intro fun b4 _=>?_;try simp
    refine hK _ rfl ?_;clear hK K;(repeat refine AW.seq_k fun K hK=>?_);refine AW.rg ?_;simp;try (refine hK _ rfl ?_;clear hK K)
    refine Aa.val v2 ?_;simp;refine hK _ rfl ?_;clear hK K;refine AW.toEmp [(5,.sl 4 [r1.av,r2.av]),(6,.int .i64 2),(7,.int .i64 1),(13,.bool (!r2.ok))] (by simp[RR.av]) ?_;by_cases h:r2.ok=true
    ·refine AW.no ?_ (by simp[h]);exact AW.skip ⟨(),h,rfl,rfl,by simp⟩
    ·refine AW.yes ?_ (by simp[h]);(repeat refine AW.seq_k fun K hK=>?_);refine AW.rg ?_;simp;try (refine hK _ rfl ?_;clear hK K)
     exact AW.ret (Ah rfl _ (.same _) ⟨by simp[h],rfl⟩)
   ·rintro _ h;(repeat refine AW.seq_k fun K hK=>?_);refine AW.rg ?_;simp[w,w2];try (refine hK _ rfl ?_;clear hK K)
    exact⟨2,⟨by omega,fun _=>i2 (by omega),fun hh=>h⟩,by omega,by simp⟩
  ·have:i=0:=by omega
   subst this;(repeat refine AW.seq_k fun K hK=>?_);refine AW.rg ?_;simp;try (refine hK _ rfl ?_;clear hK K)
   refine AW.seq_k fun K hK=>?_;refine AW.no ?_ rfl;refine AW.exit ?_;try simp
   exact⟨i2 (by omega),i3 (by omega)⟩
 rintro _ ⟨o1,o2⟩;(repeat refine AW.seq_k fun K hK=>?_);refine AW.rg ?_;simp;try (refine hK _ rfl ?_;clear hK K)
 exact AW.ret (Ah rfl _ (.same _) ⟨by simp[o1,o2],rfl⟩)
end Go.Av
end
section
namespace Go.Av
open Go.Proofs
def L7 (n d:Int):Int:=if d<0 then -n else n
def Jn (d:Int):Int:=if d<0 then -d else d
theorem Qm {d:Int} (h:d≠0):0<Jn d:=by unfold Jn;split<;>omega
theorem Qc (n d:Int):(L7 n d).natAbs=n.natAbs:=by unfold L7;split<;>omega
theorem M9 (d:Int):(Jn d).natAbs=d.natAbs:=by unfold Jn;split<;>omega
theorem W6 (n d:Int):Rat.divInt (L7 n d) (Jn d)=Rat.divInt n d:=by
 unfold L7 Jn;split
 ·rw[Rat.neg_divInt_neg]
 ·rfl
theorem Y8 {a b:Nat} (ha:a<Bj) (hb:b<Bj):Nat.gcd a b<Bj:=by
 rcases Nat.eq_zero_or_pos a with h|h
 ·rw[h,Nat.gcd_zero_left];exact hb
 ·exact Nat.lt_of_le_of_lt (Nat.gcd_le_left _ h) ha
theorem Qao {n d:Int} (h:d≠0):(L7 n d).fdiv (Nat.gcd n.natAbs d.natAbs:Nat)=(Rat.divInt n d).num:=by
 rw[←W6,Oy (Qm h),Qc,M9,Int.fdiv_eq_ediv_of_nonneg _ (by omega)]
theorem Z6 {n d:Int} (h:d≠0):(Jn d).fdiv (Nat.gcd n.natAbs d.natAbs:Nat)=((Rat.divInt n d).den:Int):=by
 have hp:=Qm h;rw[←W6,Pe hp,Qc,M9,Int.fdiv_eq_ediv_of_nonneg _ (by omega),Int.natCast_ediv];have e:Jn d=((Jn d).natAbs:Int):=by omega
 rw[M9]at e;rw[←e]
theorem Te (n d:Int) (hn:n.natAbs<Bj) (hd:d.natAbs<Bj) (h0:d≠0):Ak Tryz.prog 185 [Ay n,Ay d] Ac.emp fun v m=>v=H6 (Rat.divInt n d)∧m=Ac.emp:=by
 have hN:=Qc n d;have hD:=M9 d;have hDp:=Qm h0;have hgl:=Y8 hn hd;have hg0:Nat.gcd n.natAbs d.natAbs≠0:=by
  intro e;have:=(Nat.gcd_eq_zero_iff.1 e).2;omega
 have hg:=Yv (L7 n d) (Jn d) (by omega) (by omega);rw[hN,hD]at hg;have hone:=Vb (Nat.gcd n.natAbs d.natAbs:Nat) (by simpa using hgl);have dm1:=Ir (L7 n d) (Nat.gcd n.natAbs d.natAbs:Nat) (by omega) (by simpa using hgl) (by omega);have dm2:=Ir (Jn d) (Nat.gcd n.natAbs d.natAbs:Nat) (by omega) (by simpa using hgl) (by omega);rw[Qao h0]at dm1;rw[Z6 h0]at dm2;have hng:=Wa n hn;have hnd:=Wa d hd;have hflag:decide (((Nat.gcd n.natAbs d.natAbs:Nat):Int)<0)=false:=by simp
 have hflag2:decide (((Rat.divInt n d).den:Int)<0)=false:=by simp
 have e1:Nat.gcd n.natAbs d.natAbs=1→L7 n d=(Rat.divInt n d).num∧Jn d=((Rat.divInt n d).den:Int):=by
  intro h;have a1:=Qao (n:=n) h0;have a2:=Z6 (n:=n) h0;rw[h,show((1:Nat):Int)=1 from rfl,Int.fdiv_one]at a1 a2;exact⟨a1,a2⟩
 unfold Ay at *;unfold H6;simp only[hflag,hflag2,Int.natAbs_natCast]at *;generalize(Rat.divInt n d).num=q1 at *;generalize(Rat.divInt n d).den=q2 at *;generalize Nat.gcd n.natAbs d.natAbs=g at *;refine Ad Tryz.func185 rfl rfl 39 rfl (Nat.le_of_ble_eq_true rfl) ?_;(repeat refine AW.seq_k fun K hK=>?_);refine AW.rg ?_;simp[Al];try (refine hK _ rfl ?_;clear hK K)
 refine Ae.intro fun b2 _=>?_;refine Ae.intro fun b3 hb3=>?_;simp only[Am,Az,and_true]at hb3;refine Ae.intro fun b4 hb4=>?_;simp only[Am,Az,and_true]at hb4;refine hK _ rfl ?_;clear hK K;refine AW.seq_has [(2,.ptr b2 2 0 0),(3,.ptr b3 2 0 0),(4,.ptr b4 4 0 0)] (((Ac.emp.set b2 ⟨42,2,[.agg [.bool (decide (L7 n d<0)),Ao (Ap (L7 n d).natAbs)]]⟩).set b3 ⟨42,2,[.agg [.bool (decide (Jn d<0)),Ao (Ap (Jn d).natAbs)]]⟩).set b4 ⟨44,4,[.agg [.bool false,.nil,.bool false,.nil]]⟩) ?_ ?_
 ·(repeat refine AW.seq_k fun K hK=>?_);refine AW.rg ?_;simp[hb3,hb4];try (refine hK _ rfl ?_;clear hK K)
  (repeat refine AW.seq ?_);refine AW.cs (fun h=>?_) (fun h=>?_) rfl<;>(try simp at h)
  ·have p1:L7 n d=-n:=if_pos h;have p2:Jn d=-d:=if_pos h;(repeat refine AW.seq_k fun K hK=>?_);refine AW.rdT [] [] [] [b2,b3] [0,2,1,3,4,5] Dm (by simp[hb3,hb4]) (by simp[hb3,hb4]) (by simp[hb3,hb4]) (by simp[hb3,hb4]) (by simp[hb3,hb4]) ?_;simp[hb3,hb4];try (refine hK _ rfl ?_;clear hK K)
   refine Aa.val hng ?_;simp;refine Aa.val hnd ?_;simp[hb3,hb4];rw[p1,p2];simp
   funext c
   simp only[A9,Az]
   (repeat' split)<;>simp_all
  ·have p1:L7 n d=n:=if_neg (by omega);have p2:Jn d=d:=if_neg (by omega);refine AW.skip ⟨rfl,?_,by simp⟩;rw[p1,p2];rfl
 generalize hsN:decide (L7 n d<0)=sN at *;generalize hsD:decide (Jn d<0)=sD at *;generalize hsq:decide (q1<0)=sq at *;(repeat refine AW.seq_k fun K hK=>?_);refine AW.rg ?_;simp[hb3,hb4];try (refine hK _ rfl ?_;clear hK K)
 refine Aa.val hg ?_;simp;refine Ae.intro fun b5 hb5=>?_;simp only[Am,Az,and_true]at hb5;try simp[hb3,hb4,hb5]
 refine hK _ rfl ?_;clear hK K;refine AW.seq_has [(2,.ptr b2 2 0 0),(3,.ptr b3 2 0 0),(4,.ptr b4 4 0 0)] ((((Ac.emp.set b2 ⟨42,2,[.agg [.bool sq,Ao (Ap q1.natAbs)]]⟩).set b3 ⟨42,2,[.agg [.bool false,Ao (Ap q2)]]⟩).set b4 ⟨44,4,[.agg [.bool false,.nil,.bool false,.nil]]⟩).set b5 ⟨42,2,[.agg [.bool false,Ao (Ap g)]]⟩) ?_ ?_
 ·(repeat refine AW.seq_k fun K hK=>?_);refine AW.rg ?_;simp[hb3,hb4,hb5];try (refine hK _ rfl ?_;clear hK K)
  refine Aa.val hone ?_;simp;refine hK _ rfl ?_;clear hK K;(repeat refine AW.seq ?_);refine AW.cs (fun h=>?_) (fun h=>?_) rfl<;>(try simp at h)
  ·(repeat refine AW.seq_k fun K hK=>?_);refine AW.rg ?_;simp[hb3,hb4,hb5];try (refine hK _ rfl ?_;clear hK K)
   refine Aa.val dm1 ?_;simp[hb3,hb4,hb5];refine hK _ rfl ?_;clear hK K;(repeat refine AW.seq_k fun K hK=>?_);refine AW.rg ?_;simp[hb3,hb4,hb5];try (refine hK _ rfl ?_;clear hK K)
   refine Aa.val dm2 ?_;simp[hb3,hb4,hb5]
   funext c
   simp only[A9,Az]
   (repeat' split)<;>simp_all
  ·obtain⟨a1,a2⟩:=e1 h;rw[a1]at hsN;rw[a2]at hsD;have a3:sN=sq:=by rw[←hsN,hsq]
   have a4:sD=false:=by rw[←hsD];simp
   refine AW.skip ⟨rfl,?_,by simp⟩;rw[a1,a2,a3,a4,Int.natAbs_natCast];rfl
 (repeat refine AW.seq_k fun K hK=>?_);refine AW.rg ?_;simp[hb3,hb4,hb5];try (refine hK _ rfl ?_;clear hK K)
 exact AW.ret (Af (vs:=[.agg [.bool sq,Ao (Ap q1.natAbs),.bool false,Ao (Ap q2)]]) [.agg [.bool sq,Ao (Ap q1.natAbs),.bool false,Ao (Ap q2)]] (by simp[hb3,hb4,hb5]) (by simp) ⟨rfl,rfl⟩)
end Go.Av
end
section
namespace Go.Av
open Go.Proofs
theorem Tb (n d:Int) (hn:n.natAbs<Bj) (hd:d.natAbs<Bj) (h0:d≠0):Ak Tryz.prog 137 [Ay n,Ay d] Ac.emp fun v m=>v=H6 (Rat.divInt n d)∧m=Ac.emp:=by
 have hN:=Qc n d;have hD:=M9 d;have hDp:=Qm h0;have hgl:=Y8 hn hd;have hg0:Nat.gcd n.natAbs d.natAbs≠0:=by
  intro e;have:=(Nat.gcd_eq_zero_iff.1 e).2;omega
 have hg:=Y4 n d (by omega) (by omega);have dm1:=Qi (L7 n d) (Nat.gcd n.natAbs d.natAbs:Nat) (by omega) (by simpa using hgl) (by omega);have dm2:=Qi (Jn d) (Nat.gcd n.natAbs d.natAbs:Nat) (by omega) (by simpa using hgl) (by omega);rw[Qao h0]at dm1;rw[Z6 h0]at dm2;have hng:=J4 n hn;have hnd:=J4 d hd;have hflag:decide (((Nat.gcd n.natAbs d.natAbs:Nat):Int)<0)=false:=by simp
 have hflag2:decide (((Rat.divInt n d).den:Int)<0)=false:=by simp
 unfold Ay at *;unfold H6;simp only[hflag,hflag2,Int.natAbs_natCast]at *;generalize(Rat.divInt n d).num=q1 at *;generalize(Rat.divInt n d).den=q2 at *;generalize Nat.gcd n.natAbs d.natAbs=g at *;refine Ad Tryz.func137 rfl rfl 42 rfl (Nat.le_of_ble_eq_true rfl) ?_;(repeat refine AW.seq_k fun K hK=>?_);refine AW.rg ?_;simp[Al];try (refine hK _ rfl ?_;clear hK K)
 refine Ae.intro fun b2 _=>?_;refine Ae.intro fun b3 hb3=>?_;simp only[Am,Az,and_true]at hb3;refine Ae.intro fun b4 hb4=>?_;simp only[Am,Az,and_true]at hb4;refine hK _ rfl ?_;clear hK K;(repeat refine AW.seq_k fun K hK=>?_);refine AW.rg ?_;simp[hb3,hb4];try (refine hK _ rfl ?_;clear hK K)
 refine Aa.val hg ?_;simp;refine Ae.intro fun b5 hb5=>?_;simp only[Am,Az,and_true]at hb5;try simp[hb3,hb4,hb5]
 refine hK _ rfl ?_;clear hK K;refine AW.seq_has [(2,.ptr b2 2 0 0),(3,.ptr b3 2 0 0),(4,.ptr b4 4 0 0),(5,.ptr b5 2 0 0)] ((((Ac.emp.set b2 ⟨42,2,[.agg [.bool (decide (L7 n d<0)),Ao (Ap (L7 n d).natAbs)]]⟩).set b3 ⟨42,2,[.agg [.bool (decide (Jn d<0)),Ao (Ap (Jn d).natAbs)]]⟩).set b4 ⟨44,4,[.agg [.bool false,.nil,.bool false,.nil]]⟩).set b5 ⟨42,2,[.agg [.bool false,Ao (Ap g)]]⟩) ?_ ?_
 ·(repeat refine AW.seq_k fun K hK=>?_);refine AW.rg ?_;simp[hb3,hb4,hb5];try (refine hK _ rfl ?_;clear hK K)
  (repeat refine AW.seq ?_);refine AW.cs (fun h=>?_) (fun h=>?_) rfl<;>(try simp at h)
  ·have p1:L7 n d=-n:=if_pos h;have p2:Jn d=-d:=if_pos h;(repeat refine AW.seq_k fun K hK=>?_);refine AW.rg ?_;simp[hb3,hb4,hb5];try (refine hK _ rfl ?_;clear hK K)
   refine Aa.val hng ?_;simp[hb3,hb4,hb5];refine hK _ rfl ?_;clear hK K;(repeat refine AW.seq_k fun K hK=>?_);refine AW.rg ?_;simp[hb3,hb4,hb5];try (refine hK _ rfl ?_;clear hK K)
   refine Aa.val hnd ?_;simp[hb3,hb4,hb5];rw[p1,p2];simp
   funext c
   simp only[A9,Az]
   (repeat' split)<;>simp_all
  ·have p1:L7 n d=n:=if_neg (by omega);have p2:Jn d=d:=if_neg (by omega);refine AW.skip ⟨rfl,?_,by simp⟩;rw[p1,p2];rfl
 (repeat refine AW.seq_k fun K hK=>?_);refine AW.rg ?_;simp[hb3,hb4,hb5];try (refine hK _ rfl ?_;clear hK K)
 refine Aa.val dm1 ?_;simp[hb3,hb4,hb5];refine Ae.intro fun b7 hb7=>?_;simp only[Am,Az,and_true]at hb7;refine Ae.intro fun b8 hb8=>?_;simp only[Am,Az,and_true]at hb8;try simp[hb3,hb4,hb5,hb7,hb8]
 refine hK _ rfl ?_;clear hK K;(repeat refine AW.seq_k fun K hK=>?_);refine AW.rg ?_;simp[hb3,hb4,hb5,hb7,hb8];try (refine hK _ rfl ?_;clear hK K)
 refine Aa.val dm2 ?_;simp[hb3,hb4,hb5,hb7,hb8];refine Ae.intro fun b10 hb10=>?_;simp only[Am,Az,and_true]at hb10;refine Ae.intro fun b11 hb11=>?_;simp only[Am,Az,and_true]at hb11;try simp[hb3,hb4,hb5,hb7,hb8,hb10,hb11]
 refine hK _ rfl ?_;clear hK K;(repeat refine AW.seq_k fun K hK=>?_);refine AW.rg ?_;simp[hb3,hb4,hb5,hb7,hb8,hb10,hb11];try (refine hK _ rfl ?_;clear hK K)
 exact AW.ret (Af (vs:=[.agg [.bool (decide (q1<0)),Ao (Ap q1.natAbs),.bool false,Ao (Ap q2)]]) [.agg [.bool (decide (q1<0)),Ao (Ap q1.natAbs),.bool false,Ao (Ap q2)]] (by simp[hb3,hb4,hb5,hb7,hb8,hb10,hb11]) (by simp) ⟨rfl,rfl⟩)
theorem C9 {n c t b:Nat} {L:List (Nat × AV)} {m:Ac} {R:AV→Ac→Prop} {x1 x2 x3 x4 e:AV} (y1 y2 y3 y4:AV) (hc:look L c=.ptr b 4 0 0) (he:look L t=e) (hm:m b=some ⟨44,4,[.agg [x1,x2,x3,x4]]⟩) (hn:(Nat.blt c n&&Nat.blt t n)=true)
  (hv:Eo m Ac.emp [x1,x2,x3,x4] [y1,y2,y3,y4]) (hR:R (.tup [.agg [y1,y2,y3,y4],e]) Ac.emp):Q3 Tryz.prog [.cell c 44,.tmp t] R .ret (S n L m):=by
 rw[Bool.and_eq_true]at hn;refine Af (vs:=[.agg [x1,x2,x3,x4],e]) [.agg [y1,y2,y3,y4],e] ?_ ?_ hR
 ·simp only[Py,Sp,Td,Uz,hn.1,hn.2,if_true,hc,he,Q3b,Option.bind_some,Ww,hm];simp
 ·simp only[Na,Ol,and_true,Ek,V8]at hv ⊢;exact hv
theorem Qfs (n d:Int) (hn:n.natAbs<Bj) (hd:d.natAbs<Bj) (h0:d≠0):Ak Tryz.prog 96 [Ay n,Ay d] Ac.emp fun v m=>v=D6 (some (Rat.divInt n d))∧m=Ac.emp:=by
 have v1:=Gm hn;have v2:=Gm hd;have hz:=Jz (decide (d<0)) (Ap d.natAbs);have hlo:=Tb n d hn hd h0;have hl:¬Ap d.natAbs=[]:=by rw[Cw];omega
 unfold Er at hz;simp only[D6];unfold Ay H6 at *;refine Ad Tryz.func96 rfl rfl 25 rfl (Nat.le_of_ble_eq_true rfl) ?_;(repeat refine AW.seq_k fun K hK=>?_);refine AW.rgR [2,3] ?_;simp[Al];try (refine hK _ rfl ?_;clear hK K)
 refine Ae.intro fun b4 _=>?_;refine hK _ rfl ?_;clear hK K;(repeat refine AW.seq_k fun K hK=>?_);refine AW.rg ?_;simp;try (refine hK _ rfl ?_;clear hK K)
 refine Aa.val v1 ?_;simp;refine hK _ rfl ?_;clear hK K;(repeat refine AW.seq_k fun K hK=>?_);refine AW.rg ?_;simp;try (refine hK _ rfl ?_;clear hK K)
 refine Aa.val v2 ?_;simp;refine hK _ rfl ?_;clear hK K;(repeat refine AW.seq_k fun K hK=>?_);refine AW.rg ?_;simp;try (refine hK _ rfl ?_;clear hK K)
 refine AW.no ?_ rfl;refine AW.skip ?_;try simp
 refine hK _ rfl ?_;clear hK K;(repeat refine AW.seq_k fun K hK=>?_);refine AW.rg ?_;simp;try (refine hK _ rfl ?_;clear hK K)
 refine Aa.val hz ?_;simp[hl];refine hK _ rfl ?_;clear hK K;refine AW.no ?_ rfl;refine AW.skip ?_;try simp
 refine hK _ rfl ?_;clear hK K;(repeat refine AW.seq_k fun K hK=>?_);refine AW.rg ?_;simp;try (refine hK _ rfl ?_;clear hK K)
 refine Aa.val hlo ?_;simp;refine hK _ rfl ?_;clear hK K;exact AW.ret (C9 (b:=b4) _ _ _ _ rfl rfl (by simp;exact⟨rfl,rfl,rfl,rfl⟩) rfl (by simp) ⟨rfl,rfl⟩)
theorem Qkf (n d:Int) (hn:n.natAbs<Bj) (hd:d.natAbs<Bj) (h0:d≠0):Ak Tryz.prog 186 [Ay n,Ay d] Ac.emp fun v m=>v=D6 (some (Rat.divInt n d))∧m=Ac.emp:=by
 have v1:=Hp (decide (n<0)) (Ap n.natAbs);have v2:=Hp (decide (d<0)) (Ap d.natAbs);rw[Fh hn]at v1;rw[Fh hd]at v2;have hz:=Kx (decide (d<0)) (Ap d.natAbs);have hlo:=Te n d hn hd h0;have hl:¬Ap d.natAbs=[]:=by rw[Cw];omega
 obtain⟨g1,g2⟩:=Gl hn hd h0;have l1:=Bi g1;have l2:=Bi g2;unfold Er at *;simp only[D6];unfold Ay H6 at *;generalize(Rat.divInt n d).num=q1 at *;generalize(Rat.divInt n d).den=q2 at *;have f1:=Wl (decide (q1<0)) (Ap q1.natAbs) (by omega);have f2:=Wl false (Ap q2) (by omega);refine Ad Tryz.func186 rfl rfl 31 rfl (Nat.le_of_ble_eq_true rfl) ?_;(repeat refine AW.seq_k fun K hK=>?_);refine AW.rgR [2,3] ?_;simp[Al];try (refine hK _ rfl ?_;clear hK K)
 refine Ae.intro fun b4 _=>?_;refine hK _ rfl ?_;clear hK K;refine AW.seq_has [(2,.rptr [.bool (decide (n<0)),Ao (Ap n.natAbs)]),(3,.rptr [.bool (decide (d<0)),Ao (Ap d.natAbs)]),(4,.ptr b4 4 0 0)] (Ac.emp.set b4 ⟨44,4,[.agg [.bool false,.nil,.bool false,.nil]]⟩) ?_ ?_
 ·(repeat refine AW.seq ?_);refine AW.block ?_;(repeat refine AW.seq_k fun K hK=>?_);refine AW.rg ?_;simp;try (refine hK _ rfl ?_;clear hK K)
  refine Aa.val v1 ?_;simp;refine Aa.val v2 ?_;simp;refine hK _ rfl ?_;clear hK K;refine AW.no ?_ rfl;(repeat refine AW.seq_k fun K hK=>?_);refine AW.rg ?_;simp;try (refine hK _ rfl ?_;clear hK K)
  refine Aa.val hz ?_;simp[hl];refine hK _ rfl ?_;clear hK K;refine AW.no ?_ rfl;refine AW.skip ?_;try simp
 (repeat refine AW.seq_k fun K hK=>?_);refine AW.rg ?_;simp;try (refine hK _ rfl ?_;clear hK K)
 refine Aa.val hlo ?_;simp;refine Ae.intro fun b6 hb6=>?_;simp only[Am,Az,and_true]at hb6;try simp
 refine hK _ rfl ?_;clear hK K;(repeat refine AW.seq_k fun K hK=>?_);refine AW.rdT [] [] [] [b6] [0,1,3,4,2,5,6,7,8] Dm (by simp[hb6]) (by simp[hb6]) (by simp[hb6]) (by simp[hb6]) (by simp[hb6]) ?_;simp[hb6];try (refine hK _ rfl ?_;clear hK K)
 refine Aa.val f1 ?_;simp;refine Aa.val f2 ?_;simp[hb6];refine hK _ rfl ?_;clear hK K;exact AW.ret (C9 (b:=b4) _ _ _ _ rfl rfl (by simp;exact⟨rfl,rfl,rfl,rfl⟩) rfl (by simp) ⟨rfl,rfl⟩)
theorem Qg0 (n d:Int) (h1:-9223372036854775808≤n) (h2:n<9223372036854775808) (h3:-9223372036854775808≤d) (h4:d<9223372036854775808) (h0:d≠0):Ak Tryz.prog 150 [.int .i64 n,.int .i64 d] Ac.emp fun v m=>v=D6 (some (Rat.divInt n d))∧m=Ac.emp:=by
 have o1:=Qdc n h1 h2;have o2:=Qdc d h3 h4;have mk:=Qkf n d (Vm (by omega)) (Vm (by omega)) h0;simp only[D6]at *;unfold H6 at *;refine Ad Tryz.func150 rfl rfl 13 rfl (Nat.le_of_ble_eq_true rfl) ?_;(repeat refine AW.seq_k fun K hK=>?_);refine AW.rg ?_;simp[Al];try (refine hK _ rfl ?_;clear hK K)
 refine Ae.intro fun b4 _=>?_;refine hK _ rfl ?_;clear hK K;(repeat refine AW.seq_k fun K hK=>?_);refine AW.rg ?_;simp;try (refine hK _ rfl ?_;clear hK K)
 refine Aa.val o1 ?_;simp;refine Aa.val o2 ?_;simp;refine Aa.val mk ?_;simp;refine hK _ rfl ?_;clear hK K;exact AW.ret (C9 (b:=b4) _ _ _ _ rfl rfl (by simp;exact⟨rfl,rfl,rfl,rfl⟩) rfl (by simp) ⟨rfl,rfl⟩)
theorem Qdf (n d:Int) (h1:-9223372036854775808≤n) (h2:n<9223372036854775808) (h3:-9223372036854775808≤d) (h4:d<9223372036854775808) (h0:d≠0):Ak Tryz.prog 63 [.int .i64 n,.int .i64 d] Ac.emp fun v m=>v=D6 (some (Rat.divInt n d))∧m=Ac.emp:=by
 have o1:=Qb0 n h1 h2;have o2:=Qb0 d h3 h4;have mk:=Qfs n d (Vm (by omega)) (Vm (by omega)) h0;simp only[D6]at *;unfold H6 at *;refine Ad Tryz.func63 rfl rfl 13 rfl (Nat.le_of_ble_eq_true rfl) ?_;(repeat refine AW.seq_k fun K hK=>?_);refine AW.rg ?_;simp[Al];try (refine hK _ rfl ?_;clear hK K)
 refine Ae.intro fun b4 _=>?_;refine hK _ rfl ?_;clear hK K;(repeat refine AW.seq_k fun K hK=>?_);refine AW.rg ?_;simp;try (refine hK _ rfl ?_;clear hK K)
 refine Aa.val o1 ?_;simp;refine Aa.val o2 ?_;simp;refine Aa.val mk ?_;simp;refine hK _ rfl ?_;clear hK K;exact AW.ret (C9 (b:=b4) _ _ _ _ rfl rfl (by simp;exact⟨rfl,rfl,rfl,rfl⟩) rfl (by simp) ⟨rfl,rfl⟩)
end Go.Av
end
section
namespace Go.Av
open Go.Proofs
theorem Kg (d:Nat):Ay (d:Int)=.agg [.bool false,Ao (Ap d)]:=by
 rw[Ay,show decide ((d:Int)<0)=false by simp];rfl
theorem T7 {z:Int} (h:B5 z=true):Bx z=.tup [.agg [.bool (decide (z<0)),Ao (Ap z.natAbs)],.int .i64 0]:=by
 rw[B4]at h;rw[Bx,Ti h,S0 h];rfl
theorem Qau {z:Int} (h:¬B5 z=true):Bx z=.tup [.agg [.bool false,Ao []],.int .i64 2]:=by
 rw[B4]at h;rw[Bx,fz,fe,if_neg h,if_neg h,Ay];simp[Bg]
section
variable {a b:Rat}
theorem Qve (h1:B5 (a.num*b.num)=true) (h2:B5 ((a.den:Int)*b.den)=true):Df a b=some (a*b):=by unfold Df;rw[h1,h2];rfl
theorem Qpc (h1:¬B5 (a.num*b.num)=true):Df a b=none:=by unfold Df;rw[if_neg (by simp only[Bool.and_eq_true];exact fun h=>h1 h.1)]
theorem Qpk (h1:B5 (a.num*b.num)=true) (h2:¬B5 ((a.den:Int)*b.den)=true):Df a b=none:=by unfold Df;rw[if_neg (by simp only[Bool.and_eq_true];exact fun h=>h2 h.2)]
theorem Quu (h1:B5 (a.num*b.den)=true) (h2:B5 ((a.den:Int)*b.num)=true):Fu a b=some (a / b):=by unfold Fu;rw[h1,h2];rfl
theorem Qq4 (h1:¬B5 (a.num*b.den)=true):Fu a b=none:=by unfold Fu;rw[if_neg (by simp only[Bool.and_eq_true];exact fun h=>h1 h.1)]
theorem Qq5 (h1:B5 (a.num*b.den)=true) (h2:¬B5 ((a.den:Int)*b.num)=true):Fu a b=none:=by unfold Fu;rw[if_neg (by simp only[Bool.and_eq_true];exact fun h=>h2 h.2)]
theorem Qwj (h1:B5 (a.num*b.den)=true) (h2:B5 (b.num*a.den)=true) (h3:B5 (a.num*b.den+b.num*a.den)=true) (h4:B5 ((a.den:Int)*b.den)=true):Ej a b=some (a+b):=by unfold Ej;rw[h1,h2,h3,h4];rfl
theorem Qoy (h1:¬B5 (a.num*b.den)=true):Ej a b=none:=by unfold Ej;rw[if_neg (by simp only[Bool.and_eq_true];exact fun h=>h1 h.1.1.1)]
theorem Qo8 (h1:B5 (a.num*b.den)=true) (h2:¬B5 (b.num*a.den)=true):Ej a b=none:=by unfold Ej;rw[if_neg (by simp only[Bool.and_eq_true];exact fun h=>h2 h.1.1.2)]
theorem Qqa (h1:B5 (a.num*b.den)=true) (h2:B5 (b.num*a.den)=true) (h3:¬B5 (a.num*b.den+b.num*a.den)=true):Ej a b=none:=by unfold Ej;rw[if_neg (by simp only[Bool.and_eq_true];exact fun h=>h3 h.1.2)]
theorem Qqv (h1:B5 (a.num*b.den)=true) (h2:B5 (b.num*a.den)=true) (h3:B5 (a.num*b.den+b.num*a.den)=true) (h4:¬B5 ((a.den:Int)*b.den)=true):Ej a b=none:=by unfold Ej;rw[if_neg (by simp only[Bool.and_eq_true];exact fun h=>h4 h.2)]
theorem Qny (h1:B5 (a.num*b.den)=true) (h2:B5 (b.num*a.den)=true) (h3:B5 (a.num*b.den-b.num*a.den)=true) (h4:B5 ((a.den:Int)*b.den)=true):Da a b=some (a-b):=by unfold Da;rw[h1,h2,h3,h4];rfl
theorem Qhh (h1:¬B5 (a.num*b.den)=true):Da a b=none:=by unfold Da;rw[if_neg (by simp only[Bool.and_eq_true];exact fun h=>h1 h.1.1.1)]
theorem Qh4 (h1:B5 (a.num*b.den)=true) (h2:¬B5 (b.num*a.den)=true):Da a b=none:=by unfold Da;rw[if_neg (by simp only[Bool.and_eq_true];exact fun h=>h2 h.1.1.2)]
theorem Qhw (h1:B5 (a.num*b.den)=true) (h2:B5 (b.num*a.den)=true) (h3:¬B5 (a.num*b.den-b.num*a.den)=true):Da a b=none:=by unfold Da;rw[if_neg (by simp only[Bool.and_eq_true];exact fun h=>h3 h.1.2)]
theorem Qg1 (h1:B5 (a.num*b.den)=true) (h2:B5 (b.num*a.den)=true) (h3:B5 (a.num*b.den-b.num*a.den)=true) (h4:¬B5 ((a.den:Int)*b.den)=true):Da a b=none:=by unfold Da;rw[if_neg (by simp only[Bool.and_eq_true];exact fun h=>h4 h.2)]
end
theorem E5 {q:Rat} (h:B0 q):((q.den:Int)).natAbs<Bj:=by simpa using h.2
theorem Xj (a b:Rat) (ha:B0 a) (hb:B0 b):Ak Tryz.prog 98 [H6 a,H6 b,.bool true] Ac.emp fun v m=>v=D6 (Da a b)∧m=Ac.emp:=by
 have hbo:=Qfz (Ar a) (Ar b) (Eb a) (Eb b);rw[D0 ha,D0 hb]at hbo;have m1:=Rf a.num b.den ha.1 (E5 hb);have m2:=Rf b.num a.den hb.1 (E5 ha);have m4:=Rf a.den b.den (E5 ha) (E5 hb);have hne:(a.den:Int)*b.den≠0:=Int.ne_of_gt (Int.mul_pos (by have:=a.den_pos;omega) (by have:=b.den_pos;omega));have hlo:B5 (a.num*b.den-b.num*a.den)=true→B5 ((a.den:Int)*b.den)=true→_:=fun h1 h2=>Tb (a.num*b.den-b.num*a.den) ((a.den:Int)*b.den) (B4.1 h1) (B4.1 h2) hne;rw[←Qfo]at hlo
 have hng:B5 (b.num*a.den)=true→_:=fun h=>J4 (b.num*a.den) (B4.1 h);have m3:B5 (a.num*b.den)=true→B5 (b.num*a.den)=true→_:=fun h1 h2=>Qiv (a.num*b.den) (-(b.num*a.den)) (B4.1 h1) (by rw[Int.natAbs_neg];exact B4.1 h2);rw[←Int.sub_eq_add_neg]at m3;obtain⟨y,hy⟩:∃y:Int,-(b.num*a.den)=y:=⟨_,rfl⟩;rw[hy]at hng m3;simp only[RR.av,Ar]at hbo;unfold H6 at *;simp only[Kg]at m1 m2 m4;simp only[Ay]at m1 m2 m3 hlo hng;refine Ad Tryz.func98 rfl rfl 73 rfl (Nat.le_of_ble_eq_true rfl) ?_;(repeat refine AW.seq_k fun K hK=>?_)
 refine AW.rgR [3,4] ?_;simp[Al];try (refine hK _ rfl ?_;clear hK K)
 refine Ae.intro fun b6 _=>?_;refine hK _ rfl ?_;clear hK K;(repeat refine AW.seq_k fun K hK=>?_);refine AW.rg ?_;simp;try (refine hK _ rfl ?_;clear hK K)
 refine Aa.val hbo ?_;simp;refine hK _ rfl ?_;clear hK K;refine AW.no ?_ rfl;refine AW.skip ?_;try simp
 refine hK _ rfl ?_;clear hK K;(repeat refine AW.seq_k fun K hK=>?_);refine AW.rg ?_;simp[and_true];try (refine hK _ rfl ?_;clear hK K)
 refine Aa.val m1 ?_;by_cases c1:B5 (a.num*(b.den:Int))=true
 case neg =>
  rw[Qau c1];simp;refine Ae.intro fun b8 hb8=>?_;simp only[Am,Az,and_true]at hb8;try simp[and_true]
  refine hK _ rfl ?_;clear hK K;(repeat refine AW.seq_k fun K hK=>?_);refine AW.rg ?_;simp;try (refine hK _ rfl ?_;clear hK K)
  refine AW.yes ?_ rfl;(repeat refine AW.seq_k fun K hK=>?_);refine AW.rg ?_;simp[and_true,hb8];try (refine hK _ rfl ?_;clear hK K)
  exact AW.ret (C9 (b:=b6) _ _ _ _ rfl rfl (by simp[and_true,hb8];exact⟨rfl,rfl,rfl,rfl⟩) rfl (by simp;exact⟨Ek _ _ _ |>.2 trivial,B2.nilsl 1,Ek _ _ _ |>.2 trivial,B2.nilsl 1⟩) ⟨by rw[Qhh c1];rfl,rfl⟩)
 rw[T7 c1];simp;refine Ae.intro fun b8 hb8=>?_;simp only[Am,Az,and_true]at hb8;try simp[and_true]
 refine hK _ rfl ?_;clear hK K;(repeat refine AW.seq_k fun K hK=>?_);refine AW.rg ?_;simp;try (refine hK _ rfl ?_;clear hK K)
 refine AW.no ?_ rfl;refine AW.skip ?_;try simp
 refine hK _ rfl ?_;clear hK K;(repeat refine AW.seq_k fun K hK=>?_);refine AW.rg ?_;simp[hb8];try (refine hK _ rfl ?_;clear hK K)
 refine Aa.val m2 ?_;by_cases c2:B5 (b.num*(a.den:Int))=true
 case neg =>
  rw[Qau c2];simp;refine Ae.intro fun b10 hb10=>?_;simp only[Am,Az,and_true]at hb10;try simp[hb8]
  refine hK _ rfl ?_;clear hK K;(repeat refine AW.seq_k fun K hK=>?_);refine AW.rg ?_;simp;try (refine hK _ rfl ?_;clear hK K)
  refine AW.yes ?_ rfl;(repeat refine AW.seq_k fun K hK=>?_);refine AW.rg ?_;simp[hb8,hb10];try (refine hK _ rfl ?_;clear hK K)
  exact AW.ret (C9 (b:=b6) _ _ _ _ rfl rfl (by simp[hb8,hb10];exact⟨rfl,rfl,rfl,rfl⟩) rfl (by simp;exact⟨Ek _ _ _ |>.2 trivial,B2.nilsl 1,Ek _ _ _ |>.2 trivial,B2.nilsl 1⟩) ⟨by rw[Qh4 c1 c2];rfl,rfl⟩)
 rw[T7 c2];simp;refine Ae.intro fun b10 hb10=>?_;simp only[Am,Az,and_true]at hb10;try simp[hb8]
 refine hK _ rfl ?_;clear hK K;(repeat refine AW.seq_k fun K hK=>?_);refine AW.rg ?_;simp;try (refine hK _ rfl ?_;clear hK K)
 refine AW.no ?_ rfl;refine AW.skip ?_;try simp
 refine hK _ rfl ?_;clear hK K;refine AW.seq_k fun K hK=>?_;(repeat refine AW.seq_k fun K hK=>?_);refine AW.rg ?_;simp;try (refine hK _ rfl ?_;clear hK K)
 refine AW.yes ?_ rfl;(repeat refine AW.seq_k fun K hK=>?_);refine AW.rg ?_;simp[hb8,hb10];try (refine hK _ rfl ?_;clear hK K)
 refine Aa.val (hng c2) ?_;simp[hb8,hb10];refine hK _ rfl ?_;clear hK K;(repeat refine AW.seq_k fun K hK=>?_);refine AW.rg ?_;simp[hb8,hb10];try (refine hK _ rfl ?_;clear hK K)
 refine Aa.val (m3 c1 c2) ?_;by_cases c3:B5 (a.num*(b.den:Int)-b.num*(a.den:Int))=true
 case neg =>
  rw[Qau c3];simp;refine Ae.intro fun b12 hb12=>?_;simp only[Am,Az,and_true]at hb12;try simp[hb8,hb10]
  refine hK _ rfl ?_;clear hK K;(repeat refine AW.seq_k fun K hK=>?_);refine AW.rg ?_;simp;try (refine hK _ rfl ?_;clear hK K)
  refine AW.yes ?_ rfl;(repeat refine AW.seq_k fun K hK=>?_);refine AW.rg ?_;simp[hb8,hb10,hb12];try (refine hK _ rfl ?_;clear hK K)
  exact AW.ret (C9 (b:=b6) _ _ _ _ rfl rfl (by simp[hb8,hb10,hb12];exact⟨rfl,rfl,rfl,rfl⟩) rfl (by simp;exact⟨Ek _ _ _ |>.2 trivial,B2.nilsl 1,Ek _ _ _ |>.2 trivial,B2.nilsl 1⟩) ⟨by rw[Qhw c1 c2 c3];rfl,rfl⟩)
 rw[T7 c3];simp;refine Ae.intro fun b12 hb12=>?_;simp only[Am,Az,and_true]at hb12;try simp[hb8,hb10]
 refine hK _ rfl ?_;clear hK K;(repeat refine AW.seq_k fun K hK=>?_);refine AW.rg ?_;simp;try (refine hK _ rfl ?_;clear hK K)
 refine AW.no ?_ rfl;refine AW.skip ?_;try simp
 refine hK _ rfl ?_;clear hK K;(repeat refine AW.seq_k fun K hK=>?_);refine AW.rg ?_;simp[hb8,hb10,hb12];try (refine hK _ rfl ?_;clear hK K)
 refine Aa.val m4 ?_;by_cases c4:B5 ((a.den:Int)*(b.den:Int))=true
 case neg =>
  rw[Qau c4];simp;refine Ae.intro fun b14 hb14=>?_;simp only[Am,Az,and_true]at hb14;try simp[hb8,hb10,hb12]
  refine hK _ rfl ?_;clear hK K;(repeat refine AW.seq_k fun K hK=>?_);refine AW.rg ?_;simp;try (refine hK _ rfl ?_;clear hK K)
  refine AW.yes ?_ rfl;(repeat refine AW.seq_k fun K hK=>?_);refine AW.rg ?_;simp[hb8,hb10,hb12,hb14];try (refine hK _ rfl ?_;clear hK K)
  exact AW.ret (C9 (b:=b6) _ _ _ _ rfl rfl (by simp[hb8,hb10,hb12,hb14];exact⟨rfl,rfl,rfl,rfl⟩) rfl (by simp;exact⟨Ek _ _ _ |>.2 trivial,B2.nilsl 1,Ek _ _ _ |>.2 trivial,B2.nilsl 1⟩) ⟨by rw[Qg1 c1 c2 c3 c4];rfl,rfl⟩)
 rw[T7 c4];simp[-Int.natCast_mul];refine Ae.intro fun b14 hb14=>?_;simp only[Am,Az,and_true]at hb14;try simp[-Int.natCast_mul,hb8,hb10,hb12]
 refine hK _ rfl ?_;clear hK K;(repeat refine AW.seq_k fun K hK=>?_);refine AW.rg ?_;simp[-Int.natCast_mul];try (refine hK _ rfl ?_;clear hK K)
 refine AW.no ?_ rfl;refine AW.skip ?_;try simp[-Int.natCast_mul]
 refine hK _ rfl ?_;clear hK K;(repeat refine AW.seq_k fun K hK=>?_);refine AW.rg ?_;simp[-Int.natCast_mul,hb8,hb10,hb12,hb14];try (refine hK _ rfl ?_;clear hK K)
 refine Aa.val (hlo c3 c4) ?_;simp[-Int.natCast_mul,hb8,hb10,hb12,hb14];refine hK _ rfl ?_;clear hK K;exact AW.ret (C9 (b:=b6) _ _ _ _ rfl rfl (by simp[-Int.natCast_mul,hb8,hb10,hb12,hb14];exact⟨rfl,rfl,rfl,rfl⟩) rfl (A7 _ _ _) ⟨by rw[Qny c1 c2 c3 c4];rfl,rfl⟩)
end Go.Av
end
section
namespace Go.Av
open Go.Proofs
theorem Nq (a b:Rat) (ha:B0 a) (hb:B0 b):Ak Tryz.prog 65 [H6 a,H6 b] Ac.emp fun v m=>v=D6 (Da a b)∧m=Ac.emp:=by
 have hs:=Xj a b ha hb;generalize Da a b=q at *;unfold H6 at hs ⊢;refine Ad Tryz.func65 rfl rfl 11 rfl (Nat.le_of_ble_eq_true rfl) ?_;(repeat refine AW.seq_k fun K hK=>?_);refine AW.rgR [2,3] ?_;simp[Al];try (refine hK _ rfl ?_;clear hK K)
 refine Ae.intro fun b4 _=>?_;refine hK _ rfl ?_;clear hK K;(repeat refine AW.seq_k fun K hK=>?_);refine AW.rg ?_;simp;try (refine hK _ rfl ?_;clear hK K)
 refine Aa.val hs ?_;cases q
 ·simp[D6,B9];refine hK _ rfl ?_;clear hK K;exact AW.ret (C9 (b:=b4) _ _ _ _ rfl rfl (by simp<;>exact⟨rfl,rfl,rfl,rfl⟩) rfl (A7 _ _ _) ⟨rfl,rfl⟩)
 ·simp[D6,H6];refine hK _ rfl ?_;clear hK K;exact AW.ret (C9 (b:=b4) _ _ _ _ rfl rfl (by simp<;>exact⟨rfl,rfl,rfl,rfl⟩) rfl (A7 _ _ _) ⟨rfl,rfl⟩)
@[simp] theorem Q5y:Ai Tryz.prog 98=some {size:=1,bytes:=8,cls:=.func,zero:=.nfn,fields:=[]}:=by kernel_rfl
@[simp] theorem Mc.agg_func:Mc.func.agg=false:=(rfl)
def kz (e z:Int):Int:=if e=0 then fz z else 0
def ke (e z:Int):Int:=if e=0 then fe z else e
theorem Qcb (e z:Int):(kz e z).natAbs<Bj:=by
 unfold kz;split
 ·exact Qsu z
 ·exact Qsu 0 |> fun h=>by simpa[fz,show(0:Int).natAbs<Bj by decide]using h
section
variable {P:Program} {rs:List ResultVar} {R:AV→Ac→Prop} {s:St}
theorem Cu {vs:List AV} (vs':List AV) (b:Nat) (x:Fb) (hs:D5 P s rs=some vs) (hb:s.m b=some x) (h1:∀v∈x.l,v.cells.all AV.one=true) (hv:Eo s.m (Ac.emp.set b x) vs vs') (hR:R (oneOrTup vs') (Ac.emp.set b x)):Q3 P rs R .ret s :=
 ⟨vs,hs,_,_,Bm.one hb h1,B2.oneOrTup hv,hR⟩
end
theorem Zb (f:Nat) (b:Nat):Ak Tryz.prog 181 [.fn f [],.ptr b 1 0 0] Ac.emp fun v m=>v=.fn 182 [.ptr b 1 0 0,.rptr [.fn f []]]∧m=Ac.emp:=by
 refine Ad Tryz.func181 rfl rfl 5 rfl (Nat.le_of_ble_eq_true rfl) ?_;(repeat refine AW.seq_k fun K hK=>?_);refine AW.rgR [2] ?_;simp[Al];try (refine hK _ rfl ?_;clear hK K)
 (repeat refine AW.seq_k fun K hK=>?_);refine AW.rg ?_;simp;try (refine hK _ rfl ?_;clear hK K)
 exact AW.ret (Ah rfl _ (.same _) ⟨rfl,rfl⟩)
theorem D2 (f:Nat) (b:Nat) (e z x y:Int) (hf:Ak Tryz.prog f [Ay x,Ay y] Ac.emp fun v m=>v=Bx z∧m=Ac.emp) :
  Ak Tryz.prog 182 [Ay x,Ay y,.ptr b 1 0 0,.rptr [.fn f []]] (Ac.emp.set b ⟨23,1,[.int .i64 e]⟩) fun v m=>v=Ay (kz e z)∧m=Ac.emp.set b ⟨23,1,[.int .i64 (ke e z)]⟩:=by
 rw[Dl]at hf;unfold Ay at *;refine Ad Tryz.func182 rfl rfl 21 rfl (Nat.le_of_ble_eq_true rfl) ?_;(repeat refine AW.seq_k fun K hK=>?_);refine AW.rgR [4,5] ?_;simp[Al];try (refine hK _ rfl ?_;clear hK K)
 refine Ae.intro fun b6 hb6=>?_;simp only[Am,Az,and_true]at hb6;refine hK _ rfl ?_;clear hK K;(repeat refine AW.seq_k fun K hK=>?_);refine AW.rg ?_;simp[hb6];try (refine hK _ rfl ?_;clear hK K)
 by_cases he:e=0
 ·subst he;refine AW.no ?_ rfl;refine AW.skip ?_;try simp
  refine hK _ rfl ?_;clear hK K;(repeat refine AW.seq_k fun K hK=>?_);refine AW.rg ?_;simp[hb6];try (refine hK _ rfl ?_;clear hK K)
  refine⟨f,[],⟨rfl,rfl⟩,?_⟩;refine Aa.val hf ?_;simp;refine Ae.intro fun b7 hb7=>?_;simp only[Am,Az,and_true]at hb7;try simp[hb6,hb7]
  refine hK _ rfl ?_;clear hK K;(repeat refine AW.seq_k fun K hK=>?_);refine AW.rg ?_;simp[hb6,hb7];try (refine hK _ rfl ?_;clear hK K)
  (repeat refine AW.seq_k fun K hK=>?_);refine AW.rg ?_;simp[hb6,hb7];try (refine hK _ rfl ?_;clear hK K)
  exact AW.ret (Cu (vs:=[.agg [.bool (decide (fz z<0)),Ao (Ap (fz z).natAbs)]]) [.agg [.bool (decide (fz z<0)),Ao (Ap (fz z).natAbs)]] b ⟨23,1,[.int .i64 (fe z)]⟩ (by simp[hb6,hb7]) (by simp[hb6,hb7]) (by simp) (A7 _ _ _) ⟨rfl,rfl⟩)
 ·refine AW.yes ?_ (by simp[he]);(repeat refine AW.seq_k fun K hK=>?_);refine AW.rg ?_;simp[hb6];try (refine hK _ rfl ?_;clear hK K)
  have k1:kz e z=0:=if_neg he;have k2:ke e z=e:=if_neg he;rw[k1,k2];exact AW.ret (Cu (vs:=[.agg [.bool false,.nil]]) [.agg [.bool false,Ao []]] b ⟨23,1,[.int .i64 e]⟩ (by simp[hb6]) (by simp[hb6]) (by simp) (by simp) ⟨by simp[Bg],rfl⟩)
end Go.Av
end
section
namespace Go.Av
open Go.Proofs
def opR (q:Option Rat) (N D e:Int):Prop :=
 match q with
 |some q=>e=0∧N.natAbs<Bj∧D.natAbs<Bj∧D≠0∧Rat.divInt N D=q
 |none=>e=2
def Dz (q:Rat):List AV:=[.bool (decide (q.num<0)),Ao (Ap q.num.natAbs),.bool false,Ao (Ap q.den)]
def O2 (b:Nat) (e:Int):Ac:=Ac.emp.set b ⟨23,1,[.int .i64 e]⟩
theorem H1 {z:Int} (h:B5 z=true):kz 0 z=z:=by unfold kz;rw[if_pos rfl,Ti (B4.1 h)]
theorem Hz {z:Int} (h:B5 z=true):ke 0 z=0:=by unfold ke;rw[if_pos rfl,S0 (B4.1 h)]
theorem L3 {z:Int} (h:¬B5 z=true):ke 0 z=2:=by unfold ke fe;rw[if_pos rfl,if_neg (fun h'=>h (B4.2 h'))]
section
variable {a b:Rat}
theorem Qk6:(a.den:Int)*b.den≠0:=Int.ne_of_gt (Int.mul_pos (by have:=a.den_pos;omega) (by have:=b.den_pos;omega))
theorem Qqb {e1 e2:Int} (h1:e1=ke 0 (a.num*b.num)) (h2:e2=ke e1 ((a.den:Int)*b.den)):opR (Df a b) (kz 0 (a.num*b.num)) (kz e1 ((a.den:Int)*b.den)) e2:=by
 subst h1 h2;by_cases c1:B5 (a.num*b.num)=true
 ·rw[Hz c1];by_cases c2:B5 ((a.den:Int)*b.den)=true
  ·rw[Qve c1 c2,H1 c1,H1 c2,Hz c2];exact⟨rfl,B4.1 c1,B4.1 c2,Qk6,(Qex a b).symm⟩
  ·rw[Qpk c1 c2,L3 c2];rfl
 ·rw[Qpc c1,L3 c1];rfl
theorem Qqu {e1 e2:Int} (h0:b≠0) (h1:e1=ke 0 (a.num*b.den)) (h2:e2=ke e1 ((a.den:Int)*b.num)):opR (Fu a b) (kz 0 (a.num*b.den)) (kz e1 ((a.den:Int)*b.num)) e2:=by
 subst h1 h2;by_cases c1:B5 (a.num*b.den)=true
 ·rw[Hz c1];by_cases c2:B5 ((a.den:Int)*b.num)=true
  ·rw[Quu c1 c2,H1 c1,H1 c2,Hz c2];exact⟨rfl,B4.1 c1,B4.1 c2,Int.mul_ne_zero (by have:=a.den_pos;omega) (fun e=>h0 (Rat.num_eq_zero.1 e)),(Qmr a b).symm⟩
  ·rw[Qq5 c1 c2,L3 c2];rfl
 ·rw[Qq4 c1,L3 c1];rfl
theorem Qpe {e1 e2 e3 e4:Int} (h1:e1=ke 0 (a.num*b.den)) (h2:e2=ke e1 (b.num*a.den)) (h3:e3=ke e2 (kz 0 (a.num*b.den)+kz e1 (b.num*a.den))) (h4:e4=ke e3 ((a.den:Int)*b.den)) :
  opR (Ej a b) (kz e2 (kz 0 (a.num*b.den)+kz e1 (b.num*a.den))) (kz e3 ((a.den:Int)*b.den)) e4:=by
 subst h1 h2 h3 h4;by_cases c1:B5 (a.num*b.den)=true
 ·rw[Hz c1,H1 c1];by_cases c2:B5 (b.num*a.den)=true
  ·rw[Hz c2,H1 c2];by_cases c3:B5 (a.num*b.den+b.num*a.den)=true
   ·rw[Hz c3,H1 c3];by_cases c4:B5 ((a.den:Int)*b.den)=true
    ·rw[Qwj c1 c2 c3 c4,H1 c4,Hz c4];exact⟨rfl,B4.1 c3,B4.1 c4,Qk6,(Qlg a b).symm⟩
    ·rw[Qqv c1 c2 c3 c4,L3 c4];rfl
   ·rw[Qqa c1 c2 c3,L3 c3];rfl
  ·rw[Qo8 c1 c2,L3 c2];rfl
 ·rw[Qoy c1,L3 c1];rfl
theorem Qqr {e1 e2 e3 e4:Int} (h1:e1=ke 0 (a.num*b.den)) (h2:e2=ke e1 (b.num*a.den)) (h3:e3=ke e2 (kz 0 (a.num*b.den)+-kz e1 (b.num*a.den))) (h4:e4=ke e3 ((a.den:Int)*b.den)) :
  opR (Da a b) (kz e2 (kz 0 (a.num*b.den)+-kz e1 (b.num*a.den))) (kz e3 ((a.den:Int)*b.den)) e4:=by
 subst h1 h2 h3 h4;by_cases c1:B5 (a.num*b.den)=true
 ·rw[Hz c1,H1 c1];by_cases c2:B5 (b.num*a.den)=true
  ·rw[Hz c2,H1 c2];rw[←Int.sub_eq_add_neg];by_cases c3:B5 (a.num*b.den-b.num*a.den)=true
   ·rw[Hz c3,H1 c3];by_cases c4:B5 ((a.den:Int)*b.den)=true
    ·rw[Qny c1 c2 c3 c4,H1 c4,Hz c4];exact⟨rfl,B4.1 c3,B4.1 c4,Qk6,(Qfo a b).symm⟩
    ·rw[Qg1 c1 c2 c3 c4,L3 c4];rfl
   ·rw[Qhw c1 c2 c3,L3 c3];rfl
  ·rw[Qh4 c1 c2,L3 c2];rfl
 ·rw[Qhh c1,L3 c1];rfl
end
theorem Qjh (a b:Rat) (ha:B0 a) (hb:B0 b) (bl:Nat):Ak Tryz.prog 194 [.fn 182 [.ptr bl 1 0 0,.rptr [.fn 183 []]],.fn 182 [.ptr bl 1 0 0,.rptr [.fn 184 []]],.rptr (Dz a),.rptr (Dz b)] (O2 bl 0) fun v m=>∃N D e,v=.tup [Ay N,Ay D]∧m=O2 bl e∧opR (Df a b) N D e:=by
 obtain⟨e1,he1⟩:∃e,e=ke 0 (a.num*b.num):=⟨_,rfl⟩;obtain⟨e2,he2⟩:∃e,e=ke e1 ((a.den:Int)*(b.den:Int)):=⟨_,rfl⟩;have hend:=Qqb he1 he2;have m1:=D2 183 bl 0 _ _ _ (E3 (a.num) (b.num) ha.1 hb.1);have m2:=D2 183 bl e1 _ _ _ (E3 ((a.den:Int)) ((b.den:Int)) (E5 ha) (E5 hb));rw[←he1]at m1;rw[←he2]at m2;generalize kz 0 (a.num*b.num)=z1 at *;generalize kz e1 ((a.den:Int)*(b.den:Int))=z2 at *;simp only[Kg]at m1 m2;unfold Ay at *;unfold O2 Dz;refine Ad Tryz.func194 rfl rfl 21 rfl (Nat.le_of_ble_eq_true rfl) ?_
 (repeat refine AW.seq_k fun K hK=>?_);refine AW.rg ?_;simp[Al];try (refine hK _ rfl ?_;clear hK K)
 refine Ae.intro fun b6 hb6=>?_;simp only[Am,Az,and_true]at hb6;refine Ae.intro fun b7 hb7=>?_;simp only[Am,Az,and_true]at hb7;refine hK _ rfl ?_;clear hK K;(repeat refine AW.seq_k fun K hK=>?_);refine AW.rg ?_;simp[hb6,hb7];try (refine hK _ rfl ?_;clear hK K)
 refine⟨182,_,⟨rfl,rfl⟩,?_⟩;refine Aa.grant (R:=fun v x=>v=.agg [.bool (decide (z1<0)),Ao (Ap (z1).natAbs)]∧x=⟨23,1,[.int .i64 (e1)]⟩) bl ⟨23,1,[.int .i64 (0)]⟩ (by simp[hb6,hb7]) (by simp[hb6,hb7]) (m1.mono fun v m ⟨h1,h2⟩=>⟨_,⟨h1,rfl⟩,h2⟩) ?_;rintro _ _ ⟨rfl,rfl⟩;simp[hb6,hb7];refine hK _ rfl ?_;clear hK K;(repeat refine AW.seq_k fun K hK=>?_);refine AW.rdT [] [2,3,16,18] [] [b6] [0,1,2,3,4,5,6,7,8] Dm (by simp[hb6,hb7]) (by simp[hb6,hb7]) (by simp[hb6,hb7]) (by simp[hb6,hb7]) (by simp[hb6,hb7]) ?_;simp[hb6,hb7];try (refine hK _ rfl ?_;clear hK K)
 refine⟨182,_,⟨rfl,rfl⟩,?_⟩;refine Aa.grant (R:=fun v x=>v=.agg [.bool (decide (z2<0)),Ao (Ap (z2).natAbs)]∧x=⟨23,1,[.int .i64 (e2)]⟩) bl ⟨23,1,[.int .i64 (e1)]⟩ (by simp[hb6,hb7]) (by simp[hb6,hb7]) (m2.mono fun v m ⟨h1,h2⟩=>⟨_,⟨h1,rfl⟩,h2⟩) ?_;rintro _ _ ⟨rfl,rfl⟩;simp[hb6,hb7];refine hK _ rfl ?_;clear hK K;exact AW.ret (Cu (vs:=[.agg [.bool (decide (z1<0)),Ao (Ap (z1).natAbs)],.agg [.bool (decide (z2<0)),Ao (Ap (z2).natAbs)]]) [.agg [.bool (decide (z1<0)),Ao (Ap (z1).natAbs)],.agg [.bool (decide (z2<0)),Ao (Ap (z2).natAbs)]] bl ⟨23,1,[.int .i64 e2]⟩ (by simp[hb6,hb7]) (by simp[hb6,hb7]) (by simp) (A7 _ _ _) ⟨z1,z2,e2,rfl,rfl,hend⟩)
theorem Qjc (a b:Rat) (ha:B0 a) (hb:B0 b) (h0:b≠0) (bl:Nat):Ak Tryz.prog 199 [.fn 182 [.ptr bl 1 0 0,.rptr [.fn 183 []]],.fn 182 [.ptr bl 1 0 0,.rptr [.fn 184 []]],.rptr (Dz a),.rptr (Dz b)] (O2 bl 0) fun v m=>∃N D e,v=.tup [Ay N,Ay D]∧m=O2 bl e∧opR (Fu a b) N D e:=by
 obtain⟨e1,he1⟩:∃e,e=ke 0 (a.num*(b.den:Int)):=⟨_,rfl⟩;obtain⟨e2,he2⟩:∃e,e=ke e1 ((a.den:Int)*b.num):=⟨_,rfl⟩;have hend:=Qqu h0 he1 he2;have m1:=D2 183 bl 0 _ _ _ (E3 (a.num) ((b.den:Int)) ha.1 (E5 hb));have m2:=D2 183 bl e1 _ _ _ (E3 ((a.den:Int)) (b.num) (E5 ha) hb.1);rw[←he1]at m1;rw[←he2]at m2;generalize kz 0 (a.num*(b.den:Int))=z1 at *;generalize kz e1 ((a.den:Int)*b.num)=z2 at *;simp only[Kg]at m1 m2;unfold Ay at *;unfold O2 Dz;refine Ad Tryz.func199 rfl rfl 21 rfl (Nat.le_of_ble_eq_true rfl) ?_
 (repeat refine AW.seq_k fun K hK=>?_);refine AW.rg ?_;simp[Al];try (refine hK _ rfl ?_;clear hK K)
 refine Ae.intro fun b6 hb6=>?_;simp only[Am,Az,and_true]at hb6;refine Ae.intro fun b7 hb7=>?_;simp only[Am,Az,and_true]at hb7;refine hK _ rfl ?_;clear hK K;(repeat refine AW.seq_k fun K hK=>?_);refine AW.rg ?_;simp[hb6,hb7];try (refine hK _ rfl ?_;clear hK K)
 refine⟨182,_,⟨rfl,rfl⟩,?_⟩;refine Aa.grant (R:=fun v x=>v=.agg [.bool (decide (z1<0)),Ao (Ap (z1).natAbs)]∧x=⟨23,1,[.int .i64 (e1)]⟩) bl ⟨23,1,[.int .i64 (0)]⟩ (by simp[hb6,hb7]) (by simp[hb6,hb7]) (m1.mono fun v m ⟨h1,h2⟩=>⟨_,⟨h1,rfl⟩,h2⟩) ?_;rintro _ _ ⟨rfl,rfl⟩;simp[hb6,hb7];refine hK _ rfl ?_;clear hK K;(repeat refine AW.seq_k fun K hK=>?_);refine AW.rdT [] [2,3,16,18] [] [b6] [0,1,2,3,4,5,6,7,8] Dm (by simp[hb6,hb7]) (by simp[hb6,hb7]) (by simp[hb6,hb7]) (by simp[hb6,hb7]) (by simp[hb6,hb7]) ?_;simp[hb6,hb7];try (refine hK _ rfl ?_;clear hK K)
 refine⟨182,_,⟨rfl,rfl⟩,?_⟩;refine Aa.grant (R:=fun v x=>v=.agg [.bool (decide (z2<0)),Ao (Ap (z2).natAbs)]∧x=⟨23,1,[.int .i64 (e2)]⟩) bl ⟨23,1,[.int .i64 (e1)]⟩ (by simp[hb6,hb7]) (by simp[hb6,hb7]) (m2.mono fun v m ⟨h1,h2⟩=>⟨_,⟨h1,rfl⟩,h2⟩) ?_;rintro _ _ ⟨rfl,rfl⟩;simp[hb6,hb7];refine hK _ rfl ?_;clear hK K;exact AW.ret (Cu (vs:=[.agg [.bool (decide (z1<0)),Ao (Ap (z1).natAbs)],.agg [.bool (decide (z2<0)),Ao (Ap (z2).natAbs)]]) [.agg [.bool (decide (z1<0)),Ao (Ap (z1).natAbs)],.agg [.bool (decide (z2<0)),Ao (Ap (z2).natAbs)]] bl ⟨23,1,[.int .i64 e2]⟩ (by simp[hb6,hb7]) (by simp[hb6,hb7]) (by simp) (A7 _ _ _) ⟨z1,z2,e2,rfl,rfl,hend⟩)
theorem Qja (a b:Rat) (ha:B0 a) (hb:B0 b) (bl:Nat):Ak Tryz.prog 193 [.fn 182 [.ptr bl 1 0 0,.rptr [.fn 183 []]],.fn 182 [.ptr bl 1 0 0,.rptr [.fn 184 []]],.rptr (Dz a),.rptr (Dz b)] (O2 bl 0) fun v m=>∃N D e,v=.tup [Ay N,Ay D]∧m=O2 bl e∧opR (Ej a b) N D e:=by
 obtain⟨e1,he1⟩:∃e,e=ke 0 (a.num*b.den):=⟨_,rfl⟩;obtain⟨e2,he2⟩:∃e,e=ke e1 (b.num*a.den):=⟨_,rfl⟩;obtain⟨e3,he3⟩:∃e,e=ke e2 (kz 0 (a.num*b.den)+kz e1 (b.num*a.den)):=⟨_,rfl⟩;obtain⟨e4,he4⟩:∃e,e=ke e3 ((a.den:Int)*b.den):=⟨_,rfl⟩;have hend:=Qpe he1 he2 he3 he4;have m1:=D2 183 bl 0 _ _ _ (E3 a.num b.den ha.1 (E5 hb));have m2:=D2 183 bl e1 _ _ _ (E3 b.num a.den hb.1 (E5 ha));have m4:=D2 183 bl e3 _ _ _ (E3 a.den b.den (E5 ha) (E5 hb));have m3:=D2 184 bl e2 _ _ _ (Xy (kz 0 (a.num*b.den)) (kz e1 (b.num*a.den)) (Qcb _ _) (Qcb _ _))
 rw[←he1]at m1;rw[←he2]at m2;rw[←he3]at m3;rw[←he4]at m4;generalize kz e2 (kz 0 (a.num*b.den)+kz e1 (b.num*a.den))=z3 at *;generalize kz e3 ((a.den:Int)*b.den)=z4 at *;clear he1 he2 he3 he4;generalize kz e1 (b.num*a.den)=z2 at *;generalize kz 0 (a.num*b.den)=z1 at *;simp only[Kg]at m1 m2 m4;unfold Ay at *;unfold O2 Dz;refine Ad Tryz.func193 rfl rfl 33 rfl (Nat.le_of_ble_eq_true rfl) ?_;(repeat refine AW.seq_k fun K hK=>?_);refine AW.rg ?_;simp[Al];try (refine hK _ rfl ?_;clear hK K)
 refine Ae.intro fun b6 hb6=>?_;simp only[Am,Az,and_true]at hb6;refine Ae.intro fun b7 hb7=>?_;simp only[Am,Az,and_true]at hb7;refine hK _ rfl ?_;clear hK K;(repeat refine AW.seq_k fun K hK=>?_);refine AW.rdT [] [2,3,11,13,17,19] [] [] [0,1,2,3,4,6,7,8,9,10,5,11,12,13,14,15] Dm (by simp[hb6,hb7]) (by simp[hb6,hb7]) (by simp[hb6,hb7]) (by simp[hb6,hb7]) (by simp[hb6,hb7]) ?_;simp[hb6,hb7];try (refine hK _ rfl ?_;clear hK K)
 refine⟨182,_,⟨rfl,rfl⟩,?_⟩;refine Aa.grant (R:=fun v x=>v=.agg [.bool (decide (z1<0)),Ao (Ap (z1).natAbs)]∧x=⟨23,1,[.int .i64 (e1)]⟩) bl ⟨23,1,[.int .i64 (0)]⟩ (by simp[hb6,hb7]) (by simp[hb6,hb7]) (m1.mono fun v m ⟨h1,h2⟩=>⟨_,⟨h1,rfl⟩,h2⟩) ?_;rintro _ _ ⟨rfl,rfl⟩;simp[hb6,hb7];refine⟨182,_,⟨rfl,rfl⟩,?_⟩;refine Aa.grant (R:=fun v x=>v=.agg [.bool (decide (z2<0)),Ao (Ap (z2).natAbs)]∧x=⟨23,1,[.int .i64 (e2)]⟩) bl ⟨23,1,[.int .i64 (e1)]⟩ (by simp[hb6,hb7]) (by simp[hb6,hb7]) (m2.mono fun v m ⟨h1,h2⟩=>⟨_,⟨h1,rfl⟩,h2⟩) ?_
 rintro _ _ ⟨rfl,rfl⟩;simp[hb6,hb7];refine Ae.intro fun b8 hb8=>?_;simp only[Am,Az,and_true]at hb8;refine Ae.intro fun b9 hb9=>?_;simp only[Am,Az,and_true]at hb9;try simp[hb6,hb7,hb8,hb9]
 refine hK _ rfl ?_;clear hK K;(repeat refine AW.seq_k fun K hK=>?_);refine AW.rg ?_;simp[hb6,hb7,hb8,hb9];try (refine hK _ rfl ?_;clear hK K)
 refine⟨182,_,⟨rfl,rfl⟩,?_⟩;refine Aa.grant (R:=fun v x=>v=.agg [.bool (decide (z3<0)),Ao (Ap (z3).natAbs)]∧x=⟨23,1,[.int .i64 (e3)]⟩) bl ⟨23,1,[.int .i64 (e2)]⟩ (by simp[hb6,hb7,hb8,hb9]) (by simp[hb6,hb7,hb8,hb9]) (m3.mono fun v m ⟨h1,h2⟩=>⟨_,⟨h1,rfl⟩,h2⟩) ?_;rintro _ _ ⟨rfl,rfl⟩;simp[hb6,hb7,hb8,hb9];refine hK _ rfl ?_;clear hK K;(repeat refine AW.seq_k fun K hK=>?_);refine AW.rdT [] [2,3,28,30] [] [b6] [0,1,2,3,4,5,6,7,8] Dm (by simp[hb6,hb7,hb8,hb9]) (by simp[hb6,hb7,hb8,hb9]) (by simp[hb6,hb7,hb8,hb9]) (by simp[hb6,hb7,hb8,hb9]) (by simp[hb6,hb7,hb8,hb9]) ?_
 simp[hb6,hb7,hb8,hb9];try (refine hK _ rfl ?_;clear hK K)
 refine⟨182,_,⟨rfl,rfl⟩,?_⟩;refine Aa.grant (R:=fun v x=>v=.agg [.bool (decide (z4<0)),Ao (Ap (z4).natAbs)]∧x=⟨23,1,[.int .i64 (e4)]⟩) bl ⟨23,1,[.int .i64 (e3)]⟩ (by simp[hb6,hb7,hb8,hb9]) (by simp[hb6,hb7,hb8,hb9]) (m4.mono fun v m ⟨h1,h2⟩=>⟨_,⟨h1,rfl⟩,h2⟩) ?_;rintro _ _ ⟨rfl,rfl⟩;simp[hb6,hb7,hb8,hb9];refine hK _ rfl ?_;clear hK K;exact AW.ret (Cu (vs:=[.agg [.bool (decide (z3<0)),Ao (Ap (z3).natAbs)],.agg [.bool (decide (z4<0)),Ao (Ap (z4).natAbs)]]) [.agg [.bool (decide (z3<0)),Ao (Ap (z3).natAbs)],.agg [.bool (decide (z4<0)),Ao (Ap (z4).natAbs)]] bl ⟨23,1,[.int .i64 e4]⟩ (by simp[hb6,hb7,hb8,hb9]) (by simp[hb6,hb7,hb8,hb9]) (by simp) (A7 _ _ _) ⟨z3,z4,e4,rfl,rfl,hend⟩)
theorem Qi9 (a b:Rat) (ha:B0 a) (hb:B0 b) (bl:Nat):Ak Tryz.prog 148 [.fn 182 [.ptr bl 1 0 0,.rptr [.fn 183 []]],.fn 182 [.ptr bl 1 0 0,.rptr [.fn 184 []]],.rptr (Dz a),.rptr (Dz b)] (O2 bl 0) fun v m=>∃N D e,v=.tup [Ay N,Ay D]∧m=O2 bl e∧opR (Da a b) N D e:=by
 obtain⟨e1,he1⟩:∃e,e=ke 0 (a.num*b.den):=⟨_,rfl⟩;obtain⟨e2,he2⟩:∃e,e=ke e1 (b.num*a.den):=⟨_,rfl⟩;obtain⟨e3,he3⟩:∃e,e=ke e2 (kz 0 (a.num*b.den)+-kz e1 (b.num*a.den)):=⟨_,rfl⟩;obtain⟨e4,he4⟩:∃e,e=ke e3 ((a.den:Int)*b.den):=⟨_,rfl⟩;have hend:=Qqr he1 he2 he3 he4;have m1:=D2 183 bl 0 _ _ _ (E3 a.num b.den ha.1 (E5 hb));have m2:=D2 183 bl e1 _ _ _ (E3 b.num a.den hb.1 (E5 ha));have m4:=D2 183 bl e3 _ _ _ (E3 a.den b.den (E5 ha) (E5 hb));have m3:=D2 184 bl e2 _ _ _ (Xy (kz 0 (a.num*b.den)) (-kz e1 (b.num*a.den)) (Qcb _ _) (by rw[Int.natAbs_neg];exact Qcb _ _))
 have hng:=Wa (kz e1 (b.num*a.den)) (Qcb _ _);rw[←he1]at m1;rw[←he2]at m2;rw[←he3]at m3;rw[←he4]at m4;generalize kz e2 (kz 0 (a.num*b.den)+-kz e1 (b.num*a.den))=z3 at *;generalize kz e3 ((a.den:Int)*b.den)=z4 at *;clear he1 he2 he3 he4;generalize -kz e1 (b.num*a.den)=ny at *;generalize kz e1 (b.num*a.den)=z2 at *;generalize kz 0 (a.num*b.den)=z1 at *;simp only[Kg]at m1 m2 m4;unfold Ay at *;unfold O2 Dz;refine Ad Tryz.func148 rfl rfl 34 rfl (Nat.le_of_ble_eq_true rfl) ?_;(repeat refine AW.seq_k fun K hK=>?_);refine AW.rg ?_
 simp[Al];try (refine hK _ rfl ?_;clear hK K)
 refine Ae.intro fun b6 hb6=>?_;simp only[Am,Az,and_true]at hb6;refine Ae.intro fun b7 hb7=>?_;simp only[Am,Az,and_true]at hb7;refine hK _ rfl ?_;clear hK K;(repeat refine AW.seq_k fun K hK=>?_);refine AW.rdT [] [2,3,11,13,17,19] [] [] [0,1,2,3,4,6,7,8,9,10,5,11,12,13,14,15] Dm (by simp[hb6,hb7]) (by simp[hb6,hb7]) (by simp[hb6,hb7]) (by simp[hb6,hb7]) (by simp[hb6,hb7]) ?_;simp[hb6,hb7];try (refine hK _ rfl ?_;clear hK K)
 refine⟨182,_,⟨rfl,rfl⟩,?_⟩;refine Aa.grant (R:=fun v x=>v=.agg [.bool (decide (z1<0)),Ao (Ap (z1).natAbs)]∧x=⟨23,1,[.int .i64 (e1)]⟩) bl ⟨23,1,[.int .i64 (0)]⟩ (by simp[hb6,hb7]) (by simp[hb6,hb7]) (m1.mono fun v m ⟨h1,h2⟩=>⟨_,⟨h1,rfl⟩,h2⟩) ?_;rintro _ _ ⟨rfl,rfl⟩;simp[hb6,hb7];refine⟨182,_,⟨rfl,rfl⟩,?_⟩;refine Aa.grant (R:=fun v x=>v=.agg [.bool (decide (z2<0)),Ao (Ap (z2).natAbs)]∧x=⟨23,1,[.int .i64 (e2)]⟩) bl ⟨23,1,[.int .i64 (e1)]⟩ (by simp[hb6,hb7]) (by simp[hb6,hb7]) (m2.mono fun v m ⟨h1,h2⟩=>⟨_,⟨h1,rfl⟩,h2⟩) ?_
 rintro _ _ ⟨rfl,rfl⟩;simp[hb6,hb7];refine Ae.intro fun b8 hb8=>?_;simp only[Am,Az,and_true]at hb8;refine Ae.intro fun b9 hb9=>?_;simp only[Am,Az,and_true]at hb9;try simp[hb6,hb7,hb8,hb9]
 refine hK _ rfl ?_;clear hK K;(repeat refine AW.seq_k fun K hK=>?_);refine AW.rdT [] [] [] [b8,b9] [0,1,2,3,4,5] Dm (by simp[hb6,hb7,hb8,hb9]) (by simp[hb6,hb7,hb8,hb9]) (by simp[hb6,hb7,hb8,hb9]) (by simp[hb6,hb7,hb8,hb9]) (by simp[hb6,hb7,hb8,hb9]) ?_;simp[hb6,hb7,hb8,hb9];try (refine hK _ rfl ?_;clear hK K)
 refine Aa.val hng ?_;simp[hb6,hb7,hb8,hb9];refine⟨182,_,⟨rfl,rfl⟩,?_⟩;refine Aa.grant (R:=fun v x=>v=.agg [.bool (decide (z3<0)),Ao (Ap (z3).natAbs)]∧x=⟨23,1,[.int .i64 (e3)]⟩) bl ⟨23,1,[.int .i64 (e2)]⟩ (by simp[hb6,hb7,hb8,hb9]) (by simp[hb6,hb7,hb8,hb9]) (m3.mono fun v m ⟨h1,h2⟩=>⟨_,⟨h1,rfl⟩,h2⟩) ?_;rintro _ _ ⟨rfl,rfl⟩;simp[hb6,hb7,hb8,hb9];refine hK _ rfl ?_;clear hK K;(repeat refine AW.seq_k fun K hK=>?_);refine AW.rdT [] [2,3,29,31] [] [b6] [0,1,2,3,4,5,6,7,8] Dm (by simp[hb6,hb7,hb8,hb9]) (by simp[hb6,hb7,hb8,hb9]) (by simp[hb6,hb7,hb8,hb9]) (by simp[hb6,hb7,hb8,hb9]) (by simp[hb6,hb7,hb8,hb9]) ?_
 simp[hb6,hb7,hb8,hb9];try (refine hK _ rfl ?_;clear hK K)
 refine⟨182,_,⟨rfl,rfl⟩,?_⟩;refine Aa.grant (R:=fun v x=>v=.agg [.bool (decide (z4<0)),Ao (Ap (z4).natAbs)]∧x=⟨23,1,[.int .i64 (e4)]⟩) bl ⟨23,1,[.int .i64 (e3)]⟩ (by simp[hb6,hb7,hb8,hb9]) (by simp[hb6,hb7,hb8,hb9]) (m4.mono fun v m ⟨h1,h2⟩=>⟨_,⟨h1,rfl⟩,h2⟩) ?_;rintro _ _ ⟨rfl,rfl⟩;simp[hb6,hb7,hb8,hb9];refine hK _ rfl ?_;clear hK K;exact AW.ret (Cu (vs:=[.agg [.bool (decide (z3<0)),Ao (Ap (z3).natAbs)],.agg [.bool (decide (z4<0)),Ao (Ap (z4).natAbs)]]) [.agg [.bool (decide (z3<0)),Ao (Ap (z3).natAbs)],.agg [.bool (decide (z4<0)),Ao (Ap (z4).natAbs)]] bl ⟨23,1,[.int .i64 e4]⟩ (by simp[hb6,hb7,hb8,hb9]) (by simp[hb6,hb7,hb8,hb9]) (by simp) (A7 _ _ _) ⟨z3,z4,e4,rfl,rfl,hend⟩)
end Go.Av
end
section
namespace Go.Av
open Go.Proofs
theorem H8 (a b:Rat) (ha:B0 a) (hb:B0 b) (f:Nat) (q:Option Rat)
  (hf:∀bl,Ak Tryz.prog f [.fn 182 [.ptr bl 1 0 0,.rptr [.fn 183 []]],.fn 182 [.ptr bl 1 0 0,.rptr [.fn 184 []]],.rptr (Dz a),.rptr (Dz b)] (O2 bl 0) fun v m=>∃N D e,v=.tup [Ay N,Ay D]∧m=O2 bl e∧opR q N D e) :
  Ak Tryz.prog 147 [H6 a,H6 b,.fn f [.rptr (Dz a),.rptr (Dz b)]] Ac.emp fun v m=>v=D6 q∧m=Ac.emp:=by
 have hall:=Ve (Ar a) (Ar b) (Eb a) (Eb b);rw[D0 ha,D0 hb]at hall;simp only[RR.av,Ar]at hall;unfold O2 Dz at hf;unfold H6 Dz;refine Ad Tryz.func147 rfl rfl 35 rfl (Nat.le_of_ble_eq_true rfl) ?_;(repeat refine AW.seq_k fun K hK=>?_);refine AW.rgR [3,4] ?_;simp[Al];try (refine hK _ rfl ?_;clear hK K)
 refine Ae.intro fun b6 _=>?_;refine hK _ rfl ?_;clear hK K;(repeat refine AW.seq_k fun K hK=>?_);refine AW.rgR [14] ?_;simp;try (refine hK _ rfl ?_;clear hK K)
 refine Aa.val hall ?_;simp;refine hK _ rfl ?_;clear hK K;refine AW.no ?_ rfl;refine AW.skip ?_;try simp
 refine hK _ rfl ?_;clear hK K;(repeat refine AW.seq_k fun K hK=>?_);refine AW.rg ?_;simp;try (refine hK _ rfl ?_;clear hK K)
 refine Ae.intro fun b8 hb8=>?_;simp only[Am,Az,and_true]at hb8;try simp[hb8]
 refine hK _ rfl ?_;clear hK K;(repeat refine AW.seq_k fun K hK=>?_);refine AW.rg ?_;simp;try (refine hK _ rfl ?_;clear hK K)
 (repeat refine AW.seq_k fun K hK=>?_);refine AW.rg ?_;simp[hb8];try (refine hK _ rfl ?_;clear hK K)
 refine⟨_,_,⟨rfl,rfl⟩,?_⟩;refine Aa.val (Zb 183 b8) ?_;simp;refine⟨_,_,⟨rfl,rfl⟩,?_⟩;refine Aa.val (Zb 184 b8) ?_;simp;refine⟨_,_,⟨rfl,rfl⟩,?_⟩;refine Aa.grant (R:=fun v x=>∃N D e,v=.tup [Ay N,Ay D]∧x=⟨23,1,[.int .i64 e]⟩∧opR q N D e) b8 ⟨23,1,[.int .i64 0]⟩ (by simp[hb8]) (by simp[hb8]) ((hf b8).mono fun v m ⟨N,D,e,h1,h2,h3⟩=>⟨_,⟨N,D,e,h1,rfl,h3⟩,h2⟩) ?_;rintro _ _ ⟨N,D,e,rfl,rfl,hR⟩;simp[Ay];refine Ae.intro fun b10 hb10=>?_;simp only[Am,Az,and_true]at hb10;refine Ae.intro fun b11 hb11=>?_
 simp only[Am,Az,and_true]at hb11;try simp[hb8,hb10,hb11]
 refine hK _ rfl ?_;clear hK K;(repeat refine AW.seq_k fun K hK=>?_);refine AW.rg ?_;simp[hb8,hb10,hb11];try (refine hK _ rfl ?_;clear hK K)
 cases q with
 |none =>
  have he:e=2:=hR;subst he;refine AW.yes ?_ rfl;(repeat refine AW.seq_k fun K hK=>?_);refine AW.rdT [(8,b8),(6,b6)] [] [] [b8] [0,1,2,3] Dm (by simp[hb8,hb10,hb11]) (by simp[hb8,hb10,hb11]) (by simp[hb8,hb10,hb11]) (by simp[hb8,hb10,hb11]) (by simp[hb8,hb10,hb11]) ?_;simp[hb8,hb10,hb11];try (refine hK _ rfl ?_;clear hK K)
  exact AW.ret (C9 (b:=b6) (.bool false) (Ao []) (.bool false) (Ao []) rfl rfl (by simp<;>exact⟨rfl,rfl,rfl,rfl⟩) rfl (by simp) ⟨rfl,rfl⟩)
 |some q =>
  obtain⟨he,g1,g2,g3,g4⟩:=hR;subst he;have hr:=Te N D g1 g2 g3;rw[g4]at hr;unfold Ay H6 at hr;refine AW.no ?_ rfl;refine AW.skip ?_;try simp
  refine hK _ rfl ?_;clear hK K;(repeat refine AW.seq_k fun K hK=>?_);refine AW.rg ?_;simp[hb8,hb10,hb11];try (refine hK _ rfl ?_;clear hK K)
  refine Aa.val hr ?_;simp[hb8,hb10,hb11];refine hK _ rfl ?_;clear hK K;exact AW.ret (C9 (b:=b6) _ _ _ _ rfl rfl (by simp<;>exact⟨rfl,rfl,rfl,rfl⟩) rfl (A7 _ _ _) ⟨rfl,rfl⟩)
theorem Qjr (a b:Rat) (ha:B0 a) (hb:B0 b):Ak Tryz.prog 159 [H6 a,H6 b] Ac.emp fun v m=>v=D6 (Ej a b)∧m=Ac.emp:=by
 have hs:=H8 a b ha hb 193 (Ej a b) (Qja a b ha hb);generalize Ej a b=q at *;unfold H6 Dz at hs;unfold H6;refine Ad Tryz.func159 rfl rfl 12 rfl (Nat.le_of_ble_eq_true rfl) ?_;(repeat refine AW.seq_k fun K hK=>?_);refine AW.rgR [2,3] ?_;simp[Al];try (refine hK _ rfl ?_;clear hK K)
 refine Ae.intro fun b4 _=>?_;refine hK _ rfl ?_;clear hK K;(repeat refine AW.seq_k fun K hK=>?_);refine AW.rg ?_;simp;try (refine hK _ rfl ?_;clear hK K)
 refine Aa.val hs ?_;cases q
 ·simp[D6,B9];refine hK _ rfl ?_;clear hK K;exact AW.ret (C9 (b:=b4) _ _ _ _ rfl rfl (by simp<;>exact⟨rfl,rfl,rfl,rfl⟩) rfl (A7 _ _ _) ⟨rfl,rfl⟩)
 ·simp[D6,H6];refine hK _ rfl ?_;clear hK K;exact AW.ret (C9 (b:=b4) _ _ _ _ rfl rfl (by simp<;>exact⟨rfl,rfl,rfl,rfl⟩) rfl (A7 _ _ _) ⟨rfl,rfl⟩)
theorem N0 (a b:Rat) (ha:B0 a) (hb:B0 b):Ak Tryz.prog 103 [H6 a,H6 b] Ac.emp fun v m=>v=D6 (Da a b)∧m=Ac.emp:=by
 have hs:=H8 a b ha hb 148 (Da a b) (Qi9 a b ha hb);generalize Da a b=q at *;unfold H6 Dz at hs;unfold H6;refine Ad Tryz.func103 rfl rfl 12 rfl (Nat.le_of_ble_eq_true rfl) ?_;(repeat refine AW.seq_k fun K hK=>?_);refine AW.rgR [2,3] ?_;simp[Al];try (refine hK _ rfl ?_;clear hK K)
 refine Ae.intro fun b4 _=>?_;refine hK _ rfl ?_;clear hK K;(repeat refine AW.seq_k fun K hK=>?_);refine AW.rg ?_;simp;try (refine hK _ rfl ?_;clear hK K)
 refine Aa.val hs ?_;cases q
 ·simp[D6,B9];refine hK _ rfl ?_;clear hK K;exact AW.ret (C9 (b:=b4) _ _ _ _ rfl rfl (by simp<;>exact⟨rfl,rfl,rfl,rfl⟩) rfl (A7 _ _ _) ⟨rfl,rfl⟩)
 ·simp[D6,H6];refine hK _ rfl ?_;clear hK K;exact AW.ret (C9 (b:=b4) _ _ _ _ rfl rfl (by simp<;>exact⟨rfl,rfl,rfl,rfl⟩) rfl (A7 _ _ _) ⟨rfl,rfl⟩)
theorem Qjs (a b:Rat) (ha:B0 a) (hb:B0 b):Ak Tryz.prog 160 [H6 a,H6 b] Ac.emp fun v m=>v=D6 (Df a b)∧m=Ac.emp:=by
 have hs:=H8 a b ha hb 194 (Df a b) (Qjh a b ha hb);generalize Df a b=q at *;unfold H6 Dz at hs;unfold H6;refine Ad Tryz.func160 rfl rfl 12 rfl (Nat.le_of_ble_eq_true rfl) ?_;(repeat refine AW.seq_k fun K hK=>?_);refine AW.rgR [2,3] ?_;simp[Al];try (refine hK _ rfl ?_;clear hK K)
 refine Ae.intro fun b4 _=>?_;refine hK _ rfl ?_;clear hK K;(repeat refine AW.seq_k fun K hK=>?_);refine AW.rg ?_;simp;try (refine hK _ rfl ?_;clear hK K)
 refine Aa.val hs ?_;cases q
 ·simp[D6,B9];refine hK _ rfl ?_;clear hK K;exact AW.ret (C9 (b:=b4) _ _ _ _ rfl rfl (by simp<;>exact⟨rfl,rfl,rfl,rfl⟩) rfl (A7 _ _ _) ⟨rfl,rfl⟩)
 ·simp[D6,H6];refine hK _ rfl ?_;clear hK K;exact AW.ret (C9 (b:=b4) _ _ _ _ rfl rfl (by simp<;>exact⟨rfl,rfl,rfl,rfl⟩) rfl (A7 _ _ _) ⟨rfl,rfl⟩)
theorem Qi1 (a b:Rat) (ha:B0 a) (hb:B0 b) (h0:b≠0):Ak Tryz.prog 179 [H6 a,H6 b] Ac.emp fun v m=>v=D6 (Fu a b)∧m=Ac.emp:=by
 have hs:=H8 a b ha hb 199 (Fu a b) (Qjc a b ha hb h0);generalize Fu a b=q at *;have hall:=Ve (Ar a) (Ar b) (Eb a) (Eb b);rw[D0 ha,D0 hb]at hall;simp only[RR.av,Ar]at hall;have hz:=Kx (decide (b.num<0)) (Ap b.num.natAbs);have hb0:b.num≠0:=fun e=>h0 (Rat.num_eq_zero.1 e);have hl:¬Ap b.num.natAbs=[]:=by rw[Cw];omega
 unfold Er at hz;unfold H6 Dz at hs;unfold H6;refine Ad Tryz.func179 rfl rfl 22 rfl (Nat.le_of_ble_eq_true rfl) ?_;(repeat refine AW.seq_k fun K hK=>?_);refine AW.rgR [2,3] ?_;simp[Al];try (refine hK _ rfl ?_;clear hK K)
 refine Ae.intro fun b4 _=>?_;refine hK _ rfl ?_;clear hK K;(repeat refine AW.seq_k fun K hK=>?_);refine AW.rgR [8] ?_;simp;try (refine hK _ rfl ?_;clear hK K)
 refine Aa.val hall ?_;simp;refine Aa.val hz ?_;simp[hl];refine hK _ rfl ?_;clear hK K;refine AW.no ?_ rfl;refine AW.skip ?_;try simp
 refine hK _ rfl ?_;clear hK K;(repeat refine AW.seq_k fun K hK=>?_);refine AW.rg ?_;simp;try (refine hK _ rfl ?_;clear hK K)
 refine Aa.val hs ?_;cases q
 ·simp[D6,B9];refine hK _ rfl ?_;clear hK K;exact AW.ret (C9 (b:=b4) _ _ _ _ rfl rfl (by simp<;>exact⟨rfl,rfl,rfl,rfl⟩) rfl (A7 _ _ _) ⟨rfl,rfl⟩)
 ·simp[D6,H6];refine hK _ rfl ?_;clear hK K;exact AW.ret (C9 (b:=b4) _ _ _ _ rfl rfl (by simp<;>exact⟨rfl,rfl,rfl,rfl⟩) rfl (A7 _ _ _) ⟨rfl,rfl⟩)
end Go.Av
end
section
namespace Go.Av
open Go.Proofs
instance:Inhabited RR:=⟨⟨false,[],false,[]⟩⟩
def rr (r:List RR) (i:Nat):RR:=r.getD i default
def Aj {α:Type} (m:List (List α)) (i:Nat):List α:=m.getD i []
def Bo (r:List RR):List AV:=r.map RR.av
def An (r:List RR):AV:=.sl 4 (Bo r)
def Au (m:List (List RR)):AV:=.sl 1 (m.map An)
theorem Ja {r:List RR} {i:Nat} (h:i<r.length):rr r i=r[i]:=by unfold rr;rw[List.getD_eq_getElem?_getD,List.getElem?_eq_getElem h];rfl
theorem Ep {α:Type} {m:List (List α)} {i:Nat} (h:i<m.length):Aj m i=m[i]:=by unfold Aj;rw[List.getD_eq_getElem?_getD,List.getElem?_eq_getElem h];rfl
@[simp] theorem Ph (r:List RR):(Bo r).length=r.length:=by simp[Bo]
@[simp] theorem Q2q:Bo []=[]:=rfl
@[simp] theorem rrs_get? {r:List RR} {i:Nat} (h:i<r.length):(Bo r)[i]?=some (rr r i).av:=by simp[Bo,Ja h,h]
@[simp] theorem Il (r:List RR) (i:Nat) (x:RR):(Bo r).set i x.av=Bo (r.set i x):=by simp[Bo,List.map_set]
@[simp] theorem Qxv (r:RR):r.av.cells=[.bool r.n1,Ao r.l1,.bool r.n2,Ao r.l2]:=(rfl)
@[simp] theorem Q12 (r:RR):G7 true 4 [.bool r.n1,Ao r.l1,.bool r.n2,Ao r.l2] 0=some r.av:=(rfl)
@[simp] theorem Qzy (r:RR):r.av.isAny=false:=(rfl)
@[simp] theorem Q2k (r:RR):(r.av=.any)=False:=by simp[RR.av]
theorem J5 (r:List RR):∀v∈Bo r,v.cells.all AV.one=true:=by
 intro v hv;obtain⟨x,_,rfl⟩:=List.mem_map.1 hv;rfl
@[simp] theorem Q2m (r:List RR):(Bo r).all (fun v=>v.cells.length==4&&v.cells.all AV.one)=true:=by
 rw[List.all_eq_true];intro v hv;obtain⟨x,_,rfl⟩:=List.mem_map.1 hv;rfl
@[simp] theorem Qyw (r:List RR):(An r).cells=[An r]:=(rfl)
@[simp] theorem Q2v (r:List RR):(An r).one=true:=(rfl)
@[simp] theorem Qx7 (r:List RR):(An r).isAny=false:=(rfl)
@[simp] theorem Qyu (m:List (List RR)):(Au m).isAny=false:=(rfl)
@[simp] theorem Q26 (m:List (List RR)):(Au m).one=true:=(rfl)
@[simp] theorem Qyn (m:List (List RR)):(Au m).cells=[Au m]:=(rfl)
section
variable (size bytes:Nat) (e:TypeId) (zero:AV) (fs:List (Nat × Nat × Option Bool)) (k:IntKind) (n:Int)
@[simp] theorem Qy1 (r:List RR):L4 ⟨size,bytes,.slice e,zero,fs⟩ (An r)=some (.int .i64 r.length):=by simp[An]
@[simp] theorem Qzi (m:List (List RR)):L4 ⟨size,bytes,.slice e,zero,fs⟩ (Au m)=some (.int .i64 m.length):=by simp[Au]
@[simp] theorem Qyr (mm:Ac) (r:List RR):Fq mm 4 (An r)=some (Bo r):=by simp[An,Fq]
@[simp] theorem Qok (P:Program) (r:List RR):Ca P ⟨size,bytes,.slice e,zero,fs⟩ (An r) (.int k n)=(Ai P e).bind fun te=>if 4=te.size∧0≤n∧n<r.length then some (.rptr [.bool (rr r n.toNat).n1,Ao (rr r n.toNat).l1,.bool (rr r n.toNat).n2,Ao (rr r n.toNat).l2]) else none:=by
 unfold An;rw[Ie]
 congr 1
 funext te
 rw[Ph];by_cases h:4=te.size∧0≤n∧n<r.length
 ·rw[if_pos h,if_pos h];have h1:n.toNat<r.length:=by omega
  rw[List.getD_eq_getElem?_getD,rrs_get? h1];rfl
 ·rw[if_neg h,if_neg h]
@[simp] theorem Qon (P:Program) (m:List (List RR)):Ca P ⟨size,bytes,.slice e,zero,fs⟩ (Au m) (.int k n)=(Ai P e).bind fun te=>if 1=te.size∧0≤n∧n<m.length then some (.rptr [An (Aj m n.toNat)]) else none:=by
 unfold Au;rw[Ie]
 congr 1
 funext te
 rw[List.length_map];by_cases h:1=te.size∧0≤n∧n<m.length
 ·rw[if_pos h,if_pos h];have h1:n.toNat<m.length:=by omega
  rw[List.getD_eq_getElem?_getD,List.getElem?_map,List.getElem?_eq_getElem h1,Ep h1];rfl
 ·rw[if_neg h,if_neg h]
end
def Zf (m:List (List RR)):Prop:=∀r∈m,∀x∈r,x.Lb
theorem Mg {r:List RR} (h:∀x∈r,x.Lb) (i:Nat):(rr r i).Lb:=by
 unfold rr;rw[List.getD_eq_getElem?_getD];cases hr:r[i]? with
 |none=>exact⟨fun x hx=>(by cases hx),fun x hx=>(by cases hx)⟩
 |some x=>exact h x (List.mem_of_getElem? hr)
theorem Zf.row {m:List (List RR)} (h:Zf m) (i:Nat):∀x∈Aj m i,x.Lb:=by
 unfold Aj;rw[List.getD_eq_getElem?_getD];cases hr:m[i]? with
 |none=>intro x hx;cases hx
 |some r=>exact h r (List.mem_of_getElem? hr)
def Mv (m:List (List RR)):Prop:=∃k,k<m.length∧64<(Aj m k).length
def Rs (m:List (List RR)):Prop:=∀k,k<m.length→(Aj m k).length=(Aj m 0).length∧∀j,j<(Aj m k).length→(rr (Aj m k) j).ok=true
open Classical in
noncomputable def Sx (m:List (List RR)):Int:=if 64<m.length∨Mv m then 2 else if Rs m then 0 else 1
theorem Zq {m:List (List RR)} (h:64<m.length∨Mv m):Sx m=2:=if_pos h
theorem Qna {m:List (List RR)} (h:¬(64<m.length∨Mv m)) (h2:Rs m):Sx m=0:=by unfold Sx;rw[if_neg h,if_pos h2]
theorem Qan {m:List (List RR)} (h:¬(64<m.length∨Mv m)) (h2:¬Rs m):Sx m=1:=by unfold Sx;rw[if_neg h,if_neg h2]
theorem Lr (m:List (List RR)):Ak Tryz.prog 108 [Au m] Ac.emp fun v mm=>v=.int .i64 ((Aj m 0).length:Nat)∧mm=Ac.emp:=by
 refine Ad Tryz.func108 rfl rfl 10 rfl (Nat.le_of_ble_eq_true rfl) ?_;(repeat refine AW.seq_k fun K hK=>?_);refine AW.rg ?_;simp[Al];try (refine hK _ rfl ?_;clear hK K)
 (repeat refine AW.seq_k fun K hK=>?_);refine AW.rg ?_;simp;try (refine hK _ rfl ?_;clear hK K)
 (repeat refine AW.seq ?_);refine AW.cs (fun h=>?_) (fun h=>?_) rfl<;>(try simp at h)
 ·subst h;(repeat refine AW.seq_k fun K hK=>?_);refine AW.rg ?_;simp;try (refine hK _ rfl ?_;clear hK K)
  exact AW.ret (Ah rfl _ (.same _) ⟨by simp[Aj],rfl⟩)
 ·refine AW.skip ?_;try simp
  refine hK _ rfl ?_;clear hK K;have h':0<m.length:=by
   rcases m with _|_
   ·simp at h
   ·simp
  (repeat refine AW.seq_k fun K hK=>?_);refine AW.rg ?_;simp[h'];try (refine hK _ rfl ?_;clear hK K)
  exact AW.ret (Ah rfl _ (.same _) ⟨by rfl,rfl⟩)
theorem O7 (m:List (List RR)) (hm:Zf m):Ak Tryz.prog 99 [Au m] Ac.emp fun v mm=>v=.int .i64 (Sx m)∧mm=Ac.emp:=by
 refine Ad Tryz.func99 rfl rfl 46 rfl (Nat.le_of_ble_eq_true rfl) ?_;(repeat refine AW.seq_k fun K hK=>?_);refine AW.rg ?_;simp[Al];try (refine hK _ rfl ?_;clear hK K)
 (repeat refine AW.seq_k fun K hK=>?_);refine AW.rg ?_;simp;try (refine hK _ rfl ?_;clear hK K)
 (repeat refine AW.seq ?_);refine AW.cs (fun h64=>?_) (fun h64=>?_) rfl<;>(try simp at h64)
 ·(repeat refine AW.seq_k fun K hK=>?_);refine AW.rg ?_;simp;try (refine hK _ rfl ?_;clear hK K)
  exact AW.ret (Ah rfl _ (.same _) ⟨by rw[Zq (.inl h64)];rfl,rfl⟩)
 ·refine AW.skip ?_;try simp
  refine hK _ rfl ?_;clear hK K;refine AW.seq_ex (ι:=Unit) (fun _=>[(0,Au m)]) (fun _=>Ac.emp) (fun _=>¬Mv m) ?_ ?_
  ·(repeat refine AW.seq_k fun K hK=>?_);refine AW.rg ?_;simp;try (refine hK _ rfl ?_;clear hK K)
   refine AW.block (AW.loopS (ι:=Nat) (fun i=>[(0,Au m),(12,Au m),(13,.int .i64 (m.length:Nat)),(14,.int .i64 (i:Nat))]) (fun _=>Ac.emp)
    (fun i=>i≤m.length∧∀k,k<i→¬64<(Aj m k).length) (fun i=>m.length-i) 0 ⟨by simp,by simp⟩ rfl (by simp) ?_)
   rintro i ⟨h1,h2⟩;(repeat refine AW.seq_k fun K hK=>?_);refine AW.rg ?_;simp;try (refine hK _ rfl ?_;clear hK K)
   refine AW.seq_k fun K hK=>?_;(repeat refine AW.seq ?_);refine AW.cs (fun hi=>?_) (fun hi=>?_) rfl<;>(try simp at hi)
   ·refine AW.skip ?_;try simp
    refine hK _ rfl ?_;clear hK K;have w1:=Aq (i+1) (by omega);refine AW.seq_ex (ι:=Unit) (fun _=>[(0,Au m),(12,Au m),(13,.int .i64 (m.length:Nat)),(14,.int .i64 (i:Nat))]) (fun _=>Ac.emp) (fun _=>¬64<(Aj m i).length) ?_ ?_
    ·(repeat refine AW.seq ?_);refine AW.block ?_;(repeat refine AW.seq_k fun K hK=>?_);refine AW.rg ?_;simp[hi];try (refine hK _ rfl ?_;clear hK K)
     (repeat refine AW.seq_k fun K hK=>?_);refine AW.rg ?_;simp;try (refine hK _ rfl ?_;clear hK K)
     (repeat refine AW.seq ?_);refine AW.cs (fun h3=>?_) (fun h3=>?_) rfl<;>(try simp at h3)
     ·(repeat refine AW.seq_k fun K hK=>?_);refine AW.rg ?_;simp;try (refine hK _ rfl ?_;clear hK K)
      exact AW.ret (Ah rfl _ (.same _) ⟨by rw[Zq (.inr ⟨i,hi,h3⟩)];rfl,rfl⟩)
     ·refine AW.skip ?_;try simp
      omega
    ·rintro _ h3;(repeat refine AW.seq_k fun K hK=>?_);refine AW.rg ?_;simp[-Int.natCast_add,w1];try (refine hK _ rfl ?_;clear hK K)
     refine⟨⟨by omega,fun k hk=>?_⟩,by omega⟩;rcases Nat.lt_succ_iff_lt_or_eq.1 hk with h | rfl
     ·have:=h2 k h;omega
     ·omega
   ·refine AW.exit ?_;try simp
    rintro⟨k,hk,h⟩;exact h2 k (by omega) h
  rintro _ hbig;have hnb:¬(64<m.length∨Mv m):=fun h=>h.elim (by omega) hbig;refine AW.seq_ex (ι:=Unit) (fun _=>[]) (fun _=>Ac.emp) (fun _=>Rs m) ?_ ?_
  ·(repeat refine AW.seq_k fun K hK=>?_);refine AW.rg ?_;simp;try (refine hK _ rfl ?_;clear hK K)
   refine AW.block (AW.loopS (ι:=Nat) (fun i=>[(0,Au m),(22,Au m),(23,.int .i64 (m.length:Nat)),(24,.int .i64 (i:Nat))]) (fun _=>Ac.emp)
    (fun i=>i≤m.length∧∀k,k<i→(Aj m k).length=(Aj m 0).length∧∀j,j<(Aj m k).length→(rr (Aj m k) j).ok=true) (fun i=>m.length-i) 0 ⟨by simp,by simp⟩ rfl (by simp) ?_)
   rintro i ⟨h1,h2⟩;(repeat refine AW.seq_k fun K hK=>?_);refine AW.rg ?_;simp;try (refine hK _ rfl ?_;clear hK K)
   refine AW.seq_k fun K hK=>?_;(repeat refine AW.seq ?_);refine AW.cs (fun hi=>?_) (fun hi=>?_) rfl<;>(try simp at hi)
   ·refine AW.skip ?_;try simp
    refine hK _ rfl ?_;clear hK K;have w1:=Aq (i+1) (by omega);have h0:0<m.length:=by omega
    have hrow:(Aj m i).length≤64:=by
     rcases Nat.lt_or_ge 64 (Aj m i).length with h|h
     ·exact absurd ⟨i,hi,h⟩ hbig
     ·exact h
    refine AW.seq_ex (ι:=Unit) (fun _=>[(0,Au m),(22,Au m),(23,.int .i64 (m.length:Nat)),(24,.int .i64 (i:Nat))]) (fun _=>Ac.emp) (fun _=>(Aj m i).length=(Aj m 0).length∧∀j,j<(Aj m i).length→(rr (Aj m i) j).ok=true) ?_ ?_
    ·(repeat refine AW.seq ?_);refine AW.block ?_;(repeat refine AW.seq_k fun K hK=>?_);refine AW.rg ?_;simp[hi];try (refine hK _ rfl ?_;clear hK K)
     refine AW.seq_ex (ι:=Unit) (fun _=>[(0,Au m),(22,Au m),(23,.int .i64 (m.length:Nat)),(24,.int .i64 (i:Nat)),(6,An (Aj m i))]) (fun _=>Ac.emp) (fun _=>(Aj m i).length=(Aj m 0).length) ?_ ?_
     ·(repeat refine AW.seq_k fun K hK=>?_);refine AW.rg ?_;simp[h0];try (refine hK _ rfl ?_;clear hK K)
      (repeat refine AW.seq ?_);refine AW.cs (fun h4=>?_) (fun h4=>?_) rfl<;>(try simp at h4)
      ·(repeat refine AW.seq_k fun K hK=>?_);refine AW.rg ?_;simp;try (refine hK _ rfl ?_;clear hK K)
       exact AW.ret (Ah rfl _ (.same _) ⟨by rw[Qan hnb (fun h=>h4 (h i hi).1)];rfl,rfl⟩)
      ·refine AW.skip ?_;try simp
       exact h4
     rintro _ h4;(repeat refine AW.seq_k fun K hK=>?_);refine AW.rg ?_;simp;try (refine hK _ rfl ?_;clear hK K)
     refine AW.block (AW.loopS (ι:=Nat) (fun j=>[(0,Au m),(22,Au m),(23,.int .i64 (m.length:Nat)),(24,.int .i64 (i:Nat)),(6,An (Aj m i)),(35,An (Aj m i)),(36,.int .i64 ((Aj m i).length:Nat)),(37,.int .i64 (j:Nat))]) (fun _=>Ac.emp)
      (fun j=>j≤(Aj m i).length∧∀k,k<j→(rr (Aj m i) k).ok=true) (fun j=>(Aj m i).length-j) 0 ⟨by simp,by simp⟩ rfl (by simp) ?_)
     rintro j ⟨g1,g2⟩;(repeat refine AW.seq_k fun K hK=>?_);refine AW.rg ?_;simp;try (refine hK _ rfl ?_;clear hK K)
     refine AW.seq_k fun K hK=>?_;(repeat refine AW.seq ?_);refine AW.cs (fun hj=>?_) (fun hj=>?_) rfl<;>(try simp at hj)
     ·refine AW.skip ?_;try simp
      refine hK _ rfl ?_;clear hK K;have w2:=Aq (j+1) (by omega);have hv:=Gf (rr (Aj m i) j) (Mg (hm.row i) j);refine AW.seq_ex (ι:=Unit) (fun _=>[(0,Au m),(22,Au m),(23,.int .i64 (m.length:Nat)),(24,.int .i64 (i:Nat)),(6,An (Aj m i)),(35,An (Aj m i)),(36,.int .i64 ((Aj m i).length:Nat)),(37,.int .i64 (j:Nat))]) (fun _=>Ac.emp) (fun _=>(rr (Aj m i) j).ok=true) ?_ ?_
      ·(repeat refine AW.seq ?_);refine AW.block ?_;(repeat refine AW.seq_k fun K hK=>?_);refine AW.rg ?_;simp[hj];try (refine hK _ rfl ?_;clear hK K)
       refine Ae.intro fun b8 _=>?_;try simp
       refine hK _ rfl ?_;clear hK K;(repeat refine AW.seq_k fun K hK=>?_);refine AW.rg ?_;simp;try (refine hK _ rfl ?_;clear hK K)
       refine Aa.val hv ?_;simp;refine hK _ rfl ?_;clear hK K;refine AW.toEmp [(0,Au m),(22,Au m),(23,.int .i64 (m.length:Nat)),(24,.int .i64 (i:Nat)),(6,An (Aj m i)),(35,An (Aj m i)),(36,.int .i64 ((Aj m i).length:Nat)),(37,.int .i64 (j:Nat)),(43,.bool (!(rr (Aj m i) j).ok))] (by simp) ?_;by_cases h5:(rr (Aj m i) j).ok=true
       ·refine AW.no ?_ (by simp[h5]);exact AW.skip ⟨(),h5,rfl,rfl,by simp⟩
       ·refine AW.yes ?_ (by simp[h5]);(repeat refine AW.seq_k fun K hK=>?_);refine AW.rg ?_;simp;try (refine hK _ rfl ?_;clear hK K)
        exact AW.ret (Ah rfl _ (.same _) ⟨by rw[Qan hnb (fun h=>h5 ((h i hi).2 j hj))];rfl,rfl⟩)
      ·rintro _ h5;(repeat refine AW.seq_k fun K hK=>?_);refine AW.rg ?_;simp[-Int.natCast_add,w2];try (refine hK _ rfl ?_;clear hK K)
       refine⟨⟨by omega,fun k hk=>?_⟩,by omega⟩;rcases Nat.lt_succ_iff_lt_or_eq.1 hk with h | rfl
       ·exact g2 k h
       ·exact h5
     ·refine AW.exit ?_;try simp
      exact⟨h4,fun k hk=>g2 k (by omega)⟩
    ·rintro _ h3;(repeat refine AW.seq_k fun K hK=>?_);refine AW.rg ?_;simp[-Int.natCast_add,w1];try (refine hK _ rfl ?_;clear hK K)
     refine⟨⟨by omega,fun k hk=>?_⟩,by omega⟩;rcases Nat.lt_succ_iff_lt_or_eq.1 hk with h | rfl
     ·exact h2 k h
     ·exact h3
   ·refine AW.exit ?_;try simp
    exact fun k hk=>h2 k (by omega)
  rintro _ hok;(repeat refine AW.seq_k fun K hK=>?_);refine AW.rg ?_;simp;try (refine hK _ rfl ?_;clear hK K)
  exact AW.ret (Ah rfl _ (.same _) ⟨by rw[Qna hnb hok];rfl,rfl⟩)
end Go.Av
end
section
namespace Go.Av
open Go.Proofs
@[simp] theorem Qqj (b z i j:Nat):Ld (.ptr b z i j)=some (.ptr b z i j):=(rfl)
@[simp] theorem Qom (l:List AV):Ld (.rptr l)=some (.rptr l):=(rfl)
def RR.q (r:RR):Rat:=mkRat (if r.n1=true then -(val r.l1:Int) else val r.l1) (val r.l2)
theorem F3 (q:Rat):(Ar q).q=q:=by
 unfold RR.q Ar;simp only[A5,decide_eq_true_eq];have:(if q.num<0 then -(q.num.natAbs:Int) else (q.num.natAbs:Int))=q.num:=by split<;>omega
 rw[this,Rat.mkRat_self]
theorem Et {r:RR} (hl:r.Lb) (h:r.ok=true):B0 r.q∧r=Ar r.q:=by
 obtain⟨q,h1,h2⟩:=Qwb hl h;subst h2;rw[F3];exact⟨h1,rfl⟩
theorem Ob {r:RR} (hl:r.Lb) (h:r.ok=true):r.av=H6 r.q:=by
 have:=(Et hl h).2
 calc r.av=(Ar r.q).av:=by rw[←this]
  _=H6 r.q:=rfl
def T0:RR:=⟨false,[],false,[]⟩
theorem Ud:T0.av=B9:=rfl
theorem Qpa:T0.Lb:=⟨fun x hx=>(by cases hx),fun x hx=>(by cases hx)⟩
def Cp (e:Int) (a:RR) (q:Option Rat):Int × RR:=if e=0 then (match q with | some q=>(0,Ar q) | none=>(2,T0)) else (e,a)
theorem Pz {e:Int} {a:RR} {q:Option Rat} (h:a.Lb):(Cp e a q).2.Lb:=by
 unfold Cp;split
 ·cases q with
  |none=>exact Qpa
  |some q=>exact Eb q
 ·exact h
def Ll (c:Nat) (x:AV):Ac:=Ac.emp.set c ⟨118,1,[x]⟩
def Fj (x:AV) (e:Int):Prop:=x.cells=[.int .i64 e]
theorem K3 (c:Nat) (x:AV) (e f:Int) (hx:Fj x e) (r:RR):Ak Tryz.prog 158 [.ptr c 1 0 0,r.av,.int .i64 f] (Ll c x) fun v m=>v=r.av∧∃x',Fj x' (if e=0 then f else e)∧m=Ll c x':=by
 unfold Fj at hx;unfold RR.av Ll;refine Ad Tryz.func158 rfl rfl 17 rfl (Nat.le_of_ble_eq_true rfl) ?_;(repeat refine AW.seq_k fun K hK=>?_);refine AW.rgR [4] ?_;simp[Al];try (refine hK _ rfl ?_;clear hK K)
 refine Ae.intro fun b6 hb6=>?_;simp only[Am,Az,and_true]at hb6;refine hK _ rfl ?_;clear hK K;refine AW.seq_ex (ι:=AV) (fun x'=>[(0,.ptr c 1 0 0),(4,.rptr [.bool r.n1,Ao r.l1,.bool r.n2,Ao r.l2]),(6,.ptr b6 4 0 0)]) (fun x'=>(Ac.emp.set c ⟨118,1,[x']⟩).set b6 ⟨44,4,[.agg [.bool false,.nil,.bool false,.nil]]⟩) (fun x'=>Fj x' (if e=0 then f else e)) ?_ ?_
 ·(repeat refine AW.seq_k fun K hK=>?_);refine AW.rg ?_;simp[hb6,hx];try (refine hK _ rfl ?_;clear hK K)
  (repeat refine AW.seq ?_);refine AW.cs (fun he=>?_) (fun he=>?_) rfl<;>(try simp at he)
  ·(repeat refine AW.seq_k fun K hK=>?_);refine AW.rg ?_;simp[hb6,hx];try (refine hK _ rfl ?_;clear hK K)
   refine⟨.int .i64 f,by simp[Fj,he],?_⟩;rw[Qbk _ hb6.2]
  ·refine AW.skip ⟨x,?_,rfl,rfl,by simp⟩;simp[Fj,he];exact hx
 rintro x' hx';(repeat refine AW.seq_k fun K hK=>?_);refine AW.rg ?_;simp[hb6];try (refine hK _ rfl ?_;clear hK K)
 refine AW.ret (Cu (vs:=[.agg [.bool r.n1,Ao r.l1,.bool r.n2,Ao r.l2]]) [.agg [.bool r.n1,Ao r.l1,.bool r.n2,Ao r.l2]] c ⟨118,1,[x']⟩ (by simp[hb6]) (by simp[hb6]) ?_ (A7 _ _ _) ⟨rfl,x',hx',rfl⟩);intro v hv;simp at hv;subst hv;unfold Fj at hx';rw[hx'];rfl
theorem Qib (c:Nat) (x:AV) (e:Int) (hx:Fj x e) (a b:RR) (ha:a.Lb) (hb:b.Lb) (h:e=0→a.ok=true∧b.ok=true):Ak Tryz.prog 110 [.ptr c 1 0 0,a.av,b.av] (Ll c x) fun v m=>v=(Cp e a (Ej a.q b.q)).2.av∧∃x',Fj x' (Cp e a (Ej a.q b.q)).1∧m=Ll c x':=by
 have hone:∀x' e',Fj x' e'→∀v∈(⟨118,1,[x']⟩:Fb).l,v.cells.all AV.one=true:=by
  intro x' e' hx' v hv;simp at hv;subst hv;unfold Fj at hx';rw[hx'];rfl
 have hone:=hone;have hx0:=hx;unfold Fj at hx;by_cases he:e=0
 ·obtain⟨o1,o2⟩:=h he;obtain⟨g1,e1⟩:=Et ha o1;obtain⟨g2,e2⟩:=Et hb o2;have hr:=Qjr a.q b.q g1 g2;rw[←Ob ha o1,←Ob hb o2]at hr;have hk:=K3 c x e;subst he;generalize Ej a.q b.q=q at *;unfold Ll at hk ⊢;unfold RR.av at hr ⊢;refine Ad Tryz.func110 rfl rfl 20 rfl (Nat.le_of_ble_eq_true rfl) ?_;(repeat refine AW.seq_k fun K hK=>?_);refine AW.rgR [4,5] ?_;simp[Al];try (refine hK _ rfl ?_;clear hK K)
  refine Ae.intro fun b6 hb6=>?_;simp only[Am,Az,and_true]at hb6;refine hK _ rfl ?_;clear hK K;(repeat refine AW.seq_k fun K hK=>?_);refine AW.rg ?_;simp[hb6,hx];try (refine hK _ rfl ?_;clear hK K)
  refine AW.no ?_ rfl;refine AW.skip ?_;try simp
  refine hK _ rfl ?_;clear hK K;cases q with
  |none =>
   (repeat refine AW.seq_k fun K hK=>?_);refine AW.rg ?_;simp[hb6];try (refine hK _ rfl ?_;clear hK K)
   refine Aa.val hr ?_;simp[D6,B9];have hk2:=hk 2 hx0 T0;refine Aa.grant (R:=fun v y=>v=T0.av∧∃x',Fj x' 2∧y=⟨118,1,[x']⟩) c ⟨118,1,[x]⟩ (by simp[hb6]) (by simp) (hk2.mono fun v m ⟨h1,x',h2,h3⟩=>⟨_,⟨h1,x',h2,rfl⟩,h3⟩) ?_;rintro _ _ ⟨rfl,x',hx',rfl⟩;simp[hb6,Ud,B9];refine hK _ rfl ?_;clear hK K;refine AW.ret (Cu (vs:=[B9]) [B9] c ⟨118,1,[x']⟩ (by simp[hb6,B9]) (by simp[hb6]) (hone x' 2 hx') (A7 _ _ _) ⟨rfl,x',hx',rfl⟩)
  |some q =>
   (repeat refine AW.seq_k fun K hK=>?_);refine AW.rg ?_;simp[hb6];try (refine hK _ rfl ?_;clear hK K)
   refine Aa.val hr ?_;simp[D6];have hk2:=hk 0 hx0 (Ar q);refine Aa.grant (R:=fun v y=>v=(Ar q).av∧∃x',Fj x' 0∧y=⟨118,1,[x']⟩) c ⟨118,1,[x]⟩ (by simp[hb6]) (by simp) (hk2.mono fun v m ⟨h1,x',h2,h3⟩=>⟨_,⟨h1,x',h2,rfl⟩,h3⟩) ?_;rintro _ _ ⟨rfl,x',hx',rfl⟩;simp[hb6];refine hK _ rfl ?_;clear hK K;refine AW.ret (Cu (vs:=[(Ar q).av]) [(Ar q).av] c ⟨118,1,[x']⟩ (by simp[hb6,RR.av]) (by simp[hb6]) (hone x' 0 hx') (A7 _ _ _) ⟨rfl,x',hx',rfl⟩)
 ·have e3:Cp e a (Ej a.q b.q)=(e,a):=if_neg he;rw[e3];unfold Ll;unfold RR.av;refine Ad Tryz.func110 rfl rfl 20 rfl (Nat.le_of_ble_eq_true rfl) ?_;(repeat refine AW.seq_k fun K hK=>?_);refine AW.rgR [4,5] ?_;simp[Al];try (refine hK _ rfl ?_;clear hK K)
  refine Ae.intro fun b6 hb6=>?_;simp only[Am,Az,and_true]at hb6;refine hK _ rfl ?_;clear hK K;(repeat refine AW.seq_k fun K hK=>?_);refine AW.rg ?_;simp[hb6,hx];try (refine hK _ rfl ?_;clear hK K)
  refine AW.yes ?_ (by simp[he]);(repeat refine AW.seq_k fun K hK=>?_);refine AW.rg ?_;simp[hb6];try (refine hK _ rfl ?_;clear hK K)
  refine AW.ret (Cu (vs:=[.agg [.bool a.n1,Ao a.l1,.bool a.n2,Ao a.l2]]) [.agg [.bool a.n1,Ao a.l1,.bool a.n2,Ao a.l2]] c ⟨118,1,[x]⟩ (by simp[hb6]) (by simp[hb6]) (hone x e hx0) (A7 _ _ _) ⟨rfl,x,hx0,rfl⟩)
theorem Qj9 (c:Nat) (x:AV) (e:Int) (hx:Fj x e) (a b:RR) (ha:a.Lb) (hb:b.Lb) (h:e=0→a.ok=true∧b.ok=true):Ak Tryz.prog 146 [.ptr c 1 0 0,a.av,b.av] (Ll c x) fun v m=>v=(Cp e a (Da a.q b.q)).2.av∧∃x',Fj x' (Cp e a (Da a.q b.q)).1∧m=Ll c x':=by
 have hone:∀x' e',Fj x' e'→∀v∈(⟨118,1,[x']⟩:Fb).l,v.cells.all AV.one=true:=by
  intro x' e' hx' v hv;simp at hv;subst hv;unfold Fj at hx';rw[hx'];rfl
 have hone:=hone;have hx0:=hx;unfold Fj at hx;by_cases he:e=0
 ·obtain⟨o1,o2⟩:=h he;obtain⟨g1,e1⟩:=Et ha o1;obtain⟨g2,e2⟩:=Et hb o2;have hr:=N0 a.q b.q g1 g2;rw[←Ob ha o1,←Ob hb o2]at hr;have hk:=K3 c x e;subst he;generalize Da a.q b.q=q at *;unfold Ll at hk ⊢;unfold RR.av at hr ⊢;refine Ad Tryz.func146 rfl rfl 20 rfl (Nat.le_of_ble_eq_true rfl) ?_;(repeat refine AW.seq_k fun K hK=>?_);refine AW.rgR [4,5] ?_;simp[Al];try (refine hK _ rfl ?_;clear hK K)
  refine Ae.intro fun b6 hb6=>?_;simp only[Am,Az,and_true]at hb6;refine hK _ rfl ?_;clear hK K;(repeat refine AW.seq_k fun K hK=>?_);refine AW.rg ?_;simp[hb6,hx];try (refine hK _ rfl ?_;clear hK K)
  refine AW.no ?_ rfl;refine AW.skip ?_;try simp
  refine hK _ rfl ?_;clear hK K;cases q with
  |none =>
   (repeat refine AW.seq_k fun K hK=>?_);refine AW.rg ?_;simp[hb6];try (refine hK _ rfl ?_;clear hK K)
   refine Aa.val hr ?_;simp[D6,B9];have hk2:=hk 2 hx0 T0;refine Aa.grant (R:=fun v y=>v=T0.av∧∃x',Fj x' 2∧y=⟨118,1,[x']⟩) c ⟨118,1,[x]⟩ (by simp[hb6]) (by simp) (hk2.mono fun v m ⟨h1,x',h2,h3⟩=>⟨_,⟨h1,x',h2,rfl⟩,h3⟩) ?_;rintro _ _ ⟨rfl,x',hx',rfl⟩;simp[hb6,Ud,B9];refine hK _ rfl ?_;clear hK K;refine AW.ret (Cu (vs:=[B9]) [B9] c ⟨118,1,[x']⟩ (by simp[hb6,B9]) (by simp[hb6]) (hone x' 2 hx') (A7 _ _ _) ⟨rfl,x',hx',rfl⟩)
  |some q =>
   (repeat refine AW.seq_k fun K hK=>?_);refine AW.rg ?_;simp[hb6];try (refine hK _ rfl ?_;clear hK K)
   refine Aa.val hr ?_;simp[D6];have hk2:=hk 0 hx0 (Ar q);refine Aa.grant (R:=fun v y=>v=(Ar q).av∧∃x',Fj x' 0∧y=⟨118,1,[x']⟩) c ⟨118,1,[x]⟩ (by simp[hb6]) (by simp) (hk2.mono fun v m ⟨h1,x',h2,h3⟩=>⟨_,⟨h1,x',h2,rfl⟩,h3⟩) ?_;rintro _ _ ⟨rfl,x',hx',rfl⟩;simp[hb6];refine hK _ rfl ?_;clear hK K;refine AW.ret (Cu (vs:=[(Ar q).av]) [(Ar q).av] c ⟨118,1,[x']⟩ (by simp[hb6,RR.av]) (by simp[hb6]) (hone x' 0 hx') (A7 _ _ _) ⟨rfl,x',hx',rfl⟩)
 ·have e3:Cp e a (Da a.q b.q)=(e,a):=if_neg he;rw[e3];unfold Ll;unfold RR.av;refine Ad Tryz.func146 rfl rfl 20 rfl (Nat.le_of_ble_eq_true rfl) ?_;(repeat refine AW.seq_k fun K hK=>?_);refine AW.rgR [4,5] ?_;simp[Al];try (refine hK _ rfl ?_;clear hK K)
  refine Ae.intro fun b6 hb6=>?_;simp only[Am,Az,and_true]at hb6;refine hK _ rfl ?_;clear hK K;(repeat refine AW.seq_k fun K hK=>?_);refine AW.rg ?_;simp[hb6,hx];try (refine hK _ rfl ?_;clear hK K)
  refine AW.yes ?_ (by simp[he]);(repeat refine AW.seq_k fun K hK=>?_);refine AW.rg ?_;simp[hb6];try (refine hK _ rfl ?_;clear hK K)
  refine AW.ret (Cu (vs:=[.agg [.bool a.n1,Ao a.l1,.bool a.n2,Ao a.l2]]) [.agg [.bool a.n1,Ao a.l1,.bool a.n2,Ao a.l2]] c ⟨118,1,[x]⟩ (by simp[hb6]) (by simp[hb6]) (hone x e hx0) (A7 _ _ _) ⟨rfl,x,hx0,rfl⟩)
theorem Qh8 (c:Nat) (x:AV) (e:Int) (hx:Fj x e) (a b:RR) (ha:a.Lb) (hb:b.Lb) (h:e=0→a.ok=true∧b.ok=true):Ak Tryz.prog 111 [.ptr c 1 0 0,a.av,b.av] (Ll c x) fun v m=>v=(Cp e a (Df a.q b.q)).2.av∧∃x',Fj x' (Cp e a (Df a.q b.q)).1∧m=Ll c x':=by
 have hone:∀x' e',Fj x' e'→∀v∈(⟨118,1,[x']⟩:Fb).l,v.cells.all AV.one=true:=by
  intro x' e' hx' v hv;simp at hv;subst hv;unfold Fj at hx';rw[hx'];rfl
 have hone:=hone;have hx0:=hx;unfold Fj at hx;by_cases he:e=0
 ·obtain⟨o1,o2⟩:=h he;obtain⟨g1,e1⟩:=Et ha o1;obtain⟨g2,e2⟩:=Et hb o2;have hr:=Qjs a.q b.q g1 g2;rw[←Ob ha o1,←Ob hb o2]at hr;have hk:=K3 c x e;subst he;generalize Df a.q b.q=q at *;unfold Ll at hk ⊢;unfold RR.av at hr ⊢;refine Ad Tryz.func111 rfl rfl 20 rfl (Nat.le_of_ble_eq_true rfl) ?_;(repeat refine AW.seq_k fun K hK=>?_);refine AW.rgR [4,5] ?_;simp[Al];try (refine hK _ rfl ?_;clear hK K)
  refine Ae.intro fun b6 hb6=>?_;simp only[Am,Az,and_true]at hb6;refine hK _ rfl ?_;clear hK K;(repeat refine AW.seq_k fun K hK=>?_);refine AW.rg ?_;simp[hb6,hx];try (refine hK _ rfl ?_;clear hK K)
  refine AW.no ?_ rfl;refine AW.skip ?_;try simp
  refine hK _ rfl ?_;clear hK K;cases q with
  |none =>
   (repeat refine AW.seq_k fun K hK=>?_);refine AW.rg ?_;simp[hb6];try (refine hK _ rfl ?_;clear hK K)
   refine Aa.val hr ?_;simp[D6,B9];have hk2:=hk 2 hx0 T0;refine Aa.grant (R:=fun v y=>v=T0.av∧∃x',Fj x' 2∧y=⟨118,1,[x']⟩) c ⟨118,1,[x]⟩ (by simp[hb6]) (by simp) (hk2.mono fun v m ⟨h1,x',h2,h3⟩=>⟨_,⟨h1,x',h2,rfl⟩,h3⟩) ?_;rintro _ _ ⟨rfl,x',hx',rfl⟩;simp[hb6,Ud,B9];refine hK _ rfl ?_;clear hK K;refine AW.ret (Cu (vs:=[B9]) [B9] c ⟨118,1,[x']⟩ (by simp[hb6,B9]) (by simp[hb6]) (hone x' 2 hx') (A7 _ _ _) ⟨rfl,x',hx',rfl⟩)
  |some q =>
   (repeat refine AW.seq_k fun K hK=>?_);refine AW.rg ?_;simp[hb6];try (refine hK _ rfl ?_;clear hK K)
   refine Aa.val hr ?_;simp[D6];have hk2:=hk 0 hx0 (Ar q);refine Aa.grant (R:=fun v y=>v=(Ar q).av∧∃x',Fj x' 0∧y=⟨118,1,[x']⟩) c ⟨118,1,[x]⟩ (by simp[hb6]) (by simp) (hk2.mono fun v m ⟨h1,x',h2,h3⟩=>⟨_,⟨h1,x',h2,rfl⟩,h3⟩) ?_;rintro _ _ ⟨rfl,x',hx',rfl⟩;simp[hb6];refine hK _ rfl ?_;clear hK K;refine AW.ret (Cu (vs:=[(Ar q).av]) [(Ar q).av] c ⟨118,1,[x']⟩ (by simp[hb6,RR.av]) (by simp[hb6]) (hone x' 0 hx') (A7 _ _ _) ⟨rfl,x',hx',rfl⟩)
 ·have e3:Cp e a (Df a.q b.q)=(e,a):=if_neg he;rw[e3];unfold Ll;unfold RR.av;refine Ad Tryz.func111 rfl rfl 20 rfl (Nat.le_of_ble_eq_true rfl) ?_;(repeat refine AW.seq_k fun K hK=>?_);refine AW.rgR [4,5] ?_;simp[Al];try (refine hK _ rfl ?_;clear hK K)
  refine Ae.intro fun b6 hb6=>?_;simp only[Am,Az,and_true]at hb6;refine hK _ rfl ?_;clear hK K;(repeat refine AW.seq_k fun K hK=>?_);refine AW.rg ?_;simp[hb6,hx];try (refine hK _ rfl ?_;clear hK K)
  refine AW.yes ?_ (by simp[he]);(repeat refine AW.seq_k fun K hK=>?_);refine AW.rg ?_;simp[hb6];try (refine hK _ rfl ?_;clear hK K)
  refine AW.ret (Cu (vs:=[.agg [.bool a.n1,Ao a.l1,.bool a.n2,Ao a.l2]]) [.agg [.bool a.n1,Ao a.l1,.bool a.n2,Ao a.l2]] c ⟨118,1,[x]⟩ (by simp[hb6]) (by simp[hb6]) (hone x e hx0) (A7 _ _ _) ⟨rfl,x,hx0,rfl⟩)
theorem Qjp (c:Nat) (x:AV) (e:Int) (hx:Fj x e) (a b:RR) (ha:a.Lb) (hb:b.Lb) (h:e=0→a.ok=true∧b.ok=true∧b.q≠0):Ak Tryz.prog 145 [.ptr c 1 0 0,a.av,b.av] (Ll c x) fun v m=>v=(Cp e a (Fu a.q b.q)).2.av∧∃x',Fj x' (Cp e a (Fu a.q b.q)).1∧m=Ll c x':=by
 have hone:∀x' e',Fj x' e'→∀v∈(⟨118,1,[x']⟩:Fb).l,v.cells.all AV.one=true:=by
  intro x' e' hx' v hv;simp at hv;subst hv;unfold Fj at hx';rw[hx'];rfl
 have hone:=hone;have hx0:=hx;unfold Fj at hx;by_cases he:e=0
 ·obtain⟨o1,o2,o3⟩:=h he;obtain⟨g1,e1⟩:=Et ha o1;obtain⟨g2,e2⟩:=Et hb o2;have hr:=Qi1 a.q b.q g1 g2 o3;rw[←Ob ha o1,←Ob hb o2]at hr;have hk:=K3 c x e;subst he;generalize Fu a.q b.q=q at *;unfold Ll at hk ⊢;unfold RR.av at hr ⊢;refine Ad Tryz.func145 rfl rfl 20 rfl (Nat.le_of_ble_eq_true rfl) ?_;(repeat refine AW.seq_k fun K hK=>?_);refine AW.rgR [4,5] ?_;simp[Al];try (refine hK _ rfl ?_;clear hK K)
  refine Ae.intro fun b6 hb6=>?_;simp only[Am,Az,and_true]at hb6;refine hK _ rfl ?_;clear hK K;(repeat refine AW.seq_k fun K hK=>?_);refine AW.rg ?_;simp[hb6,hx];try (refine hK _ rfl ?_;clear hK K)
  refine AW.no ?_ rfl;refine AW.skip ?_;try simp
  refine hK _ rfl ?_;clear hK K;cases q with
  |none =>
   (repeat refine AW.seq_k fun K hK=>?_);refine AW.rg ?_;simp[hb6];try (refine hK _ rfl ?_;clear hK K)
   refine Aa.val hr ?_;simp[D6,B9];have hk2:=hk 2 hx0 T0;refine Aa.grant (R:=fun v y=>v=T0.av∧∃x',Fj x' 2∧y=⟨118,1,[x']⟩) c ⟨118,1,[x]⟩ (by simp[hb6]) (by simp) (hk2.mono fun v m ⟨h1,x',h2,h3⟩=>⟨_,⟨h1,x',h2,rfl⟩,h3⟩) ?_;rintro _ _ ⟨rfl,x',hx',rfl⟩;simp[hb6,Ud,B9];refine hK _ rfl ?_;clear hK K;refine AW.ret (Cu (vs:=[B9]) [B9] c ⟨118,1,[x']⟩ (by simp[hb6,B9]) (by simp[hb6]) (hone x' 2 hx') (A7 _ _ _) ⟨rfl,x',hx',rfl⟩)
  |some q =>
   (repeat refine AW.seq_k fun K hK=>?_);refine AW.rg ?_;simp[hb6];try (refine hK _ rfl ?_;clear hK K)
   refine Aa.val hr ?_;simp[D6];have hk2:=hk 0 hx0 (Ar q);refine Aa.grant (R:=fun v y=>v=(Ar q).av∧∃x',Fj x' 0∧y=⟨118,1,[x']⟩) c ⟨118,1,[x]⟩ (by simp[hb6]) (by simp) (hk2.mono fun v m ⟨h1,x',h2,h3⟩=>⟨_,⟨h1,x',h2,rfl⟩,h3⟩) ?_;rintro _ _ ⟨rfl,x',hx',rfl⟩;simp[hb6];refine hK _ rfl ?_;clear hK K;refine AW.ret (Cu (vs:=[(Ar q).av]) [(Ar q).av] c ⟨118,1,[x']⟩ (by simp[hb6,RR.av]) (by simp[hb6]) (hone x' 0 hx') (A7 _ _ _) ⟨rfl,x',hx',rfl⟩)
 ·have e3:Cp e a (Fu a.q b.q)=(e,a):=if_neg he;rw[e3];unfold Ll;unfold RR.av;refine Ad Tryz.func145 rfl rfl 20 rfl (Nat.le_of_ble_eq_true rfl) ?_;(repeat refine AW.seq_k fun K hK=>?_);refine AW.rgR [4,5] ?_;simp[Al];try (refine hK _ rfl ?_;clear hK K)
  refine Ae.intro fun b6 hb6=>?_;simp only[Am,Az,and_true]at hb6;refine hK _ rfl ?_;clear hK K;(repeat refine AW.seq_k fun K hK=>?_);refine AW.rg ?_;simp[hb6,hx];try (refine hK _ rfl ?_;clear hK K)
  refine AW.yes ?_ (by simp[he]);(repeat refine AW.seq_k fun K hK=>?_);refine AW.rg ?_;simp[hb6];try (refine hK _ rfl ?_;clear hK K)
  refine AW.ret (Cu (vs:=[.agg [.bool a.n1,Ao a.l1,.bool a.n2,Ao a.l2]]) [.agg [.bool a.n1,Ao a.l1,.bool a.n2,Ao a.l2]] c ⟨118,1,[x]⟩ (by simp[hb6]) (by simp[hb6]) (hone x e hx0) (A7 _ _ _) ⟨rfl,x,hx0,rfl⟩)
end Go.Av
end
section
namespace Go.Av
open Go.Proofs
def Gr (n:Int):Rat:=Rat.divInt n 1
theorem Iv:Gr 0=0:=Rat.zero_divInt 1
theorem I3:Gr 1=1:=by decide
theorem Rb {n:Int} (h:n.natAbs<18446744073709551616):B0 (Gr n):=Gl (Vm h) (by decide) (by omega)
theorem Pc (n:Int) (h1:-9223372036854775808≤n) (h2:n<9223372036854775808):Ak Tryz.prog 152 [.int .i64 n] Ac.emp fun v m=>v=(Ar (Gr n)).av∧m=Ac.emp:=by
 have ho:=Qg0 n 1 h1 h2 (by omega) (by omega) (by omega);have e:Rat.divInt n 1=Gr n:=rfl;rw[e,D6]at ho;generalize Gr n=q at *;rw[Dx];unfold H6 at *;refine Ad Tryz.func152 rfl rfl 11 rfl (Nat.le_of_ble_eq_true rfl) ?_;(repeat refine AW.seq_k fun K hK=>?_);refine AW.rg ?_;simp[Al];try (refine hK _ rfl ?_;clear hK K)
 refine Ae.intro fun b2 _=>?_;refine hK _ rfl ?_;clear hK K;(repeat refine AW.seq_k fun K hK=>?_);refine AW.rg ?_;simp;try (refine hK _ rfl ?_;clear hK K)
 refine Aa.val ho ?_;simp;refine Ae.intro fun b3 hb3=>?_;simp only[Am,Az,and_true]at hb3;try simp[hb3]
 refine hK _ rfl ?_;clear hK K;(repeat refine AW.seq_k fun K hK=>?_);refine AW.rg ?_;simp[hb3];try (refine hK _ rfl ?_;clear hK K)
 exact AW.ret (Af (vs:=[.agg [.bool (decide (q.num<0)),Ao (Ap q.num.natAbs),.bool false,Ao (Ap q.den)]]) [.agg [.bool (decide (q.num<0)),Ao (Ap q.num.natAbs),.bool false,Ao (Ap q.den)]] (by simp[hb3]) (by simp) ⟨rfl,rfl⟩)
section
variable {P:Program} {av:Nat→Prop} {f:FuncId} {args:List AV} {m:Ac} {k:AV→Ac→Prop}
theorem Aa.make {R:Nat→AV→Fb→Prop} (h:Ak P f args Ac.emp fun v m'=>∃b x,R b v x∧m'=Ac.emp.set b x) (hk:∀b v x,R b v x→m b=none→¬av b→k v (m.set b x)):Aa P av f args m k:=by
 refine .inl ⟨Ac.emp,_,fun c y hy=>(by cases hy),h,?_⟩;rintro v g' ⟨b,x,hr,rfl⟩ hf;have hb:=hf b (by simp);rcases hb with hb | ⟨h1,h2⟩
 ·exact absurd rfl hb
 ·have e:Ff m Ac.emp (Ac.emp.set b x)=m.set b x:=by
   funext c
   unfold Ff;simp only[A9,Az];by_cases hc:c=b
   ·simp[hc]
   ·simp[hc]
  rw[e];exact hk b v x hr h1 h2
end
def Qmg:AV:=.agg [.bool false,.nil,.bool false,.nil]
def Mz (l:List RR) (i n:Nat):List AV:=Bo (l.take i)++List.replicate (n-i) Qmg
theorem Wi (l:List RR) (n:Nat):Mz l 0 n=List.replicate n Qmg:=by simp[Mz]
theorem Vn (l:List RR):Mz l l.length l.length=Bo l:=by simp[Mz]
theorem Wq (l:List RR) (i:Nat) (h:i<l.length):(Mz l i l.length).set i (rr l i).av=Mz l (i+1) l.length:=by
 unfold Mz;have hl:(Bo (l.take i)).length=i:=by simp;omega
 rw[List.set_append_right _ _ (by omega),hl,Nat.sub_self,show l.length-i=(l.length-(i+1))+1 by omega,List.replicate_succ,List.set_cons_zero];have e:l.take (i+1)=l.take i++[l[i]]:=by rw[List.take_add_one,List.getElem?_eq_getElem h];rfl
 rw[e];simp only[Bo,List.map_append,List.append_assoc,List.map_cons,List.map_nil,List.cons_append,List.nil_append,Ja h]
@[simp] theorem fillL_get? {l:List RR} {i:Nat} (h:i<l.length):(Mz l i l.length)[i]?=some Qmg:=by
 unfold Mz;have hl:(Bo (l.take i)).length=i:=by simp;omega
 rw[List.getElem?_append_right (by omega),hl,Nat.sub_self,show l.length-i=(l.length-(i+1))+1 by omega,List.replicate_succ];rfl
theorem Tf (n:Nat) (hn:n<2^40):Ak Tryz.prog 109 [.int .i64 n] Ac.emp fun v m=>∃b x,(v=.osl b 4 0 n∧x=⟨44,4,Bo (List.replicate n (Ar 0))⟩)∧m=Ac.emp.set b x:=by
 have hw:=Pc 0 (by omega) (by omega);rw[Iv]at hw;generalize hl:List.replicate n (Ar 0)=l at *;have hlen:l.length=n:=by rw[←hl];simp
 have hget:∀i,i<n→rr l i=Ar 0:=by
  intro i hi;rw[Ja (by omega)];subst hl;simp
 generalize Ar 0=z at *;clear hl;subst hlen;refine Ad Tryz.func109 rfl rfl 18 rfl (Nat.le_of_ble_eq_true rfl) ?_;(repeat refine AW.seq_k fun K hK=>?_);refine AW.rg ?_;simp[Al];try (refine hK _ rfl ?_;clear hK K)
 (repeat refine AW.seq_k fun K hK=>?_);refine AW.rg ?_;simp[-Int.natCast_mul];try (refine hK _ rfl ?_;clear hK K)
 refine⟨by omega,Ae.intro fun b _=>?_⟩;refine hK _ rfl ?_;clear hK K;refine AW.seq_has [(3,.osl b 4 0 l.length)] (Ac.emp.set b ⟨44,4,Bo l⟩) ?_ ?_
 ·(repeat refine AW.seq_k fun K hK=>?_);refine AW.rg ?_;simp;try (refine hK _ rfl ?_;clear hK K)
  refine AW.block (AW.loopS (ι:=Nat) (fun i=>[(3,.osl b 4 0 l.length),(8,.int .i64 (l.length:Nat)),(9,.int .i64 (i:Nat))]) (fun i=>Ac.emp.set b ⟨44,4,Mz l i l.length⟩)
   (fun i=>i≤l.length) (fun i=>l.length-i) 0 (by simp) (by rw[Wi];rfl) (by simp) ?_)
  intro i h1;(repeat refine AW.seq_k fun K hK=>?_);refine AW.rg ?_;simp;try (refine hK _ rfl ?_;clear hK K)
  refine AW.seq_k fun K hK=>?_;(repeat refine AW.seq ?_);refine AW.cs (fun hi=>?_) (fun hi=>?_) rfl<;>(try simp at hi)
  ·refine AW.skip ?_;try simp
   refine hK _ rfl ?_;clear hK K;have w1:=Aq (i+1) (by omega);(repeat refine AW.seq ?_);refine AW.block ?_;(repeat refine AW.seq_k fun K hK=>?_);refine AW.rg ?_;simp;try (refine hK _ rfl ?_;clear hK K)
   (repeat refine AW.seq_k fun K hK=>?_);refine AW.rg ?_;simp[hi];try (refine hK _ rfl ?_;clear hK K)
   refine Aa.val hw ?_;simp[hi,Qmg];rw[←hget i hi,Wq l i hi];(repeat refine AW.seq_k fun K hK=>?_);refine AW.rg ?_;simp[-Int.natCast_add,w1];try (refine hK _ rfl ?_;clear hK K)
   exact⟨i+1,hi,by omega,rfl,rfl⟩
  ·refine AW.exit ?_;try simp
   have:i=l.length:=by omega
   subst this;rw[Vn]
 (repeat refine AW.seq_k fun K hK=>?_);refine AW.rg ?_;simp;try (refine hK _ rfl ?_;clear hK K)
 exact AW.ret (Cf rfl (U6 (J5 l)) ⟨b,_,⟨rfl,rfl⟩,rfl⟩)
theorem Qa6 (l:List RR) (hl:∀x∈l,x.l1.length<2^40∧x.l2.length<2^40) (hn:l.length<2^40):Ak Tryz.prog 143 [An l] Ac.emp fun v m=>∃b x,(v=.osl b 4 0 l.length∧x=⟨44,4,Bo l⟩)∧m=Ac.emp.set b x:=by
 refine Ad Tryz.func143 rfl rfl 23 rfl (Nat.le_of_ble_eq_true rfl) ?_;(repeat refine AW.seq_k fun K hK=>?_);refine AW.rg ?_;simp[Al];try (refine hK _ rfl ?_;clear hK K)
 (repeat refine AW.seq_k fun K hK=>?_);refine AW.rg ?_;simp[-Int.natCast_mul];try (refine hK _ rfl ?_;clear hK K)
 refine⟨by omega,Ae.intro fun b _=>?_⟩;refine hK _ rfl ?_;clear hK K;refine AW.seq_has [(3,.osl b 4 0 l.length)] (Ac.emp.set b ⟨44,4,Bo l⟩) ?_ ?_
 ·(repeat refine AW.seq_k fun K hK=>?_);refine AW.rg ?_;simp;try (refine hK _ rfl ?_;clear hK K)
  refine AW.block (AW.loopS (ι:=Nat) (fun i=>[(0,An l),(3,.osl b 4 0 l.length),(9,.int .i64 (l.length:Nat)),(10,.int .i64 (i:Nat))]) (fun i=>Ac.emp.set b ⟨44,4,Mz l i l.length⟩)
   (fun i=>i≤l.length) (fun i=>l.length-i) 0 (by simp) (by rw[Wi];rfl) (by simp) ?_)
  intro i h1;(repeat refine AW.seq_k fun K hK=>?_);refine AW.rg ?_;simp;try (refine hK _ rfl ?_;clear hK K)
  refine AW.seq_k fun K hK=>?_;(repeat refine AW.seq ?_);refine AW.cs (fun hi=>?_) (fun hi=>?_) rfl<;>(try simp at hi)
  ·refine AW.skip ?_;try simp
   refine hK _ rfl ?_;clear hK K;have w1:=Aq (i+1) (by omega);have hx:=hl (rr l i) (by rw[Ja hi];exact List.getElem_mem hi);have ho:=Qn2 (rr l i) hx.1 hx.2;(repeat refine AW.seq ?_);refine AW.block ?_;(repeat refine AW.seq_k fun K hK=>?_);refine AW.rg ?_;simp;try (refine hK _ rfl ?_;clear hK K)
   (repeat refine AW.seq_k fun K hK=>?_);refine AW.rg ?_;simp[hi];try (refine hK _ rfl ?_;clear hK K)
   refine Aa.val ho ?_;simp[hi,Qmg];rw[Wq l i hi];(repeat refine AW.seq_k fun K hK=>?_);refine AW.rg ?_;simp[-Int.natCast_add,w1];try (refine hK _ rfl ?_;clear hK K)
   exact⟨i+1,hi,by omega,rfl,rfl⟩
  ·refine AW.exit ?_;try simp
   have:i=l.length:=by omega
   subst this;rw[Vn]
 (repeat refine AW.seq_k fun K hK=>?_);refine AW.rg ?_;simp;try (refine hK _ rfl ?_;clear hK K)
 exact AW.ret (Cf rfl (U6 (J5 l)) ⟨b,_,⟨rfl,rfl⟩,rfl⟩)
end Go.Av
end
section
namespace Go.Av
open Go.Proofs
def F0 (bs:List Nat) (rows:List (List RR)):List AV:=List.zipWith (fun b (r:List RR)=>.osl b 4 0 r.length) bs rows
def nb (bs:List Nat) (i:Nat):Nat:=bs.getD i 0
theorem Jp {bs:List Nat} {i:Nat} (h:i<bs.length):nb bs i=bs[i]:=by unfold nb;rw[List.getD_eq_getElem?_getD,List.getElem?_eq_getElem h];rfl
theorem Ft {bs:List Nat} {i:Nat} (h:i<bs.length):nb bs i∈bs:=by rw[Jp h];exact List.getElem_mem h
theorem Dc {bs:List Nat} {rows:List (List RR)} (h:bs.length=rows.length):(F0 bs rows).length=rows.length:=by simp[F0,h]
theorem hdrs_get? {bs:List Nat} {rows:List (List RR)} (h:bs.length=rows.length) {i:Nat} (hi:i<rows.length):(F0 bs rows)[i]?=some (.osl (nb bs i) 4 0 (Aj rows i).length):=by
 unfold F0;rw[List.getElem?_zipWith,List.getElem?_eq_getElem (by omega),List.getElem?_eq_getElem hi,Jp (by omega),Ep hi]
structure Fa (M:Ac) (B:Nat) (bs:List Nat) (rows:List (List RR)):Prop where
 top:M B=some ⟨51,1,F0 bs rows⟩
 len:bs.length=rows.length
 row:∀i,i<rows.length→M (nb bs i)=some ⟨44,4,Bo (Aj rows i)⟩
 nd:bs.Nodup
 nB:B ∉ bs
theorem Qnq {bs:List Nat} (hnd:bs.Nodup) {i j:Nat} (hi:i<bs.length) (hj:j<bs.length) (h:nb bs i=nb bs j):i=j:=by
 rw[Jp hi,Jp hj]at h;exact(List.getElem_inj hnd).1 h
section
variable {M:Ac} {B:Nat} {bs:List Nat} {rows:List (List RR)}
theorem Fa.ne (h:Fa M B bs rows) {i:Nat} (hi:i<rows.length):nb bs i≠B:=fun e=>h.nB (e ▸ Ft (by rw[h.len];exact hi))
theorem Fa.get (h:Fa M B bs rows) {i:Nat} (hi:i<rows.length):(F0 bs rows)[i]?=some (.osl (nb bs i) 4 0 (Aj rows i).length):=hdrs_get? h.len hi
theorem Qik {bs:List Nat} {rows:List (List RR)} (i:Nat) (r:List RR) (hr:r.length=(Aj rows i).length):F0 bs (rows.set i r)=F0 bs rows:=by
 unfold F0;refine List.ext_getElem? fun k=>?_;rw[List.getElem?_zipWith,List.getElem?_zipWith,List.getElem?_set];by_cases hk:i=k
 ·subst hk;rw[if_pos rfl];by_cases hi:i<rows.length
  ·rw[if_pos hi,List.getElem?_eq_getElem hi];cases bs[i]? with
   |none=>rfl
   |some b=>simp[hr,Ep hi]
  ·rw[if_neg hi,List.getElem?_eq_none (l:=rows) (by omega)]
 ·rw[if_neg hk]
theorem Hs {α:Type} {rows:List (List α)} {i:Nat} (hi:i<rows.length) (r:List α) (k:Nat):Aj (rows.set i r) k=if k=i then r else Aj rows k:=by
 unfold Aj;rw[List.getD_eq_getElem?_getD,List.getElem?_set];by_cases h:i=k
 ·subst h;simp[hi]
 ·rw[if_neg h,if_neg (Ne.symm h),←List.getD_eq_getElem?_getD]
theorem Fa.setRow (h:Fa M B bs rows) {i:Nat} (hi:i<rows.length) (r:List RR) (hr:r.length=(Aj rows i).length):Fa (M.set (nb bs i) ⟨44,4,Bo r⟩) B bs (rows.set i r):=by
 refine⟨?_,by simpa using h.len,fun k hk=>?_,h.nd,h.nB⟩
 ·rw[Qik i r hr];simp only[A9];rw[if_neg (Ne.symm (h.ne hi))];exact h.top
 ·have hk':k<rows.length:=by simpa using hk
  simp only[A9];rw[Hs hi];by_cases hki:k=i
  ·subst hki;simp
  ·have:nb bs k≠nb bs i:=fun e=>hki (Qnq h.nd (by rw[h.len];exact hk') (by rw[h.len];exact hi) e);rw[if_neg this,if_neg hki];exact h.row k hk'
theorem Fa.other (h:Fa M B bs rows) {c:Nat} (h1:c≠B) (h2:c ∉ bs) (x:Fb):Fa (M.set c x) B bs rows:=by
 refine⟨?_,h.len,fun k hk=>?_,h.nd,h.nB⟩
 ·simp only[A9];rw[if_neg (Ne.symm h1)];exact h.top
 ·have:nb bs k≠c:=fun e=>h2 (e ▸ Ft (by rw[h.len];exact hk));simp only[A9];rw[if_neg this];exact h.row k hk
theorem Yi (bs:List Nat) (rows:List (List RR)):∀v∈F0 bs rows,v.cells.all AV.one=true:=by
 intro v hv;unfold F0 at hv;obtain⟨k,hk⟩:=List.getElem?_of_mem hv;rw[List.getElem?_zipWith]at hk;cases h1:bs[k]?<;>cases h2:rows[k]?<;>simp[h1,h2]at hk
 subst hk;rfl
theorem Fa.view (h:Fa M B bs rows):B2 M Ac.emp (.osl B 1 0 rows.length) (Au rows):=by
 refine .osl B 1 0 rows.length _ _ h.top rfl rfl (by simp) (by simp[Dc h.len]) fun k v v' h1 h2=>?_;simp only[Nat.zero_add]at h1;have hk:k<rows.length:=by
  have:=(List.getElem?_eq_some_iff.1 h2).1;simpa using this
 rw[h.get hk]at h1;rw[List.getElem?_map,List.getElem?_eq_getElem hk]at h2;cases h1;cases h2;rw[←Ep hk];refine .osl (nb bs k) 4 0 _ _ _ (h.row k hk) rfl rfl (by simp) (by simp) fun j u u' g1 g2=>?_;simp only[Nat.zero_add]at g1;rw[g1]at g2;cases g2;exact .same _
end
def D4 (M:Ac) (l:List Nat):Prop:=∀b,M b≠none→b∈l
theorem D4.none {M:Ac} {l:List Nat} (h:D4 M l) {b:Nat} (hb:b ∉ l):M b=Option.none:=by
 cases hx:M b with
 |none=>rfl
 |some x=>exact absurd (h b (by rw[hx];simp)) hb
theorem Fa.ones {M:Ac} {B:Nat} {bs:List Nat} {rows:List (List RR)} (h:Fa M B bs rows) {l:List Nat} (ho:D4 M (l++B::bs)) (hl:∀c∈l,∀x,M c=some x→∀v∈x.l,v.cells.all AV.one=true):∀(b:Nat) (x:Fb),M b=some x→∀v∈x.l,v.cells.all AV.one=true:=by
 intro b x hx;have:=ho b (by rw[hx];simp);rcases List.mem_append.1 this with h1 | h1
 ·exact hl b h1 x hx
 ·rcases List.mem_cons.1 h1 with rfl|h1
  ·rw[h.top]at hx;cases hx;exact Yi bs rows
  ·obtain⟨i,hi⟩:=List.getElem?_of_mem h1;have hib:i<bs.length:=(List.getElem?_eq_some_iff.1 hi).1;have hir:i<rows.length:=by rw[←h.len];exact hib
   have e:nb bs i=b:=by rw[Jp hib];exact(List.getElem?_eq_some_iff.1 hi).2
   have:=h.row i hir;rw[e,hx]at this;cases this;exact J5 _
structure Qda (M:Ac) (B:Nat) (bs:List Nat) (rows:List (List RR)) (k:Nat):Prop where
 top:M B=some ⟨51,1,F0 bs rows++List.replicate k AV.nil⟩
 len:bs.length=rows.length
 row:∀i,i<rows.length→M (nb bs i)=some ⟨44,4,Bo (Aj rows i)⟩
 nd:bs.Nodup
 nB:B ∉ bs
 only:D4 M (B::bs)
theorem Xv {bs:List Nat} {rows:List (List RR)} (h:bs.length=rows.length) (b:Nat) (r:List RR):F0 (bs++[b]) (rows++[r])=F0 bs rows++[.osl b 4 0 r.length]:=by
 unfold F0;rw[List.zipWith_append h];rfl
theorem Rc {α:Type} (rows:List (List α)) (r:List α) (i:Nat) (hi:i<rows.length+1):Aj (rows++[r]) i=if i<rows.length then Aj rows i else r:=by
 unfold Aj;rw[List.getD_eq_getElem?_getD];by_cases h:i<rows.length
 ·rw[if_pos h,List.getElem?_append_left h,←List.getD_eq_getElem?_getD]
 ·rw[if_neg h,List.getElem?_append_right (by omega),show i-rows.length=0 by omega];rfl
theorem Qg8 (bs:List Nat) (b:Nat) (i:Nat) (hi:i<bs.length+1):nb (bs++[b]) i=if i<bs.length then nb bs i else b:=by
 unfold nb;rw[List.getD_eq_getElem?_getD];by_cases h:i<bs.length
 ·rw[if_pos h,List.getElem?_append_left h,←List.getD_eq_getElem?_getD]
 ·rw[if_neg h,List.getElem?_append_right (by omega),show i-bs.length=0 by omega];rfl
theorem Qda.step {M:Ac} {B:Nat} {bs:List Nat} {rows:List (List RR)} {k:Nat} (h:Qda M B bs rows (k+1)) {b:Nat} (hb:M b=none) (r:List RR) :
  Qda ((M.set b ⟨44,4,Bo r⟩).set B ⟨51,1,(F0 bs rows++List.replicate (k+1) AV.nil).set rows.length (.osl b 4 0 r.length)⟩) B (bs++[b]) (rows++[r]) k:=by
 have hbB:b≠B:=by rintro rfl;rw[h.top]at hb;cases hb
 have hbb:b ∉ bs:=by
  intro hm;obtain⟨i,hi⟩:=List.getElem?_of_mem hm;have hib:i<bs.length:=(List.getElem?_eq_some_iff.1 hi).1;have e:nb bs i=b:=by rw[Jp hib];exact(List.getElem?_eq_some_iff.1 hi).2
  have:=h.row i (by rw[←h.len];exact hib);rw[e,hb]at this;cases this
 refine⟨?_,by simp[h.len],fun i hi=>?_,?_,?_,fun c hc=>?_⟩
 ·simp only[A9,if_true];rw[Xv h.len,List.set_append_right _ _ (by rw[Dc h.len];omega),Dc h.len,Nat.sub_self,List.replicate_succ,List.set_cons_zero];simp
 ·have hi':i<rows.length+1:=by simpa using hi
  rw[Qg8 bs b i (by rw[h.len];exact hi'),Rc rows r i hi',h.len];by_cases hlt:i<rows.length
  ·rw[if_pos hlt,if_pos hlt];have n1:nb bs i≠B:=fun e=>h.nB (e ▸ Ft (by rw[h.len];exact hlt));have n2:nb bs i≠b:=fun e=>hbb (e ▸ Ft (by rw[h.len];exact hlt));simp only[A9];rw[if_neg n1,if_neg n2];exact h.row i hlt
  ·rw[if_neg hlt,if_neg hlt];simp[hbB]
 ·rw[List.nodup_append];exact⟨h.nd,by simp,fun x hx y hy=>by simp at hy;subst hy;exact fun e=>hbb (e ▸ hx)⟩
 ·simp only[List.mem_append,List.mem_singleton,not_or];exact⟨h.nB,Ne.symm hbB⟩
 ·simp only[A9]at hc;by_cases h1:c=B
  ·simp[h1]
  ·rw[if_neg h1]at hc;by_cases h2:c=b
   ·simp[h2]
   ·rw[if_neg h2]at hc;have:=h.only c hc;simp at this ⊢;rcases this with h3 | h3
    ·exact absurd h3 h1
    ·exact .inr (.inl h3)
theorem Qda.full {M:Ac} {B:Nat} {bs:List Nat} {rows:List (List RR)} (h:Qda M B bs rows 0):Fa M B bs rows∧D4 M (B::bs) :=
 ⟨⟨by rw[h.top];simp,h.len,h.row,h.nd,h.nB⟩,h.only⟩
def Qk9 (m:List (List RR)):Prop:=∀r∈m,∀x∈r,x.l1.length<2^40∧x.l2.length<2^40
theorem Qfd (m:List (List RR)) (hs:Qk9 m) (h1:m.length<2^40) (h2:∀r∈m,r.length<2^40):Ak Tryz.prog 100 [Au m] Ac.emp fun v M=>∃B bs,v=.osl B 1 0 m.length∧Fa M B bs m∧D4 M (B::bs):=by
 refine Ad Tryz.func100 rfl rfl 23 rfl (Nat.le_of_ble_eq_true rfl) ?_;(repeat refine AW.seq_k fun K hK=>?_);refine AW.rg ?_;simp[Al];try (refine hK _ rfl ?_;clear hK K)
 (repeat refine AW.seq_k fun K hK=>?_);refine AW.rg ?_;simp;try (refine hK _ rfl ?_;clear hK K)
 refine⟨by omega,Ae.intro fun B _=>?_⟩;refine hK _ rfl ?_;clear hK K;refine AW.seq_ex (ι:=Ac × List Nat) (fun z=>[(3,.osl B 1 0 m.length)]) (fun z=>z.1) (fun z=>Fa z.1 B z.2 m∧D4 z.1 (B::z.2)) ?_ ?_
 ·(repeat refine AW.seq_k fun K hK=>?_);refine AW.rg ?_;simp;try (refine hK _ rfl ?_;clear hK K)
  refine AW.block (AW.loopS (ι:=Nat × Ac × List Nat) (fun z=>[(0,Au m),(3,.osl B 1 0 m.length),(9,.int .i64 (m.length:Nat)),(10,.int .i64 (z.1:Nat))]) (fun z=>z.2.1)
   (fun z=>z.1≤m.length∧Qda z.2.1 B z.2.2 (m.take z.1) (m.length-z.1)) (fun z=>m.length-z.1) (0,Ac.emp.set B ⟨51,1,List.replicate m.length .nil⟩,[]) ⟨by simp,⟨by simp[F0],rfl,fun i hi=>(by simp at hi),by simp,by simp,fun b hb=>by
    simp only[A9,Az]at hb;by_cases h:b=B
    ·simp[h]
    ·simp[h]at hb⟩⟩ rfl (by simp) ?_)
  rintro⟨i,M,bs⟩ ⟨g1,g2⟩;simp only at g1 g2;(repeat refine AW.seq_k fun K hK=>?_);refine AW.rg ?_;simp;try (refine hK _ rfl ?_;clear hK K)
  refine AW.seq_k fun K hK=>?_;(repeat refine AW.seq ?_);refine AW.cs (fun hi=>?_) (fun hi=>?_) rfl<;>(try simp at hi)
  ·refine AW.skip ?_;try simp
   refine hK _ rfl ?_;clear hK K;have w1:=Aq (i+1) (by omega);obtain⟨k,hk⟩:∃k,m.length-i=k+1:=⟨m.length-i-1,by omega⟩;rw[hk]at g2;have hmem:Aj m i∈m:=by rw[Ep hi];exact List.getElem_mem hi
   have ho:=Qa6 (Aj m i) (hs _ hmem) (h2 _ hmem);have htl:(m.take i).length=i:=by simp;omega
   have hlen:(F0 bs (m.take i)++List.replicate (k+1) AV.nil)[i]?=some .nil:=by
    rw[List.getElem?_append_right (by rw[Dc g2.len];omega),Dc g2.len,htl,Nat.sub_self];rfl
   (repeat refine AW.seq ?_);refine AW.block ?_;(repeat refine AW.seq_k fun K hK=>?_);refine AW.rg ?_;simp;try (refine hK _ rfl ?_;clear hK K)
   (repeat refine AW.seq_k fun K hK=>?_);refine AW.rg ?_;simp[hi];try (refine hK _ rfl ?_;clear hK K)
   refine Aa.make ho ?_;rintro b _ _ ⟨rfl,rfl⟩ hb _;have hbB:B≠b:=by rintro rfl;rw[g2.top]at hb;cases hb
   simp[hi,hbB,g2.top,hlen];have hst:=g2.step hb (Aj m i);rw[htl]at hst;(repeat refine AW.seq_k fun K hK=>?_);refine AW.rg ?_;simp[-Int.natCast_add,w1];try (refine hK _ rfl ?_;clear hK K)
   refine⟨i+1,_,⟨hi,bs++[b],?_⟩,by omega,rfl,rfl⟩;have e:m.take (i+1)=m.take i++[Aj m i]:=by rw[List.take_add_one,List.getElem?_eq_getElem hi,Ep hi];rfl
   rw[e,show m.length-(i+1)=k by omega];exact hst
  ·refine AW.exit ?_;try simp
   have:i=m.length:=by omega
   subst this;rw[Nat.sub_self,List.take_length]at g2;exact⟨bs,g2.full⟩
 rintro⟨M,bs⟩ ⟨g1,g2⟩;simp only at g1 g2;(repeat refine AW.seq_k fun K hK=>?_);refine AW.rg ?_;simp;try (refine hK _ rfl ?_;clear hK K)
 refine AW.ret (Cf rfl ?_ ⟨B,bs,rfl,g1,g2⟩);exact g1.ones (l:=[]) g2 (by simp)
end Go.Av
end
section
namespace Go.Av
open Go.Proofs
def Aw {α:Type} (f:Nat→α→Option α):Nat→α→Option α
 |0,s=>some s
 |n+1,s=>(Aw f n s).bind (f n)
theorem Bq {α:Type} (f:Nat→α→Option α) (n:Nat) (s:α):Aw f (n+1) s=(Aw f n s).bind (f n):=rfl
theorem Vr {α:Type} {f:Nat→α→Option α} {n:Nat} {s:α} (h:Aw f n s=none):∀k,Aw f (n+k) s=none
 |0=>h
 |k+1=>by rw[←Nat.add_assoc,Bq,Vr h k];rfl
theorem Se {α:Type} {f:Nat→α→Option α} {n m:Nat} {s:α} (h:Aw f n s=none) (hm:n≤m):Aw f m s=none:=by
 have:=Vr h (m-n)
 rwa [Nat.add_sub_cancel' hm]at this
def Ba (r:List Rat) (i:Nat):Rat:=r.getD i 0
def A6 (M:List (List Rat)) (i j:Nat):Rat:=Ba (Aj M i) j
def Be (M:List (List Rat)):List (List RR):=M.map fun r=>r.map Ar
def Ey (M:List (List Rat)):Prop:=∀r∈M,∀q∈r,B0 q
def Cg {α:Type} (l:List (List α)) (i j:Nat):List (List α):=(l.set i (Aj l j)).set j (Aj l i)
def F5 (op:Rat→Nat→Option Rat) (k:Nat) (row:List Rat):Option (List Rat):=(op (Ba row k) k).map (row.set k)
def Cx (d:Rat):Nat→List Rat→Option (List Rat):=F5 fun q _=>Fu q d
def L6 (a f b:Rat):Option Rat:=(Df b f).bind (Da a)
def E8 (by_:List Rat) (f:Rat):Nat→List Rat→Option (List Rat):=F5 fun q k=>L6 q f (Ba by_ k)
def Bv (r j i:Nat) (M:List (List Rat)):Option (List (List Rat)) :=
 if i=r∨A6 M i j=0 then some M else (Aw (E8 (Aj M r) (A6 M i j)) (Aj M i).length (Aj M i)).map (M.set i)
def G0 (M:List (List Rat)) (j r:Nat):Option (List (List Rat)) :=
 (Aw (Cx (A6 M r j)) (Aj M r).length (Aj M r)).bind fun row=>Aw (Bv r j) M.length (M.set r row)
def T3 (M:List (List Rat)) (j r:Nat):Option Nat:=(List.range M.length).find? fun i=>decide (r≤i)&&!decide (A6 M i j=0)
def Cn (j:Nat) (z:List (List Rat) × List Nat):Option (List (List Rat) × List Nat) :=
 match T3 z.1 j z.2.length with
 |none=>some z
 |some i=>(G0 (Cg z.1 i z.2.length) j z.2.length).map fun M=>(M,z.2++[j])
def E7 (M:List (List Rat)):Option (List (List Rat) × List Nat):=Aw Cn (Aj M 0).length (M,[])
/-! ### The numbers in memory -/
theorem A3 (M:List (List Rat)):(Be M).length=M.length:=by simp[Be]
theorem Bw (M:List (List Rat)) (i:Nat):Aj (Be M) i=(Aj M i).map Ar:=by
 unfold Aj Be;rw[List.getD_eq_getElem?_getD,List.getD_eq_getElem?_getD,List.getElem?_map];cases M[i]?<;>rfl
theorem Gd {r:List Rat} {i:Nat} (h:i<r.length):rr (r.map Ar) i=Ar (Ba r i):=by
 unfold rr Ba;rw[List.getD_eq_getElem?_getD,List.getD_eq_getElem?_getD,List.getElem?_map,List.getElem?_eq_getElem h];rfl
theorem Pq (M:List (List Rat)) (i:Nat) (r:List Rat):Be (M.set i r)=(Be M).set i (r.map Ar):=by simp[Be,List.map_set]
theorem Qax (M:List (List Rat)) (i j:Nat):Be (Cg M i j)=Cg (Be M) i j:=by
 unfold Cg;rw[Pq,Pq,Bw,Bw]
theorem Ey.at {M:List (List Rat)} (h:Ey M) {i j:Nat} (hj:j<(Aj M i).length):B0 (A6 M i j):=by
 unfold A6 Ba;have hi:i<M.length:=by
  rcases Nat.lt_or_ge i M.length with h|h
  ·exact h
  ·unfold Aj at hj;rw[List.getD_eq_getElem?_getD,List.getElem?_eq_none h]at hj;simp at hj
 rw[List.getD_eq_getElem?_getD,List.getElem?_eq_getElem hj];refine h (Aj M i) ?_ _ (List.getElem_mem hj);rw[Ep hi];exact List.getElem_mem hi
theorem Ey.set {M:List (List Rat)} (h:Ey M) (i:Nat) {r:List Rat} (hr:∀q∈r,B0 q):Ey (M.set i r):=by
 intro x hx q hq;rcases List.mem_or_eq_of_mem_set hx with h1 | rfl
 ·exact h x h1 q hq
 ·exact hr q hq
theorem Ey.row {M:List (List Rat)} (h:Ey M) (i:Nat):∀q∈Aj M i,B0 q:=by
 intro q hq;unfold Aj at hq;rw[List.getD_eq_getElem?_getD]at hq;cases hm:M[i]? with
 |none=>rw[hm]at hq;cases hq
 |some r=>rw[hm]at hq;exact h r (List.mem_of_getElem? hm) q hq
theorem Wc {r:List Rat} (h:∀q∈r,B0 q) (k:Nat) {x:Rat} (hx:B0 x):∀q∈r.set k x,B0 q:=by
 intro q hq;rcases List.mem_or_eq_of_mem_set hq with h1 | rfl
 ·exact h q h1
 ·exact hx
theorem Ey.swap {M:List (List Rat)} (h:Ey M) (i j:Nat):Ey (Cg M i j):=(h.set i (h.row j)).set j (h.row i)
def L8 {α:Type} (M:List (List α)) (w:Nat):Prop:=∀i,i<M.length→(Aj M i).length=w
theorem L8.set {α:Type} {M:List (List α)} {w:Nat} (h:L8 M w) {i:Nat} {r:List α} (hr:r.length=w):L8 (M.set i r) w:=by
 intro k hk;have hk':k<M.length:=by simpa using hk
 by_cases hi:i<M.length
 ·rw[Hs hi];split
  ·exact hr
  ·exact h k hk'
 ·rw[List.set_eq_of_length_le (by omega)];exact h k hk'
theorem L8.swap {α:Type} {M:List (List α)} {w:Nat} (h:L8 M w) {i j:Nat} (hi:i<M.length) (hj:j<M.length):L8 (Cg M i j) w:=(h.set (h j hj)).set (h i hi)
theorem Lw {α:Type} (M:List (List α)) (i j:Nat):(Cg M i j).length=M.length:=by simp[Cg]
theorem Qhu {M:List (List Rat)} {w:Nat} (h:L8 M w):L8 (Be M) w:=by
 intro i hi;rw[Bw,List.length_map];exact h i (by simpa[Be]using hi)
theorem Mo (M:List (List Rat)):Zf (Be M):=by
 intro r hr x hx;obtain⟨s,_,rfl⟩:=List.mem_map.1 hr;obtain⟨q,_,rfl⟩:=List.mem_map.1 hx;exact Eb q
theorem Zf.set {M:List (List RR)} (h:Zf M) (i:Nat) {r:List RR} (hr:∀x∈r,x.Lb):Zf (M.set i r):=by
 intro x hx q hq;rcases List.mem_or_eq_of_mem_set hx with h1 | rfl
 ·exact h x h1 q hq
 ·exact hr q hq
theorem Qlt {r:List RR} (h:∀x∈r,x.Lb) (k:Nat) {y:RR} (hy:y.Lb):∀x∈r.set k y,x.Lb:=by
 intro x hx;rcases List.mem_or_eq_of_mem_set hx with h1 | rfl
 ·exact h x h1
 ·exact hy
theorem Zf.swap {M:List (List RR)} (h:Zf M) (i j:Nat):Zf (Cg M i j):=(h.set i (h.row j)).set j (h.row i)
def Xm (e:Int) (rows:List (List RR)) (X:Option (List (List Rat))):Prop :=
 match X with
 |some M=>e=0∧rows=Be M∧Ey M
 |none=>e=2
theorem Qks {op:Rat→Nat→Option Rat} (hop:∀q k x,op q k=some x→B0 x) {X:Option (List (List Rat))} {n w r k:Nat} {e e':Int} {rows:List (List RR)} {y:RR} (hn:rows.length=n) (hr:r<n) (hd:L8 rows w) (hk:k<w)
  {Z:Option (List (List Rat) × List Rat)} (hZ:X=Z.map fun z=>z.1.set r z.2) (hM:Xm e rows X) (h1:e≠0→e'=e) (h2:e=0→match op (rr (Aj rows r) k).q k with | some z=>e'=0∧y=Ar z | none=>e'=2) :
  Xm e' (rows.set r ((Aj rows r).set k y)) (Z.bind fun z=>(F5 op k z.2).map fun row=>z.1.set r row):=by
 cases Z with
 |none =>
  subst hZ;have:e=2:=hM;exact(h1 (by omega)).trans this
 |some z =>
  subst hZ;obtain⟨M,row⟩:=z;obtain⟨m1,m2,m3⟩:e=0∧rows=Be (M.set r row)∧Ey (M.set r row):=hM;have hMl:M.length=n:=by rw[m2]at hn;simpa[Be]using hn
  have hrow:Aj rows r=row.map Ar:=by rw[m2,Bw,Hs (by omega),if_pos rfl]
  have hkr:k<row.length:=by
   have:=hd r (by omega);rw[hrow,List.length_map]at this;omega
  have hq:(rr (Aj rows r) k).q=Ba row k:=by rw[hrow,Gd hkr,F3]
  have h2:=h2 m1;rw[hq]at h2;show Xm e' _ ((F5 op k row).map fun row=>M.set r row)
  unfold F5;cases ho:op (Ba row k) k with
  |none=>rw[ho]at h2;exact h2
  |some z =>
   rw[ho]at h2;obtain⟨e1,e2⟩:=h2;refine⟨e1,?_,?_⟩
   ·rw[e2,hrow,m2,Pq,Pq,List.set_set,List.map_set]
   ·have:=m3.set r (r:=row.set k z) (Wc (by have:=m3.row r;rwa [Hs (by omega),if_pos rfl]at this) k (hop _ _ _ ho))
    rwa [List.set_set]at this
theorem Jd {q:Rat}:Xw q=0↔q=0:=by
 unfold Xw;constructor
 ·intro h;split at h
  ·cases h
  ·split at h
   ·rename_i h2;exact Rat.num_eq_zero.1 h2
   ·cases h
 ·rintro rfl;rfl
def Qel (rows:List (List RR)) (j r:Nat):Option Nat:=(List.range rows.length).find? fun i=>decide (r≤i)&&!decide (D9 (rr (Aj rows i) j)=0)
theorem U4 {α:Type} {p q:α→Bool}:∀{l:List α},(∀x∈l,p x=q x)→l.find? p=l.find? q
 |[],_=>rfl
 |a::l,h=>by
  rw[List.find?_cons,List.find?_cons,h a (by simp),U4 fun x hx=>h x (by simp[hx])]
theorem Qkv {M:List (List Rat)} (hg:Ey M) {w j:Nat} (hd:L8 M w) (hj:j<w) (r:Nat):Qel (Be M) j r=T3 M j r:=by
 unfold Qel T3;rw[A3];refine U4 ?_;intro i hi;have hi':i<M.length:=List.mem_range.1 hi;have hl:j<(Aj M i).length:=by rw[hd i hi'];exact hj
 rw[Bw,Gd hl,show Ba (Aj M i) j=A6 M i j from rfl,Ns (hg.at hl)]
 congr 2
 simp only[Jd]
theorem Ot {n:Nat} {p:Nat→Bool} {i:Nat} (h:(List.range n).find? p=some i):i<n∧p i=true∧∀k,k<i→p k=false:=by
 rw[List.find?_range_eq_some]at h;exact⟨List.mem_range.1 h.2.1,h.1,fun k hk=>by simpa using h.2.2 k hk⟩
end Go.Av
end
section
namespace Go.Av
open Go.Proofs
section
variable {P:Program} {av:Nat→Prop} {f:FuncId} {args:List AV} {m:Ac} {k:AV→Ac→Prop}
def Ac.only (m:Ac) (l:List Nat):Ac:=fun b=>if b∈l then m b else none
def Ac.back (m:Ac) (l:List Nat) (g:Ac):Ac:=fun b=>match g b with
 |some x=>some x
 |none=>if b∈l then none else m b
theorem Ce {l:List Nat} {b:Nat} (h:b∈l):m.only l b=m b:=if_pos h
theorem B7 {l:List Nat} {b:Nat} (h:b ∉ l):m.only l b=none:=if_neg h
theorem Xx {l:List Nat} {g:Ac} {b:Nat} {x:Fb} (h:g b=some x):m.back l g b=some x:=by unfold Ac.back;rw[h]
theorem Jc {l:List Nat} {g:Ac} {b:Nat} (h:g b=none) (hb:b ∉ l):m.back l g b=m b:=by unfold Ac.back;rw[h];exact if_neg hb
theorem Qgq {l:List Nat} {g:Ac} {b:Nat} (hb:b∈l):m.back l g b=g b:=by
 unfold Ac.back;cases h:g b with
 |none=>exact if_pos hb
 |some x=>rfl
theorem Aa.hand {R:AV→Ac→Prop} (l:List Nat) (hl:∀b∈l,¬av b) (h:Ak P f args (m.only l) R) (hk:∀v g,R v g→(∀b,g b≠none→b∈l∨(m b=none∧¬av b))→k v (m.back l g)):Aa P av f args m k:=by
 refine .inl ⟨m.only l,R,fun c y hy=>?_,h,?_⟩
 ·by_cases hc:c∈l
  ·rw[Ce hc]at hy;exact⟨hy,hl c hc⟩
  ·rw[B7 hc]at hy;cases hy
 ·intro v g hr hf;have e:Ff m (m.only l) g=m.back l g:=by
   funext c
   unfold Ff Ac.back;cases g c with
   |some x=>rfl
   |none =>
    by_cases hc:c∈l
    ·rw[Ce hc,if_pos hc];cases hm:m c<;>rfl
    ·rw[B7 hc,if_neg hc]
  rw[e];refine hk v g hr fun b hb=>?_;rcases hf b hb with h1 | h1
  ·by_cases hc:b∈l
   ·exact .inl hc
   ·exact absurd (B7 hc) h1
  ·exact .inr h1
end
theorem Fa.only {M:Ac} {B:Nat} {bs:List Nat} {rows:List (List RR)} (h:Fa M B bs rows) {l:List Nat} (hl:∀b,b=B∨b∈bs→b∈l):Fa (M.only l) B bs rows :=
 ⟨by rw[Ce (hl B (.inl rfl))];exact h.top,h.len,fun i hi=>by rw[Ce (hl _ (.inr (Ft (by rw[h.len];exact hi))))];exact h.row i hi,h.nd,h.nB⟩
theorem Qe2 (M:Ac) (l:List Nat):D4 (M.only l) l:=by
 intro b hb;rcases Classical.em (b∈l)with h | h
 ·exact h
 ·exact absurd (B7 h) hb
theorem Fa.back {M g:Ac} {B:Nat} {bs:List Nat} {rows:List (List RR)} (h:Fa g B bs rows) (l:List Nat):Fa (M.back l g) B bs rows :=
 ⟨Xx h.top,h.len,fun i hi=>Xx (h.row i hi),h.nd,h.nB⟩
theorem Qka {M:Ac} {l:List Nat} (h:D4 M l):M.only l=M:=by
 funext b
 by_cases hb:b∈l
 ·exact Ce hb
 ·rw[B7 hb,h.none hb]
def Gp (bs:List Nat) (i r:Nat):List Nat:=(bs.set i (nb bs r)).set r (nb bs i)
theorem Qmp {bs:List Nat} {i:Nat} (hi:i<bs.length) (b k:Nat):nb (bs.set i b) k=if k=i then b else nb bs k:=by
 unfold nb;rw[List.getD_eq_getElem?_getD,List.getElem?_set];by_cases h:i=k
 ·subst h;simp[hi]
 ·rw[if_neg h,if_neg (Ne.symm h),←List.getD_eq_getElem?_getD]
theorem Jy {bs:List Nat} {i r:Nat} (hi:i<bs.length) (hr:r<bs.length) (k:Nat):nb (Gp bs i r) k=if k=r then nb bs i else if k=i then nb bs r else nb bs k:=by
 unfold Gp;rw[Qmp (by simpa using hr),Qmp hi]
theorem Kn {α:Type} {rows:List (List α)} {i r:Nat} (hi:i<rows.length) (hr:r<rows.length) (k:Nat):Aj (Cg rows i r) k=if k=r then Aj rows i else if k=i then Aj rows r else Aj rows k:=by
 unfold Cg;rw[Hs (by simpa using hr),Hs hi]
theorem Nm {bs:List Nat} {i r:Nat} (hi:i<bs.length) (hr:r<bs.length) (b:Nat):b∈Gp bs i r↔b∈bs:=by
 have hl:(Gp bs i r).length=bs.length:=by simp[Gp]
 constructor
 ·intro h;obtain⟨k,hk,e⟩:=List.mem_iff_getElem.1 h;rw[←e,←Jp hk,Jy hi hr];rw[hl]at hk;split
  ·exact Ft hi
  ·split
   ·exact Ft hr
   ·exact Ft hk
 ·intro h;obtain⟨k,hk,e⟩:=List.mem_iff_getElem.1 h;rw[←e,←Jp hk];have key:∀k',k'<bs.length→nb (Gp bs i r) k'∈Gp bs i r:=fun k' h'=>Ft (by rw[hl];exact h');by_cases h1:k=i
  ·have:=key r hr;rw[Jy hi hr,if_pos rfl]at this;rw[h1];exact this
  ·by_cases h2:k=r
   ·have:=key i hi;rw[Jy hi hr]at this;rw[h2];by_cases h3:i=r
    ·rw[if_pos h3]at this;rw[←h3];rw[←h3]at this;exact this
    ·rw[if_neg h3,if_pos rfl]at this;exact this
   ·have:=key k hk
    rwa [Jy hi hr,if_neg h2,if_neg h1]at this
theorem Qnu {bs:List Nat} {i r:Nat} (hi:i<bs.length) (hr:r<bs.length) (h:bs.Nodup):(Gp bs i r).Nodup:=by
 have hl:(Gp bs i r).length=bs.length:=by simp[Gp]
 unfold List.Nodup;rw[List.pairwise_iff_getElem];intro x y hx hy hxy;rw[←Jp hx,←Jp hy,Jy hi hr,Jy hi hr];rw[hl]at hy hx;intro e;have inj:∀{a b},a<bs.length→b<bs.length→nb bs a=nb bs b→a=b:=fun ha hb=>Qnq h ha hb;split at e<;>split at e<;>(try split at e)<;>(try split at e)<;>have:=inj (by omega) (by omega) e<;>omega
theorem Qi5 {bs:List Nat} {rows:List (List RR)} (h:bs.length=rows.length) {i r:Nat} (hi:i<rows.length) (hr:r<rows.length) :
  ((F0 bs rows).set i (.osl (nb bs r) 4 0 (Aj rows r).length)).set r (.osl (nb bs i) 4 0 (Aj rows i).length)=F0 (Gp bs i r) (Cg rows i r):=by
 have hl:(Gp bs i r).length=(Cg rows i r).length:=by simp[Gp,Cg,h]
 have h0:(Cg rows i r).length=rows.length:=Lw _ _ _;refine List.ext_getElem? fun k=>?_;by_cases hk:k<rows.length
 ·rw[hdrs_get? hl (by rw[h0];exact hk),Jy (by omega) (by omega),Kn hi hr,List.getElem?_set,List.getElem?_set,hdrs_get? h hk];have e:=Dc h;simp only[List.length_set,e,hi,hr,if_true];by_cases h1:r=k
  ·subst h1;simp
  ·rw[if_neg h1,if_neg (Ne.symm h1),if_neg (Ne.symm h1)];by_cases h2:i=k
   ·subst h2;simp
   ·rw[if_neg h2,if_neg (Ne.symm h2),if_neg (Ne.symm h2)]
 ·rw[List.getElem?_eq_none (by simp[Dc h];omega),List.getElem?_eq_none (by rw[Dc hl,h0];omega)]
theorem Fa.swap {M:Ac} {B:Nat} {bs:List Nat} {rows:List (List RR)} (h:Fa M B bs rows) {i r:Nat} (hi:i<rows.length) (hr:r<rows.length) :
  Fa (M.set B ⟨51,1,((F0 bs rows).set i (.osl (nb bs r) 4 0 (Aj rows r).length)).set r (.osl (nb bs i) 4 0 (Aj rows i).length)⟩) B (Gp bs i r) (Cg rows i r):=by
 have h0:(Cg rows i r).length=rows.length:=Lw _ _ _;have hi':i<bs.length:=by rw[h.len];exact hi
 have hr':r<bs.length:=by rw[h.len];exact hr
 refine⟨by rw[Qi5 h.len hi hr];simp,by rw[h0,←h.len];simp[Gp],fun k hk=>?_,Qnu hi' hr' h.nd,fun hm=>h.nB ((Nm hi' hr' B).1 hm)⟩;rw[h0]at hk;rw[Jy hi' hr',Kn hi hr];have key:∀k,k<rows.length→(M.set B ⟨51,1,((F0 bs rows).set i (.osl (nb bs r) 4 0 (Aj rows r).length)).set r (.osl (nb bs i) 4 0 (Aj rows i).length)⟩) (nb bs k)=some ⟨44,4,Bo (Aj rows k)⟩:=fun k hk=>by
  simp only[A9];rw[if_neg (h.ne hk)];exact h.row k hk
 split
 ·exact key i hi
 ·split
  ·exact key r hr
  ·exact key k hk
attribute [simp high] rrs_get?
theorem D4.set {M:Ac} {l:List Nat} (h:D4 M l) {b:Nat} (hb:b∈l) (x:Fb):D4 (M.set b x) l:=by
 intro c hc;simp only[A9]at hc;by_cases e:c=b
 ·rw[e];exact hb
 ·rw[if_neg e]at hc;exact h c hc
theorem D4.sub {M:Ac} {l l':List Nat} (h:D4 M l) (hs:∀b∈l,b∈l'):D4 M l':=fun c hc=>hs c (h c hc)
theorem Qin {rows:List (List RR)} {j r:Nat} (h:∀k,r≤k→k<rows.length→D9 (rr (Aj rows k) j)=0):Qel rows j r=none:=by
 unfold Qel;rw[List.find?_eq_none];intro k hk;have hk:=List.mem_range.1 hk;by_cases hr:r≤k
 ·simp[h k hr hk]
 ·simp[hr]
theorem Qi3 {rows:List (List RR)} {j r i:Nat} (h:∀k,r≤k→k<i→D9 (rr (Aj rows k) j)=0) (hr:r≤i) (hi:i<rows.length) (hs:¬D9 (rr (Aj rows i) j)=0):Qel rows j r=some i:=by
 unfold Qel;rw[List.find?_range_eq_some];refine⟨by simp[hr,hs],List.mem_range.2 hi,fun k hk=>?_⟩;by_cases hrk:r≤k
 ·simp[h k hrk hk]
 ·simp[hrk]
def Qaq (M:Ac) (B:Nat) (bs:List Nat) (rows:List (List RR)) (j r:Nat) (v:AV) (M':Ac):Prop :=
 match Qel rows j r with
 |none=>v=.tup [.bool false,.bool false]∧M'=M
 |some i=>v=.tup [.bool true,.bool (decide (i≠r))]∧Fa M' B (Gp bs i r) (Cg rows i r)∧D4 M' (B::bs)
theorem Qgc (M:Ac) (B:Nat) (bs:List Nat) (rows:List (List RR)) (hM:Fa M B bs rows) (hO:D4 M (B::bs)) (hlb:Zf rows) (w j r:Nat) (hd:L8 rows w) (hj:j<w) (h1:rows.length<2^40) (h2:w<2^40) (h3:r<2^40) :
  Ak Tryz.prog 144 [.osl B 1 0 rows.length,.int .i64 j,.int .i64 r] M (Qaq M B bs rows j r):=by
 have hones:=hM.ones (l:=[]) hO (by simp);refine Ad Tryz.func144 rfl rfl 42 rfl (Nat.le_of_ble_eq_true rfl) ?_;(repeat refine AW.seq_k fun K hK=>?_);refine AW.rg ?_;simp[Al];try (refine hK _ rfl ?_;clear hK K)
 refine AW.scope (AW.seq (AW.label ?_));intro _;refine AW.seq_ex (ι:=Unit) (fun _=>[]) (fun _=>M) (fun _=>∀k,r≤k→k<rows.length→D9 (rr (Aj rows k) j)=0) ?_ ?_
 ·(repeat refine AW.seq_k fun K hK=>?_);refine AW.rg ?_;simp;try (refine hK _ rfl ?_;clear hK K)
  refine AW.block (AW.loopS (ι:=Nat) (fun i=>[(0,.osl B 1 0 rows.length),(1,.int .i64 j),(2,.int .i64 r),(8,.int .i64 (i:Nat))]) (fun _=>M) (fun i=>r≤i∧∀k,r≤k→k<i→D9 (rr (Aj rows k) j)=0) (fun i=>rows.length-i) r ⟨by omega,by omega⟩ rfl (by simp) ?_);rintro i ⟨g1,g2⟩;(repeat refine AW.seq_k fun K hK=>?_);refine AW.rg ?_;simp;try (refine hK _ rfl ?_;clear hK K)
  (repeat refine AW.seq ?_);refine AW.cs (fun hi=>?_) (fun hi=>?_) rfl<;>(try simp at hi)
  ·refine AW.skip ?_;try simp
   refine hK _ rfl ?_;clear hK K;have w1:=Aq (i+1) (by omega);have hri:r<rows.length:=by omega
   have hwi:=hd i hi;refine AW.seq_ex (ι:=Unit) (fun _=>[(0,.osl B 1 0 rows.length),(1,.int .i64 j),(2,.int .i64 r),(8,.int .i64 (i:Nat))]) (fun _=>M) (fun _=>D9 (rr (Aj rows i) j)=0) ?_ ?_
   ·(repeat refine AW.seq ?_);refine AW.block ?_;have hs:=Oo (rr (Aj rows i) j) (Mg (hlb.row i) j);refine AW.seq_ex (ι:=Unit) (fun _=>[(0,.osl B 1 0 rows.length),(1,.int .i64 j),(2,.int .i64 r),(8,.int .i64 (i:Nat))]) (fun _=>M) (fun _=>¬D9 (rr (Aj rows i) j)=0) ?_ ?_
    ·(repeat refine AW.seq_k fun K hK=>?_);refine AW.rg ?_;simp[hi,hM.top,↓hM.get hi,hM.row i hi,hwi,hj];try (refine hK _ rfl ?_;clear hK K)
     refine Aa.val hs ?_;simp;refine hK _ rfl ?_;clear hK K;(repeat refine AW.seq ?_);refine AW.cs (fun h0=>?_) (fun h0=>?_) rfl<;>(try simp at h0)
     ·refine AW.exit ?_;try simp
      exact h0
     ·refine AW.skip ?_;try simp
      exact h0
    rintro _ h0;(repeat refine AW.seq_k fun K hK=>?_);refine AW.rdA B [0,1,2,3,4,5,6,7,8,9,10,11,12,13,14,15] Dm (by simp[hi,hri,hM.top,↓hM.get hi,↓hM.get hri,Dc hM.len]) ?_;simp[hi,hri,hM.top,↓hM.get hi,↓hM.get hri,Dc hM.len];try (refine hK _ rfl ?_;clear hK K)
    (repeat refine AW.seq_k fun K hK=>?_);refine AW.rg ?_;simp;try (refine hK _ rfl ?_;clear hK K)
    have hO':D4 (M.set B ⟨51,1,((F0 bs rows).set i (.osl (nb bs r) 4 0 (Aj rows r).length)).set r (.osl (nb bs i) 4 0 (Aj rows i).length)⟩) (B::bs):=hO.set (by simp) _;have hb:∀b,b∈B::Gp bs i r↔b∈B::bs:=fun b=>by simp[Nm (bs:=bs) (i:=i) (r:=r) (by rw[hM.len];exact hi) (by rw[hM.len];exact hri) b]
    refine AW.ret (Cf rfl ?_ ?_)
    ·exact(hM.swap hi hri).ones (l:=[]) (hO'.sub fun b h=>(hb b).2 h) (by simp)
    ·unfold Qaq;rw[Qi3 g2 g1 hi h0];refine⟨?_,hM.swap hi hri,hO'⟩;by_cases e:i=r
     ·simp[e]
     ·simp[e]
   ·rintro _ h0;(repeat refine AW.seq_k fun K hK=>?_);refine AW.rg ?_;simp[-Int.natCast_add,w1];try (refine hK _ rfl ?_;clear hK K)
    refine⟨⟨by omega,fun k hk1 hk2=>?_⟩,by omega⟩;rcases Nat.lt_succ_iff_lt_or_eq.1 hk2 with h | rfl
    ·exact g2 k hk1 h
    ·exact h0
  ·refine AW.exit ?_;try simp
   exact fun k a b=>g2 k a (by omega)
 rintro _ hno;(repeat refine AW.seq_k fun K hK=>?_);refine AW.rg ?_;simp;try (refine hK _ rfl ?_;clear hK K)
 refine AW.ret (Cf rfl hones ?_);unfold Qaq;rw[Qin hno];exact⟨rfl,rfl⟩
end Go.Av
end
section
namespace Go.Av
open Go.Proofs
theorem Bm.sub {m m':Ac} (h:∀b x,m' b=some x→m b=some x∧∀v∈x.l,v.cells.all AV.one=true):Bm m m':=by
 refine⟨fun c y hy=>⟨y,(h c y hy).1,rfl,rfl,rfl,fun k v v' q1 q2=>?_⟩⟩;rw[q1]at q2;cases q2;exact⟨.same _,(h c y hy).2 v (List.mem_of_getElem? q1)⟩
theorem Bm.drop {m:Ac} {b:Nat} {x:Fb} (hb:m b=none) (h1:∀c y,m c=some y→∀v∈y.l,v.cells.all AV.one=true):Bm (m.set b x) m :=
 Bm.sub fun c y hy=>⟨by
  simp only[A9];rw[if_neg (by rintro rfl;rw[hb]at hy;cases hy)];exact hy,h1 c y hy⟩
theorem Gh {M:Ac} {b z:Nat} {e:TypeId} {cs:List AV} (hb:M b=none):B2 (M.set b ⟨e,z,[.agg cs]⟩) M (.ptr b z 0 0) (.rptr cs) :=
 B2.ptr b z 0 0 ⟨e,z,[.agg cs]⟩ (.agg cs) (Ac.set_same _ _ _) hb rfl rfl
section
variable {av:Nat→Prop} {m:Ac} {k:AV→Ac→Prop} {c:Nat} {x:AV} {e:Int} {a b:RR}
theorem Quj (hc:m c=some ⟨118,1,[x]⟩) (hv:¬av c) (hx:Fj x e) (ha:a.Lb) (hb:b.Lb) (h:e=0→a.ok=true∧b.ok=true) (hk:∀x',Fj x' (Cp e a (Ej a.q b.q)).1→k (Cp e a (Ej a.q b.q)).2.av (m.set c ⟨118,1,[x']⟩)):Aa Tryz.prog av 110 [.ptr c 1 0 0,a.av,b.av] m k :=
 Aa.grant (R:=fun v y=>v=(Cp e a (Ej a.q b.q)).2.av∧∃x',Fj x' (Cp e a (Ej a.q b.q)).1∧y=⟨118,1,[x']⟩) c _ hc hv ((Qib c x e hx a b ha hb h).mono fun v m ⟨h1,x',h2,h3⟩=>⟨_,⟨h1,x',h2,rfl⟩,h3⟩) (by rintro _ _ ⟨rfl,x',hx',rfl⟩;exact hk x' hx')
theorem Qmt (hc:m c=some ⟨118,1,[x]⟩) (hv:¬av c) (hx:Fj x e) (ha:a.Lb) (hb:b.Lb) (h:e=0→a.ok=true∧b.ok=true) (hk:∀x',Fj x' (Cp e a (Da a.q b.q)).1→k (Cp e a (Da a.q b.q)).2.av (m.set c ⟨118,1,[x']⟩)):Aa Tryz.prog av 146 [.ptr c 1 0 0,a.av,b.av] m k :=
 Aa.grant (R:=fun v y=>v=(Cp e a (Da a.q b.q)).2.av∧∃x',Fj x' (Cp e a (Da a.q b.q)).1∧y=⟨118,1,[x']⟩) c _ hc hv ((Qj9 c x e hx a b ha hb h).mono fun v m ⟨h1,x',h2,h3⟩=>⟨_,⟨h1,x',h2,rfl⟩,h3⟩) (by rintro _ _ ⟨rfl,x',hx',rfl⟩;exact hk x' hx')
theorem Qlh (hc:m c=some ⟨118,1,[x]⟩) (hv:¬av c) (hx:Fj x e) (ha:a.Lb) (hb:b.Lb) (h:e=0→a.ok=true∧b.ok=true) (hk:∀x',Fj x' (Cp e a (Df a.q b.q)).1→k (Cp e a (Df a.q b.q)).2.av (m.set c ⟨118,1,[x']⟩)):Aa Tryz.prog av 111 [.ptr c 1 0 0,a.av,b.av] m k :=
 Aa.grant (R:=fun v y=>v=(Cp e a (Df a.q b.q)).2.av∧∃x',Fj x' (Cp e a (Df a.q b.q)).1∧y=⟨118,1,[x']⟩) c _ hc hv ((Qh8 c x e hx a b ha hb h).mono fun v m ⟨h1,x',h2,h3⟩=>⟨_,⟨h1,x',h2,rfl⟩,h3⟩) (by rintro _ _ ⟨rfl,x',hx',rfl⟩;exact hk x' hx')
theorem Qwt (hc:m c=some ⟨118,1,[x]⟩) (hv:¬av c) (hx:Fj x e) (ha:a.Lb) (hb:b.Lb) (h:e=0→a.ok=true∧b.ok=true∧b.q≠0) (hk:∀x',Fj x' (Cp e a (Fu a.q b.q)).1→k (Cp e a (Fu a.q b.q)).2.av (m.set c ⟨118,1,[x']⟩)):Aa Tryz.prog av 145 [.ptr c 1 0 0,a.av,b.av] m k :=
 Aa.grant (R:=fun v y=>v=(Cp e a (Fu a.q b.q)).2.av∧∃x',Fj x' (Cp e a (Fu a.q b.q)).1∧y=⟨118,1,[x']⟩) c _ hc hv ((Qjp c x e hx a b ha hb h).mono fun v m ⟨h1,x',h2,h3⟩=>⟨_,⟨h1,x',h2,rfl⟩,h3⟩) (by rintro _ _ ⟨rfl,x',hx',rfl⟩;exact hk x' hx')
end
theorem Z4 {e:Int} {rows:List (List RR)} {Z:Option (List (List Rat))} (h:Xm e rows Z) (he:e=0) {i j:Nat} (hj:j<(Aj rows i).length):(rr (Aj rows i) j).ok=true:=by
 cases Z with
 |none=>have:e=2:=h;omega
 |some M =>
  obtain⟨_,m2,m3⟩:e=0∧rows=Be M∧Ey M:=h;subst m2;rw[Bw,List.length_map]at hj;rw[Bw,Gd hj];exact D0 (m3.at hj)
theorem Ib {e:Int} {a:RR} {q:Option Rat} (h:e≠0):Cp e a q=(e,a):=if_neg h
theorem Qha {e:Int} {a:RR} {q:Option Rat} (h:e=0):match q with | some z=>(Cp e a q).1=0∧(Cp e a q).2=Ar z | none=>(Cp e a q).1=2:=by
 unfold Cp;rw[if_pos h];cases q with
 |none=>rfl
 |some z=>exact⟨rfl,rfl⟩
theorem Kr {e:Int} {a:RR} (h:e=0):Cp e a none=(2,T0):=if_pos h
theorem Iz {e:Int} {a:RR} {z:Rat} (h:e=0):Cp e a (some z)=(0,Ar z):=if_pos h
def A0 (l:List Nat):List AV:=l.map fun p=>.int .i64 (p:Nat)
@[simp] theorem Md (l:List Nat):(A0 l).length=l.length:=by simp[A0]
theorem C7 (l:List Nat):∀v∈A0 l,v.cells.all AV.one=true:=by
 intro v hv;obtain⟨p,_,rfl⟩:=List.mem_map.1 hv;rfl
theorem E1 (l:List Nat) (p:Nat):A0 (l++[p])=A0 l++[.int .i64 (p:Nat)]:=by simp[A0]
def Qar (M:Ac) (pv:AV) (pb ps:List Nat):Prop :=
 (ps=[]∧pb=[]∧pv=.nil)∨∃b,pb=[b]∧pv=.osl b 1 0 ps.length∧M b=some ⟨3,1,A0 ps⟩
theorem Qar.keep {M M':Ac} {pv:AV} {pb ps:List Nat} (h:Qar M pv pb ps) (hm:∀b∈pb,M' b=M b):Qar M' pv pb ps:=by
 rcases h with h|⟨b,h1,h2,h3⟩
 ·exact .inl h
 ·exact .inr ⟨b,h1,h2,by rw[hm b (by simp[h1])];exact h3⟩
theorem Qar.len {M:Ac} {pv:AV} {pb ps:List Nat} (h:Qar M pv pb ps) (size bytes:Nat) (e:TypeId) (zero:AV) (fs:List (Nat × Nat × Option Bool)):L4 ⟨size,bytes,.slice e,zero,fs⟩ pv=some (.int .i64 ps.length):=by
 rcases h with⟨rfl,_,rfl⟩|⟨b,_,rfl,_⟩
 ·simp
 ·simp
theorem Qar.view {M:Ac} {pv:AV} {pb ps:List Nat} (h:Qar M pv pb ps):B2 M Ac.emp pv (.sl 1 (A0 ps)):=by
 rcases h with⟨rfl,_,rfl⟩|⟨b,_,rfl,h⟩
 ·exact .nilsl 1
 ·refine .osl b 1 0 ps.length _ _ h rfl rfl (by simp) (by simp) fun j u u' g1 g2=>?_;simp only[Nat.zero_add]at g1;rw[g1]at g2;cases g2;exact .same _
structure Eg (M:Ac) (c B:Nat) (bs:List Nat) (rows:List (List RR)) (x pv:AV) (pb ps:List Nat):Prop where
 mat:Fa M B bs rows
 cell:M c=some ⟨118,1,[x]⟩
 piv:Qar M pv pb ps
 only:D4 M (c::B::(bs++pb))
 cB:c≠B
 cb:c ∉ bs
 pB:B ∉ pb
 pc:c ∉ pb
 pd:∀b∈pb,b ∉ bs
section
variable {M:Ac} {c B:Nat} {bs:List Nat} {rows:List (List RR)} {x pv:AV} {pb ps:List Nat}
theorem Qhm {x:AV} {e:Int} (h:Fj x e):x.cells.all AV.one=true:=by unfold Fj at h;rw[h];rfl
theorem Eg.nc (h:Eg M c B bs rows x pv pb ps) {i:Nat} (hi:i<rows.length):nb bs i≠c:=fun e=>h.cb (e ▸ Ft (by rw[h.mat.len];exact hi))
theorem Eg.np (h:Eg M c B bs rows x pv pb ps) {i:Nat} (hi:i<rows.length):nb bs i ∉ pb:=fun e=>h.pd _ e (Ft (by rw[h.mat.len];exact hi))
theorem Eg.setE (h:Eg M c B bs rows x pv pb ps) (x':AV):Eg (M.set c ⟨118,1,[x']⟩) c B bs rows x' pv pb ps :=
 ⟨h.mat.other h.cB h.cb _,by simp,h.piv.keep fun b hb=>by simp only[A9];rw[if_neg (by rintro rfl;exact h.pc hb)],h.only.set (by simp) _,h.cB,h.cb,h.pB,h.pc,h.pd⟩
theorem Eg.setRow (h:Eg M c B bs rows x pv pb ps) {i:Nat} (hi:i<rows.length) (r:List RR) (hr:r.length=(Aj rows i).length):Eg (M.set (nb bs i) ⟨44,4,Bo r⟩) c B bs (rows.set i r) x pv pb ps :=
 ⟨h.mat.setRow hi r hr,by simp only[A9];rw[if_neg (Ne.symm (h.nc hi))];exact h.cell,h.piv.keep fun b hb=>by simp only[A9];rw[if_neg (by rintro rfl;exact h.np hi hb)],
  h.only.set (by simp[Ft (show i<bs.length by rw[h.mat.len];exact hi)]) _,h.cB,h.cb,h.pB,h.pc,h.pd⟩
theorem Eg.ones (h:Eg M c B bs rows x pv pb ps) {e:Int} (hx:Fj x e):∀(b:Nat) (y:Fb),M b=some y→∀v∈y.l,v.cells.all AV.one=true:=by
 refine h.mat.ones (l:=c::pb) (h.only.sub fun b hb=>by simp at hb ⊢;rcases hb with h | h | h | h<;>simp[h]) fun b hb y hy=>?_
 rcases List.mem_cons.1 hb with rfl|hb
 ·rw[h.cell]at hy;cases hy;intro v hv;simp at hv;subst hv;exact Qhm hx
 ·rcases h.piv with⟨_,h1,_⟩|⟨b',h1,_,h3⟩
  ·rw[h1]at hb;cases hb
  ·rw[h1]at hb;simp at hb;subst hb;rw[h3]at hy;cases hy;exact C7 ps
theorem Eg.back (h:Eg M c B bs rows x pv pb ps) {g:Ac} {bs':List Nat} {rows':List (List RR)} (hg:Fa g B bs' rows') (ho:D4 g (B::bs)) (hb:∀b,b∈bs'↔b∈bs):Eg (M.back (B::bs) g) c B bs' rows' x pv pb ps:=by
 have hout:∀b,b ∉ B::bs→(M.back (B::bs) g) b=M b:=fun b hb=>Jc (ho.none hb) hb;refine⟨hg.back _,by rw[hout c (by simp[h.cB,h.cb])];exact h.cell,h.piv.keep fun b hb'=>hout b ?_,fun b hb'=>?_,h.cB,fun hh=>h.cb ((hb _).1 hh),h.pB,h.pc,fun b h1 h2=>h.pd b h1 ((hb _).1 h2)⟩
 ·simp only[List.mem_cons,not_or];exact⟨by rintro rfl;exact h.pB hb',h.pd b hb'⟩
 ·by_cases hm:b∈B::bs
  ·simp only[List.mem_cons,List.mem_append,hb]at hm ⊢;rcases hm with h | h<;>simp[h]
  ·rw[hout b hm]at hb';have:=h.only b hb';simp only[List.mem_cons,List.mem_append,hb]at this ⊢;exact this
theorem Eg.matOnly (h:Eg M c B bs rows x pv pb ps):Fa (M.only (B::bs)) B bs rows∧D4 (M.only (B::bs)) (B::bs) :=
 ⟨h.mat.only fun b hb=>by simpa using hb,Qe2 _ _⟩
theorem Eg.fresh (h:Eg M c B bs rows x pv pb ps) {b:Nat} (hb:M b=none):b≠c∧b≠B∧b ∉ bs∧b ∉ pb:=by
 refine⟨(by rintro rfl;rw[h.cell]at hb;cases hb),(by rintro rfl;rw[h.mat.top]at hb;cases hb),fun hm=>?_,fun hm=>?_⟩
 ·obtain⟨i,hi,e⟩:=List.mem_iff_getElem.1 hm;rw[←Jp hi]at e;have:=h.mat.row i (by rw[←h.mat.len];exact hi);rw[e,hb]at this;cases this
 ·rcases h.piv with⟨_,h1,_⟩|⟨b',h1,_,h3⟩
  ·rw[h1]at hm;cases hm
  ·rw[h1]at hm;simp at hm;subst hm;rw[h3]at hb;cases hb
theorem Eg.push0 (h:Eg M c B bs rows x .nil [] []) {b:Nat} (hb:M b=none) (j:Nat):Eg (M.set b ⟨3,1,[.int .i64 (j:Nat)]⟩) c B bs rows x (.osl b 1 0 1) [b] [j]:=by
 obtain⟨f1,f2,f3,_⟩:=h.fresh hb;refine⟨h.mat.other f2 f3 _,by simp only[A9];rw[if_neg (Ne.symm f1)];exact h.cell,.inr ⟨b,rfl,rfl,by simp[A0]⟩,?_,h.cB,h.cb,by simpa using Ne.symm f2,by simpa using Ne.symm f1,by simpa using f3⟩;exact(h.only.sub fun a ha=>by simp at ha ⊢;rcases ha with h | h | h<;>simp[h]).set (by simp) _
theorem Eg.push1 {b0:Nat} (h:Eg M c B bs rows x (.osl b0 1 0 ps.length) [b0] ps) {b:Nat} (hb:(M.del b0) b=none) (j:Nat):Eg ((M.del b0).set b ⟨3,1,A0 ps++[.int .i64 (j:Nat)]⟩) c B bs rows x (.osl b 1 0 (ps.length+1)) [b] (ps++[j]):=by
 have hB:B≠b0:=by have:=h.pB;simpa using this
 have hc:c≠b0:=by have:=h.pc;simpa using this
 have hd:b0 ∉ bs:=h.pd b0 (by simp);have hh:Eg (M.del b0) c B bs rows x .nil [] []:=by
  have hdel:∀a,a≠b0→(M.del b0) a=M a:=fun a ha=>if_neg ha;refine⟨⟨by rw[hdel B hB];exact h.mat.top,h.mat.len,fun i hi=>?_,h.mat.nd,h.mat.nB⟩,by rw[hdel c hc];exact h.cell,.inl ⟨rfl,rfl,rfl⟩,fun a ha=>?_,h.cB,h.cb,by simp,by simp,by simp⟩
  ·rw[hdel _ (fun e=>hd (e ▸ Ft (by rw[h.mat.len];exact hi)))];exact h.mat.row i hi
  ·have h1:a≠b0:=by
    rintro rfl;exact ha (if_pos rfl)
   rw[hdel a h1]at ha;have:=h.only a ha;simp at this ⊢;rcases this with h | h | h | h
   ·exact .inl h
   ·exact .inr (.inl h)
   ·exact .inr (.inr h)
   ·exact absurd h h1
 obtain⟨f1,f2,f3,_⟩:=hh.fresh hb;refine⟨hh.mat.other f2 f3 _,by simp only[A9];rw[if_neg (Ne.symm f1)];exact hh.cell,.inr ⟨b,rfl,by simp,by simp[E1]⟩,?_,h.cB,h.cb,by simpa using Ne.symm f2,by simpa using Ne.symm f1,by simpa using f3⟩;exact(hh.only.sub fun a ha=>by simp at ha ⊢;rcases ha with h | h | h<;>simp[h]).set (by simp) _
end
end Go.Av
end
section
namespace Go.Av
open Go.Proofs
theorem Qii (M:Ac) (l:List Nat):M.back l (M.only l)=M:=by
 funext b
 by_cases hb:b∈l
 ·rw[Qgq hb,Ce hb]
 ·rw[Jc (B7 hb) hb]
def Qm3 (c B:Nat) (X0:List (List Rat)) (v:AV) (M':Ac):Prop :=
 ∃x',M' c=some ⟨118,1,[x']⟩∧(∀b y,M' b=some y→∀v∈y.l,v.cells.all AV.one=true)∧match E7 X0 with
 |none=>Fj x' 2
 |some z=>Fj x' 0∧∃bs' pb,Eg M' c B bs' (Be z.1) x' v pb z.2
structure Qvy where
 X:List (List Rat)
 ps:List Nat
 M:Ac
 bs:List Nat
 pv:AV
 pb:List Nat
 x:AV
structure Zr where
 M:Ac
 rows:List (List RR)
 x:AV
 e:Int
def Q13 (X0:List (List Rat)) (c B w j:Nat) (s:Qvy):Prop :=
 Aw Cn j (X0,[])=some (s.X,s.ps)∧Ey s.X∧L8 s.X w∧s.X.length=X0.length∧s.ps.length≤j∧Eg s.M c B s.bs (Be s.X) s.x s.pv s.pb s.ps∧Fj s.x 0
def Mb (c B:Nat) (bs:List Nat) (pv:AV) (pb ps:List Nat) (w n:Nat) (Z:Option (List (List Rat))) (s:Zr):Prop :=
 Eg s.M c B bs s.rows s.x pv pb ps∧Fj s.x s.e∧Zf s.rows∧L8 s.rows w∧s.rows.length=n∧Xm s.e s.rows Z
theorem Mb.row {op:Rat→Nat→Option Rat} (hop:∀q k x,op q k=some x→B0 x) {c B:Nat} {bs:List Nat} {pv:AV} {pb ps:List Nat} {w n:Nat} {Z0:Option (List (List Rat))} {s:Zr} (h:Mb c B bs pv pb ps w n Z0 s) {i k:Nat} (hi:i<n) (hk:k<w)
  {Z:Option (List (List Rat) × List Rat)} (hZ:Z0=Z.map fun z=>z.1.set i z.2) {e':Int} {y:RR} {x':AV} (hx:Fj x' e') (hy:y.Lb) (h1:s.e≠0→e'=s.e) (h2:s.e=0→match op (rr (Aj s.rows i) k).q k with | some z=>e'=0∧y=Ar z | none=>e'=2) :
  Mb c B bs pv pb ps w n (Z.bind fun z=>(F5 op k z.2).map fun row=>z.1.set i row) ⟨(s.M.set c ⟨118,1,[x']⟩).set (nb bs i) ⟨44,4,Bo ((Aj s.rows i).set k y)⟩,s.rows.set i ((Aj s.rows i).set k y),x',e'⟩:=by
 obtain⟨g1,g2,g3,g4,g5,g6⟩:=h;exact⟨(g1.setE x').setRow (by omega) _ (by simp),hx,g3.set i (Qlt (g3.row i) k hy),g4.set (by rw[List.length_set];exact g4 i (by omega)),by simp[g5],Qks hop g5 hi g4 hk hZ g6 h1 h2⟩
theorem Xm.mono {e:Int} {rows:List (List RR)} {Z Z':Option (List (List Rat))} (h:Xm e rows Z) (hZ:Z'=Z):Xm e rows Z':=hZ ▸ h
theorem Mb.to {c B:Nat} {bs:List Nat} {pv:AV} {pb ps:List Nat} {w n:Nat} {Z Z':Option (List (List Rat))} {s:Zr} (h:Mb c B bs pv pb ps w n Z s) (hZ:Z'=Z):Mb c B bs pv pb ps w n Z' s:=hZ ▸ h
theorem Qla {e:Int} {a b f:RR} {bq fq:Rat} (hb:e=0→b.q=bq∧f.q=fq) {e1:Int} {p:RR} (hp:Cp e b (Df b.q f.q)=(e1,p)) :
  (e≠0→(Cp e1 a (Da a.q p.q)).1=e)∧(e=0→match L6 a.q fq bq with | some z=>(Cp e1 a (Da a.q p.q)).1=0∧(Cp e1 a (Da a.q p.q)).2=Ar z | none=>(Cp e1 a (Da a.q p.q)).1=2):=by
 constructor
 ·intro he;rw[Ib he]at hp;cases hp;rw[Ib he]
 ·intro he;obtain⟨h1,h2⟩:=hb he;unfold L6;rw[h1,h2]at hp;cases hm:Df bq fq with
  |none =>
   rw[hm,Kr he]at hp;cases hp;show(Cp 2 a _).1=2
   rw[Ib (by omega)]
  |some m =>
   rw[hm,Iz he]at hp;cases hp;rw[F3];exact Qha rfl
theorem Qqp {e:Int} {b f:RR} (hg:∀z,Df b.q f.q=some z→B0 z) {e1:Int} {p:RR} (hp:Cp e b (Df b.q f.q)=(e1,p)) (h1:e1=0):e=0∧p.ok=true:=by
 by_cases he:e=0
 ·refine⟨he,?_⟩;cases hm:Df b.q f.q with
  |none=>rw[hm,Kr he]at hp;cases hp;omega
  |some m =>
   rw[hm,Iz he]at hp;cases hp;exact D0 (hg m hm)
 ·rw[Ib he]at hp;cases hp;exact absurd h1 he
theorem Yn {a f b c:Rat} (h:L6 a f b=some c):B0 c:=by
 unfold L6 at h;cases hm:Df b f with
 |none=>rw[hm]at h;cases h
 |some m=>rw[hm]at h;exact Qo h
theorem Q8 {M:List (List Rat)} {j r i:Nat} (h:T3 M j r=some i):i<M.length∧r≤i∧A6 M i j≠0:=by
 obtain⟨h1,h2,_⟩:=Ot h;simp at h2;exact⟨h1,h2.1,h2.2⟩
theorem Zo (M0:Ac) (c B:Nat) (bs0:List Nat) (X0:List (List Rat)) (x0:AV) (w:Nat) (hR0:Eg M0 c B bs0 (Be X0) x0 .nil [] []) (hx0:Fj x0 0) (hg0:Ey X0) (hd0:L8 X0 w) (hw:w=(Aj X0 0).length) (hn:X0.length<2^40) (hw2:w<2^40) :
  Ak Tryz.prog 101 [.ptr c 1 0 0,.osl B 1 0 X0.length] M0 (Qm3 c B X0):=by
 have hwid:=Lr (Be X0);have e0:(Aj (Be X0) 0).length=w:=by rw[Bw,List.length_map,hw]
 have hv0:=hR0.mat.view;rw[A3]at hv0;rw[e0]at hwid;have hq:E7 X0=Aw Cn w (X0,[]):=by unfold E7;rw[hw]
 generalize hN:X0.length=n at *;refine Ad Tryz.func101 rfl rfl 129 rfl (Nat.le_of_ble_eq_true rfl) ?_;(repeat refine AW.seq_k fun K hK=>?_);refine AW.rg ?_;simp[Al];try (refine hK _ rfl ?_;clear hK K)
 refine AW.scope ?_;(repeat refine AW.seq_k fun K hK=>?_);refine AW.rg ?_;simp;try (refine hK _ rfl ?_;clear hK K)
 refine AW.seq (AW.label ?_);intro _;refine AW.seq_ex (ι:=Ac × AV) (fun z=>[(5,z.2)]) (fun z=>z.1) (fun z=>Qm3 c B X0 z.2 z.1) ?_ ?_
 ·(repeat refine AW.seq_k fun K hK=>?_);refine AW.rg ?_;simp;try (refine hK _ rfl ?_;clear hK K)
  refine Aa.borrow [Au (Be X0)] (by simpa using hv0) hwid ?_;rintro _ rfl;refine⟨rfl,?_⟩;simp;refine hK _ rfl ?_;clear hK K;refine AW.block (AW.loopS (ι:=Nat × Qvy) (fun z=>[(0,.ptr c 1 0 0),(1,.osl B 1 0 n),(5,z.2.pv),(16,.int .i64 w),(17,.int .i64 (z.1:Nat))]) (fun z=>z.2.M) (fun z=>z.1≤w∧Q13 X0 c B w z.1 z.2) (fun z=>w-z.1) (0,⟨X0,[],M0,bs0,.nil,[],x0⟩) ⟨by simp,rfl,hg0,hd0,rfl,by simp,hR0,hx0⟩ rfl (by simp) ?_);rintro⟨j,X,ps,M,bs,pv,pb,x⟩ ⟨hjw,i1,i2,i3,i4,i5,i6,i7⟩;simp only at hjw i1 i2 i3 i4 i5 i6 i7;rw[hN]at i4;simp only
  (repeat refine AW.seq_k fun K hK=>?_);refine AW.rg ?_;simp;try (refine hK _ rfl ?_;clear hK K)
  (repeat refine AW.seq ?_);refine AW.cs (fun hj=>?_) (fun hj=>?_) rfl<;>(try simp at hj)
  ·refine AW.skip ?_;try simp
   have w1:=Aq (j+1) (by omega);have hlen:=i6.piv.len;refine AW.seq_ex (ι:=Qvy) (fun s=>[(0,.ptr c 1 0 0),(1,.osl B 1 0 n),(5,s.pv),(16,.int .i64 w),(17,.int .i64 (j:Nat))]) (fun s=>s.M) (fun s=>Q13 X0 c B w (j+1) s) ?_ ?_
   ·(repeat refine AW.seq ?_);refine AW.block ?_;(repeat refine AW.seq_k fun K hK=>?_);refine AW.rg ?_;simp;try (refine hK _ rfl ?_;clear hK K)
    (repeat refine AW.seq_k fun K hK=>?_);refine AW.rg ?_;simp[hlen];try (refine hK _ rfl ?_;clear hK K)
    have hp:=Qgc _ B bs (Be X) i6.matOnly.1 i6.matOnly.2 (Mo X) w j ps.length (Qhu i3) hj (by rw[A3];omega) hw2 (by omega);rw[A3,i4]at hp;(repeat refine AW.seq_k fun K hK=>?_);refine AW.rg ?_;simp;try (refine hK _ rfl ?_;clear hK K)
    refine Aa.hand (B::bs) (by simp) hp ?_;intro v g hv _;unfold Qaq at hv;rw[Qkv i2 i3 hj]at hv;have hcol:Aw Cn (j+1) (X0,[])=Cn j (X,ps):=by rw[Bq,i1];rfl
    cases hpq:T3 X j ps.length with
    |none =>
     rw[hpq]at hv;obtain⟨rfl,rfl⟩:=hv;rw[Qii];simp;refine hK _ rfl ?_;clear hK K;(repeat refine AW.seq_k fun K hK=>?_);refine AW.rg ?_;simp;try (refine hK _ rfl ?_;clear hK K)
     refine AW.yes ?_ rfl;refine AW.exit ?_;try simp
     refine⟨⟨X,ps,M,bs,pv,pb,x⟩,⟨?_,i2,i3,by rw[hN];exact i4,by show ps.length≤j+1;omega,i6,i7⟩,by simp⟩;rw[hcol];unfold Cn;simp only[hpq]
    |some i =>
     rw[hpq]at hv;obtain⟨rfl,hg1,hg2⟩:=hv;obtain⟨p1,p2,p3⟩:=Q8 hpq;rw[i4]at p1;have hr:ps.length<n:=by omega
     have hR1:=i6.back hg1 hg2 (fun b=>Nm (bs:=bs) (i:=i) (r:=ps.length) (by rw[i6.mat.len,A3,i4];exact p1) (by rw[i6.mat.len,A3,i4];exact hr) b);rw[←Qax]at hR1;have hcol:Aw Cn (j+1) (X0,[])=(G0 (Cg X i ps.length) j ps.length).map fun M=>(M,ps++[j]):=by rw[hcol];unfold Cn;simp only[hpq]
     have hX1:Ey (Cg X i ps.length):=i2.swap _ _;have hd1:L8 (Cg X i ps.length) w:=i3.swap (by omega) (by omega);have hn1:(Cg X i ps.length).length=n:=by rw[Lw,i4]
     have hdq:A6 (Cg X i ps.length) ps.length j≠0:=by
      unfold A6;rw[Kn (by omega) (by omega),if_pos rfl];exact p3
     generalize Cg X i ps.length=X1 at *;generalize M.back (B::bs) g=M1 at *;generalize Gp bs i ps.length=bs1 at *;generalize decide (i≠ps.length)=sw;simp;refine hK _ rfl ?_;clear hK K;(repeat refine AW.seq_k fun K hK=>?_);refine AW.rg ?_;simp;try (refine hK _ rfl ?_;clear hK K)
     refine AW.no ?_ rfl;refine AW.skip ?_;try simp
     refine hK _ rfl ?_;clear hK K;have hrl:(Aj (Be X1) ps.length).length=w:=by rw[Bw,List.length_map];exact hd1 _ (by omega)
     have hre:ps.length<(Be X1).length:=by rw[A3,hn1];exact hr
     have hde:rr (Aj (Be X1) ps.length) j=Ar (A6 X1 ps.length j):=by rw[Bw,Gd (by rw[hd1 _ (by omega)];exact hj)];rfl
     have hd0:B0 (A6 X1 ps.length j):=hX1.at (by rw[hd1 _ (by omega)];exact hj);(repeat refine AW.seq_k fun K hK=>?_);refine AW.rg ?_;simp[hr,hR1.mat.top,↓hR1.mat.get hre,hR1.mat.row ps.length hre,hrl,hj];try (refine hK _ rfl ?_;clear hK K)
     refine Ae.intro fun b10 hb10=>?_;refine hK _ rfl ?_;clear hK K;have hdlb:(rr (Aj (Be X1) ps.length) j).Lb:=Mg ((Mo X1).row _) j;generalize hrr:ps.length=r at *;generalize hdr:rr (Aj (Be X1) r) j=dr at *;refine AW.turn [(0,.ptr c 1 0 0),(1,.osl B 1 0 n),(5,pv),(16,.int .i64 w),(17,.int .i64 (j:Nat)),(6,.int .i64 (j:Nat)),(7,.int .i64 r),(10,.rptr [.bool dr.n1,Ao dr.l1,.bool dr.n2,Ao dr.l2])] M1 (Bm.drop hb10 (hR1.ones i7)) ?_ ?_
     ·simp[Gh hb10]
     generalize hrow0:Aj X1 r=row0 at *;generalize hd:A6 X1 r j=d at *;refine AW.seq_ex (ι:=Zr) (fun s=>[(0,.ptr c 1 0 0),(1,.osl B 1 0 n),(5,pv),(16,.int .i64 w),(17,.int .i64 (j:Nat)),(6,.int .i64 (j:Nat)),(7,.int .i64 r),(10,.rptr [.bool dr.n1,Ao dr.l1,.bool dr.n2,Ao dr.l2])]) (fun s=>s.M) (fun s=>Mb c B bs1 pv pb ps w n ((Aw (Cx d) w row0).map fun row=>X1.set r row) s) ?_ ?_
     ·(repeat refine AW.seq_k fun K hK=>?_);refine AW.rg ?_;simp[hr,hR1.mat.top,↓hR1.mat.get hre,hrl];try (refine hK _ rfl ?_;clear hK K)
      refine AW.block (AW.loopS (ι:=Nat × Zr) (fun z=>[(0,.ptr c 1 0 0),(1,.osl B 1 0 n),(5,pv),(16,.int .i64 w),(17,.int .i64 (j:Nat)),(6,.int .i64 (j:Nat)),(7,.int .i64 r),(10,.rptr [.bool dr.n1,Ao dr.l1,.bool dr.n2,Ao dr.l2]),(42,.int .i64 w),(43,.int .i64 (z.1:Nat))]) (fun z=>z.2.M) (fun z=>z.1≤w∧Mb c B bs1 pv pb ps w n ((Aw (Cx d) z.1 row0).map fun row=>X1.set r row) z.2) (fun z=>w-z.1) (0,⟨M1,Be X1,x,0⟩) ⟨by simp,hR1,i7,Mo X1,Qhu hd1,by rw[A3,hn1],?_⟩ rfl (by simp) ?_)
      ·show Xm 0 (Be X1) (some (X1.set r row0))
       rw[←hrow0,Ep (by omega),List.set_getElem_self];exact⟨rfl,rfl,hX1⟩
      rintro⟨k,M,rows,x,e⟩ ⟨g1,g2,g3,g4,g5,g6,g7⟩;simp only at g1 g2 g3 g4 g5 g6 g7;(repeat refine AW.seq_k fun K hK=>?_);refine AW.rg ?_;simp;try (refine hK _ rfl ?_;clear hK K)
      (repeat refine AW.seq ?_);refine AW.cs (fun hk=>?_) (fun hk=>?_) rfl<;>(try simp at hk)
      ·refine AW.skip ?_;try simp
       (repeat refine AW.seq ?_);refine AW.block ?_;(repeat refine AW.seq_k fun K hK=>?_);refine AW.rg ?_;simp;try (refine hK _ rfl ?_;clear hK K)
       have hrr':r<rows.length:=by omega
       have hlr:=g5 r hrr';(repeat refine AW.seq_k fun K hK=>?_);refine AW.rdT [] [10] [] [B,nb bs1 r] [0,1,2,3,4,5,6,7,8,9,10,11,12,13,14,15,16] Dm (by simp[hr,hk,g2.mat.top,↓g2.mat.get hrr',g2.mat.row r hrr',hlr]) (by simp[hr,hk,g2.mat.top,↓g2.mat.get hrr',g2.mat.row r hrr',hlr]) (by simp[hr,hk,g2.mat.top,↓g2.mat.get hrr',g2.mat.row r hrr',hlr]) (by simp[hr,hk,g2.mat.top,↓g2.mat.get hrr',g2.mat.row r hrr',hlr]) (by simp[hr,hk,g2.mat.top,↓g2.mat.get hrr',g2.mat.row r hrr',hlr]) ?_;simp[hr,hk,g2.mat.top,↓g2.mat.get hrr',g2.mat.row r hrr',hlr]
       try (refine hK _ rfl ?_;clear hK K)
       have nB:=Ne.symm g2.cB;have nR:=g2.nc hrr';have n0:=g2.mat.ne hrr';refine Qwt (a:=rr (Aj rows r) k) (b:=dr) g2.cell (by simp[nB,Ne.symm nR,g2.cB]) g3 (Mg (g4.row r) k) hdlb (fun he=>⟨Z4 g7 he (by rw[hlr];exact hk),by rw[hde];exact D0 hd0,by rw[hde,F3];exact hdq⟩) ?_;intro x' hx';simp[hr,hk,nR,n0,g2.mat.row r hrr',hlr];have w2:=Aq (k+1) (by omega);(repeat refine AW.seq_k fun K hK=>?_);refine AW.rg ?_;simp[-Int.natCast_add,w2];try (refine hK _ rfl ?_;clear hK K)
       have hs:=Mb.row (op:=fun q _=>Fu q d) (y:=(Cp e (rr (Aj rows r) k) (Fu (rr (Aj rows r) k).q dr.q)).2) (fun q k x hx=>P3 hdq hx) (s:=⟨M,rows,x,e⟩) ⟨g2,g3,g4,g5,g6,g7⟩ hr hk (Z:=(Aw (Cx d) k row0).map fun row=>(X1,row)) (by cases Aw (Cx d) k row0<;>rfl) hx' (Pz (Mg (g4.row r) k)) (fun he=>by rw[Ib he]) (fun he=>by
        have:=Qha (a:=rr (Aj rows r) k) (q:=Fu (rr (Aj rows r) k).q dr.q) he;rw[hde,F3]at this ⊢;exact this)
       exact⟨k+1,_,⟨hk,hs.to (by rw[Bq];cases Aw (Cx d) k row0<;>rfl)⟩,by omega,rfl,rfl⟩
      ·refine AW.exit ?_;try simp
       have:k=w:=by omega
       subst this;exact⟨⟨M,rows,x,e⟩,⟨g2,g3,g4,g5,g6,g7⟩,rfl⟩
     rintro⟨M2,rows2,x2,e2⟩ hs2;simp only;refine AW.seq_ex (ι:=Zr) (fun s=>[(0,.ptr c 1 0 0),(1,.osl B 1 0 n),(5,pv),(16,.int .i64 w),(17,.int .i64 (j:Nat)),(6,.int .i64 (j:Nat)),(7,.int .i64 r),(10,.rptr [.bool dr.n1,Ao dr.l1,.bool dr.n2,Ao dr.l2])]) (fun s=>s.M) (fun s=>Mb c B bs1 pv pb ps w n ((Aw (Cx d) w row0).bind fun row=>Aw (Bv r j) n (X1.set r row)) s) ?_ ?_
     ·(repeat refine AW.seq_k fun K hK=>?_);refine AW.rg ?_;simp;try (refine hK _ rfl ?_;clear hK K)
      refine AW.block (AW.loopS (ι:=Nat × Zr) (fun z=>[(0,.ptr c 1 0 0),(1,.osl B 1 0 n),(5,pv),(16,.int .i64 w),(17,.int .i64 (j:Nat)),(6,.int .i64 (j:Nat)),(7,.int .i64 r),(10,.rptr [.bool dr.n1,Ao dr.l1,.bool dr.n2,Ao dr.l2]),(64,.int .i64 n),(65,.int .i64 (z.1:Nat))]) (fun z=>z.2.M) (fun z=>z.1≤n∧Mb c B bs1 pv pb ps w n ((Aw (Cx d) w row0).bind fun row=>Aw (Bv r j) z.1 (X1.set r row)) z.2) (fun z=>n-z.1) (0,⟨M2,rows2,x2,e2⟩) ⟨by simp,hs2.to (by cases Aw (Cx d) w row0<;>rfl)⟩ rfl (by simp) ?_)
      rintro⟨i,M,rows,x,e⟩ ⟨g1,g2,g3,g4,g5,g6,g7⟩;simp only at g1 g2 g3 g4 g5 g6 g7;generalize hZ:((Aw (Cx d) w row0).bind fun row=>Aw (Bv r j) i (X1.set r row))=Z at g7;have hZ1:((Aw (Cx d) w row0).bind fun row=>Aw (Bv r j) (i+1) (X1.set r row))=Z.bind (Bv r j i):=by
       rw[←hZ];cases Aw (Cx d) w row0<;>rfl
      (repeat refine AW.seq_k fun K hK=>?_);refine AW.rg ?_;simp;try (refine hK _ rfl ?_;clear hK K)
      (repeat refine AW.seq ?_);refine AW.cs (fun hi=>?_) (fun hi=>?_) rfl<;>(try simp at hi)
      ·refine AW.skip ?_;try simp
       have hi':i<rows.length:=by omega
       have hr':r<rows.length:=by omega
       have hli:=g5 i hi';have hlr:=g5 r hr';have w3:=Aq (i+1) (by omega);refine AW.seq_ex (ι:=Zr) (fun s=>[(0,.ptr c 1 0 0),(1,.osl B 1 0 n),(5,pv),(16,.int .i64 w),(17,.int .i64 (j:Nat)),(6,.int .i64 (j:Nat)),(7,.int .i64 r),(10,.rptr [.bool dr.n1,Ao dr.l1,.bool dr.n2,Ao dr.l2]),(64,.int .i64 n),(65,.int .i64 (i:Nat))]) (fun s=>s.M) (fun s=>Mb c B bs1 pv pb ps w n ((Aw (Cx d) w row0).bind fun row=>Aw (Bv r j) (i+1) (X1.set r row)) s) ?_ ?_
       ·(repeat refine AW.seq ?_);refine AW.block ?_;(repeat refine AW.seq_k fun K hK=>?_);refine AW.rg ?_;simp;try (refine hK _ rfl ?_;clear hK K)
        (repeat refine AW.seq_k fun K hK=>?_);refine AW.rg ?_;simp[hi,g2.mat.top,↓g2.mat.get hi',g2.mat.row i hi',hli,hj];try (refine hK _ rfl ?_;clear hK K)
        refine Ae.intro fun b13 hb13=>?_;refine hK _ rfl ?_;clear hK K;have hflb:(rr (Aj rows i) j).Lb:=Mg (g4.row i) j;have hfq:∀X',Z=some X'→rr (Aj rows i) j=Ar (A6 X' i j)∧B0 (A6 X' i j):=by
         intro X' hX';subst hX';obtain⟨_,m2,m3⟩:e=0∧rows=Be X'∧Ey X':=g7;subst m2;have hjl:j<(Aj X' i).length:=by rw[Bw,List.length_map]at hli;omega
         exact⟨by rw[Bw,Gd hjl];rfl,m3.at hjl⟩
        have hsg:=Oo _ hflb;generalize hfr:rr (Aj rows i) j=fr at *;refine AW.turn [(0,.ptr c 1 0 0),(1,.osl B 1 0 n),(5,pv),(16,.int .i64 w),(17,.int .i64 (j:Nat)),(6,.int .i64 (j:Nat)),(7,.int .i64 r),(10,.rptr [.bool dr.n1,Ao dr.l1,.bool dr.n2,Ao dr.l2]),(64,.int .i64 n),(65,.int .i64 (i:Nat)),(12,.int .i64 (i:Nat)),(13,.rptr [.bool fr.n1,Ao fr.l1,.bool fr.n2,Ao fr.l2])] M (Bm.drop hb13 (g2.ones g3)) ?_ ?_
        ·simp[Gh hb13]
        have hskip:i=r∨D9 fr=0→((Aw (Cx d) w row0).bind fun row=>Aw (Bv r j) (i+1) (X1.set r row))=Z:=by
         intro h;rw[hZ1];cases Z with
         |none=>rfl
         |some X' =>
          obtain⟨q1,q2⟩:=hfq X' rfl;have:i=r∨A6 X' i j=0:=h.imp id fun h=>by rw[q1,Ns q2]at h;exact Jd.1 h
          exact if_pos this
        refine AW.seq_ex (ι:=Unit) (fun _=>[(0,.ptr c 1 0 0),(1,.osl B 1 0 n),(5,pv),(16,.int .i64 w),(17,.int .i64 (j:Nat)),(6,.int .i64 (j:Nat)),(7,.int .i64 r),(10,.rptr [.bool dr.n1,Ao dr.l1,.bool dr.n2,Ao dr.l2]),(64,.int .i64 n),(65,.int .i64 (i:Nat)),(12,.int .i64 (i:Nat)),(13,.rptr [.bool fr.n1,Ao fr.l1,.bool fr.n2,Ao fr.l2])]) (fun _=>M) (fun _=>i≠r∧D9 fr≠0) ?_ ?_
        ·by_cases hir:i=r
         ·(repeat refine AW.seq_k fun K hK=>?_);refine AW.rg ?_;simp[hir];try (refine hK _ rfl ?_;clear hK K)
          refine AW.yes ?_ rfl;refine AW.exit ?_;try simp
          exact⟨⟨M,rows,x,e⟩,Mb.to ⟨g2,g3,g4,g5,g6,g7⟩ (hskip (.inl hir)),by simp[hir]⟩
         ·(repeat refine AW.seq_k fun K hK=>?_);refine AW.rg ?_;simp[hir];try (refine hK _ rfl ?_;clear hK K)
          refine Aa.val hsg ?_;simp;refine hK _ rfl ?_;clear hK K;(repeat refine AW.seq ?_);refine AW.cs (fun h0=>?_) (fun h0=>?_) rfl<;>(try simp at h0)
          ·refine AW.exit ?_;try simp
           exact⟨⟨M,rows,x,e⟩,Mb.to ⟨g2,g3,g4,g5,g6,g7⟩ (hskip (.inr h0)),by simp⟩
          ·refine AW.skip ?_;try simp
           exact⟨hir,h0⟩
        rintro _ ⟨h1,h2⟩;have hgo:∀X',Z=some X'→Bv r j i X'=(Aw (E8 (Aj X' r) (A6 X' i j)) (Aj X' i).length (Aj X' i)).map (X'.set i):=by
         intro X' hX';obtain⟨q1,q2⟩:=hfq X' hX';refine if_neg ?_;rintro(h | h)
         ·exact h1 h
         ·exact h2 (by rw[q1,Ns q2];exact Jd.2 h)
        clear hskip;have hZl:∀X',Z=some X'→X'.length=n∧∀k,k<n→(Aj X' k).length=w:=by
         intro X' hX';subst hX';obtain⟨_,m2,_⟩:e=0∧rows=Be X'∧Ey X':=g7;subst m2;rw[A3]at g6;exact⟨g6,fun k hk=>by have:=g5 k (by rw[A3];omega);rwa [Bw,List.length_map]at this⟩
        have hend:((Aw (Cx d) w row0).bind fun row=>Aw (Bv r j) (i+1) (X1.set r row))=Z.bind fun X'=>(Aw (E8 (Aj X' r) (A6 X' i j)) w (Aj X' i)).map (X'.set i):=by
         rw[hZ1];cases hZ2:Z with
         |none=>rfl
         |some X' =>
          show Bv r j i X'=_
          rw[hgo X' hZ2,(hZl X' hZ2).2 i hi];rfl
        have hbeg:(Z.bind fun X'=>(Aw (E8 (Aj X' r) (A6 X' i j)) 0 (Aj X' i)).map (X'.set i))=Z:=by
         cases hZ2:Z with
         |none=>rfl
         |some X' =>
          have:=(hZl X' hZ2).1;show some (X'.set i (Aj X' i))=some X'
          rw[Ep (by omega),List.set_getElem_self]
        (repeat refine AW.seq_k fun K hK=>?_);refine AW.rg ?_;simp[hi,g2.mat.top,↓g2.mat.get hi',hli];try (refine hK _ rfl ?_;clear hK K)
        refine AW.block (AW.loopS (ι:=Nat × Zr) (fun z=>[(0,.ptr c 1 0 0),(1,.osl B 1 0 n),(5,pv),(16,.int .i64 w),(17,.int .i64 (j:Nat)),(6,.int .i64 (j:Nat)),(7,.int .i64 r),(10,.rptr [.bool dr.n1,Ao dr.l1,.bool dr.n2,Ao dr.l2]),(64,.int .i64 n),(65,.int .i64 (i:Nat)),(12,.int .i64 (i:Nat)),(13,.rptr [.bool fr.n1,Ao fr.l1,.bool fr.n2,Ao fr.l2]),(87,.int .i64 w),(88,.int .i64 (z.1:Nat))]) (fun z=>z.2.M) (fun z=>z.1≤w∧Mb c B bs1 pv pb ps w n (Z.bind fun X'=>(Aw (E8 (Aj X' r) (A6 X' i j)) z.1 (Aj X' i)).map (X'.set i)) z.2) (fun z=>w-z.1) (0,⟨M,rows,x,e⟩) ⟨by simp,Mb.to ⟨g2,g3,g4,g5,g6,g7⟩ hbeg⟩ rfl (by simp) ?_)
        clear hbeg;clear g2 g3 g4 g5 g6 hi' hr' hli hlr;rintro⟨k,M,rows,x,e⟩ ⟨g1,g2,g3,g4,g5,g6,g8⟩;simp only at g1 g2 g3 g4 g5 g6 g8;(repeat refine AW.seq_k fun K hK=>?_);refine AW.rg ?_;simp;try (refine hK _ rfl ?_;clear hK K)
        (repeat refine AW.seq ?_);refine AW.cs (fun hk=>?_) (fun hk=>?_) rfl<;>(try simp at hk)
        ·refine AW.skip ?_;try simp
         (repeat refine AW.seq ?_);refine AW.block ?_;(repeat refine AW.seq_k fun K hK=>?_);refine AW.rg ?_;simp;try (refine hK _ rfl ?_;clear hK K)
         have hi':i<rows.length:=by omega
         have hr':r<rows.length:=by omega
         have hli:=g5 i hi';have hlr:=g5 r hr';have nB:=Ne.symm g2.cB;have nI:=g2.nc hi';have nR:=g2.nc hr';have n0:=g2.mat.ne hi';have hb:e=0→(rr (Aj rows r) k).q=Ba (Aj (Z.getD []) r) k∧fr.q=A6 (Z.getD []) i j:=by
          intro he;cases hZ2:Z with
          |none=>rw[hZ2]at g8;have:e=2:=g8;omega
          |some X' =>
           rw[hZ2]at g8;obtain⟨q1,q2⟩:=hfq X' hZ2;show _=Ba (Aj X' r) k∧fr.q=A6 X' i j
           refine⟨?_,by rw[q1,F3]⟩;replace g8:Xm e rows ((Aw (E8 (Aj X' r) (A6 X' i j)) k (Aj X' i)).map (X'.set i)):=g8;cases hit:Aw (E8 (Aj X' r) (A6 X' i j)) k (Aj X' i)with
           |none=>rw[hit]at g8;have:e=2:=g8;omega
           |some row =>
            rw[hit]at g8;obtain⟨_,m2,_⟩:e=0∧rows=Be (X'.set i row)∧Ey (X'.set i row):=g8;rw[m2,Bw,Hs (by rw[(hZl X' hZ2).1];exact hi),if_neg (Ne.symm h1),Gd (by rw[(hZl X' hZ2).2 r hr];exact hk),F3]
         (repeat refine AW.seq_k fun K hK=>?_);refine AW.rdT [] [13] [] [B,nb bs1 i,nb bs1 r] [0,1,2,3,4,5,6,7,8,9,10,11,12,13,14,15,16,17,18,19,20,21,22,23,24,25] Dm (by simp[hi,hr,hk,g2.mat.top,↓g2.mat.get hi',↓g2.mat.get hr',g2.mat.row i hi',g2.mat.row r hr',hli,hlr]) (by simp[hi,hr,hk,g2.mat.top,↓g2.mat.get hi',↓g2.mat.get hr',g2.mat.row i hi',g2.mat.row r hr',hli,hlr]) (by simp[hi,hr,hk,g2.mat.top,↓g2.mat.get hi',↓g2.mat.get hr',g2.mat.row i hi',g2.mat.row r hr',hli,hlr]) (by simp[hi,hr,hk,g2.mat.top,↓g2.mat.get hi',↓g2.mat.get hr',g2.mat.row i hi',g2.mat.row r hr',hli,hlr]) (by simp[hi,hr,hk,g2.mat.top,↓g2.mat.get hi',↓g2.mat.get hr',g2.mat.row i hi',g2.mat.row r hr',hli,hlr]) ?_
         simp[hi,hr,hk,g2.mat.top,↓g2.mat.get hi',↓g2.mat.get hr',g2.mat.row i hi',g2.mat.row r hr',hli,hlr];try (refine hK _ rfl ?_;clear hK K)
         have hfok:e=0→fr.ok=true:=by
          intro he;cases hZ2:Z with
          |none=>rw[hZ2]at g8;have:e=2:=g8;omega
          |some X'=>obtain⟨q1,q2⟩:=hfq X' hZ2;rw[q1];exact D0 q2
         refine Qlh (a:=rr (Aj rows r) k) (b:=fr) g2.cell (by simp[nB,Ne.symm nR,Ne.symm nI,g2.cB]) g3 (Mg (g4.row r) k) hflb (fun he=>⟨Z4 g8 he (by rw[hlr];exact hk),hfok he⟩) ?_;intro x1 hx1;have hplb:(Cp e (rr (Aj rows r) k) (Df (rr (Aj rows r) k).q fr.q)).2.Lb:=Pz (Mg (g4.row r) k);have hlo:=Qla (a:=rr (Aj rows i) k) hb (e1:=(Cp e (rr (Aj rows r) k) (Df (rr (Aj rows r) k).q fr.q)).1) (p:=(Cp e (rr (Aj rows r) k) (Df (rr (Aj rows r) k).q fr.q)).2) rfl;have hlk:=Qqp (b:=rr (Aj rows r) k) (f:=fr) (e:=e) (fun z hz=>Qc0 hz) (e1:=(Cp e (rr (Aj rows r) k) (Df (rr (Aj rows r) k).q fr.q)).1) (p:=(Cp e (rr (Aj rows r) k) (Df (rr (Aj rows r) k).q fr.q)).2) rfl
         generalize(Cp e (rr (Aj rows r) k) (Df (rr (Aj rows r) k).q fr.q))=ep at *;obtain⟨e1,p⟩:=ep;simp only at hx1 hplb hlo hlk;simp;refine Qmt (a:=rr (Aj rows i) k) (b:=p) (Ac.set_same _ _ _) (by simp[nB,Ne.symm nR,Ne.symm nI,g2.cB]) hx1 (Mg (g4.row i) k) hplb (fun he=>⟨Z4 g8 (hlk he).1 (by rw[hli];exact hk),(hlk he).2⟩) ?_;intro x2 hx2;simp[hi,hk,nI,nR,n0,g2.mat.row i hi',hli];have w2:=Aq (k+1) (by omega);(repeat refine AW.seq_k fun K hK=>?_);refine AW.rg ?_;simp[-Int.natCast_add,w2];try (refine hK _ rfl ?_;clear hK K)
         have hs:=Mb.row (op:=fun q k=>L6 q (A6 (Z.getD []) i j) (Ba (Aj (Z.getD []) r) k)) (y:=(Cp e1 (rr (Aj rows i) k) (Da (rr (Aj rows i) k).q p.q)).2) (fun q k x hx=>Yn hx) (s:=⟨M,rows,x,e⟩) ⟨g2,g3,g4,g5,g6,g8⟩ hi hk (Z:=Z.bind fun X'=>(Aw (E8 (Aj X' r) (A6 X' i j)) k (Aj X' i)).map fun row=>(X',row)) (by
          cases Z with
          |none=>rfl
          |some X' =>
           show(Aw _ k (Aj X' i)).map _=_
           cases hit:Aw (E8 (Aj X' r) (A6 X' i j)) k (Aj X' i)<;>simp[hit]) hx2 (Pz (Mg (g4.row i) k)) hlo.1 hlo.2
         exact⟨k+1,_,⟨hk,hs.to (by
          cases Z with
          |none=>rfl
          |some X' =>
           show(Aw _ (k+1) (Aj X' i)).map _=_
           rw[Bq];cases hit:Aw (E8 (Aj X' r) (A6 X' i j)) k (Aj X' i)with
           |none=>simp[hit]
           |some row=>simp[hit];rfl)⟩,by omega,rfl,rfl⟩
        ·refine AW.exit ?_;try simp
         have:k=w:=by omega
         subst this;exact⟨⟨M,rows,x,e⟩,Mb.to ⟨g2,g3,g4,g5,g6,g8⟩ hend,rfl⟩
       rintro⟨M3,rows3,x3,e3⟩ hs3;(repeat refine AW.seq_k fun K hK=>?_);refine AW.rg ?_;simp[-Int.natCast_add,w3];try (refine hK _ rfl ?_;clear hK K)
       exact⟨i+1,⟨M3,rows3,x3,e3⟩,⟨hi,hs3⟩,by omega,rfl,rfl⟩
      ·refine AW.exit ?_;try simp
       have:i=n:=by omega
       subst this;exact⟨⟨M,rows,x,e⟩,⟨g2,g3,g4,g5,g6,hZ ▸ g7⟩,rfl⟩
     rintro⟨M3,rows3,x3,e3⟩ ⟨g1,g2,g3,g4,g5,g6⟩;simp only at g1 g2 g3 g4 g5 g6;simp only;have hcl:G0 X1 j r=(Aw (Cx d) w row0).bind fun row=>Aw (Bv r j) n (X1.set r row):=by
      unfold G0;rw[hd,hrow0,hn1,show row0.length=w by rw[←hrow0];exact hd1 r (by omega)]
     rw[hcl]at hcol;refine AW.seq_ex (ι:=Ac × Nat) (fun z=>[(0,.ptr c 1 0 0),(1,.osl B 1 0 n),(5,.osl z.2 1 0 (r+1)),(16,.int .i64 w),(17,.int .i64 (j:Nat))]) (fun z=>z.1) (fun z=>Eg z.1 c B bs1 rows3 x3 (.osl z.2 1 0 (r+1)) [z.2] (ps++[j])) ?_ ?_
     ·rcases g1.piv with⟨z1,z2,z3⟩|⟨b0,z2,z3,z4⟩
      ·subst z1 z2 z3;have hr0:r=0:=hrr.symm;subst hr0;(repeat refine AW.seq_k fun K hK=>?_);refine AW.rgR [120] ?_;simp;try (refine hK _ rfl ?_;clear hK K)
       exact⟨by unfold maxLen;omega,Ae.intro fun b hb=>g1.push0 hb j⟩
      ·subst z2 z3;have hps:ps.length<2^40:=by omega
       (repeat refine AW.seq_k fun K hK=>?_);refine AW.rgR [120] ?_;simp[z4];try (refine hK _ rfl ?_;clear hK K)
       refine⟨by omega,by unfold maxLen;omega,Ae.intro fun b hb=>⟨_,b,?_,rfl,rfl,hrr⟩⟩;have:=g1.push1 hb j
       rwa [hrr]at this
     rintro⟨M4,b4⟩ hR4;simp only at hR4;have hx3:x3.cells=[.int .i64 e3]:=g2;(repeat refine AW.seq_k fun K hK=>?_);refine AW.rg ?_;simp[hR4.cell,hx3];try (refine hK _ rfl ?_;clear hK K)
     (repeat refine AW.seq ?_);refine AW.cs (fun he=>?_) (fun he=>?_) rfl<;>(try simp at he)
     ·refine AW.exit ?_;try simp
      have hno:Aw Cn (j+1) (X0,[])=none:=by
       rw[hcol];generalize((Aw (Cx d) w row0).bind fun row=>Aw (Bv r j) n (X1.set r row))=Z at g6;cases Z with
       |none=>rfl
       |some Y=>exact absurd g6.1 he
      have he2:e3=2:=by
       generalize((Aw (Cx d) w row0).bind fun row=>Aw (Bv r j) n (X1.set r row))=Z at g6;cases Z with
       |none=>exact g6
       |some Y=>exact absurd g6.1 he
      refine⟨x3,hR4.cell,hR4.ones g2,?_⟩;rw[hq,Se hno (by omega)];rw[he2]at g2;exact g2
     ·refine AW.skip ?_;try simp
      generalize((Aw (Cx d) w row0).bind fun row=>Aw (Bv r j) n (X1.set r row))=Z at g6 hcol;cases Z with
      |none=>have:e3=2:=g6;omega
      |some Y =>
       obtain⟨_,m2,m3⟩:e3=0∧rows3=Be Y∧Ey Y:=g6;subst m2;refine⟨⟨Y,ps++[j],M4,bs1,.osl b4 1 0 (r+1),[b4],x3⟩,⟨hcol,m3,?_,?_,by simp[hrr];omega,hR4,he ▸ g2⟩,rfl,rfl⟩
       ·intro i hi;have:=g4 i (by rw[A3];exact hi)
        rwa [Bw,List.length_map]at this
       ·rw[A3]at g5;rw[hN];exact g5
   rintro⟨X,ps,M,bs,pv,pb,x⟩ hs;(repeat refine AW.seq_k fun K hK=>?_);refine AW.rg ?_;simp[-Int.natCast_add,w1];try (refine hK _ rfl ?_;clear hK K)
   exact⟨j+1,⟨X,ps,M,bs,pv,pb,x⟩,⟨hj,hs⟩,by omega,by simp⟩
  ·refine AW.exit ?_;try simp
   have:j=w:=by omega
   subst this;refine⟨x,i6.cell,i6.ones i7,?_⟩;rw[hq,i1];exact⟨i7,bs,pb,i6⟩
 rintro⟨M,pv⟩ hs;(repeat refine AW.seq_k fun K hK=>?_);refine AW.rg ?_;simp;try (refine hK _ rfl ?_;clear hK K)
 obtain⟨x',h1,h2,h3⟩:=hs;exact AW.ret (Cf rfl h2 ⟨x',h1,h2,h3⟩)
end Go.Av
end
section
namespace Go.Av
open Go.Proofs
section
variable {P:Program} {av:Nat→Prop} {f:FuncId} {args:List AV} {m:Ac} {k:AV→Ac→Prop}
theorem Aa.news {R:AV→Ac→Prop} (h:Ak P f args Ac.emp R) (hk:∀v g,R v g→(∀b,g b≠none→m b=none∧¬av b)→k v (m.back [] g)):Aa P av f args m k:=by
 have e:m.only []=Ac.emp:=by funext b;rfl
 refine Aa.hand [] (by simp) (by rw[e];exact h) fun v g hr hf=>hk v g hr fun b hb=>?_;rcases hf b hb with h | h
 ·cases h
 ·exact h
theorem Aa.whole {R:AV→Ac→Prop} (hav:∀b,¬av b) (h:Ak P f args m R) (hk:∀v g,R v g→k v g):Aa P av f args m k:=by
 refine .inl ⟨m,R,fun c y hy=>⟨hy,hav c⟩,h,fun v g hr _=>?_⟩;have e:Ff m m g=g:=by
  funext c
  unfold Ff;cases g c with
  |some x=>rfl
  |none=>cases hm:m c<;>rfl
 rw[e];exact hk v g hr
end
def Pj (m:List (List RR)):List (List Rat):=m.map fun r=>r.map RR.q
theorem Hi (m:List (List RR)):(Pj m).length=m.length:=by simp[Pj]
theorem Jv (m:List (List RR)) (i:Nat):Aj (Pj m) i=(Aj m i).map RR.q:=by
 unfold Aj Pj;rw[List.getD_eq_getElem?_getD,List.getD_eq_getElem?_getD,List.getElem?_map];cases m[i]?<;>rfl
theorem Qlw {m:List (List RR)} (h:Sx m=0):¬(64<m.length∨Mv m)∧Rs m:=by
 by_cases h1:64<m.length∨Mv m
 ·rw[Zq h1]at h;omega
 ·refine⟨h1,?_⟩;by_cases h2:Rs m
  ·exact h2
  ·rw[Qan h1 h2]at h;omega
theorem Qgs {m:List (List RR)} {r:List RR} (h:r∈m):∃i,i<m.length∧Aj m i=r:=by
 obtain⟨i,hi,e⟩:=List.mem_iff_getElem.1 h;exact⟨i,hi,by rw[Ep hi,e]⟩
theorem Qv6 {r:List RR} {x:RR} (h:x∈r):∃j,j<r.length∧rr r j=x:=by
 obtain⟨j,hj,e⟩:=List.mem_iff_getElem.1 h;exact⟨j,hj,by rw[Ja hj,e]⟩
theorem T8 {m:List (List RR)} (hm:Zf m) (h:Sx m=0):m=Be (Pj m)∧Ey (Pj m)∧L8 (Pj m) (Aj (Pj m) 0).length∧m.length≤64∧(Aj (Pj m) 0).length≤64:=by
 obtain⟨h1,h2⟩:=Qlw h;have hok:∀r∈m,∀x∈r,x.ok=true:=by
  intro r hr x hx;obtain⟨i,hi,rfl⟩:=Qgs hr;obtain⟨j,hj,rfl⟩:=Qv6 hx;exact(h2 i hi).2 j hj
 refine⟨?_,?_,?_,?_,?_⟩
 ·unfold Be Pj;rw[List.map_map]
  conv=>lhs;rw[←List.map_id m]
  refine List.map_congr_left fun r hr=>?_;show r=(r.map RR.q).map Ar
  rw[List.map_map]
  conv=>lhs;rw[←List.map_id r]
  refine List.map_congr_left fun x hx=>?_;exact(Et (hm r hr x hx) (hok r hr x hx)).2
 ·intro r hr q hq;obtain⟨s,hs,rfl⟩:=List.mem_map.1 hr;obtain⟨x,hx,rfl⟩:=List.mem_map.1 hq;exact(Et (hm s hs x hx) (hok s hs x hx)).1
 ·intro i hi;rw[Jv,Jv,List.length_map,List.length_map];exact(h2 i (by rwa [Hi]at hi)).1
 ·rcases Nat.lt_or_ge 64 m.length with h|h
  ·exact absurd (.inl h) h1
  ·exact h
 ·rw[Jv,List.length_map];rcases Nat.lt_or_ge 64 (Aj m 0).length with h | h
  ·rcases Nat.eq_zero_or_pos m.length with h0|h0
   ·have:m=[]:=List.eq_nil_of_length_eq_zero h0;subst this;simp[Aj]at h
   ·exact absurd (.inr ⟨0,h0,h⟩) h1
  ·exact h
/-! ### What the steps keep -/
def Ef (r:List Rat):Prop:=∀q∈r,B0 q
theorem Kw {α:Type} {f:Nat→α→Option α} {p:α→Prop} (h:∀i s t,p s→f i s=some t→p t):∀{n:Nat} {s t:α},p s→Aw f n s=some t→p t
 |0,s,t,hs,he=>by cases he;exact hs
 |n+1,s,t,hs,he=>by
  rw[Bq]at he;cases hm:Aw f n s with
  |none=>rw[hm]at he;cases he
  |some u=>rw[hm]at he;exact h n u t (Kw h hs hm) he
theorem It {op:Rat→Nat→Option Rat} (hop:∀q k x,op q k=some x→B0 x) {w k:Nat} {row row':List Rat} (h:Ef row∧row.length=w) (he:F5 op k row=some row'):Ef row'∧row'.length=w:=by
 unfold F5 at he;cases ho:op (Ba row k) k with
 |none=>rw[ho]at he;cases he
 |some z=>rw[ho]at he;cases he;exact⟨Wc h.1 k (hop _ _ _ ho),by simpa using h.2⟩
def Bf (n w:Nat) (M:List (List Rat)):Prop:=Ey M∧L8 M w∧M.length=n
theorem Bf.set {n w:Nat} {M:List (List Rat)} (h:Bf n w M) (i:Nat) {r:List Rat} (hr:Ef r∧r.length=w):Bf n w (M.set i r) :=
 ⟨h.1.set i hr.1,h.2.1.set hr.2,by simpa using h.2.2⟩
theorem Bf.row {n w:Nat} {M:List (List Rat)} (h:Bf n w M) {i:Nat} (hi:i<n):Ef (Aj M i)∧(Aj M i).length=w:=⟨h.1.row i,h.2.1 i (by rw[h.2.2];exact hi)⟩
theorem Bf.swap {n w:Nat} {M:List (List Rat)} (h:Bf n w M) {i j:Nat} (hi:i<n) (hj:j<n):Bf n w (Cg M i j):=(h.set i (h.row hj)).set j (h.row hi)
theorem Ra {n w r j i:Nat} {M M':List (List Rat)} (hi:i<n) (h:Bf n w M) (he:Bv r j i M=some M'):Bf n w M':=by
 unfold Bv at he;split at he
 ·cases he;exact h
 ·cases hm:Aw (E8 (Aj M r) (A6 M i j)) (Aj M i).length (Aj M i)with
  |none=>rw[hm]at he;cases he
  |some row =>
   rw[hm]at he;cases he;exact h.set i (Kw (p:=fun row=>Ef row∧row.length=w) (fun k s t hs hst=>It (fun q k x hx=>Yn hx) hs hst) (h.row hi) hm)
theorem Up {α:Type} {f:Nat→α→Option α} {p:α→Prop}:∀{n:Nat} (h:∀i s t,i<n→p s→f i s=some t→p t) {s t:α},p s→Aw f n s=some t→p t
 |0,_,s,t,hs,he=>by cases he;exact hs
 |n+1,h,s,t,hs,he=>by
  rw[Bq]at he;cases hm:Aw f n s with
  |none=>rw[hm]at he;cases he
  |some u=>rw[hm]at he;exact h n u t (by omega) (Up (fun i s t hi=>h i s t (by omega)) hs hm) he
theorem Wo {n w r j:Nat} {M M':List (List Rat)} (hr:r<n) (h:Bf n w M) (hd:A6 M r j≠0) (he:G0 M j r=some M'):Bf n w M':=by
 unfold G0 at he;cases hm:Aw (Cx (A6 M r j)) (Aj M r).length (Aj M r)with
 |none=>rw[hm]at he;cases he
 |some row =>
  rw[hm]at he;have h1:=Kw (p:=fun row=>Ef row∧row.length=w) (fun k s t hs hst=>It (fun q k x hx=>P3 hd hx) hs hst) (h.row hr) hm;have he':Aw (Bv r j) n (M.set r row)=some M':=by rw[←h.2.2];exact he
  exact Up (p:=Bf n w) (fun i s t hi hs hst=>Ra hi hs hst) (h.set r h1) he'
def K9 (n w j:Nat) (z:List (List Rat) × List Nat):Prop:=Bf n w z.1∧z.2.length≤n∧z.2.length≤j∧∀p∈z.2,p<j
theorem Qmx {n w j:Nat} {z z':List (List Rat) × List Nat} (h:K9 n w j z) (he:Cn j z=some z'):K9 n w (j+1) z':=by
 obtain⟨h1,h2,h3,h4⟩:=h;unfold Cn at he;cases hp:T3 z.1 j z.2.length with
 |none=>simp only[hp]at he;cases he;exact⟨h1,h2,by omega,fun p hp=>by have:=h4 p hp;omega⟩
 |some i =>
  simp only[hp]at he;obtain⟨p1,p2,p3⟩:=Q8 hp;rw[h1.2.2]at p1;have hr:z.2.length<n:=by omega
  cases hc:G0 (Cg z.1 i z.2.length) j z.2.length with
  |none=>rw[hc]at he;cases he
  |some M =>
   rw[hc]at he;cases he;refine⟨Wo hr (h1.swap p1 hr) ?_ hc,by simp;omega,by simp;omega,fun p hp=>?_⟩
   ·unfold A6;rw[Kn (by rw[h1.2.2];exact p1) (by rw[h1.2.2];exact hr),if_pos rfl];exact p3
   ·simp at hp;rcases hp with hp | rfl
    ·have:=h4 p hp;omega
    ·omega
theorem R5 {n w:Nat} {z0:List (List Rat) × List Nat} (h:K9 n w 0 z0):∀{j:Nat} {z:List (List Rat) × List Nat},Aw Cn j z0=some z→K9 n w j z
 |0,z,he=>by cases he;exact h
 |j+1,z,he=>by
  rw[Bq]at he;cases hm:Aw Cn j z0 with
  |none=>rw[hm]at he;cases he
  |some u=>rw[hm]at he;exact Qmx (R5 h hm) he
theorem Tc {n w:Nat} {M:List (List Rat)} (h:Bf n w M) {z:List (List Rat) × List Nat} (he:E7 M=some z):K9 n (w) ((Aj M 0).length) z :=
 R5 (z0:=(M,[])) ⟨h,by simp,by simp,by simp⟩ he
/-! ### Reduce -/
theorem Qj1 {X:List (List Rat)} (h:Ey X):Qk9 (Be X):=by
 intro r hr x hx;obtain⟨s,hs,rfl⟩:=List.mem_map.1 hr;obtain⟨q,hq,rfl⟩:=List.mem_map.1 hx;have:=h s hs q hq;have key:∀n,n<Bj→(Ap n).length<2^40:=fun n hn=>by
  have:=Bi hn;omega
 exact⟨key _ this.1,key _ this.2⟩
noncomputable def G2 (m:List (List RR)):Int × List (List Rat) × List Nat :=
 if Sx m≠0 then (Sx m,[],[]) else match E7 (Pj m)with
  |none=>(2,[],[])
  |some z=>(0,z.1,z.2)
theorem Eg.start {X:List (List Rat)} {c:Nat} {x:AV} {g:Ac} {B:Nat} {bs:List Nat} (hg:Fa g B bs (Be X)) (ho:D4 g (B::bs)) (hf:∀b,g b≠none→(Ac.emp.set c ⟨118,1,[x]⟩) b=none) :
  Eg ((Ac.emp.set c ⟨118,1,[x]⟩).back [] g) c B bs (Be X) x .nil [] []:=by
 have hc:g c=none:=by
  cases h:g c with
  |none=>rfl
  |some y=>have:=hf c (by rw[h];simp);simp at this
 refine⟨hg.back _,by rw[Jc hc (by simp)];simp,.inl ⟨rfl,rfl,rfl⟩,fun b hb=>?_,?_,fun hm=>?_,by simp,by simp,by simp⟩
 ·cases h:g b with
  |some y=>have:=ho b (by rw[h];simp);simp at this ⊢;exact .inr this
  |none =>
   rw[Jc h (by simp)]at hb;by_cases e:b=c
   ·simp[e]
   ·simp[e]at hb
 ·rintro rfl;rw[hg.top]at hc;cases hc
 ·obtain⟨i,hi,e⟩:=List.mem_iff_getElem.1 hm;rw[←Jp hi]at e;have:=hg.row i (by rw[←hg.len];exact hi);rw[e,hc]at this;cases this
theorem Pv (m:List (List RR)) (hm:Zf m):Ak Tryz.prog 66 [Au m] Ac.emp fun v mm=>v=.tup [Au (Be (G2 m).2.1),.sl 1 (A0 (G2 m).2.2),.int .i64 (G2 m).1]∧mm=Ac.emp:=by
 have hck:=O7 m hm;by_cases h0:Sx m=0
 ·obtain⟨h1,h2,h3,h4,h5⟩:=T8 hm h0;have hR:G2 m=match E7 (Pj m)with
   |none=>(2,[],[])
   |some z=>(0,z.1,z.2):=by unfold G2;rw[if_neg (by simp[h0])]
  have hlen:=Hi m;rw[h0]at hck;have hcl:=Qfd m (by rw[h1];exact Qj1 h2) (by omega) (fun r hr=>by
   obtain⟨i,hi,rfl⟩:=Qgs hr;have:=h3 i (by rw[hlen];exact hi);rw[Jv,List.length_map]at this;omega)
  rw[hR];clear hR;generalize Pj m=X at *;subst h1;rw[A3]at *;have hrd:=fun(M0:Ac) (c B:Nat) (bs0:List Nat) (x0:AV) (hR0:Eg M0 c B bs0 (Be X) x0 .nil [] []) (hx0:Fj x0 0)=>Zo M0 c B bs0 X x0 _ hR0 hx0 h2 h3 rfl (by omega) (by omega);refine Ad Tryz.func66 rfl rfl 32 rfl (Nat.le_of_ble_eq_true rfl) ?_;(repeat refine AW.seq_k fun K hK=>?_);refine AW.rg ?_;simp[Al];try (refine hK _ rfl ?_;clear hK K)
  (repeat refine AW.seq_k fun K hK=>?_);refine AW.rg ?_;simp;try (refine hK _ rfl ?_;clear hK K)
  refine Aa.val hck ?_;simp;refine hK _ rfl ?_;clear hK K;(repeat refine AW.seq_k fun K hK=>?_);refine AW.rg ?_;simp;try (refine hK _ rfl ?_;clear hK K)
  refine AW.no ?_ rfl;refine AW.skip ?_;try simp
  refine hK _ rfl ?_;clear hK K;(repeat refine AW.seq_k fun K hK=>?_);refine AW.rg ?_;simp;try (refine hK _ rfl ?_;clear hK K)
  refine Ae.intro fun c hc=>?_;refine hK _ rfl ?_;clear hK K;(repeat refine AW.seq_k fun K hK=>?_);refine AW.rg ?_;simp;try (refine hK _ rfl ?_;clear hK K)
  refine Aa.news hcl ?_;rintro _ g ⟨B,bs,rfl,g1,g2⟩ hf;have hM:=Eg.start g1 g2 (c:=c) (x:=.agg [.int .i64 0]) (fun b hb=>(hf b hb).1);generalize(Ac.emp.set c ⟨118,1,[.agg [.int .i64 0]]⟩).back [] g=M at *;simp;refine hK _ rfl ?_;clear hK K;(repeat refine AW.seq_k fun K hK=>?_);refine AW.rg ?_;simp;try (refine hK _ rfl ?_;clear hK K)
  refine Aa.whole (by simp) (hrd M c B bs _ hM rfl) ?_;rintro v M' ⟨x',q1,q2,q3⟩;simp;refine hK _ rfl ?_;clear hK K;cases hq:E7 X with
  |none =>
   rw[hq]at q3;have hx':x'.cells=[.int .i64 2]:=q3;(repeat refine AW.seq_k fun K hK=>?_);refine AW.rg ?_;simp[q1,hx'];try (refine hK _ rfl ?_;clear hK K)
   refine AW.yes ?_ rfl;(repeat refine AW.seq_k fun K hK=>?_);refine AW.rdA c [0,1,2,3,4,5,6] Dm (by simp[q1,hx']) ?_;simp[q1,hx'];try (refine hK _ rfl ?_;clear hK K)
   exact AW.ret (Af [Au [],.sl 1 [],.int .i64 2] rfl ⟨.nilsl 1,.nilsl 1,.same _,trivial⟩ ⟨rfl,rfl⟩)
  |some z =>
   obtain⟨Y,ps⟩:=z;rw[hq]at q3;obtain⟨q3,bs',pb,q4⟩:=q3;have hx':x'.cells=[.int .i64 0]:=q3;(repeat refine AW.seq_k fun K hK=>?_);refine AW.rg ?_;simp[q1,hx'];try (refine hK _ rfl ?_;clear hK K)
   refine AW.no ?_ rfl;refine AW.skip ?_;try simp
   refine hK _ rfl ?_;clear hK K;(repeat refine AW.seq_k fun K hK=>?_);refine AW.rg ?_;simp;try (refine hK _ rfl ?_;clear hK K)
   have hk:=Tc ⟨h2,h3,rfl⟩ hq;have hv:=q4.mat.view;rw[A3,hk.1.2.2]at hv;exact AW.ret (Af [Au (Be Y),.sl 1 (A0 ps),.int .i64 0] rfl ⟨hv,q4.piv.view,.same _,trivial⟩ ⟨rfl,rfl⟩)
 ·have hR:G2 m=(Sx m,[],[]):=by unfold G2;rw[if_pos h0]
  rw[hR];generalize Sx m=e at *;refine Ad Tryz.func66 rfl rfl 32 rfl (Nat.le_of_ble_eq_true rfl) ?_;(repeat refine AW.seq_k fun K hK=>?_);refine AW.rg ?_;simp[Al];try (refine hK _ rfl ?_;clear hK K)
  (repeat refine AW.seq_k fun K hK=>?_);refine AW.rg ?_;simp;try (refine hK _ rfl ?_;clear hK K)
  refine Aa.val hck ?_;simp;refine hK _ rfl ?_;clear hK K;(repeat refine AW.seq_k fun K hK=>?_);refine AW.rg ?_;simp[h0];try (refine hK _ rfl ?_;clear hK K)
  refine AW.yes ?_ rfl;(repeat refine AW.seq_k fun K hK=>?_);refine AW.rg ?_;simp;try (refine hK _ rfl ?_;clear hK K)
  exact AW.ret (Af [Au [],.sl 1 [],.int .i64 e] rfl ⟨.nilsl 1,.nilsl 1,.same _,trivial⟩ ⟨rfl,rfl⟩)
theorem Qgl (m:List (List RR)) (hm:Zf m):Ak Tryz.prog 31 [Au m] Ac.emp fun v mm=>v=.tup [.int .i64 (G2 m).2.2.length,.int .i64 (G2 m).1]∧mm=Ac.emp:=by
 have hr:=Pv m hm;generalize G2 m=z at *;obtain⟨e,Y,ps⟩:=z;simp only at hr ⊢;refine Ad Tryz.func31 rfl rfl 16 rfl (Nat.le_of_ble_eq_true rfl) ?_;(repeat refine AW.seq_k fun K hK=>?_);refine AW.rg ?_;simp[Al];try (refine hK _ rfl ?_;clear hK K)
 (repeat refine AW.seq_k fun K hK=>?_);refine AW.rg ?_;simp;try (refine hK _ rfl ?_;clear hK K)
 refine Aa.val hr ?_;simp;refine hK _ rfl ?_;clear hK K;(repeat refine AW.seq_k fun K hK=>?_);refine AW.rg ?_;simp;try (refine hK _ rfl ?_;clear hK K)
 exact AW.ret (Af [.int .i64 ps.length,.int .i64 e] rfl (by simp) ⟨rfl,rfl⟩)
end Go.Av
end
section
namespace Go.Av
open Go.Proofs
@[simp high] theorem Qmj (P:Program) (size bytes:Nat) (e:TypeId) (zero:AV) (fs:List (Nat × Nat × Option Bool)) (k:IntKind) (n:Int) (l:List Nat):Ca P ⟨size,bytes,.slice e,zero,fs⟩ (.sl 1 (A0 l)) (.int k n)=(Ai P e).bind fun te=>if 1=te.size∧0≤n∧n<l.length then some (.rptr [.int .i64 ((l.getD n.toNat 0:Nat):Int)]) else none:=by
 rw[Ie]
 congr 1
 funext te
 rw[Md];by_cases h:1=te.size∧0≤n∧n<l.length
 ·rw[if_pos h,if_pos h];have h1:n.toNat<l.length:=by omega
  unfold A0;rw[List.getD_eq_getElem?_getD,List.getD_eq_getElem?_getD,List.getElem?_map,List.getElem?_eq_getElem h1];rfl
 ·rw[if_neg h,if_neg h]
theorem Qcv {M M':Ac} {b n:Nat} {e:TypeId} {r:List RR} (hb:M b=some ⟨e,4,Bo r⟩) (hb':M' b=none) (hn:r.length=n):B2 M M' (.osl b 4 0 n) (An r):=by
 refine .osl b 4 0 n _ _ hb hb' rfl (by simp[hn]) (by simp[hn]) fun j u u' g1 g2=>?_;simp only[Nat.zero_add]at g1;rw[g1]at g2;cases g2;exact .same _
theorem Ac.set_self {m:Ac} {b:Nat} {x:Fb} (h:m b=some x):m.set b x=m:=by
 funext k
 simp only[A9];split
 ·rename_i e;rw[e,h]
 ·rfl
theorem Vs {m:Ac} {b c:Nat} (h:c≠b) (x x' y y':Fb):(((m.set c x).set b y).set c x').set b y'=(m.set c x').set b y':=by
 funext k
 simp only[A9];by_cases h1:k=b
 ·simp[h1]
 ·by_cases h2:k=c
  ·subst h2;simp[h]
  ·simp[h1,h2]
def Nf (M:Ac) (ty:TypeId) (z:Nat) (ov:AV) (ob:List Nat) (l:List AV):Prop :=
 (l=[]∧ob=[]∧ov=.nil)∨∃b,ob=[b]∧ov=.osl b z 0 l.length∧M b=some ⟨ty,z,l⟩
theorem Nf.keep {M M':Ac} {ty:TypeId} {z:Nat} {ov:AV} {ob:List Nat} {l:List AV} (h:Nf M ty z ov ob l) (hm:∀b∈ob,M' b=M b):Nf M' ty z ov ob l:=by
 rcases h with h|⟨b,h1,h2,h3⟩
 ·exact .inl h
 ·exact .inr ⟨b,h1,h2,by rw[hm b (by simp[h1])];exact h3⟩
theorem Nf.len {M:Ac} {ty:TypeId} {z:Nat} {ov:AV} {ob:List Nat} {l:List AV} (h:Nf M ty z ov ob l) (size bytes:Nat) (e:TypeId) (zero:AV) (fs:List (Nat × Nat × Option Bool)):L4 ⟨size,bytes,.slice e,zero,fs⟩ ov=some (.int .i64 l.length):=by
 rcases h with⟨rfl,_,rfl⟩|⟨b,_,rfl,_⟩
 ·simp
 ·simp
theorem Nf.view {M M':Ac} {ty:TypeId} {z:Nat} {ov:AV} {ob:List Nat} {l:List AV} (h:Nf M ty z ov ob l) (hm:∀b∈ob,M' b=none):B2 M M' ov (.sl z l):=by
 rcases h with⟨rfl,_,rfl⟩|⟨b,h1,rfl,h⟩
 ·exact .nilsl z
 ·refine .osl b z 0 l.length _ _ h (hm b (by simp[h1])) rfl rfl (by simp) fun j u u' g1 g2=>?_;simp only[Nat.zero_add]at g1;rw[g1]at g2;cases g2;exact .same _
structure Ki (M:Ac) (c:Nat) (x:AV) (ty:TypeId) (z:Nat) (ov:AV) (ob:List Nat) (l:List AV):Prop where
 cell:M c=some ⟨118,1,[x]⟩
 lst:Nf M ty z ov ob l
 only:D4 M (c::ob)
 pc:c ∉ ob
section
variable {M:Ac} {c:Nat} {x ov:AV} {ty:TypeId} {z:Nat} {ob:List Nat} {l:List AV}
theorem Ki.setE (h:Ki M c x ty z ov ob l) (x':AV):Ki (M.set c ⟨118,1,[x']⟩) c x' ty z ov ob l :=
 ⟨by simp,h.lst.keep fun b hb=>by simp only[A9];rw[if_neg (by rintro rfl;exact h.pc hb)],h.only.set (by simp) _,h.pc⟩
theorem Ki.fresh (h:Ki M c x ty z ov ob l) {b:Nat} (hb:M b=none):b≠c∧b ∉ ob:=by
 refine⟨(by rintro rfl;rw[h.cell]at hb;cases hb),fun hm=>?_⟩;rcases h.lst with⟨_,h1,_⟩ | ⟨b',h1,_,h3⟩
 ·rw[h1]at hm;cases hm
 ·rw[h1]at hm;simp at hm;subst hm;rw[h3]at hb;cases hb
theorem Ki.ones (h:Ki M c x ty z ov ob l) {e:Int} (hx:Fj x e) (hl:∀v∈l,v.cells.all AV.one=true):∀(b:Nat) (y:Fb),M b=some y→∀v∈y.l,v.cells.all AV.one=true:=by
 intro b y hy;have:=h.only b (by rw[hy];simp);rcases List.mem_cons.1 this with rfl | hb
 ·rw[h.cell]at hy;cases hy;intro v hv;simp at hv;subst hv;exact Qhm hx
 ·rcases h.lst with⟨_,h1,_⟩|⟨b',h1,_,h3⟩
  ·rw[h1]at hb;cases hb
  ·rw[h1]at hb;simp at hb;subst hb;rw[h3]at hy;cases hy;exact hl
theorem Ki.start (c:Nat) (x:AV) (ty:TypeId) (z:Nat):Ki (Ac.emp.set c ⟨118,1,[x]⟩) c x ty z .nil [] [] :=
 ⟨by simp,.inl ⟨rfl,rfl,rfl⟩,fun b hb=>by
  by_cases e:b=c
  ·simp[e]
  ·simp[e]at hb,by simp⟩
theorem Ki.push0 (h:Ki M c x ty z .nil [] []) {b:Nat} (hb:M b=none) (v:AV):Ki (M.set b ⟨ty,z,[v]⟩) c x ty z (.osl b z 0 1) [b] [v]:=by
 obtain⟨f1,_⟩:=h.fresh hb;refine⟨by simp only[A9];rw[if_neg (Ne.symm f1)];exact h.cell,.inr ⟨b,rfl,rfl,by simp⟩,?_,by simpa using Ne.symm f1⟩;exact(h.only.sub fun a ha=>by simp at ha ⊢;exact .inl ha).set (by simp) _
theorem Ki.push1 {b0:Nat} (h:Ki M c x ty z (.osl b0 z 0 l.length) [b0] l) {b:Nat} (hb:(M.del b0) b=none) (v:AV):Ki ((M.del b0).set b ⟨ty,z,l++[v]⟩) c x ty z (.osl b z 0 (l.length+1)) [b] (l++[v]):=by
 have hc:c≠b0:=by have:=h.pc;simpa using this
 have hh:Ki (M.del b0) c x ty z .nil [] []:=by
  have hdel:∀a,a≠b0→(M.del b0) a=M a:=fun a ha=>if_neg ha;refine⟨by rw[hdel c hc];exact h.cell,.inl ⟨rfl,rfl,rfl⟩,fun a ha=>?_,by simp⟩;have h1:a≠b0:=by
   rintro rfl;exact ha (if_pos rfl)
  rw[hdel a h1]at ha;have:=h.only a ha;simp at this ⊢;exact this.resolve_right h1
 obtain⟨f1,_⟩:=hh.fresh hb;refine⟨by simp only[A9];rw[if_neg (Ne.symm f1)];exact hh.cell,.inr ⟨b,rfl,by simp,by simp⟩,?_,by simpa using Ne.symm f1⟩;exact(hh.only.sub fun a ha=>by simp at ha ⊢;exact .inl ha).set (by simp) _
end
/-! ### The kernel -/
def Qw (Y:List (List Rat)) (ps:List Nat) (j:Nat):Nat→List Rat→List Rat
 |0,v=>v
 |k+1,v=>(Qw Y ps j k v).set (ps.getD k 0) (-(A6 Y k j))
def I2 (Y:List (List Rat)) (ps:List Nat) (w j:Nat):List Rat:=Qw Y ps j ps.length ((List.replicate w 0).set j 1)
def Hc (Y:List (List Rat)) (ps:List Nat) (w j:Nat):List (List Rat):=((List.range j).filter fun i=>decide (i ∉ ps)).map (I2 Y ps w)
theorem Rh (Y:List (List Rat)) (ps:List Nat) (w j:Nat):Hc Y ps w (j+1)=if j∈ps then Hc Y ps w j else Hc Y ps w j++[I2 Y ps w j]:=by
 unfold Hc;rw[List.range_succ,List.filter_append];by_cases h:j∈ps
 ·rw[if_pos h];simp[h]
 ·rw[if_neg h];simp[h]
theorem Ht (Y:List (List Rat)) (ps:List Nat) (j:Nat) (v:List Rat):∀k,(Qw Y ps j k v).length=v.length
 |0=>rfl
 |k+1=>by unfold Qw;rw[List.length_set,Ht]
theorem Ta (Y:List (List Rat)) (ps:List Nat) (w j:Nat):(I2 Y ps w j).length=w:=by unfold I2;rw[Ht];simp
noncomputable def W9 (m:List (List RR)):Int × List (List Rat) :=
 if (G2 m).1≠0 then ((G2 m).1,[]) else (0,Hc (G2 m).2.1 (G2 m).2.2 (Aj m 0).length (Aj m 0).length)
theorem Sy {n w:Nat} {z0:List (List Rat) × List Nat} (h:K9 n w 0 z0) (hs:z0.2.Pairwise (·<·)):∀{j:Nat} {z:List (List Rat) × List Nat},Aw Cn j z0=some z→z.2.Pairwise (·<·)
 |0,z,he=>by cases he;exact hs
 |j+1,z,he=>by
  rw[Bq]at he;cases hm:Aw Cn j z0 with
  |none=>rw[hm]at he;cases he
  |some u =>
   rw[hm]at he;have h1:=Sy h hs hm;have h2:=R5 h hm;replace he:Cn j u=some z:=he;unfold Cn at he;cases hp:T3 u.1 j u.2.length with
   |none=>simp only[hp]at he;cases he;exact h1
   |some i =>
    simp only[hp]at he;cases hc:G0 (Cg u.1 i u.2.length) j u.2.length with
    |none=>rw[hc]at he;cases he
    |some M =>
     rw[hc]at he;cases he;rw[List.pairwise_append];exact⟨h1,by simp,fun a ha b hb=>by simp at hb;subst hb;exact h2.2.2.2 a ha⟩
theorem Qb8 {q:Rat} (h:B0 q):Da 0 q=some (-q)∧B0 (-q):=by
 have hg:B0 (-q):=by
  unfold B0 at h ⊢;rw[Rat.neg_num,Rat.neg_den,Int.natAbs_neg];exact h
 refine⟨?_,hg⟩;unfold Da;rw[Rat.sub_eq_add_neg,Rat.zero_add];have n0:(0:Rat).num=0:=rfl;have d0:(0:Rat).den=1:=rfl;have hb:0<Bj:=by unfold Bj;exact Nat.pow_pos (by omega)
 have h1:=h.1;have h2:=h.2;rw[n0,d0,if_pos];unfold B5;generalize Bj=b at *;simp only[Bool.and_eq_true,decide_eq_true_eq,Int.zero_mul,Int.natAbs_zero];refine⟨⟨⟨hb,?_⟩,?_⟩,?_⟩<;>omega
theorem Hf:B0 0:=by rw[←Iv];exact Rb (by decide)
theorem Wz:B0 1:=by rw[←I3];exact Rb (by decide)
structure Qpq where
 next:Nat
 x:AV
 M:Ac
 ov:AV
 ob:List Nat
def Qw9 (c:Nat) (Y:List (List Rat)) (ps:List Nat) (w j:Nat) (s:Qpq):Prop :=
 Ki s.M c s.x 51 1 s.ov s.ob ((Be (Hc Y ps w j)).map An)∧Fj s.x 0∧s.next≤ps.length∧(∀i,i<s.next→ps.getD i 0<j)∧∀i,s.next≤i→i<ps.length→j≤ps.getD i 0
theorem Zt {ps:List Nat} (h:ps.Pairwise (·<·)) {i j:Nat} (hij:i<j) (hj:j<ps.length):ps.getD i 0<ps.getD j 0:=by
 rw[List.getD_eq_getElem?_getD,List.getD_eq_getElem?_getD,List.getElem?_eq_getElem hj,List.getElem?_eq_getElem (by omega)];exact List.pairwise_iff_getElem.1 h i j (by omega) hj hij
theorem Zs (m:List (List RR)) (hm:Zf m):Ak Tryz.prog 106 [Au m] Ac.emp fun v mm=>v=.tup [Au (Be (W9 m).2),.int .i64 (W9 m).1]∧mm=Ac.emp:=by
 have hr:=Pv m hm;have hwid:=Lr m;by_cases h0:(G2 m).1=0
 ·have hck:Sx m=0:=by
   by_cases h:Sx m=0
   ·exact h
   ·unfold G2 at h0;rw[if_pos h]at h0;exact absurd h0 h
  have hK:W9 m=(0,Hc (G2 m).2.1 (G2 m).2.2 (Aj m 0).length (Aj m 0).length):=if_neg (by simp[h0]);obtain⟨h1,h2,h3,h4,h5⟩:=T8 hm hck;have hcol:∃Y ps,G2 m=(0,Y,ps)∧K9 m.length (Aj m 0).length (Aj m 0).length (Y,ps)∧ps.Pairwise (·<·):=by
   unfold G2 at h0 ⊢;rw[if_neg (by simp[hck])]at h0 ⊢;cases hq:E7 (Pj m)with
   |none=>rw[hq]at h0;exact absurd h0 (by simp)
   |some z =>
    have e0:(Aj (Pj m) 0).length=(Aj m 0).length:=by rw[Jv,List.length_map]
    have k1:=Tc (n:=m.length) (w:=(Aj m 0).length) ⟨h2,e0 ▸ h3,Hi m⟩ hq;rw[e0]at k1;refine⟨z.1,z.2,rfl,k1,?_⟩;exact Sy (n:=m.length) (w:=(Aj m 0).length) (z0:=(Pj m,[])) ⟨⟨h2,e0 ▸ h3,Hi m⟩,by simp,by simp,by simp⟩ (by simp) hq
  obtain⟨Y,ps,hred,⟨⟨y1,y2,y3⟩,y4,y5,y6⟩,y7⟩:=hcol;simp only at y1 y2 y3 y4 y5 y6;rw[hK];rw[hred]at hr ⊢;simp only at hr ⊢;have h5:(Aj m 0).length≤64:=by rw[Jv,List.length_map]at h5;exact h5
  clear h1 h2 h3 hK;generalize hw:(Aj m 0).length=w at *;have hvec:=Tf w (by omega);have hone:=Pc 1 (by omega) (by omega);have hzero:=Pc 0 (by omega) (by omega);rw[I3]at hone;rw[Iv]at hzero;refine Ad Tryz.func106 rfl rfl 87 rfl (Nat.le_of_ble_eq_true rfl) ?_;(repeat refine AW.seq_k fun K hK=>?_);refine AW.rg ?_;simp[Al];try (refine hK _ rfl ?_;clear hK K)
  (repeat refine AW.seq_k fun K hK=>?_);refine AW.rg ?_;simp;try (refine hK _ rfl ?_;clear hK K)
  refine Aa.val hr ?_;simp;refine hK _ rfl ?_;clear hK K;(repeat refine AW.seq_k fun K hK=>?_);refine AW.rg ?_;simp;try (refine hK _ rfl ?_;clear hK K)
  refine AW.no ?_ rfl;refine AW.skip ?_;try simp
  refine hK _ rfl ?_;clear hK K;(repeat refine AW.seq_k fun K hK=>?_);refine AW.rg ?_;simp;try (refine hK _ rfl ?_;clear hK K)
  refine Ae.intro fun c hc=>?_;refine hK _ rfl ?_;clear hK K;(repeat refine AW.seq_k fun K hK=>?_);refine AW.rg ?_;simp;try (refine hK _ rfl ?_;clear hK K)
  (repeat refine AW.seq_k fun K hK=>?_);refine AW.rg ?_;simp;try (refine hK _ rfl ?_;clear hK K)
  refine AW.seq_ex (ι:=Ac × AV × AV × List Nat) (fun z=>[(7,.ptr c 1 0 0),(8,z.2.2.1)]) (fun z=>z.1) (fun z=>Ki z.1 c z.2.1 51 1 z.2.2.1 z.2.2.2 ((Be (Hc Y ps w w)).map An)∧Fj z.2.1 0) ?_ ?_
  ·(repeat refine AW.seq_k fun K hK=>?_);refine AW.rg ?_;simp;try (refine hK _ rfl ?_;clear hK K)
   refine Aa.val hwid ?_;simp;refine hK _ rfl ?_;clear hK K;refine AW.block (AW.loopS (ι:=Nat × Qpq) (fun z=>[(0,Au m),(4,Au (Be Y)),(5,.sl 1 (A0 ps)),(7,.ptr c 1 0 0),(8,z.2.ov),(9,.int .i64 (z.2.next:Nat)),(26,.int .i64 w),(27,.int .i64 (z.1:Nat))]) (fun z=>z.2.M) (fun z=>z.1≤w∧Qw9 c Y ps w z.1 z.2) (fun z=>w-z.1) (0,⟨0,.agg [.int .i64 0],Ac.emp.set c ⟨118,1,[.agg [.int .i64 0]]⟩,.nil,[]⟩) ⟨by simp,Ki.start _ _ _ _,rfl,by simp,by simp,by simp⟩ rfl (by simp) ?_);rintro⟨j,next,x,M,ov,ob⟩ ⟨g1,g2,g3,g4,g5,g6⟩;simp only at g1 g2 g3 g4 g5 g6
   simp only;(repeat refine AW.seq_k fun K hK=>?_);refine AW.rg ?_;simp;try (refine hK _ rfl ?_;clear hK K)
   (repeat refine AW.seq ?_);refine AW.cs (fun hj=>?_) (fun hj=>?_) rfl<;>(try simp at hj)
   ·refine AW.skip ?_;try simp
    have w1:=Aq (j+1) (by omega);have w2:=Aq (next+1) (by omega);refine AW.seq_ex (ι:=Qpq) (fun s=>[(0,Au m),(4,Au (Be Y)),(5,.sl 1 (A0 ps)),(7,.ptr c 1 0 0),(8,s.ov),(9,.int .i64 (s.next:Nat)),(26,.int .i64 w),(27,.int .i64 (j:Nat))]) (fun s=>s.M) (fun s=>Qw9 c Y ps w (j+1) s) ?_ ?_
    ·(repeat refine AW.seq ?_);refine AW.block ?_;(repeat refine AW.seq_k fun K hK=>?_);refine AW.rg ?_;simp;try (refine hK _ rfl ?_;clear hK K)
     refine AW.seq_ex (ι:=Unit) (fun _=>[(0,Au m),(4,Au (Be Y)),(5,.sl 1 (A0 ps)),(7,.ptr c 1 0 0),(8,ov),(9,.int .i64 (next:Nat)),(10,.int .i64 (j:Nat)),(26,.int .i64 w),(27,.int .i64 (j:Nat))]) (fun _=>M) (fun _=>j ∉ ps∧∀i,next≤i→i<ps.length→j+1≤ps.getD i 0) ?_ ?_
     ·by_cases hn:next<ps.length
      ·have hgn:ps.getD next 0=ps[next]:=by rw[List.getD_eq_getElem?_getD,List.getElem?_eq_getElem hn];rfl
       by_cases hp:ps[next]=j
       ·(repeat refine AW.seq_k fun K hK=>?_);refine AW.rg ?_;simp[hn,hp];try (refine hK _ rfl ?_;clear hK K)
        refine AW.yes ?_ rfl;(repeat refine AW.seq_k fun K hK=>?_);refine AW.rg ?_;simp[-Int.natCast_add,w2];try (refine hK _ rfl ?_;clear hK K)
        refine AW.exit ?_;try simp[-Int.natCast_add]
        have hmem:j∈ps:=by rw[←hp];exact List.getElem_mem hn
        rw[←hgn]at hp;refine⟨⟨next+1,x,M,ov,ob⟩,⟨?_,g3,hn,fun i hi=>?_,fun i hi hi2=>?_⟩,by simp⟩
        ·rw[Rh,if_pos hmem];exact g2
        ·rcases Nat.lt_succ_iff_lt_or_eq.1 hi with h|rfl
         ·have:=g5 i h;omega
         ·omega
        ·have hi:next+1≤i:=hi;have:=Zt y7 (i:=next) (j:=i) (by omega) hi2;omega
       ·(repeat refine AW.seq_k fun K hK=>?_);refine AW.rg ?_;simp[hn,hp];try (refine hK _ rfl ?_;clear hK K)
        refine AW.no ?_ rfl;refine AW.skip ?_;try simp
        have hge:∀i,next≤i→i<ps.length→j+1≤ps.getD i 0:=fun i hi hi2=>by
         have h1:=g6 next (by omega) hn;rw[←hgn]at hp;rcases Nat.lt_or_eq_of_le hi with h | h
         ·have:=Zt y7 (i:=next) (j:=i) h hi2;omega
         ·subst h;omega
        refine⟨fun hm=>?_,hge⟩;obtain⟨i,hi,e⟩:=List.mem_iff_getElem.1 hm;have e:ps.getD i 0=j:=by rw[List.getD_eq_getElem?_getD,List.getElem?_eq_getElem hi];exact e
        rcases Nat.lt_or_ge i next with h|h
        ·have:=g5 i h;omega
        ·have:=hge i h hi;omega
      ·(repeat refine AW.seq_k fun K hK=>?_);refine AW.rg ?_;simp[hn];try (refine hK _ rfl ?_;clear hK K)
       refine AW.no ?_ rfl;refine AW.skip ?_;try simp
       refine⟨fun hm=>?_,fun i hi hi2=>by omega⟩;obtain⟨i,hi,e⟩:=List.mem_iff_getElem.1 hm;have e:ps.getD i 0=j:=by rw[List.getD_eq_getElem?_getD,List.getElem?_eq_getElem hi];exact e
       have:=g5 i (by omega);omega
     rintro _ ⟨hnm,hge⟩;(repeat refine AW.seq_k fun K hK=>?_);refine AW.rg ?_;simp;try (refine hK _ rfl ?_;clear hK K)
     refine Aa.val hwid ?_;simp;refine Aa.make hvec ?_;rintro bv _ _ ⟨rfl,rfl⟩ hbv _;simp;refine hK _ rfl ?_;clear hK K;obtain⟨nbc,nbo⟩:=g2.fresh hbv;(repeat refine AW.seq_k fun K hK=>?_);refine AW.rg ?_;simp;try (refine hK _ rfl ?_;clear hK K)
     refine Aa.val hone ?_;simp[hj];refine hK _ rfl ?_;clear hK K;generalize hv0:(List.replicate w (0:Rat)).set j 1=v0 at *;have hv0l:v0.length=w:=by rw[←hv0];simp
     have hv0e:(Bo (List.replicate w (Ar 0))).set j (Ar 1).av=Bo (v0.map Ar):=by
      rw[Il,←hv0,List.map_set,List.map_replicate]
     refine AW.seq_ex (ι:=AV) (fun x=>[(0,Au m),(4,Au (Be Y)),(5,.sl 1 (A0 ps)),(7,.ptr c 1 0 0),(8,ov),(9,.int .i64 (next:Nat)),(10,.int .i64 (j:Nat)),(11,.osl bv 4 0 w),(26,.int .i64 w),(27,.int .i64 (j:Nat))]) (fun x=>(M.set c ⟨118,1,[x]⟩).set bv ⟨44,4,Bo ((I2 Y ps w j).map Ar)⟩) (fun x=>Fj x 0) ?_ ?_
     ·(repeat refine AW.seq_k fun K hK=>?_);refine AW.rg ?_;simp;try (refine hK _ rfl ?_;clear hK K)
      refine AW.block (AW.loopS (ι:=Nat × AV) (fun z=>[(0,Au m),(4,Au (Be Y)),(5,.sl 1 (A0 ps)),(7,.ptr c 1 0 0),(8,ov),(9,.int .i64 (next:Nat)),(10,.int .i64 (j:Nat)),(11,.osl bv 4 0 w),(26,.int .i64 w),(27,.int .i64 (j:Nat)),(51,.sl 1 (A0 ps)),(52,.int .i64 ps.length),(53,.int .i64 (z.1:Nat))]) (fun z=>(M.set c ⟨118,1,[z.2]⟩).set bv ⟨44,4,Bo ((Qw Y ps j z.1 v0).map Ar)⟩) (fun z=>z.1≤ps.length∧Fj z.2 0) (fun z=>ps.length-z.1) (0,x) ⟨by simp,g3⟩ ?_ (by simp) ?_)
      ·show M.set bv _=(M.set c _).set bv _
       rw[Ac.set_self g2.cell];rw[Il]at hv0e;rw[hv0e];rfl
      rintro⟨k,x⟩ ⟨q1,q2⟩;simp only at q1 q2;(repeat refine AW.seq_k fun K hK=>?_);refine AW.rg ?_;simp;try (refine hK _ rfl ?_;clear hK K)
      (repeat refine AW.seq ?_);refine AW.cs (fun hk=>?_) (fun hk=>?_) rfl<;>(try simp at hk)
      ·refine AW.skip ?_;try simp
       (repeat refine AW.seq ?_);refine AW.block ?_;(repeat refine AW.seq_k fun K hK=>?_);refine AW.rg ?_;simp[hk];try (refine hK _ rfl ?_;clear hK K)
       have hkY:k<Y.length:=by omega
       have hkE:k<(Be Y).length:=by rw[A3];exact hkY
       have hlk:(Aj (Be Y) k).length=w:=by rw[Bw,List.length_map];exact y2 k hkY
       have hjl:j<(Aj Y k).length:=by rw[y2 k hkY];exact hj
       have hel:rr (Aj (Be Y) k) j=Ar (A6 Y k j):=by rw[Bw,Gd hjl];rfl
       have hgd:B0 (A6 Y k j):=y1.at hjl;obtain⟨n1,n2⟩:=Qb8 hgd;have hpk:ps.getD k 0=ps[k]:=by rw[List.getD_eq_getElem?_getD,List.getElem?_eq_getElem hk];rfl
       have hpw:ps[k]<w:=y6 _ (List.getElem_mem hk);have hlf:(Qw Y ps j k v0).length=w:=by rw[Ht,hv0l]
       have w3:=Aq (k+1) (by omega);(repeat refine AW.seq_k fun K hK=>?_);refine AW.rd [0,1,2,4,5,6,7,8,9,10,3,11,12,13] Dm ?_;simp[hkE,hlk,hj,hel];try (refine hK _ rfl ?_;clear hK K)
       refine Aa.val hzero ?_;simp;refine Qmt (c:=c) (x:=x) (e:=0) (a:=Ar 0) (b:=Ar (A6 Y k j)) (by simp[Ne.symm nbc]) (by simp) q2 (Eb _) (Eb _) (fun _=>⟨D0 Hf,D0 hgd⟩) ?_;rw[F3,F3,n1,Iz rfl];intro x' hx';simp[hpw,hlf,nbc];(repeat refine AW.seq_k fun K hK=>?_);refine AW.rg ?_;simp[-Int.natCast_add,w3];try (refine hK _ rfl ?_;clear hK K)
       refine⟨k+1,x',⟨hk,hx'⟩,by omega,?_,rfl⟩;rw[Vs (Ne.symm nbc)];rw[show Qw Y ps j (k+1) v0=(Qw Y ps j k v0).set (ps.getD k 0) (-(A6 Y k j)) from rfl,hpk,List.map_set]
      ·refine AW.exit ?_;try simp
       have:k=ps.length:=by omega
       subst this;exact⟨x,q2,by unfold I2;rw[hv0]⟩
     rintro x' hx';have g2':=g2.setE x';have hM':(M.set c ⟨118,1,[x']⟩) bv=none:=by simp only[A9];rw[if_neg nbc];exact hbv
     refine AW.turn [(0,Au m),(4,Au (Be Y)),(5,.sl 1 (A0 ps)),(7,.ptr c 1 0 0),(8,ov),(9,.int .i64 (next:Nat)),(10,.int .i64 (j:Nat)),(11,An ((I2 Y ps w j).map Ar)),(26,.int .i64 w),(27,.int .i64 (j:Nat))] (M.set c ⟨118,1,[x']⟩) (Bm.drop hM' (g2'.ones hx' ?_)) ?_ ?_
     ·intro v hv;obtain⟨r,_,rfl⟩:=List.mem_map.1 hv;rfl
     ·simp;exact Qcv (Ac.set_same _ _ _) hM' (by rw[List.length_map,Ta])
     have hfin:∀s:Qpq,s.next=next→Fj s.x 0→Ki s.M c s.x 51 1 s.ov s.ob ((Be (Hc Y ps w j)).map An++[An ((I2 Y ps w j).map Ar)])→Qw9 c Y ps w (j+1) s:=by
      intro s h1 h2 h3;refine⟨?_,h2,by rw[h1];exact g4,fun i hi=>?_,by rw[h1];exact hge⟩
      ·rw[Rh,if_neg hnm];simpa[Be]using h3
      ·rw[h1]at hi;have:=g5 i hi;omega
     have hll:((Be (Hc Y ps w j)).map An).length≤j:=by
      rw[List.length_map,A3];unfold Hc;rw[List.length_map];exact Nat.le_trans (List.length_filter_le _ _) (by simp)
     generalize(Be (Hc Y ps w j)).map An=l at *;generalize M.set c ⟨118,1,[x']⟩=M' at *;rcases g2'.lst with⟨z1,z2,z3⟩ | ⟨b0,z2,z3,z4⟩
     ·subst z1 z2 z3;(repeat refine AW.seq_k fun K hK=>?_);refine AW.rgR [74] ?_;simp;try (refine hK _ rfl ?_;clear hK K)
      exact⟨by unfold maxLen;omega,Ae.intro fun b hb=>⟨⟨next,x',_,_,[b]⟩,hfin _ rfl hx' (g2'.push0 hb _),rfl,rfl,rfl⟩⟩
     ·subst z2 z3;have hl2:l.length<2^40:=by omega
      (repeat refine AW.seq_k fun K hK=>?_);refine AW.rgR [74] ?_;simp[z4];try (refine hK _ rfl ?_;clear hK K)
      exact⟨by omega,by unfold maxLen;omega,Ae.intro fun b hb=>⟨⟨next,x',_,_,[b]⟩,hfin _ rfl hx' (g2'.push1 hb _),rfl,rfl,rfl⟩⟩
    rintro⟨next,x,M,ov,ob⟩ hs;(repeat refine AW.seq_k fun K hK=>?_);refine AW.rg ?_;simp[-Int.natCast_add,w1];try (refine hK _ rfl ?_;clear hK K)
    exact⟨j+1,⟨next,x,M,ov,ob⟩,⟨hj,hs⟩,by omega,by simp⟩
   ·refine AW.exit ?_;try simp
    have:j=w:=by omega
    subst this;exact⟨x,⟨ob,g2⟩,g3⟩
  rintro⟨M,x,ov,ob⟩ ⟨g1,g2⟩;simp only at g1 g2;have hx:x.cells=[.int .i64 0]:=g2;(repeat refine AW.seq_k fun K hK=>?_);refine AW.rg ?_;simp[g1.cell,hx];try (refine hK _ rfl ?_;clear hK K)
  refine AW.no ?_ rfl;refine AW.skip ?_;try simp
  refine hK _ rfl ?_;clear hK K;(repeat refine AW.seq_k fun K hK=>?_);refine AW.rg ?_;simp;try (refine hK _ rfl ?_;clear hK K)
  have hv:=g1.lst.view (M':=Ac.emp) (fun _ _=>rfl);exact AW.ret (Af [Au (Be (Hc Y ps w w)),.int .i64 0] rfl ⟨hv,.same _,trivial⟩ ⟨rfl,rfl⟩)
 ·have hK:W9 m=((G2 m).1,[]):=if_pos h0;rw[hK];generalize G2 m=z at *;obtain⟨e,Y,ps⟩:=z;simp only at h0 hr ⊢;refine Ad Tryz.func106 rfl rfl 87 rfl (Nat.le_of_ble_eq_true rfl) ?_;(repeat refine AW.seq_k fun K hK=>?_);refine AW.rg ?_;simp[Al];try (refine hK _ rfl ?_;clear hK K)
  (repeat refine AW.seq_k fun K hK=>?_);refine AW.rg ?_;simp;try (refine hK _ rfl ?_;clear hK K)
  refine Aa.val hr ?_;simp;refine hK _ rfl ?_;clear hK K;(repeat refine AW.seq_k fun K hK=>?_);refine AW.rg ?_;simp[h0];try (refine hK _ rfl ?_;clear hK K)
  refine AW.yes ?_ rfl;(repeat refine AW.seq_k fun K hK=>?_);refine AW.rg ?_;simp;try (refine hK _ rfl ?_;clear hK K)
  exact AW.ret (Af [Au [],.int .i64 e] rfl ⟨.nilsl 1,.same _,trivial⟩ ⟨rfl,rfl⟩)
end Go.Av
end
section
namespace Go.Av
open Go.Proofs
def Bd:Nat→(Nat→Rat)→Rat
 |0,_=>0
 |n+1,f=>Bd n f+f n
theorem Cj (n:Nat) (f:Nat→Rat):Bd (n+1) f=Bd n f+f n:=rfl
theorem A2 {n:Nat} {f g:Nat→Rat} (h:∀i,i<n→f i=g i):Bd n f=Bd n g:=by
 induction n with
 |zero=>rfl
 |succ n ih=>rw[Cj,Cj,ih (fun i hi=>h i (by omega)),h n (by omega)]
theorem Hb {n:Nat} {f:Nat→Rat} (h:∀i,i<n→f i=0):Bd n f=0:=by
 induction n with
 |zero=>rfl
 |succ n ih=>rw[Cj,ih (fun i hi=>h i (by omega)),h n (by omega)];grind
theorem Gy (n:Nat) (f g:Nat→Rat):Bd n (fun i=>f i+g i)=Bd n f+Bd n g:=by
 induction n with
 |zero=>show(0:Rat)=0+0;grind
 |succ n ih=>rw[Cj,Cj,Cj,ih];grind
theorem Dj (n:Nat) (c:Rat) (f:Nat→Rat):Bd n (fun i=>c*f i)=c*Bd n f:=by
 induction n with
 |zero=>show(0:Rat)=c*0;grind
 |succ n ih=>rw[Cj,Cj,ih];grind
theorem B3 {n k:Nat} {f:Nat→Rat} (hk:k<n) (h:∀i,i<n→i≠k→f i=0):Bd n f=f k:=by
 induction n with
 |zero=>omega
 |succ n ih =>
  rw[Cj];by_cases e:k=n
  ·subst e;rw[Hb fun i hi=>h i (by omega) (by omega)];grind
  ·rw[ih (by omega) fun i hi=>h i (by omega),h n (by omega) (fun h=>e h.symm)];grind
theorem Nz (n m:Nat) (f:Nat→Nat→Rat):Bd n (fun i=>Bd m (f i))=Bd m fun j=>Bd n fun i=>f i j:=by
 induction n with
 |zero=>exact(Hb fun _ _=>rfl).symm
 |succ n ih =>
  rw[Cj,ih,←Gy];rfl
def D7 (w:Nat) (r v:Nat→Rat):Rat:=Bd w fun l=>r l*v l
theorem Wt {w:Nat} {r r' v v':Nat→Rat} (h:∀l,l<w→r l=r' l) (h2:∀l,l<w→v l=v' l):D7 w r v=D7 w r' v':=A2 fun l hl=>by rw[h l hl,h2 l hl]
theorem Qky (w:Nat) (r s v:Nat→Rat) (c:Rat):D7 w (fun l=>r l-s l*c) v=D7 w r v-c*D7 w s v:=by
 unfold D7;rw[←Dj];have:Bd w (fun l=>(r l-s l*c)*v l)=Bd w (fun l=>r l*v l+(-1)*(c*(s l*v l))):=A2 fun l _=>by grind
 rw[this,Gy,Dj];grind
theorem Qa3 (w:Nat) (r v:Nat→Rat) (c:Rat):D7 w (fun l=>r l / c) v=D7 w r v / c:=by
 unfold D7;have:Bd w (fun l=>r l / c*v l)=Bd w (fun l=>c⁻¹*(r l*v l)):=A2 fun l _=>by grind
 rw[this,Dj];grind
/-! ### Exact results -/
theorem Qq8 {a b c:Rat} (h:Ej a b=some c):c=a+b:=by unfold Ej at h;split at h<;>cases h;rfl
theorem Qos {a b c:Rat} (h:Da a b=some c):c=a-b:=by unfold Da at h;split at h<;>cases h;rfl
theorem Qhx {a b c:Rat} (h:Df a b=some c):c=a*b:=by unfold Df at h;split at h<;>cases h;rfl
theorem Qg7 {a b c:Rat} (h:Fu a b=some c):c=a / b:=by unfold Fu at h;split at h<;>cases h;rfl
theorem Qk4 {a f b c:Rat} (h:L6 a f b=some c):c=a-b*f:=by
 unfold L6 at h;cases hm:Df b f with
 |none=>rw[hm]at h;cases h
 |some p=>rw[hm]at h;rw[Qos h,Qhx hm]
theorem Fl {r:List Rat} {k:Nat} (hk:k<r.length) (x:Rat) (i:Nat):Ba (r.set k x) i=if i=k then x else Ba r i:=by
 unfold Ba;rw[List.getD_eq_getElem?_getD,List.getElem?_set];by_cases e:k=i
 ·subst e;rw[if_pos rfl,if_pos hk,if_pos rfl];rfl
 ·rw[if_neg e,if_neg (Ne.symm e),←List.getD_eq_getElem?_getD]
theorem Qy {op:Rat→Nat→Option Rat} {f:Nat→List Rat→Option (List Rat)} {o:Nat} (hf:∀t r,f t r=F5 op (o+t) r):∀{n:Nat} {row row':List Rat},o+n≤row.length→Aw f n row=some row' →
  row'.length=row.length∧(∀k,k<n→op (Ba row (o+k)) (o+k)=some (Ba row' (o+k)))∧∀k,k<o∨o+n≤k→Ba row' k=Ba row k
 |0,row,row',_,h=>by cases h;exact⟨rfl,fun k hk=>by omega,fun _ _=>rfl⟩
 |n+1,row,row',hl,h=>by
  rw[Bq]at h;cases hs:Aw f n row with
  |none=>rw[hs]at h;cases h
  |some u =>
   rw[hs]at h;obtain⟨h1,h2,h3⟩:=Qy hf (by omega) hs;replace h:f n u=some row':=h;rw[hf]at h;unfold F5 at h;cases ho:op (Ba u (o+n)) (o+n)with
   |none=>rw[ho]at h;cases h
   |some x =>
    rw[ho]at h;cases h;have hk:o+n<u.length:=by omega
    refine⟨by rw[List.length_set,h1],fun k hk'=>?_,fun k hk'=>?_⟩
    ·rw[Fl hk];by_cases e:k=n
     ·subst e;rw[if_pos rfl,←h3 (o+k) (by omega)];exact ho
     ·rw[if_neg (by omega)];exact h2 k (by omega)
    ·rw[Fl hk,if_neg (by omega)];exact h3 k (by omega)
theorem Zz {M:List (List Rat)} {i:Nat} (hi:i<M.length) (r:List Rat) (a b:Nat):A6 (M.set i r) a b=if a=i then Ba r b else A6 M a b:=by
 unfold A6;rw[Hs hi];split<;>rfl
theorem P7 {M:List (List Rat)} {i r:Nat} (hi:i<M.length) (hr:r<M.length) (a b:Nat):A6 (Cg M i r) a b=if a=r then A6 M i b else if a=i then A6 M r b else A6 M a b:=by
 unfold A6;rw[Kn hi hr];split
 ·rfl
 ·split<;>rfl
theorem Yr {n w r j i:Nat} {M M':List (List Rat)} (h:Bf n w M) (hi:i<n) (he:Bv r j i M=some M'):M'.length=n∧∀a b,b<w→A6 M' a b=if a=i∧i≠r then A6 M a b-A6 M r b*A6 M a j else A6 M a b:=by
 unfold Bv at he;by_cases hc:i=r∨A6 M i j=0
 ·rw[if_pos hc]at he;cases he;refine⟨h.2.2,fun a b hb=>?_⟩;split
  ·rename_i hh
   rw[hh.1,hc.resolve_left hh.2];grind
  ·rfl
 ·rw[if_neg hc]at he;have hl:(Aj M i).length=w:=(h.row hi).2;rw[hl]at he;cases hm:Aw (E8 (Aj M r) (A6 M i j)) w (Aj M i)with
  |none=>rw[hm]at he;cases he
  |some row =>
   rw[hm]at he;cases he;obtain⟨k1,k2,k3⟩:=Qy (o:=0) (op:=fun q k=>L6 q (A6 M i j) (Ba (Aj M r) k)) (fun t r=>by rw[Nat.zero_add];rfl) (by omega) hm;refine⟨by rw[List.length_set];exact h.2.2,fun a b hb=>?_⟩;rw[Zz (by rw[h.2.2];exact hi)];by_cases e:a=i
   ·subst e;rw[if_pos rfl,if_pos ⟨rfl,fun h=>hc (.inl h)⟩];have:=k2 b hb;rw[Nat.zero_add]at this;exact Qk4 this
   ·rw[if_neg e,if_neg (fun h=>e h.1)]
theorem Wy {n w r j:Nat} {M Y:List (List Rat)} (h:Bf n w M) (hr:r<n) (hd:A6 M r j≠0) (hj:j<w) (he:G0 M j r=some Y):Bf n w Y∧∀a b,a<n→b<w→A6 Y a b=if a=r then A6 M r b / A6 M r j else A6 M a b-A6 M r b / A6 M r j*A6 M a j:=by
 refine⟨Wo hr h hd he,?_⟩;unfold G0 at he;have hl:(Aj M r).length=w:=(h.row hr).2;rw[hl]at he;cases hm:Aw (Cx (A6 M r j)) w (Aj M r)with
 |none=>rw[hm]at he;cases he
 |some row =>
  rw[hm]at he;replace he:Aw (Bv r j) M.length (M.set r row)=some Y:=he;rw[h.2.2]at he;obtain⟨k1,k2,k3⟩:=Qy (o:=0) (op:=fun q _=>Fu q (A6 M r j)) (fun t r=>by rw[Nat.zero_add];rfl) (by omega) hm;have hrow:∀b,b<w→Ba row b=A6 M r b / A6 M r j:=fun b hb=>by
   have:=k2 b hb;rw[Nat.zero_add]at this;exact Qg7 this
  have hg1:Bf n w (M.set r row):=h.set r (Kw (p:=fun row=>Ef row∧row.length=w) (fun k s t hs hst=>It (fun q k x hx=>P3 hd hx) hs hst) (h.row hr) hm);have h1:∀a b,A6 (M.set r row) a b=if a=r then Ba row b else A6 M a b:=fun a b=>Zz (by rw[h.2.2];exact hr) row a b
  have key:∀(i:Nat) (Z:List (List Rat)),i≤n→Aw (Bv r j) i (M.set r row)=some Z→Bf n w Z∧∀a b,b<w→A6 Z a b=if a=r then Ba row b else if a<i then A6 M a b-Ba row b*A6 M a j else A6 M a b:=by
   intro i
   induction i with
   |zero =>
    intro Z _ hZ;cases hZ;refine⟨hg1,fun a b _=>?_⟩;rw[h1,if_neg (show ¬a<0 by omega)]
   |succ i ih =>
    intro Z hi hZ;rw[Bq]at hZ;cases hs:Aw (Bv r j) i (M.set r row)with
    |none=>rw[hs]at hZ;cases hZ
    |some U =>
     rw[hs]at hZ;obtain⟨g1,g2⟩:=ih U (by omega) hs;have hZ':Bv r j i U=some Z:=hZ;refine⟨Ra (by omega) g1 hZ',fun a b hb=>?_⟩;rw[(Yr g1 (by omega) hZ').2 a b hb];by_cases e:a=i∧i≠r
     ·obtain⟨rfl,e2⟩:=e;rw[if_pos ⟨rfl,e2⟩,if_neg e2,if_pos (by omega),g2 a b hb,g2 r b hb,g2 a j hj,if_neg e2,if_neg (by omega),if_pos rfl,if_neg e2,if_neg (by omega)]
     ·rw[if_neg e,g2 a b hb];by_cases e1:a=r
      ·rw[if_pos e1,if_pos e1]
      ·rw[if_neg e1,if_neg e1];by_cases e2:a<i
       ·rw[if_pos e2,if_pos (by omega)]
       ·rw[if_neg e2,if_neg];intro h3;exact e ⟨by omega,by omega⟩
  intro a b ha hb;rw[(key n Y (Nat.le_refl _) he).2 a b hb];by_cases e:a=r
  ·rw[if_pos e,if_pos e,hrow b hb]
  ·rw[if_neg e,if_neg e,if_pos ha,hrow b hb]
end Go.Av
end
section
namespace Go.Av
open Go.Proofs
theorem Qnj {n k l:Nat} {f:Nat→Rat} (hk:k<n) (hl:l<n) (hne:k≠l) (h:∀i,i<n→i≠k→i≠l→f i=0):Bd n f=f k+f l:=by
 have e:Bd n f=Bd n (fun i=>(if i=k then f k else 0)+if i=l then f l else 0):=A2 fun i hi=>by
  by_cases h1:i=k
  ·subst h1;rw[if_pos rfl,if_neg hne];grind
  ·by_cases h2:i=l
   ·subst h2;rw[if_neg h1,if_pos rfl];grind
   ·rw[if_neg h1,if_neg h2,h i hi h1 h2];grind
 rw[e,Gy,B3 hk fun i _ h=>if_neg h,B3 hl fun i _ h=>if_neg h,if_pos rfl,if_pos rfl]
abbrev MF:=Nat→Nat→Rat
def Km (i:Nat):Rat:=if i % 2=0 then 1 else -1
theorem Qh6 (i:Nat):Km (i+1)=-Km i:=by
 unfold Km;by_cases h:i % 2=0
 ·rw[if_pos h,if_neg (by omega)]
 ·rw[if_neg h,if_pos (by omega)];grind
def Bs (i a:Nat):Nat:=if a<i then a else a+1
def Cl (i:Nat) (M:MF):MF:=fun a b=>M (Bs i a) (b+1)
def Ci:Nat→MF→Rat
 |0,_=>1
 |n+1,M=>Bd (n+1) fun i=>Km i*M i 0*Ci n (Cl i M)
theorem F6 {n i a:Nat} (h:a<n):Bs i a<n+1:=by unfold Bs;split<;>omega
theorem Qgz (i a:Nat):Bs i a≠i:=by unfold Bs;split<;>omega
theorem B6:∀{n:Nat} {M M':MF},(∀a b,a<n→b<n→M a b=M' a b)→Ci n M=Ci n M'
 |0,_,_,_=>rfl
 |n+1,M,M',h=>A2 fun i hi=>by
  rw[h i 0 hi (by omega),B6 (n:=n) (M:=Cl i M) (M':=Cl i M') fun a b ha hb=>h _ _ (F6 ha) (by omega)]
structure Pi (n:Nat) (F:MF→Rat):Prop where
 congr:∀{M M':MF},(∀a b,a<n→b<n→M a b=M' a b)→F M=F M'
 lin:∀{r:Nat} {c:Rat} {M U V:MF},r<n→(∀b,b<n→M r b=c*U r b+V r b)→(∀a b,a<n→b<n→a≠r→U a b=M a b)→(∀a b,a<n→b<n→a≠r→V a b=M a b)→F M=c*F U+F V
 alt:∀{r s:Nat} {M:MF},r<n→s<n→r≠s→(∀b,b<n→M r b=M s b)→F M=0
theorem Kj:∀{n:Nat} {r:Nat} {c:Rat} {M U V:MF},r<n→(∀b,b<n→M r b=c*U r b+V r b)→(∀a b,a<n→b<n→a≠r→U a b=M a b)→(∀a b,a<n→b<n→a≠r→V a b=M a b)→Ci n M=c*Ci n U+Ci n V
 |0,r,c,M,U,V,hr,_,_,_=>by omega
 |n+1,r,c,M,U,V,hr,h,hU,hV=>by
  show Bd (n+1) (fun i=>Km i*M i 0*Ci n (Cl i M))=c*Bd (n+1) (fun i=>Km i*U i 0*Ci n (Cl i U))+Bd (n+1) (fun i=>Km i*V i 0*Ci n (Cl i V))
  rw[←Dj,←Gy];refine A2 fun i hi=>?_;by_cases e:i=r
  ·subst e;have e1:Ci n (Cl i U)=Ci n (Cl i M):=B6 fun a b ha hb=>hU _ _ (F6 ha) (by omega) (Qgz i a);have e2:Ci n (Cl i V)=Ci n (Cl i M):=B6 fun a b ha hb=>hV _ _ (F6 ha) (by omega) (Qgz i a);rw[e1,e2,h 0 (by omega)];grind
  ·have e1:Ci n (Cl i M)=c*Ci n (Cl i U)+Ci n (Cl i V):=by
    have hs:Bs i (if r<i then r else r-1)=r:=by
     by_cases q:r<i
     ·rw[if_pos q];exact if_pos q
     ·rw[if_neg q];unfold Bs;rw[if_neg (by omega)];omega
    refine Kj (r:=if r<i then r else r-1) (by split<;>omega) (fun b hb=>?_) (fun a b ha hb hne=>?_) (fun a b ha hb hne=>?_)
    ·show M (Bs i _) (b+1)=c*U (Bs i _) (b+1)+V (Bs i _) (b+1)
     rw[hs];exact h _ (by omega)
    ·refine hU _ _ (F6 ha) (by omega) fun e3=>hne ?_;unfold Bs at e3;split at e3<;>split<;>omega
    ·refine hV _ _ (F6 ha) (by omega) fun e3=>hne ?_;unfold Bs at e3;split at e3<;>split<;>omega
   rw[e1,hU i 0 hi (by omega) e,hV i 0 hi (by omega) e];grind
theorem Wh:∀{n:Nat} {r:Nat} {M:MF},r+1<n→(∀b,b<n→M r b=M (r+1) b)→Ci n M=0
 |0,r,M,hr,_=>by omega
 |n+1,r,M,hr,h=>by
  show Bd (n+1) (fun i=>Km i*M i 0*Ci n (Cl i M))=0
  rw[Qnj (k:=r) (l:=r+1) (by omega) hr (by omega) fun i hi h1 h2=>by
   have:Ci n (Cl i M)=0:=by
    refine Wh (r:=if i<r then r-1 else r) (by split<;>omega) fun b hb=>?_
    show M (Bs i _) (b+1)=M (Bs i _) (b+1)
    by_cases e:i<r
    ·rw[if_pos e];have e1:Bs i (r-1)=r:=by unfold Bs;split<;>omega
     have e2:Bs i (r-1+1)=r+1:=by unfold Bs;split<;>omega
     rw[e1,e2];exact h _ (by omega)
    ·rw[if_neg e];have e1:Bs i r=r:=by unfold Bs;split<;>omega
     have e2:Bs i (r+1)=r+1:=by unfold Bs;split<;>omega
     rw[e1,e2];exact h _ (by omega)
   rw[this];grind]
  have e:Ci n (Cl r M)=Ci n (Cl (r+1) M):=B6 fun a b ha hb=>by
   show M (Bs r a) (b+1)=M (Bs (r+1) a) (b+1)
   by_cases e:a=r
   ·subst e;have e1:Bs a a=a+1:=by unfold Bs;split<;>omega
    have e2:Bs (a+1) a=a:=by unfold Bs;split<;>omega
    rw[e1,e2];exact(h _ (by omega)).symm
   ·have e1:Bs r a=Bs (r+1) a:=by unfold Bs;split<;>split<;>omega
    rw[e1]
  rw[e,Qh6,h 0 (by omega)];grind
def I5 (M:MF) (r s:Nat):MF:=fun a b=>if a=r then M s b else if a=s then M r b else M a b
theorem S5 {n r s:Nat} {F:MF→Rat} (hr:r<n) (hs:s<n) (hne:r≠s) (congr:∀{M M':MF},(∀a b,a<n→b<n→M a b=M' a b)→F M=F M')
  (lin:∀{r:Nat} {c:Rat} {M U V:MF},r<n→(∀b,b<n→M r b=c*U r b+V r b)→(∀a b,a<n→b<n→a≠r→U a b=M a b)→(∀a b,a<n→b<n→a≠r→V a b=M a b)→F M=c*F U+F V)
  (alt:∀M:MF,(∀b,b<n→M r b=M s b)→F M=0) (M:MF):F (I5 M r s)=-F M:=by
 have W:=fun(x y:Nat→Rat) (a b:Nat)=>if a=r then x b else if a=s then y b else M a b
 let W:(Nat→Rat)→(Nat→Rat)→MF:=fun x y a b=>if a=r then x b else if a=s then y b else M a b
 let u:=M r
 let v:=M s
 let t:Nat→Rat:=fun b=>M r b+M s b
 have l1:∀z,F (W t z)=F (W u z)+F (W v z):=fun z=>by
  have:=lin (r:=r) (c:=1) (M:=W t z) (U:=W u z) (V:=W v z) hr (fun b _=>by simp only[W,if_pos,u,v,t];grind) (fun a b _ _ hn=>by simp only[W,if_neg hn]) (fun a b _ _ hn=>by simp only[W,if_neg hn]);rw[this];grind
 have l2:∀z,F (W z t)=F (W z u)+F (W z v):=fun z=>by
  have:=lin (r:=s) (c:=1) (M:=W z t) (U:=W z u) (V:=W z v) hs (fun b _=>by simp only[W,if_neg (Ne.symm hne),if_pos,u,v,t];grind) (fun a b _ _ hn=>by simp only[W,if_neg hn]) (fun a b _ _ hn=>by simp only[W,if_neg hn]);rw[this];grind
 have z:∀x,F (W x x)=0:=fun x=>alt _ fun b _=>by simp only[W,if_pos,if_neg (Ne.symm hne)]
 have e1:F (W u v)=F M:=congr fun a b _ _=>by
  simp only[W,u,v];by_cases h1:a=r
  ·rw[if_pos h1,h1]
  ·rw[if_neg h1];by_cases h2:a=s
   ·rw[if_pos h2,h2]
   ·rw[if_neg h2]
 have e2:F (W v u)=F (I5 M r s):=congr fun a b _ _=>rfl;have h1:=l1 t;rw[z t,l2 u,l2 v,z u,z v,e1,e2]at h1;grind
theorem Qag:∀{n:Nat} (k:Nat) {r:Nat} {M:MF},r+k+1<n→(∀b,b<n→M r b=M (r+k+1) b)→Ci n M=0
 |n,0,r,M,hr,h=>Wh hr h
 |n,k+1,r,M,hr,h=>by
  have hs:=S5 (F:=Ci n) (r:=r+k+1) (s:=r+k+2) (by omega) (by omega) (by omega) B6 Kj (fun M hM=>Wh (r:=r+k+1) (by omega) hM) M;have h0:Ci n (I5 M (r+k+1) (r+k+2))=0:=Qag k (r:=r) (by omega) fun b hb=>by
   unfold I5;rw[if_neg (by omega),if_neg (by omega),if_pos rfl];exact h b hb
  rw[h0]at hs;grind
theorem Hu (n:Nat):Pi n (Ci n) where
 congr:=B6
 lin:=Kj
 alt:=fun {r s M} hr hs hne h=>by
  rcases Nat.lt_or_gt_of_ne hne with hl|hl
  ·exact Qag (s-r-1) (r:=r) (by omega) fun b hb=>by rw[show r+(s-r-1)+1=s by omega];exact h b hb
  ·exact Qag (r-s-1) (r:=s) (by omega) fun b hb=>by rw[show s+(r-s-1)+1=r by omega];exact(h b hb).symm
theorem Pi.swap {n:Nat} {F:MF→Rat} (h:Pi n F) {r s:Nat} (hr:r<n) (hs:s<n) (hne:r≠s) (M:MF):F (I5 M r s)=-F M :=
 S5 hr hs hne h.congr h.lin (fun M hM=>h.alt hr hs hne hM) M
def Q7:MF:=fun a b=>if a=b then 1 else 0
theorem Uo:∀n,Ci n Q7=1
 |0=>rfl
 |n+1=>by
  show Bd (n+1) (fun i=>Km i*Q7 i 0*Ci n (Cl i Q7))=1
  rw[B3 (k:=0) (by omega) fun i _ hi=>by unfold Q7;rw[if_neg hi];grind];rw[B6 (M':=Q7) fun a b ha hb=>by
   show Q7 (Bs 0 a) (b+1)=Q7 a b
   rw[show Bs 0 a=a+1 from if_neg (by omega)];unfold Q7;by_cases e:a=b
   ·rw[if_pos e,if_pos (by omega)]
   ·rw[if_neg e,if_neg (by omega)],Uo n]
  unfold Km Q7;simp
def setF (M:MF) (r:Nat) (u:Nat→Rat):MF:=fun a b=>if a=r then u b else M a b
def eF (j:Nat):Nat→Rat:=fun b=>if b=j then 1 else 0
theorem Pi.sum {n:Nat} {F:MF→Rat} (h:Pi n F) {k:Nat} (hk:k<n) (M:MF):F M=Bd n fun j=>M k j*F (setF M k (eF j)):=by
 have key:∀t,F (setF M k fun b=>if b<t then M k b else 0)=Bd t fun j=>M k j*F (setF M k (eF j)):=by
  intro t
  induction t with
  |zero =>
   have:=h.lin (r:=k) (c:=1) (M:=setF M k fun b=>if b<0 then M k b else 0) (U:=setF M k fun b=>if b<0 then M k b else 0) (V:=setF M k fun b=>if b<0 then M k b else 0) hk (fun b _=>by unfold setF;rw[if_pos rfl];dsimp only;rw[if_neg (by omega)];grind) (fun _ _ _ _ _=>rfl) (fun _ _ _ _ _=>rfl);show _=(0:Rat)
   grind
  |succ t ih =>
   rw[Cj,←ih];have:=h.lin (r:=k) (c:=M k t) (M:=setF M k fun b=>if b<t+1 then M k b else 0) (U:=setF M k (eF t)) (V:=setF M k fun b=>if b<t then M k b else 0) hk (fun b _=>by
    unfold setF eF;rw[if_pos rfl,if_pos rfl,if_pos rfl]
    dsimp only
    by_cases e:b=t
    ·subst e;rw[if_pos (by omega),if_pos rfl,if_neg (by omega)];grind
    ·rw[if_neg e];by_cases e2:b<t
     ·rw[if_pos (by omega),if_pos e2];grind
     ·rw[if_neg (by omega),if_neg e2];grind) (fun a b _ _ hn=>by unfold setF;rw[if_neg hn,if_neg hn]) (fun a b _ _ hn=>by unfold setF;rw[if_neg hn,if_neg hn])
   rw[this];grind
 rw[←key n];refine h.congr fun a b _ hb=>?_;unfold setF;by_cases e:a=k
 ·rw[if_pos e];dsimp only;rw[if_pos hb,e]
 ·rw[if_neg e]
theorem Qlc:∀(m:Nat) (f:Nat→Nat),(∀i,i≤m→f i<m)→∃i j,i<j∧j≤m∧f i=f j
 |0,f,h=>by have:=h 0 (by omega);omega
 |m+1,f,h=>by
  by_cases e:∃i,i≤m∧f i=f (m+1)
  ·obtain⟨i,hi,he⟩:=e;exact⟨i,m+1,by omega,by omega,he⟩
  ·have hne:∀i,i≤m→f i≠f (m+1):=fun i hi he=>e ⟨i,hi,he⟩;obtain⟨i,j,h1,h2,h3⟩:=Qlc m (fun i=>if f (m+1)<f i then f i-1 else f i) fun i hi=>by
    have:=h i (by omega);have:=h (m+1) (by omega);have:=hne i hi;split<;>omega
   refine⟨i,j,h1,by omega,?_⟩;have a1:=hne i (by omega);have a2:=hne j h2;split at h3<;>split at h3<;>omega
def Oh (c:Nat→Nat):MF:=fun a b=>if b=c a then 1 else 0
theorem Pi.unit {n:Nat} {F:MF→Rat} (h:Pi n F):∀(j k:Nat),k+j=n→∀c:Nat→Nat,(∀a,a<n→c a<n)→(∀r,r<k→c r=r)→F (Oh c)=F Q7*Ci n (Oh c)
 |0,k,hk,c,hc,hr=>by
  have e:∀a b,a<n→b<n→Oh c a b=Q7 a b:=fun a b ha _=>by
   unfold Oh Q7;rw[hr a (by omega)];by_cases e:b=a
   ·rw[if_pos e,if_pos e.symm]
   ·rw[if_neg e,if_neg (Ne.symm e)]
  rw[h.congr e,B6 e,Uo];grind
 |j+1,k,hk,c,hc,hr=>by
  by_cases hex:∃s,k≤s∧s<n∧c s=k
  ·obtain⟨s,hs1,hs2,hs3⟩:=hex;by_cases e:s=k
   ·subst e;exact h.unit j (s+1) (by omega) c hc fun r hr'=>by
     by_cases e:r=s
     ·rw[e];exact hs3
     ·exact hr r (by omega)
   ·let c':Nat→Nat:=fun a=>if a=k then c s else if a=s then c k else c a
    have hsw:∀a b,a<n→b<n→Oh c a b=I5 (Oh c') k s a b:=fun a b _ _=>by
     unfold I5 Oh;by_cases h1:a=k
     ·rw[if_pos h1];simp only[c',if_neg e,if_pos,h1]
     ·rw[if_neg h1];by_cases h2:a=s
      ·rw[if_pos h2];simp only[c',if_pos,h2]
      ·rw[if_neg h2];simp only[c',if_neg h1,if_neg h2]
    rw[h.congr hsw,B6 hsw,h.swap (by omega) hs2 (Ne.symm e),(Hu n).swap (by omega) hs2 (Ne.symm e),h.unit j (k+1) (by omega) c' (fun a ha=>by
     simp only[c'];split
     ·exact hc s hs2
     ·split
      ·exact hc k (by omega)
      ·exact hc a ha) (fun r hr'=>by
     simp only[c'];by_cases h1:r=k
     ·rw[if_pos h1,hs3,h1]
     ·rw[if_neg h1,if_neg (by omega)];exact hr r (by omega))]
    grind
  ·have hno:∀a,a<n→c a≠k:=fun a ha he=>by
    rcases Nat.lt_or_ge a k with h1|h1
    ·have:=hr a h1;omega
    ·exact hex ⟨a,h1,ha,he⟩
   obtain⟨p,q,h1,h2,h3⟩:=Qlc (n-1) (fun a=>if k<c a then c a-1 else c a) fun a ha=>by
    have:=hc a (by omega);have:=hno a (by omega);split<;>omega
   have hpq:c p=c q:=by
    have:=hno p (by omega);have:=hno q (by omega);split at h3<;>split at h3<;>omega
   rw[h.alt (r:=p) (s:=q) (by omega) (by omega) (by omega) fun b _=>by unfold Oh;rw[hpq],(Hu n).alt (r:=p) (s:=q) (by omega) (by omega) (by omega) fun b _=>by unfold Oh;rw[hpq]];grind
theorem Pi.step {n:Nat} {F:MF→Rat} (h:Pi n F):∀k,k≤n→∀M:MF,(∀r,k≤r→r<n→∃c,c<n∧∀b,b<n→M r b=if b=c then 1 else 0)→F M=F Q7*Ci n M
 |0,_,M,hM=>by
  have hM':∀r,∃c,r<n→c<n∧∀b,b<n→M r b=if b=c then 1 else 0:=fun r=>by
   by_cases hr:r<n
   ·obtain⟨c,hc⟩:=hM r (by omega) hr;exact⟨c,fun _=>hc⟩
   ·exact⟨0,fun h=>absurd h hr⟩
  have e:∀a b,a<n→b<n→M a b=Oh (fun r=>(hM' r).choose) a b:=fun a b ha hb=>((hM' a).choose_spec ha).2 b hb;rw[h.congr e,B6 e];exact h.unit n 0 (by omega) _ (fun a ha=>((hM' a).choose_spec ha).1) fun r hr=>by omega
 |k+1,hk,M,hM=>by
  rw[h.sum (k:=k) (by omega) M,(Hu n).sum (k:=k) (by omega) M,←Dj];refine A2 fun j hj=>?_;rw[h.step k (by omega) (setF M k (eF j)) fun r hr hrn=>by
   by_cases e:r=k
   ·exact⟨j,hj,fun b _=>by unfold setF eF;rw[if_pos e]⟩
   ·obtain⟨c,h1,h2⟩:=hM r (by omega) hrn;exact⟨c,h1,fun b hb=>by unfold setF;rw[if_neg e];exact h2 b hb⟩]
  grind
theorem Pi.uniq {n:Nat} {F:MF→Rat} (h:Pi n F) (M:MF):F M=F Q7*Ci n M:=h.step n (Nat.le_refl _) M fun r h1 h2=>by omega
def Qeh (n:Nat) (A B:MF):MF:=fun i j=>Bd n fun k=>A i k*B k j
theorem Qkw (n:Nat) (B:MF):Pi n fun A=>Ci n (Qeh n A B) where
 congr:=fun {M M'} h=>B6 fun a b ha hb=>A2 fun k hk=>by rw[h a k ha hk]
 lin:=fun {r c M U V} hr h hU hV=>Kj hr (fun b hb=>by
  unfold Qeh;rw[←Dj,←Gy];exact A2 fun k hk=>by rw[h k hk];grind) (fun a b ha hb hn=>A2 fun k hk=>by rw[hU a k ha hk hn]) (fun a b ha hb hn=>A2 fun k hk=>by rw[hV a k ha hk hn])
 alt:=fun {r s M} hr hs hne h=>(Hu n).alt hr hs hne fun b hb=>A2 fun k hk=>by rw[h k hk]
theorem Qlq (n:Nat) (A B:MF):Ci n (Qeh n A B)=Ci n A*Ci n B:=by
 have:=(Qkw n B).uniq A;have e:Ci n (Qeh n Q7 B)=Ci n B:=B6 fun a b ha hb=>by
  unfold Qeh;rw[B3 (k:=a) ha fun i _ hne=>by unfold Q7;rw[if_neg (Ne.symm hne)];grind];unfold Q7;rw[if_pos rfl];grind
 rw[this,e];grind
def Tw (M:MF):MF:=fun i j=>M j i
theorem Y6:∀{n:Nat} {r:Nat} {c:Rat} {M U V:MF},r<n→(∀a,a<n→M a r=c*U a r+V a r)→(∀a b,a<n→b<n→b≠r→U a b=M a b)→(∀a b,a<n→b<n→b≠r→V a b=M a b)→Ci n M=c*Ci n U+Ci n V
 |0,r,c,M,U,V,hr,_,_,_=>by omega
 |n+1,r,c,M,U,V,hr,h,hU,hV=>by
  show Bd (n+1) (fun i=>Km i*M i 0*Ci n (Cl i M))=c*Bd (n+1) (fun i=>Km i*U i 0*Ci n (Cl i U))+Bd (n+1) (fun i=>Km i*V i 0*Ci n (Cl i V))
  rw[←Dj,←Gy];refine A2 fun i hi=>?_;by_cases e:r=0
  ·subst e;have e1:Ci n (Cl i U)=Ci n (Cl i M):=B6 fun a b ha hb=>hU _ _ (F6 ha) (by omega) (by omega);have e2:Ci n (Cl i V)=Ci n (Cl i M):=B6 fun a b ha hb=>hV _ _ (F6 ha) (by omega) (by omega);rw[e1,e2,h i hi];grind
  ·have e1:Ci n (Cl i M)=c*Ci n (Cl i U)+Ci n (Cl i V):=by
    refine Y6 (r:=r-1) (by omega) (fun a ha=>?_) (fun a b ha hb hne=>hU _ _ (F6 ha) (by omega) (by omega)) (fun a b ha hb hne=>hV _ _ (F6 ha) (by omega) (by omega));show M (Bs i a) (r-1+1)=c*U (Bs i a) (r-1+1)+V (Bs i a) (r-1+1)
    rw[show r-1+1=r by omega];exact h _ (F6 ha)
   rw[e1,hU i 0 hi (by omega) (Ne.symm e),hV i 0 hi (by omega) (Ne.symm e)];grind
theorem Qmv {n r s:Nat} {M:MF} (hr:r<n) (hs:s<n) (hne:r≠s) (h:∀a,a<n→M a r=M a s):Ci n M=0:=by
 have e:=Qlq n M (I5 Q7 r s);rw[(Hu n).swap hr hs hne,Uo]at e;have e2:Ci n (Qeh n M (I5 Q7 r s))=Ci n M:=B6 fun a b ha hb=>by
  unfold Qeh;by_cases e1:b=r
  ·rw[B3 (k:=s) hs fun i hi hn=>by
    unfold I5 Q7;by_cases q1:i=r
    ·rw[if_pos q1,if_neg (by omega)];grind
    ·rw[if_neg q1,if_neg hn,if_neg (by omega)];grind]
   unfold I5 Q7;rw[if_neg (Ne.symm hne),if_pos rfl,if_pos e1.symm,←h a ha,e1];grind
  ·by_cases e3:b=s
   ·rw[B3 (k:=r) hr fun i hi hn=>by
     unfold I5 Q7;rw[if_neg hn];by_cases q1:i=s
     ·rw[if_pos q1,if_neg (by omega)];grind
     ·rw[if_neg q1,if_neg (by omega)];grind]
    unfold I5 Q7;rw[if_pos rfl,if_pos e3.symm,h a ha,e3];grind
   ·rw[B3 (k:=b) hb fun i hi hn=>by
     unfold I5 Q7;by_cases q1:i=r
     ·rw[if_pos q1,if_neg (by omega)];grind
     ·rw[if_neg q1];by_cases q2:i=s
      ·rw[if_pos q2,if_neg (by omega)];grind
      ·rw[if_neg q2,if_neg hn];grind]
    unfold I5 Q7;rw[if_neg e1,if_neg e3,if_pos rfl];grind
 rw[e2]at e;grind
theorem Qqo (n:Nat):Pi n fun A=>Ci n (Tw A) where
 congr:=fun {M M'} h=>B6 fun a b ha hb=>h b a hb ha
 lin:=fun {r c M U V} hr h hU hV=>Y6 hr (fun a ha=>h a ha) (fun a b ha hb hn=>hU b a hb ha hn) (fun a b ha hb hn=>hV b a hb ha hn)
 alt:=fun {r s M} hr hs hne h=>Qmv hr hs hne fun a ha=>h a ha
theorem Qa (n:Nat) (A:MF):Ci n (Tw A)=Ci n A:=by
 have:=(Qqo n).uniq A;have e:Ci n (Tw Q7)=1:=by
  rw[←Uo n];exact B6 fun a b _ _=>by
   unfold Tw Q7;by_cases e:a=b
   ·rw[if_pos e,if_pos e.symm]
   ·rw[if_neg e,if_neg (Ne.symm e)]
 rw[this,e];grind
theorem Qe7 {n r:Nat} {M Y:MF} (hr:r<n) (c:Rat) (hrow:∀b,b<n→Y r b=c*M r b) (h:∀a b,a<n→b<n→a≠r→Y a b=M a b):Ci n Y=c*Ci n M:=by
 have h0:Ci n (fun a b=>if a=r then 0 else M a b)=0:=by
  have:=Kj (n:=n) (r:=r) (c:=1) (M:=fun a b=>if a=r then 0 else M a b) (U:=fun a b=>if a=r then 0 else M a b) (V:=fun a b=>if a=r then 0 else M a b) hr (fun b _=>by simp only[if_pos];grind) (fun _ _ _ _ _=>rfl) (fun _ _ _ _ _=>rfl);grind
 have:=Kj (n:=n) (r:=r) (c:=c) (M:=Y) (U:=M) (V:=fun a b=>if a=r then 0 else M a b) hr (fun b hb=>by simp only[if_pos];rw[hrow b hb];grind) (fun a b ha hb hn=>(h a b ha hb hn).symm) (fun a b ha hb hn=>by simp only[if_neg hn];exact(h a b ha hb hn).symm);rw[this,h0];grind
end Go.Av
end
section
namespace Go.Av
open Go.Proofs
def Hv (n w:Nat) (M:List (List Rat)) (v:Nat→Rat):Prop:=∀i,i<n→D7 w (A6 M i) v=0
theorem Qif {n w:Nat} {M:List (List Rat)} {i r:Nat} (hM:M.length=n) (hi:i<n) (hr:r<n) (v:Nat→Rat):Hv n w (Cg M i r) v↔Hv n w M v:=by
 have e:∀a,D7 w (A6 (Cg M i r) a) v=if a=r then D7 w (A6 M i) v else if a=i then D7 w (A6 M r) v else D7 w (A6 M a) v:=fun a=>by
  have:A6 (Cg M i r) a=fun b=>if a=r then A6 M i b else if a=i then A6 M r b else A6 M a b:=funext fun b=>P7 (by omega) (by omega) a b
  rw[this];split
  ·rfl
  ·split<;>rfl
 constructor
 ·intro h a ha;by_cases e1:a=r
  ·by_cases e2:i=r
   ·have:=h r hr;rw[e,if_pos rfl,e2]at this;rw[e1];exact this
   ·have:=h i hi;rw[e,if_neg e2,if_pos rfl]at this;rw[e1];exact this
  ·by_cases e2:a=i
   ·have:=h r hr;rw[e,if_pos rfl]at this;rw[e2];exact this
   ·have:=h a ha;rw[e,if_neg e1,if_neg e2]at this;exact this
 ·intro h a ha;rw[e];split
  ·exact h i hi
  ·split
   ·exact h r hr
   ·exact h a ha
theorem Qe0 {n w r j:Nat} {M Y:List (List Rat)} (hr:r<n) (hd:A6 M r j≠0) (hs:∀a b,a<n→b<w→A6 Y a b=if a=r then A6 M r b / A6 M r j else A6 M a b-A6 M r b / A6 M r j*A6 M a j) (v:Nat→Rat):Hv n w Y v↔Hv n w M v:=by
 have e1:D7 w (A6 Y r) v=D7 w (A6 M r) v / A6 M r j:=by
  rw[←Qa3];exact Wt (fun l hl=>by rw[hs r l hr hl,if_pos rfl]) fun _ _=>rfl
 have e2:∀a,a<n→a≠r→D7 w (A6 Y a) v=D7 w (A6 M a) v-A6 M a j*(D7 w (A6 M r) v / A6 M r j):=fun a ha hne=>by
  rw[←Qa3,←Qky];exact Wt (fun l hl=>by rw[hs a l ha hl,if_neg hne]) fun _ _=>rfl
 constructor
 ·intro h a ha;have h0:D7 w (A6 M r) v=0:=by have:=h r hr;rw[e1]at this;grind
  by_cases e:a=r
  ·rw[e];exact h0
  ·have:=h a ha;rw[e2 a ha e,h0]at this;grind
 ·intro h a ha;by_cases e:a=r
  ·subst e;rw[e1,h a ha];grind
  ·rw[e2 a ha e,h a ha,h r hr];grind
theorem Qjl {M:List (List Rat)} {j r:Nat} (h:T3 M j r=none):∀i,r≤i→i<M.length→A6 M i j=0:=by
 unfold T3 at h;rw[List.find?_eq_none]at h;intro i hr hi;have:=h i (List.mem_range.2 hi);simp[hr]at this;exact this
structure Ia (n w j:Nat) (M:List (List Rat)) (ps:List Nat):Prop where
 good:Bf n w M
 len:ps.length≤n
 srt:ps.Pairwise (·<·)
 lt:∀p∈ps,p<j
 one:∀k,k<ps.length→∀i,i<n→A6 M i (ps.getD k 0)=if i=k then 1 else 0
 zer:∀i,i<n→∀c,c<j→(i<ps.length→c<ps.getD i 0)→A6 M i c=0
theorem Gt {ps:List Nat} {k:Nat} (h:k<ps.length):ps.getD k 0∈ps:=by rw[List.getD_eq_getElem?_getD,List.getElem?_eq_getElem h];exact List.getElem_mem h
theorem Iy (ps:List Nat) (j k:Nat):(ps++[j]).getD k 0=if k<ps.length then ps.getD k 0 else if k=ps.length then j else 0:=by
 rw[List.getD_eq_getElem?_getD];by_cases h:k<ps.length
 ·rw[if_pos h,List.getElem?_append_left h,←List.getD_eq_getElem?_getD]
 ·rw[if_neg h,List.getElem?_append_right (by omega)];by_cases e:k=ps.length
  ·rw[if_pos e,e,Nat.sub_self];rfl
  ·rw[if_neg e,List.getElem?_eq_none (by simp;omega)];rfl
theorem Ia.start {n w:Nat} {M:List (List Rat)} (h:Bf n w M):Ia n w 0 M [] :=
 ⟨h,Nat.zero_le _,List.Pairwise.nil,fun p hp=>(by cases hp),fun k hk=>(by cases hk),fun i _ c hc=>by omega⟩
theorem Ia.step {n w j:Nat} {M:List (List Rat)} {ps:List Nat} (h:Ia n w j M ps) (hj:j<w) {z:List (List Rat) × List Nat} (he:Cn j (M,ps)=some z):Ia n w (j+1) z.1 z.2∧∀v,Hv n w z.1 v↔Hv n w M v:=by
 have hl:=h.good.2.2;unfold Cn at he;simp only at he;cases hp:T3 M j ps.length with
 |none =>
  rw[hp]at he;simp only[Option.some.injEq]at he;subst he;have h0:=Qjl hp;show Ia n w (j+1) M ps∧_
  refine⟨⟨h.good,h.len,h.srt,fun p hp=>by have:=h.lt p hp;omega,h.one,fun i hi c hc hcl=>?_⟩,fun _=>Iff.rfl⟩;by_cases e:c=j
  ·subst e;by_cases hil:i<ps.length
   ·have:=hcl hil;have:=h.lt _ (Gt hil);omega
   ·exact h0 i (by omega) (by omega)
  ·exact h.zer i hi c (by omega) hcl
 |some i0 =>
  rw[hp]at he;obtain⟨p1,p2,p3⟩:=Q8 hp;rw[hl]at p1;have hr:ps.length<n:=by omega
  simp only at he;cases hc:G0 (Cg M i0 ps.length) j ps.length with
  |none=>rw[hc]at he;cases he
  |some Y =>
   rw[hc]at he;cases he;have hG:=h.good.swap p1 hr;have hsw:∀a b,A6 (Cg M i0 ps.length) a b=if a=ps.length then A6 M i0 b else if a=i0 then A6 M ps.length b else A6 M a b:=fun a b=>P7 (by omega) (by omega) a b
   have hd:A6 (Cg M i0 ps.length) ps.length j≠0:=by rw[hsw,if_pos rfl];exact p3
   obtain⟨hY,hs⟩:=Wy hG hr hd hj hc;refine⟨⟨hY,by simp;omega,?_,fun p hp=>?_,fun k hk i hi=>?_,fun i hi c hc hcl=>?_⟩,fun v=>?_⟩
   ·rw[List.pairwise_append];exact⟨h.srt,by simp,fun a ha b hb=>by simp at hb;subst hb;exact h.lt a ha⟩
   ·simp at hp;rcases hp with hp | rfl
    ·have:=h.lt p hp;omega
    ·omega
   ·rw[Iy];by_cases hkl:k<ps.length
    ·rw[if_pos hkl];have hpj:=h.lt _ (Gt hkl);have o:=h.one k hkl;have z1:A6 (Cg M i0 ps.length) ps.length (ps.getD k 0)=0:=by rw[hsw,if_pos rfl,o i0 p1,if_neg (by omega)]
     rw[hs i _ hi (by omega),z1];by_cases e1:i=ps.length
     ·rw[if_pos e1,if_neg (by omega)];grind
     ·rw[if_neg e1,hsw,if_neg e1];by_cases e2:i=i0
      ·rw[if_pos e2,o _ hr,if_neg (by omega),if_neg (by omega)];grind
      ·rw[if_neg e2,o i hi];grind
    ·have hk2:k=ps.length:=by simp at hk;omega
     rw[if_neg hkl,if_pos hk2,hs i j hi hj];by_cases e1:i=ps.length
     ·rw[if_pos e1,if_pos (by omega)];grind
     ·rw[if_neg e1,if_neg (by omega)];grind
   ·have hcj:c<j∨c=j:=by omega
    have zr:c<j→A6 (Cg M i0 ps.length) ps.length c=0:=fun hc=>by
     rw[hsw,if_pos rfl];exact h.zer i0 p1 c hc (fun h=>by omega)
    rw[hs i c hi (by omega)];by_cases e1:i=ps.length
    ·have:c<j:=by
      have:=hcl (by simp;omega);rw[Iy,if_neg (by omega),if_pos e1]at this;exact this
     rw[if_pos e1,zr this];grind
    ·rw[if_neg e1];rcases hcj with hcj | hcj
     ·rw[zr hcj,hsw,if_neg e1];have hz:i≠i0→A6 M i c=0:=fun hne=>h.zer i hi c hcj fun hil=>by
       have:=hcl (by simp;omega)
       rwa [Iy,if_pos hil]at this
      by_cases e2:i=i0
      ·rw[if_pos e2,h.zer _ hr c hcj (fun h=>by omega)];grind
      ·rw[if_neg e2,hz e2];grind
     ·subst hcj;have:¬i<ps.length:=fun hil=>by
       have h1:=hcl (by simp;omega);rw[Iy,if_pos hil]at h1;have:=h.lt _ (Gt hil);omega
      grind
   ·rw[Qe0 hr hd hs v,Qif hl p1 hr v]
end Go.Av
end
section
namespace Go.Av
open Go.Proofs
theorem Rn:∀{n k0:Nat} (g:Nat→Rat),k0≤n→Bd (n+1) g=g k0+Bd n fun k=>g (Bs k0 k)
 |0,k0,g,h=>by
  have:k0=0:=by omega
  subst this;show 0+g 0=g 0+0
  grind
 |n+1,k0,g,h=>by
  rw[Cj];by_cases e:k0=n+1
  ·subst e;rw[A2 (f:=fun k=>g (Bs (n+1) k)) (g:=g) fun k hk=>by
    show g (Bs (n+1) k)=g k
    rw[show Bs (n+1) k=k from if_pos hk]]
   grind
  ·rw[Rn g (show k0≤n by omega),Cj];rw[show Bs k0 n=n+1 from if_neg (by omega)];grind
theorem Qh:∀(m n:Nat) (A:Nat→Nat→Rat),m<n→∃u:Nat→Rat,(∃k,k<n∧u k≠0)∧∀i,i<m→Bd n (fun k=>A i k*u k)=0
 |0,n,A,h=>⟨fun k=>if k=0 then 1 else 0,⟨0,h,by dsimp only;rw[if_pos rfl];decide⟩,fun i hi=>by omega⟩
 |m+1,n,A,h=>by
  by_cases hz:∃k,k<n∧A m k≠0
  ·obtain⟨k0,hk0,hne⟩:=hz;obtain⟨u',⟨k1,hk1,hu1⟩,hu2⟩:=Qh m (n-1) (fun i k=>A i (Bs k0 k)-A i k0 / A m k0*A m (Bs k0 k)) (by omega)
   let c:Rat:=-(Bd (n-1) fun k=>A m (Bs k0 k)*u' k) / A m k0
   have hn:n=n-1+1:=by omega
   have hsk:∀k,(if Bs k0 k=k0 then c else u' (if Bs k0 k<k0 then Bs k0 k else Bs k0 k-1))=u' k:=fun k=>by
    by_cases q:k<k0
    ·rw[show Bs k0 k=k from if_pos q,if_neg (by omega),if_pos q]
    ·rw[show Bs k0 k=k+1 from if_neg q,if_neg (by omega),if_neg (by omega),Nat.add_sub_cancel]
   refine⟨fun k=>if k=k0 then c else u' (if k<k0 then k else k-1),⟨Bs k0 k1,by rw[hn];exact F6 hk1,by dsimp only;rw[hsk];exact hu1⟩,fun i hi=>?_⟩;have hsum:∀i,Bd n (fun k=>A i k*if k=k0 then c else u' (if k<k0 then k else k-1))=A i k0*c+Bd (n-1) fun k=>A i (Bs k0 k)*u' k:=fun i=>by
    conv=>lhs;rw[hn]
    rw[Rn (k0:=k0) _ (by omega),if_pos rfl]
    congr 1
    exact A2 fun k _=>by rw[hsk]
   rw[hsum];by_cases e:i=m
   ·rw[e];simp only[c];grind
   ·have h3:=hu2 i (by omega);have h4:Bd (n-1) (fun k=>(A i (Bs k0 k)-A i k0 / A m k0*A m (Bs k0 k))*u' k)=Bd (n-1) (fun k=>A i (Bs k0 k)*u' k)+(-(A i k0 / A m k0))*Bd (n-1) (fun k=>A m (Bs k0 k)*u' k):=by
     rw[←Dj,←Gy];exact A2 fun k _=>by grind
    rw[h4]at h3;simp only[c];grind
  ·obtain⟨u,h1,h2⟩:=Qh m n A (by omega);refine⟨u,h1,fun i hi=>?_⟩;by_cases e:i=m
   ·subst e;exact Hb fun k hk=>by
     have:A i k=0:=Decidable.not_not.1 fun hne=>hz ⟨k,hk,hne⟩;rw[this];grind
   ·exact h2 i (by omega)
theorem Pi.comb {n:Nat} {F:MF→Rat} (h:Pi n F) {k:Nat} (hk:k<n) (u:Nat→Rat) (M:MF):F (setF M k fun b=>Bd n fun i=>u i*M i b)=u k*F M:=by
 have key:∀t,t≤n→F (setF M k fun b=>Bd t fun i=>u i*M i b)=Bd t fun i=>u i*F (setF M k (M i)):=by
  intro t
  induction t with
  |zero =>
   intro _;have:=h.lin (r:=k) (c:=1) (M:=setF M k fun b=>Bd 0 fun i=>u i*M i b) (U:=setF M k fun b=>Bd 0 fun i=>u i*M i b) (V:=setF M k fun b=>Bd 0 fun i=>u i*M i b) hk (fun b _=>by
    unfold setF;rw[if_pos rfl];show(0:Rat)=1*0+0
    grind) (fun _ _ _ _ _=>rfl) (fun _ _ _ _ _=>rfl)
   show _=(0:Rat)
   grind
  |succ t ih =>
   intro ht;rw[Cj,←ih (by omega)];have:=h.lin (r:=k) (c:=u t) (M:=setF M k fun b=>Bd (t+1) fun i=>u i*M i b) (U:=setF M k (M t)) (V:=setF M k fun b=>Bd t fun i=>u i*M i b) hk (fun b _=>by
    unfold setF;rw[if_pos rfl,if_pos rfl,if_pos rfl]
    dsimp only
    rw[Cj];grind) (fun a b _ _ hn=>by unfold setF;rw[if_neg hn,if_neg hn]) (fun a b _ _ hn=>by unfold setF;rw[if_neg hn,if_neg hn])
   rw[this];grind
 rw[key n (Nat.le_refl _),B3 hk fun i hi hn=>by
  rw[h.alt (M:=setF M k (M i)) hk hi (Ne.symm hn) fun b _=>by unfold setF;rw[if_pos rfl,if_neg hn]];grind]
 congr 1
 exact h.congr fun a b _ _=>by
  unfold setF;by_cases e:a=k
  ·rw[if_pos e,e]
  ·rw[if_neg e]
theorem Ql1 {n:Nat} {T:MF} (h:Ci n T≠0) {u:Nat→Rat} (hu:∀i,i<n→D7 n (T i) u=0):∀k,k<n→u k=0:=by
 intro k hk;have h1:=(Hu n).comb hk u (Tw T);rw[Qa]at h1;have h2:Ci n (setF (Tw T) k fun b=>Bd n fun i=>u i*Tw T i b)=0:=by
  have:=Qe7 (n:=n) (r:=k) (M:=setF (Tw T) k fun b=>Bd n fun i=>u i*Tw T i b) (Y:=setF (Tw T) k fun b=>Bd n fun i=>u i*Tw T i b) hk 0 (fun b hb=>by
   have e:(setF (Tw T) k fun b=>Bd n fun i=>u i*Tw T i b) k b=0:=by
    unfold setF;rw[if_pos rfl]
    dsimp only
    rw[←hu b hb];unfold D7 Tw;exact A2 fun i _=>by grind
   rw[e];grind) (fun _ _ _ _ _=>rfl)
  grind
 rw[h2]at h1;rcases Rat.mul_eq_zero.1 h1.symm with h3 | h3
 ·exact h3
 ·exact absurd h3 h
theorem Qqg {w p:Nat} (R:Nat→Rat) {v:List Rat} (hp:p<w) (hv:p<v.length) (x:Rat):D7 w R (Ba (v.set p x))=D7 w R (Ba v)+R p*(x-Ba v p):=by
 have e1:D7 w R (Ba (v.set p x))=Bd w (fun l=>R l*Ba v l+if l=p then R p*(x-Ba v p) else 0):=A2 fun l _=>by
  show R l*Ba (v.set p x) l=_
  rw[Fl hv];by_cases e:l=p
  ·subst e;rw[if_pos rfl,if_pos rfl];grind
  ·rw[if_neg e,if_neg e];grind
 rw[e1,Gy]
 congr 1
 rw[B3 hp fun i _ hne=>if_neg hne,if_pos rfl]
theorem Re {Y:List (List Rat)} {ps:List Nat} {j:Nat} {v:List Rat} (hl:∀p∈ps,p<v.length) {p:Nat}:∀k,k≤ps.length→(∀i,i<k→ps.getD i 0≠p)→Ba (Qw Y ps j k v) p=Ba v p
 |0,_,_=>rfl
 |k+1,h,hp=>by
  show Ba ((Qw Y ps j k v).set (ps.getD k 0) (-(A6 Y k j))) p=Ba v p
  rw[Fl (by rw[Ht];exact hl _ (Gt (by omega))),if_neg (Ne.symm (hp k (by omega)))];exact Re hl k (by omega) fun i hi=>hp i (by omega)
theorem Qgp {Y:List (List Rat)} {ps:List Nat} {j w:Nat} {v:List Rat} (R:Nat→Rat) (hv:v.length=w) (hs:ps.Pairwise (·<·)) (hl:∀p∈ps,p<w) (hz:∀p∈ps,Ba v p=0) :
  ∀k,k≤ps.length→D7 w R (Ba (Qw Y ps j k v))=D7 w R (Ba v)-Bd k fun i=>R (ps.getD i 0)*A6 Y i j
 |0,_=>by show D7 w R (Ba v)=D7 w R (Ba v)-0;grind
 |k+1,h=>by
  show D7 w R (Ba ((Qw Y ps j k v).set (ps.getD k 0) (-(A6 Y k j))))=_
  have hm:=Gt (ps:=ps) (k:=k) (by omega);rw[Qqg R (hl _ hm) (by rw[Ht,hv];exact hl _ hm),Qgp R hv hs hl hz k (by omega),Cj,
   Re (fun p hp=>by rw[hv];exact hl p hp) k (by omega) (fun i hi=>by have:=Zt hs hi (show k<ps.length by omega);omega),hz _ hm]
  grind
theorem Ia.ker {n w:Nat} {Y:List (List Rat)} {ps:List Nat} (h:Ia n w w Y ps) {j:Nat} (hj:j<w) (hn:j ∉ ps):Hv n w Y (Ba (I2 Y ps w j)):=by
 intro i hi;have hv:((List.replicate w (0:Rat)).set j 1).length=w:=by simp
 have h0:∀p,Ba ((List.replicate w (0:Rat)).set j 1) p=if p=j then 1 else 0:=fun p=>by
  rw[Fl (by simpa using hj)];split
  ·rfl
  ·unfold Ba;by_cases e:p<w
   ·rw[List.getD_eq_getElem?_getD,List.getElem?_replicate,if_pos e];rfl
   ·rw[List.getD_eq_getElem?_getD,List.getElem?_replicate,if_neg e];rfl
 have h1:D7 w (A6 Y i) (Ba ((List.replicate w (0:Rat)).set j 1))=A6 Y i j:=by
  unfold D7;rw[B3 hj fun l _ hne=>by rw[h0,if_neg hne];grind,h0,if_pos rfl];grind
 unfold I2;rw[Qgp _ hv h.srt (fun p hp=>h.lt p hp) (fun p hp=>by rw[h0,if_neg (fun e=>hn (by rw[←e];exact hp))]) _ (Nat.le_refl _),h1];by_cases hil:i<ps.length
 ·rw[B3 hil fun k hk hne=>by rw[h.one k hk i hi,if_neg (Ne.symm hne)];grind,h.one i hil i hi,if_pos rfl];grind
 ·rw[Hb fun k hk=>by rw[h.one k hk i hi,if_neg (by omega)];grind,h.zer i hi j hj (fun h=>absurd h hil)];grind
theorem Qio {ps:List Nat} (h:ps.Pairwise (·<·)) (j:Nat):(ps.filter (·<j+1)).length=(ps.filter (·<j)).length+if j∈ps then 1 else 0:=by
 induction ps with
 |nil=>rfl
 |cons p l ih =>
  rw[List.pairwise_cons]at h;have ih:=ih h.2;rcases Nat.lt_trichotomy p j with e | e | e
  ·rw[List.filter_cons_of_pos (by simp;omega),List.filter_cons_of_pos (by simp;omega),List.length_cons,List.length_cons,ih];have:(j∈p::l)↔j∈l:=by rw[List.mem_cons];exact⟨fun h=>h.resolve_left (by omega),.inr⟩
   simp only[this];omega
  ·subst e;have hn:p ∉ l:=fun hm=>by have:=h.1 p hm;omega
   rw[if_neg hn]at ih;rw[List.filter_cons_of_pos (by simp),List.filter_cons_of_neg (by simp),List.length_cons,ih,if_pos (by simp)]
  ·rw[List.filter_cons_of_neg (by simp;omega),List.filter_cons_of_neg (by simp;omega),ih];have:(j∈p::l)↔j∈l:=by rw[List.mem_cons];exact⟨fun h=>h.resolve_left (by omega),.inr⟩
   simp only[this]
theorem Yf {Y:List (List Rat)} {ps:List Nat} {w:Nat} (h:ps.Pairwise (·<·)):∀j,(Hc Y ps w j).length+(ps.filter (·<j)).length=j
 |0=>by
  rw[show ps.filter (·<0)=[] by rw[List.filter_eq_nil_iff];intro a _;simp];rfl
 |j+1=>by
  have ih:=Yf (Y:=Y) (w:=w) h j;rw[Rh,Qio h];by_cases e:j∈ps
  ·rw[if_pos e,if_pos e];omega
  ·rw[if_neg e,if_neg e,List.length_append,List.length_singleton];omega
theorem Ia.count {n w:Nat} {Y:List (List Rat)} {ps:List Nat} (h:Ia n w w Y ps):(Hc Y ps w w).length+ps.length=w:=by
 have:=Yf (Y:=Y) (w:=w) h.srt w
 rwa [List.filter_eq_self.2 fun p hp=>by simpa using h.lt p hp]at this
end Go.Av
end
section
namespace Go.Av
open Go.Proofs
def Fy (B:Nat) (q:Rat):Prop:=∃z:Int,q=(z:Rat)∧z.natAbs≤B
theorem Qd {A B:Nat} {a b:Rat} (ha:Fy A a) (hb:Fy B b):Fy (A*B) (a*b):=by
 obtain⟨x,rfl,hx⟩:=ha;obtain⟨y,rfl,hy⟩:=hb;exact⟨x*y,by rw[Rat.intCast_mul],by rw[Int.natAbs_mul];exact Nat.mul_le_mul hx hy⟩
theorem Zl {A B:Nat} {a b:Rat} (ha:Fy A a) (hb:Fy B b):Fy (A+B) (a+b):=by
 obtain⟨x,rfl,hx⟩:=ha;obtain⟨y,rfl,hy⟩:=hb;exact⟨x+y,by rw[Rat.intCast_add],Nat.le_trans (Int.natAbs_add_le _ _) (Nat.add_le_add hx hy)⟩
theorem Qab {A:Nat} {a:Rat} (ha:Fy A a):Fy A (-a):=by
 obtain⟨x,rfl,hx⟩:=ha;exact⟨-x,by rw[Rat.intCast_neg],by rw[Int.natAbs_neg];exact hx⟩
theorem Pn {A B:Nat} {a b:Rat} (ha:Fy A a) (hb:Fy B b):Fy (A+B) (a-b):=by
 rw[Rat.sub_eq_add_neg];exact Zl ha (Qab hb)
theorem D8 {A B:Nat} {a:Rat} (h:A≤B) (ha:Fy A a):Fy B a:=by
 obtain⟨x,h1,hx⟩:=ha;exact⟨x,h1,Nat.le_trans hx h⟩
theorem Kf (A:Nat):Fy A 0:=⟨0,rfl,by simp⟩
theorem Un:Fy 1 1:=⟨1,rfl,by simp⟩
theorem Zh {B:Nat} {f:Nat→Rat}:∀{n:Nat},(∀i,i<n→Fy B (f i))→Fy (n*B) (Bd n f)
 |0,_=>Kf _
 |n+1,h=>by
  rw[Cj,Nat.succ_mul];exact Zl (Zh fun i hi=>h i (by omega)) (h n (by omega))
theorem Qqc (i:Nat):Fy 1 (Km i):=by
 unfold Km;split
 ·exact Un
 ·exact Qab Un
def Qee (A:Nat):Nat→Nat
 |0=>1
 |k+1=>(k+1)*(A*Qee A k)
theorem Zm {A:Nat}:∀{k:Nat} {M:MF},(∀a b,a<k→b<k→Fy A (M a b))→Fy (Qee A k) (Ci k M)
 |0,M,_=>Un
 |k+1,M,h=>by
  show Fy ((k+1)*(A*Qee A k)) (Bd (k+1) fun i=>Km i*M i 0*Ci k (Cl i M))
  refine Zh fun i hi=>?_;have h1:=Qd (Qd (Qqc i) (h i 0 hi (by omega))) (Zm (k:=k) (M:=Cl i M) fun a b ha hb=>h _ _ (F6 ha) (by omega))
  rwa [Nat.one_mul]at h1
def Sz (K:Nat) (q:Rat):Prop:=q.num.natAbs≤K∧q.den≤K
theorem Y7 {K:Nat} {n d:Int} (hn:n.natAbs≤K) (hd:d.natAbs≤K) (h0:d≠0):Sz K (Rat.divInt n d):=by
 have key:∀{n d:Int},n.natAbs≤K→d.natAbs≤K→0<d→Sz K (Rat.divInt n d):=by
  intro n d hn hd h0;refine⟨?_,?_⟩
  ·rw[Oy h0];exact Nat.le_trans (Int.natAbs_ediv_le_natAbs _ _) hn
  ·rw[Pe h0];exact Nat.le_trans (Nat.div_le_self _ _) hd
 rcases Int.lt_or_gt_of_ne h0 with h|h
 ·have:=key (n:=-n) (d:=-d) (by omega) (by omega) (by omega)
  rwa [Rat.neg_divInt_neg]at this
 ·exact key hn hd h
theorem Z7 {K:Nat} {z d:Rat} (hz:Fy K z) (hd:Fy K d) (h0:d≠0):Sz K (z / d):=by
 obtain⟨x,rfl,hx⟩:=hz;obtain⟨y,rfl,hy⟩:=hd;rw[←Rat.divInt_eq_div];exact Y7 hx hy fun e=>h0 (by rw[e];rfl)
theorem T9 {K L:Nat} {q:Rat} (h:K≤L) (hq:Sz K q):Sz L q:=⟨Nat.le_trans hq.1 h,Nat.le_trans hq.2 h⟩
theorem Qt9 {K L:Nat} {a b:Rat} (ha:Sz K a) (hb:Sz L b):Sz (K*L) (a*b):=by
 rw[Qex];refine Y7 (by rw[Int.natAbs_mul];exact Nat.mul_le_mul ha.1 hb.1) (by rw[Int.natAbs_mul];exact Nat.mul_le_mul ha.2 hb.2) ?_;have:=a.den_nz;have:=b.den_nz;exact Int.mul_ne_zero (by omega) (by omega)
theorem X8 {K L:Nat} {a b:Rat} (ha:Sz K a) (hb:Sz L b) (h:K*L<Bj):Df a b=some (a*b):=by
 unfold Df;rw[if_pos];simp only[Bool.and_eq_true,B4,Int.natAbs_mul,Int.natAbs_natCast];exact⟨Nat.lt_of_le_of_lt (Nat.mul_le_mul ha.1 hb.1) h,Nat.lt_of_le_of_lt (Nat.mul_le_mul ha.2 hb.2) h⟩
theorem Qis {K L:Nat} {a b:Rat} (ha:Sz K a) (hb:Sz L b) (h:K*L<Bj):Fu a b=some (a / b):=by
 unfold Fu;rw[if_pos];simp only[Bool.and_eq_true,B4,Int.natAbs_mul,Int.natAbs_natCast];exact⟨Nat.lt_of_le_of_lt (Nat.mul_le_mul ha.1 hb.2) h,Nat.lt_of_le_of_lt (Nat.mul_le_mul ha.2 hb.1) h⟩
theorem Ze {K L:Nat} {a b:Rat} (ha:Sz K a) (hb:Sz L b) (h:2*(K*L)<Bj):Da a b=some (a-b):=by
 have h1:=Nat.mul_le_mul ha.1 hb.2;have h2:=Nat.mul_le_mul ha.2 hb.1;have h3:=Nat.mul_le_mul ha.2 hb.2;have h4:=Int.natAbs_sub_le (a.num*b.den) (b.num*a.den);simp only[Int.natAbs_mul,Int.natAbs_natCast]at h4;rw[Nat.mul_comm b.num.natAbs]at h4;unfold Da;rw[if_pos];simp only[Bool.and_eq_true,B4,Int.natAbs_mul,Int.natAbs_natCast];rw[Nat.mul_comm b.num.natAbs];generalize a.num.natAbs*b.den=p at *;generalize a.den*b.num.natAbs=q at *;generalize a.den*b.den=r at *;generalize K*L=s at *;omega
theorem Qia {K L:Nat} {a b:Rat} (ha:Sz K a) (hb:Sz L b) (h:2*(K*L)<Bj):Ej a b=some (a+b):=by
 have h1:=Nat.mul_le_mul ha.1 hb.2;have h2:=Nat.mul_le_mul ha.2 hb.1;have h3:=Nat.mul_le_mul ha.2 hb.2;have h4:=Int.natAbs_add_le (a.num*b.den) (b.num*a.den);simp only[Int.natAbs_mul,Int.natAbs_natCast]at h4;rw[Nat.mul_comm b.num.natAbs]at h4;unfold Ej;rw[if_pos];simp only[Bool.and_eq_true,B4,Int.natAbs_mul,Int.natAbs_natCast];rw[Nat.mul_comm b.num.natAbs];generalize a.num.natAbs*b.den=p at *;generalize a.den*b.num.natAbs=q at *;generalize a.den*b.den=r at *;generalize K*L=s at *;omega
end Go.Av
end
