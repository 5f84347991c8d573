/- A part of the proof. -/
import Derived.Test.YthflocfaafoohaaGreatP3
set_option linter.all false
set_option exponentiation.threshold 5000
set_option maxRecDepth 10000
section
namespace Go.Av
open Go.Proofs Go.Lam
structure VSt where
 M:Aa
 fl:List Nat
 bs:List (Option Nat)
 cl:List (List Nat)
 sn:List Bool
def Quh (n bg bf bc bx c3:Nat) (es:List RE) (A:List Nat) (fl:List Nat) (bs:List (Option Nat)) (cl:List (List Nat)) (sn:List Bool) (j:Nat) (v:AV) (M':Aa):Prop :=
 ∃ok:Bool,v=.bool ok∧∃(fl':List Nat) (bs':List (Option Nat)) (cl':List (List Nat)) (sn':List Bool),Hz M' n bg bf bc bx c3 es fl' bs' cl' sn' ∧
  (ok=false→fl'=fl∧bs'=bs∧cl'=cl∧Jm n (Ad es) (Dz fl) (Cx cl) (E5 sn) (E5 sn')∧∀e∈Cx cl j,E5 sn' (Fo (Ad es) e j)=true) ∧
  (ok=true→Got n (Ad es) A (E5 sn) j (Dz fl) (Cx cl) (Dz fl') (Cx cl')∧∀v,E5 sn v=true→E5 sn' v=true)
theorem set_self {m:Aa} {b:Nat} {x:Ep} (h:m b=some x):m.set b x=m:=by
 funext k
 by_cases e:k=b
 ·subst e;rw[Aa.set_same,h]
 ·rw[Aa.set_other _ _ e]
theorem T0 {n:Nat} {E:Nat→Ed} {fr:Nat→Nat} {cv:Nat→List Nat} {s t:List Bool} (h:Jm n E fr cv (E5 s) (E5 t)) (hs:s.length=n) (ht:t.length=n):Fm t≤Fm s:=by
 have key:∀{s t:List Bool},s.length=t.length→(∀i,E5 s i=true→E5 t i=true)→Fm t≤Fm s:=by
  intro s
  induction s with
  |nil=>intro t hl _;cases t with
   |nil=>exact Nat.le_refl _
   |cons b t=>simp at hl
  |cons a s ih=>intro t hl hi;cases t with
   |nil=>simp at hl
   |cons b t =>
    have h1:=ih (t:=t) (by simpa using hl) (fun i hi'=>by have:=hi (i+1);simp[E5]at this;simpa[E5]using this (by simpa[E5]using hi'));have h2:=hi 0;simp[E5]at h2;unfold Fm at *;rw[List.countP_cons,List.countP_cons];cases a<;>cases b<;>simp_all
    omega
 exact key (by rw[hs,ht]) h.sub
theorem Fv {l:List Nat} {i e:Nat} (hi:i<l.length) (he:l[i]=e):l.take (i+1)=l.take i++[e]:=by
 rw[List.take_add_one,List.getElem?_eq_getElem hi,he];rfl
theorem Qbf (n bg bf bc bx c3:Nat) (es:List RE) (A:List Nat) (hn:n≤12) (hes:I2 n es) (hA:∀e∈A,e<es.length) :
  ∀(fuel:Nat) (M:Aa) (fl:List Nat) (bs:List (Option Nat)) (cl:List (List Nat)) (sn:List Bool) (j:Nat),Fm sn≤fuel→Hz M n bg bf bc bx c3 es fl bs cl sn→Inv n (Ad es) A (Dz fl) (Cx cl)→j<n→E5 sn j=true →
   Aj Tryz.prog 195 [.int .i64 (j:Nat),.rptr [.ptr bg 3 0 0],.rptr [.osl bx 1 0 n],.ptr c3 1 0 0] M (Quh n bg bf bc bx c3 es A fl bs cl sn j):=by
 have hes12:I2 12 es:=fun i hi=>⟨(hes i hi).1,(hes i hi).2.1,by have:=(hes i hi).2.2;exact⟨by have:=this.1;omega,by have:=this.2.1;omega,this.2.2⟩⟩;intro fuel
 induction fuel using Nat.strongRecOn with
 |ind fuel IH =>
 intro M fl bs cl sn j hu hV hI hj hjs;refine Ae Tryz.func195 rfl rfl 99 rfl (Nat.le_of_ble_eq_true rfl) ?_;(repeat refine AW.seq_k fun K hK=>?_);refine AW.rg ?_;simp[Ak];try (refine hK _ rfl ?_;clear hK K)
 have m1:=hV.game.g;have m3:=hV.game.c;have hhl:=F9 hV.game;obtain⟨o,ho,hget⟩:=J6 hV.game hj;unfold Cf at m1;have hjh:j<(Gg bs cl).length:=by rw[hhl];exact hj
 have hgel:(Gg bs cl)[j]=W4 o (Cx cl j):=by rw[List.getElem?_eq_getElem hjh]at hget;exact Option.some.inj hget
 cases o with
 |none =>
  have hc0:=hV.game.nil j ho;simp only[W4]at hgel;have hone:=hV.ones;refine AW.seq_ex (ι:=Unit) (fun _=>[]) (fun _=>M) (fun _=>True) ?_ ?_
  ·(repeat refine AW.seq_k fun K hK=>?_);refine AW.rg ?_;simp[m1,m3,hj,hhl,hgel];try (refine hK _ rfl ?_;clear hK K)
   refine AW.block (AW.loopS (ι:=Unit) (fun _=>[(16,.int .i64 0),(17,.int .i64 0)]) (fun _=>M) (fun _=>True) (fun _=>0) () trivial rfl (by simp) ?_);intro _ _;(repeat refine AW.seq_k fun K hK=>?_);refine AW.rg ?_;simp;try (refine hK _ rfl ?_;clear hK K)
   (repeat refine AW.seq ?_);refine AW.no ?_ rfl;refine AW.exit ?_;try simp
  ·rintro _ _;(repeat refine AW.seq_k fun K hK=>?_);refine AW.rg ?_;simp;try (refine hK _ rfl ?_;clear hK K)
   exact AW.ret (Bz rfl hone ⟨false,rfl,fl,bs,cl,sn,hV,fun _=>⟨rfl,rfl,rfl,Jm.refl _,fun e he=>by rw[hc0]at he;cases he⟩,fun h=>by cases h⟩)
 |some b =>
  simp only[W4]at hgel;have hrow:=hV.game.row j b ho;have hlen2:(Cx cl j).length≤2:=by have:=hI.two j hj;omega
  refine AW.seq_ex (ι:=Aa × List Bool) (fun _=>[]) (fun z=>z.1) (fun z=>Hz z.1 n bg bf bc bx c3 es fl bs cl z.2∧Jm n (Ad es) (Dz fl) (Cx cl) (E5 sn) (E5 z.2)∧∀e∈Cx cl j,E5 z.2 (Fo (Ad es) e j)=true) ?_ ?_
  ·(repeat refine AW.seq_k fun K hK=>?_);refine AW.rg ?_;simp[m1,m3,hj,hhl,hgel];try (refine hK _ rfl ?_;clear hK K)
   refine AW.block (AW.loopS (ι:=Aa × List Bool × Nat) (fun z=>[(0,.int .i64 (j:Nat)),(1,.rptr [.ptr bg 3 0 0]),(2,.rptr [.osl bx 1 0 n]),(3,.ptr c3 1 0 0),(15,.osl b 1 0 (Cx cl j).length),(16,.int .i64 ((Cx cl j).length:Nat)),(17,.int .i64 (z.2.2:Nat))]) (fun z=>z.1)
    (fun z=>z.2.2≤(Cx cl j).length∧Hz z.1 n bg bf bc bx c3 es fl bs cl z.2.1∧Jm n (Ad es) (Dz fl) (Cx cl) (E5 sn) (E5 z.2.1)∧∀e∈(Cx cl j).take z.2.2,E5 z.2.1 (Fo (Ad es) e j)=true)
    (fun z=>(Cx cl j).length-z.2.2) (M,sn,0) ⟨by simp,hV,Jm.refl _,by simp⟩ rfl (by simp) ?_)
   rintro⟨M1,s1,i⟩ ⟨g1,g2,g3,g4⟩;simp only at g1 g2 g3 g4;(repeat refine AW.seq_k fun K hK=>?_);refine AW.rg ?_;simp;try (refine hK _ rfl ?_;clear hK K)
   (repeat refine AW.seq ?_);refine AW.cs (fun hi=>?_) (fun hi=>?_) rfl<;>(try simp at hi)
   ·refine AW.skip ?_;try simp
    try (refine hK _ rfl ?_;clear hK K)
    have w1:=Aq (i+1) (by omega);have r1:=g2.game.row j b ho;have r2:=g2.seen;have hsl:=g2.snl;obtain⟨e,he⟩:∃e,(Cx cl j)[i]=e:=⟨_,rfl⟩;have heM:e∈Cx cl j:=he ▸ List.getElem_mem hi;have hei:(Cx cl j)[i]?=some e:=by rw[List.getElem?_eq_getElem hi,he]
    have hel:e<es.length:=hA e (hI.mem hj heM);have hend:=hI.ends j hj e heM;obtain⟨hn1,hn2⟩:=hI.oth_lt hj heM;have htk:=Fv hi he;(repeat refine AW.seq ?_);refine AW.block ?_;(repeat refine AW.seq_k fun K hK=>?_);refine AW.rg ?_;simp[r1,hi,he];try (refine hK _ rfl ?_;clear hK K)
    (repeat refine AW.seq_k fun K hK=>?_);refine AW.rg ?_;simp;try (refine hK _ rfl ?_;clear hK K)
    refine Ac.grant bg (Cf es bf bc n) g2.game.g (fun h=>h) (R9 bg bf bc n es e j hel hes12 (by rcases hend with h | h;exact .inl h.symm;exact .inr h.symm)) ?_;rintro _ _ ⟨rfl,rfl⟩;rw[set_self g2.game.g];simp;try (refine hK _ rfl ?_;clear hK K)
    obtain⟨n1,hn⟩:∃n1,Fo (Ad es) e j=n1:=⟨_,rfl⟩;rw[hn]at hn1 hn2;simp only[hn];have hs1:n1<s1.length:=by rw[hsl];exact hn1
    cases hseen:s1[n1]with
    |true =>
     (repeat refine AW.seq_k fun K hK=>?_);refine AW.rg ?_;simp[r2,hn1,hsl,hseen];try (refine hK _ rfl ?_;clear hK K)
     refine AW.yes ?_ rfl;refine AW.exit ?_;try simp
     (repeat refine AW.seq_k fun K hK=>?_);refine AW.rg ?_;simp[-Int.natCast_add,w1];try (refine hK _ rfl ?_;clear hK K)
     refine⟨M1,s1,i+1,⟨by omega,g2,g3,fun x hx=>?_⟩,by omega,rfl,rfl⟩;rw[htk]at hx;rcases List.mem_append.1 hx with hx | hx
     ·exact g4 x hx
     ·simp only[List.mem_singleton]at hx;subst hx;rw[hn,Qm hs1,hseen]
    |false =>
     have hS1:E5 s1 n1=false:=by rw[Qm hs1,hseen]
     have hS:E5 sn n1=false:=by
      cases hc:E5 sn n1 with
      |false=>rfl
      |true=>rw[g3.sub n1 hc]at hS1;cases hS1
     (repeat refine AW.seq_k fun K hK=>?_);refine AW.rg ?_;simp[r2,hn1,hsl,hseen];try (refine hK _ rfl ?_;clear hK K)
     refine AW.no ?_ rfl;refine AW.skip ?_;try simp
     try (refine hK _ rfl ?_;clear hK K)
     (repeat refine AW.seq_k fun K hK=>?_);refine AW.rg ?_;simp[r2,hn1,hsl];try (refine hK _ rfl ?_;clear hK K)
     rw[Fd];have V2:=g2.look n1;have hsn2:E5 (s1.set n1 true)=Et (E5 s1) n1 true:=I1 hs1;have hu2:=Ru hs1 hseen;generalize M1.set bx ⟨4,1,bools (s1.set n1 true)⟩=M2 at V2 ⊢;refine AW.seq_ex (ι:=VSt) (fun z=>[(0,.int .i64 (j:Nat)),(1,.rptr [.ptr bg 3 0 0]),(2,.rptr [.osl bx 1 0 n]),(3,.ptr c3 1 0 0),(15,.osl b 1 0 (Cx cl j).length),(6,.int .i64 (i:Nat)),(7,.int .i64 (e:Nat)),(8,.int .i64 (n1:Nat))]) (fun z=>z.M)
      (fun z=>Hz z.M n bg bf bc bx c3 es z.fl z.bs z.cl z.sn∧Inv n (Ad es) A (Dz z.fl) (Cx z.cl)∧Cx z.cl j=Cx cl j∧0<Dz z.fl n1 ∧
       Got n (Ad es) A (E5 sn) j (Dz fl) (Cx cl) (Et (Et (Dz z.fl) n1 (Dz z.fl n1-1)) j (Dz z.fl j+1)) (Et (Et (Cx z.cl) n1 (Cx z.cl n1++[e])) j ((Cx z.cl j).eraseIdx i))∧∀v,E5 sn v=true→E5 z.sn v=true) ?_ ?_
     ·have q1:=V2.game.g;have q2:=V2.game.f;have q3:=V2.cell;have q4:=V2.game.fll;have hf1:n1<fl.length:=by rw[q4];exact hn1
      unfold Cf at q1;unfold Qpq at q3;have hsub2:∀v,E5 sn v=true→E5 (s1.set n1 true) v=true:=fun v hv=>by
       rw[hsn2];unfold Et;split;rfl;exact g3.sub v hv
      by_cases hz:fl[n1]=0
      ·have ih:=IH (Fm (s1.set n1 true)) (by have h1:=hu2;have h2:=T0 g3 hV.snl g2.snl;omega) _ fl bs cl (s1.set n1 true) n1 (Nat.le_refl _) V2 hI hn1 (by rw[hsn2,Dv]);(repeat refine AW.seq_k fun K hK=>?_);refine AW.rg ?_;simp[q1,q2,q3,hn1,q4,hz];try (refine hK _ rfl ?_;clear hK K)
       refine⟨195,_,⟨rfl,rfl⟩,?_⟩;refine Ac.whole (fun _ h=>h) ih ?_;rintro _ g ⟨ok,rfl,fl',bs',cl',sn',hV',hF,hT⟩;cases ok with
       |false =>
        obtain⟨rfl,rfl,rfl,hL,hsh⟩:=hF rfl;simp;try (refine hK _ rfl ?_;clear hK K)
        refine AW.yes ?_ rfl;refine AW.exit ?_;try simp
        (repeat refine AW.seq_k fun K hK=>?_);refine AW.rg ?_;simp[-Int.natCast_add,w1];try (refine hK _ rfl ?_;clear hK K)
        refine⟨g,sn',i+1,⟨by omega,hV',?_,fun x hx=>?_⟩,by omega,rfl,rfl⟩
        ·rw[hsn2]at hL;exact g3.step (by rw[←E0 hf1];exact hz) hL hsh
        ·rw[htk]at hx;have hm:∀v,E5 s1 v=true→E5 sn' v=true:=fun v hv=>hL.sub v (by rw[hsn2];unfold Et;split;rfl;exact hv);rcases List.mem_append.1 hx with hx | hx
         ·exact hm _ (g4 x hx)
         ·simp only[List.mem_singleton]at hx;subst hx;rw[hn];exact hL.sub n1 (by rw[hsn2,Dv])
       |true =>
        obtain⟨hG,hsub3⟩:=hT rfl;simp;try (refine hK _ rfl ?_;clear hK K)
        refine AW.no ?_ rfl;refine AW.skip ?_;rw[hsn2]at hG;have hGt:=Got.through (fun v hv=>g3.sub v hv) hj hjs hei (by rw[hn];exact hS1) (by rw[hn];exact hn2) (by rw[hn];exact hG);rw[hn]at hGt;have hjT:Et (E5 s1) n1 true j=true:=by rw[Bn _ _ (Ne.symm hn2)];exact g3.sub j hjs
        refine⟨⟨g,fl',bs',cl',sn'⟩,⟨hV',hG.inv,hG.cover j hj hjT (Ne.symm hn2),by rw[hG.plus];omega,hGt,fun v hv=>hsub3 v (hsub2 v hv)⟩,rfl,rfl,by simp⟩
      ·have hpos:0<Dz fl n1:=by rw[←E0 hf1];omega
       (repeat refine AW.seq_k fun K hK=>?_);refine AW.rg ?_;simp[q1,q2,q3,hn1,q4,hz];try (refine hK _ rfl ?_;clear hK K)
       refine AW.no ?_ rfl;refine AW.skip ?_;have hGd:=Got.direct (S:=E5 sn) hI hj hei (by rw[hn];exact hS) (by rw[hn];exact hpos);rw[hn]at hGd;refine⟨⟨_,fl,bs,cl,s1.set n1 true⟩,⟨V2,hI,rfl,hpos,hGd,hsub2⟩,rfl,rfl,by simp⟩
     ·rintro⟨M3,fl3,bs3,cl3,s3⟩ ⟨hV3,hI3,hcj,hp3,hG3,hsub3⟩;simp only at hV3 hI3 hcj hp3 hG3 hsub3 ⊢;have q1:=hV3.game.g;have q2:=hV3.game.f;have q4:=hV3.game.fll;have hf1:n1<fl3.length:=by rw[q4];exact hn1
      have hx2:Dz fl3 n1≤2:=by have:=hI3.two n1 hn1;omega
      have hx1:=E0 hf1;have w2:IntKind.i64.wrap (((Dz fl3 n1:Nat):Int)-1)=((Dz fl3 n1-1:Nat):Int):=by
       rw[show((Dz fl3 n1:Nat):Int)-1=((Dz fl3 n1-1:Nat):Int) by omega];exact wi (by omega)
      unfold Cf at q1;(repeat refine AW.seq_k fun K hK=>?_);refine AW.rg ?_;simp[q1,q2,hn1,q4,hx1,w2];try (refine hK _ rfl ?_;clear hK K)
      rw[H7];have V4:=hV3.setF n1 (Dz fl3 n1-1);generalize M3.set bf ⟨3,1,Al (fl3.set n1 (Dz fl3 n1-1))⟩=M4 at V4 ⊢;refine AW.seq_ex (ι:=Aa × Nat) (fun _=>[(0,.int .i64 (j:Nat)),(1,.rptr [.ptr bg 3 0 0]),(2,.rptr [.osl bx 1 0 n]),(3,.ptr c3 1 0 0),(6,.int .i64 (i:Nat)),(7,.int .i64 (e:Nat)),(8,.int .i64 (n1:Nat))]) (fun z=>z.1) (fun z=>Hz z.1 n bg bf bc bx c3 es (fl3.set n1 (Dz fl3 n1-1)) (bs3.set n1 (some z.2)) (cl3.set n1 (Cx cl3 n1++[e])) s3) ?_ ?_
      ·have q5:=V4.game.g;have q6:=V4.game.c;have hhl4:=F9 V4.game;obtain⟨o4,ho4,hget4⟩:=J6 V4.game hn1;have hjh4:n1<(Gg bs3 cl3).length:=by rw[hhl4];exact hn1
       have hgel4:(Gg bs3 cl3)[n1]=W4 o4 (Cx cl3 n1):=by rw[List.getElem?_eq_getElem hjh4]at hget4;exact Option.some.inj hget4
       have nd:=V4.game.nd;have hbcn:bc≠bg:=Ne.symm nd.2.1;unfold Cf at q5;have hl3:(Cx cl3 n1).length≤2:=by have:=hI3.two n1 hn1;omega
       cases o4 with
       |none =>
        have hc0:=V4.game.nil n1 ho4;simp only[W4]at hgel4;(repeat refine AW.seq_k fun K hK=>?_);refine AW.rdLR [69] [bg,bc] [0,1,2,3,4,5,6,7,8,9,10,11,12,13,14,15,16] C8 (by simp[q5,q6]) ?_;simp[q5,q6,hn1,hhl4,hgel4];refine⟨by unfold maxLen;omega,fun b6 h6 _=>?_⟩;have hfresh:b6 ∉ bx::c3::A5 bg bf bc bs3:=fun hm=>V4.dom hm h6;have e1:¬bc=b6:=fun h=>hfresh (by rw[←h];simp[A5]);simp[e1,hn1,hhl4];refine⟨b6,V4.setC hn1 (.inl hfresh) (by rw[Aa.set_same,hc0];rfl) (by rw[Aa.set_other _ _ (Ne.symm e1),Aa.set_same,hc0];rfl) (fun k _ hk1 hk2 _=>by rw[Aa.set_other _ _ hk2,Aa.set_other _ _ hk1]) (fun k hk=>?_)⟩
        by_cases k1:k=b6
        ·exact .inl k1
        ·refine .inr ⟨?_,fun h=>by rw[ho4]at h;cases h⟩;by_cases k2:k=bc
         ·rw[k2];simp[A5]
         ·rw[Aa.set_other _ _ k2,Aa.set_other _ _ k1]at hk;exact V4.only k hk
       |some b4 =>
        simp only[W4]at hgel4;have q7:=V4.game.row n1 b4 ho4;have hnd4:=V4.game.ndr n1 b4 ho4;(repeat refine AW.seq_k fun K hK=>?_);refine AW.rdLR [69] [bg,bc] [0,1,2,3,4,5,6,7,8,9,10,11,12,13,14,15,16] C8 (by simp[q5,q6]) ?_;simp[q5,q6,q7,hn1,hhl4,hgel4,hnd4];refine⟨by omega,by unfold maxLen;omega,fun b6 h6 _=>?_⟩;have hf6:b6 ∉ bx::c3::A5 bg bf bc bs3∨bs3[n1]?=some (some b6):=by
         by_cases e:b6=b4
         ·exact .inr (by rw[e];exact ho4)
         ·exact .inl fun hm=>V4.dom hm (by rwa [Aa.del_other _ e]at h6)
        have e1:¬bc=b6:=by
         intro h;rcases hf6 with hf6 | hf6
         ·exact hf6 (by rw[←h];simp[A5])
         ·exact(V4.game.ndr n1 b6 hf6).2.2 h.symm
        have e2:¬bc=b4:=Ne.symm hnd4.2.2;simp[e1,e2,hn1,hhl4];refine⟨b6,V4.setC hn1 hf6 (by rw[Aa.set_same];simp) (by rw[Aa.set_other _ _ (Ne.symm e1),Aa.set_same,Cv]) (fun k _ hk1 hk2 hk3=>?_) (fun k hk=>?_)⟩
        ·have:k≠b4:=fun h=>hk3 (by rw[h];exact ho4);rw[Aa.set_other _ _ hk2,Aa.set_other _ _ hk1,Aa.del_other _ this]
        ·by_cases k1:k=b6
         ·exact .inl k1
         ·by_cases k2:k=bc
          ·exact .inr ⟨by rw[k2];simp[A5],fun h=>absurd k2 (V4.game.ndr n1 k h).2.2⟩
          ·rw[Aa.set_other _ _ k2,Aa.set_other _ _ k1]at hk;by_cases k3:k=b4
           ·rw[k3,Aa.del_same]at hk;exact absurd rfl hk
           ·rw[Aa.del_other _ k3]at hk;exact .inr ⟨V4.only k hk,fun h=>by rw[ho4]at h;cases h;exact absurd rfl k3⟩
      ·rintro⟨M5,b5⟩ V5;simp only at V5 ⊢;have hcv5:Cx (cl3.set n1 (Cx cl3 n1++[e]))=Et (Cx cl3) n1 (Cx cl3 n1++[e]):=M9 (by rw[hV3.game.cll];exact hn1);have hcj5:Cx (cl3.set n1 (Cx cl3 n1++[e])) j=Cx cl j:=by rw[hcv5,Bn _ _ (Ne.symm hn2),hcj]
       have hfr5:Dz (fl3.set n1 (Dz fl3 n1-1))=Et (Dz fl3) n1 (Dz fl3 n1-1):=We hf1;have hfj5:Dz (fl3.set n1 (Dz fl3 n1-1)) j=Dz fl3 j:=by rw[hfr5,Bn _ _ (Ne.symm hn2)]
       have hfl5:(fl3.set n1 (Dz fl3 n1-1)).length=n:=V5.game.fll;have hcl5:(cl3.set n1 (Cx cl3 n1++[e])).length=n:=V5.game.cll;have hfj2:Dz fl3 j≤2:=by have:=hI3.two j hj;omega
       have hdone:∀(M:Aa) (bs':List (Option Nat)),Hz M n bg bf bc bx c3 es ((fl3.set n1 (Dz fl3 n1-1)).set j (Dz fl3 j+1)) bs' ((cl3.set n1 (Cx cl3 n1++[e])).set j ((Cx cl j).eraseIdx i)) s3 →
         Quh n bg bf bc bx c3 es A fl bs cl sn j (.bool true) M:=fun M bs' hV=>⟨true,rfl,_,bs',_,s3,hV,(fun h=>by cases h),fun _=>⟨by
        rw[We (by rw[hfl5];exact hj),M9 (by rw[hcl5];exact hj),hfr5,hcv5];rw[hcj]at hG3;exact hG3,hsub3⟩⟩
       generalize fl3.set n1 (Dz fl3 n1-1)=fl5 at *;generalize cl3.set n1 (Cx cl3 n1++[e])=cl5 at *;generalize bs3.set n1 (some b5)=bs5 at *;obtain⟨o5,ho5,hget5⟩:=J6 V5.game hj;cases o5 with
       |none =>
        have:=V5.game.nil j ho5;rw[hcj5]at this;rw[this]at hi;simp at hi
       |some bj =>
        simp only[W4]at hget5;have q5:=V5.game.g;have q6:=V5.game.c;have q7:=V5.game.row j bj ho5;have hnd5:=V5.game.ndr j bj ho5;have hhl5:=F9 V5.game;have hjh5:j<(Gg bs5 cl5).length:=by rw[hhl5];exact hj
        rw[hcj5]at hget5 q7;have hgel5:(Gg bs5 cl5)[j]=.osl bj 1 0 (Cx cl j).length:=by rw[List.getElem?_eq_getElem hjh5]at hget5;exact Option.some.inj hget5
        have nd:=V5.game.nd;have hbcn:bc≠bg:=Ne.symm nd.2.1;unfold Cf at q5;(repeat refine AW.seq_k fun K hK=>?_);refine AW.rdL [bg,bc] [0,1,2,3,4,5,6,7,8,9,10,11,12,13,14,15,16,17] C8 (by simp[q5,q6]) ?_;simp[-Int.natCast_add,q5,q6,hj,hhl5,hgel5,w1];refine Ac.grant (R:=fun v x'=>v=.osl bj 1 0 ((Cx cl j).length-1)∧x'=⟨3,1,Al ((Cx cl j).eraseIdx i)⟩) bj ⟨3,1,Al (Cx cl j)⟩ q7 (fun h=>by rcases h with h | h;exact hnd5.1 h;exact hnd5.2.2 h)
         ((Mx bj (Cx cl j) i hi (by omega)).mono fun v m hm=>⟨_,⟨hm.1,rfl⟩,hm.2⟩) ?_
        rintro _ _ ⟨rfl,rfl⟩;have e2:¬bc=bj:=Ne.symm hnd5.2.2;simp[-Int.natCast_add,q6,e2,hj,hhl5];try (refine hK _ rfl ?_;clear hK K)
        have hle:((Cx cl j).eraseIdx i).length=(Cx cl j).length-1:=by rw[List.length_eraseIdx,if_pos hi]
        have V6:=V5.setC (l':=(Cx cl j).eraseIdx i) (M':=(M5.set bj ⟨3,1,Al ((Cx cl j).eraseIdx i)⟩).set bc ⟨25,1,(Gg bs5 cl5).set j (.osl bj 1 0 ((Cx cl j).length-1))⟩) hj (.inr ho5) (by rw[Aa.set_same,hle]) (by rw[Aa.set_other _ _ (Ne.symm e2),Aa.set_same])
         (fun k _ hk1 hk2 _=>by rw[Aa.set_other _ _ hk2,Aa.set_other _ _ hk1]) (fun k hk=>by
          by_cases k1:k=bj
          ·exact .inl k1
          ·refine .inr ⟨?_,fun h=>by rw[ho5]at h;cases h;exact absurd rfl k1⟩;by_cases k2:k=bc
           ·rw[k2];simp[A5]
           ·rw[Aa.set_other _ _ k2,Aa.set_other _ _ k1]at hk;exact V5.only k hk)
        generalize(M5.set bj ⟨3,1,Al ((Cx cl j).eraseIdx i)⟩).set bc ⟨25,1,(Gg bs5 cl5).set j (.osl bj 1 0 ((Cx cl j).length-1))⟩=M6 at V6 ⊢;have p1:=V6.game.g;have p2:=V6.game.f;unfold Cf at p1;have hjf:j<fl5.length:=by rw[hfl5];exact hj
        have hxj:fl5[j]=Dz fl3 j:=by rw[E0 hjf,hfj5]
        have w3:=Aq (Dz fl3 j+1) (by omega);(repeat refine AW.seq_k fun K hK=>?_);refine AW.rg ?_;simp[-Int.natCast_add,p1,p2,hj,hfl5,hxj,w3];try (refine hK _ rfl ?_;clear hK K)
        rw[H7];have V7:=V6.setF j (Dz fl3 j+1);generalize M6.set bf ⟨3,1,Al (fl5.set j (Dz fl3 j+1))⟩=M7 at V7 ⊢;(repeat refine AW.seq_k fun K hK=>?_);refine AW.rg ?_;simp[-Int.natCast_add];try (refine hK _ rfl ?_;clear hK K)
        exact AW.ret (Bz rfl V7.ones (hdone _ _ V7))
   ·refine AW.exit ?_;try simp
    have hil:i=(Cx cl j).length:=by omega
    exact⟨s1,g2,g3,fun e he=>g4 e (by rw[hil,List.take_length];exact he)⟩
  ·rintro⟨M1,s1⟩ ⟨g1,g2,g3⟩;simp only at g1 g2 g3;(repeat refine AW.seq_k fun K hK=>?_);refine AW.rg ?_;simp;try (refine hK _ rfl ?_;clear hK K)
   exact AW.ret (Bz rfl g1.ones ⟨false,rfl,fl,bs,cl,s1,g1,fun _=>⟨rfl,rfl,rfl,g2,g3⟩,fun h=>by cases h⟩)
end Go.Av
end
section
namespace Go.Av
open Go.Proofs Go.Lam
def Qw6 (n bg bf bc:Nat) (es:List RE) (A:List Nat) (fl:List Nat) (bs:List (Option Nat)) (cl:List (List Nat)) (to keep:Nat) (v:AV) (M':Aa):Prop :=
 ∃ok:Bool,v=.bool ok∧∃(fl':List Nat) (bs':List (Option Nat)) (cl':List (List Nat)),Cw M' n bg bf bc es fl' bs' cl'∧Ey M' (A5 bg bf bc bs') ∧
  (ok=false→fl'=fl∧bs'=bs∧cl'=cl∧∃X:Nat→Bool,X to=true∧X keep=true∧(∀v,v<n→X v=true→v≠to→v≠keep→Dz fl v=0)∧(∀v,v<n→X v=true→(v=to∨v≠keep)→∀e∈Cx cl v,X (Fo (Ad es) e v)=true)) ∧
  (ok=true→Got n (Ad es) A (fun v=>v==to || v==keep) to (Dz fl) (Cx cl) (Dz fl') (Cx cl'))
theorem Qv (n bg bf bc:Nat) (es:List RE) (A:List Nat) (hn:n≤12) (hes:I2 n es) (hA:∀e∈A,e<es.length) (M:Aa) (fl:List Nat) (bs:List (Option Nat)) (cl:List (List Nat)) (to keep:Nat)
  (hG:Cw M n bg bf bc es fl bs cl) (ho:Ey M (A5 bg bf bc bs)) (hI:Inv n (Ad es) A (Dz fl) (Cx cl)) (ht:to<n) (hk:keep<n) :
  Aj Tryz.prog 162 [.ptr bg 3 0 0,.int .i64 (to:Nat),.int .i64 (keep:Nat)] M (Qw6 n bg bf bc es A fl bs cl to keep):=by
 have q1:=hG.g;have q4:=hG.fll;have hone:=G4 hG ho;refine Ae Tryz.func162 rfl rfl 25 rfl (Nat.le_of_ble_eq_true rfl) ?_;(repeat refine AW.seq_k fun K hK=>?_);refine AW.rgR [3] ?_;simp[Ak];try (refine hK _ rfl ?_;clear hK K)
 unfold Cf at q1;(repeat refine AW.seq_k fun K hK=>?_);refine AW.rg ?_;simp[q1];try (refine hK _ rfl ?_;clear hK K)
 refine⟨by omega,Ah.intro fun bx hx=>Ah.intro fun c2 h2=>?_⟩;simp only[Ap]at h2;refine hK _ rfl ?_;clear hK K;have hrep:List.replicate n (AV.bool false)=bools (List.replicate n false):=by simp[bools]
 rw[hrep];have ones1:∀c y,M.set bx ⟨4,1,bools (List.replicate n false)⟩ c=some y→∀v∈y.l,v.cells.all AV.one=true:=by
  intro c y hy v hv;by_cases e:c=bx
  ·rw[e,Aa.set_same]at hy;cases hy;exact K1 _ v hv
  ·rw[Aa.set_other _ _ e]at hy;exact hone c y hy v hv
 have hc2:M.set bx ⟨4,1,bools (List.replicate n false)⟩ c2=none:=by rw[Aa.set_other _ _ h2.1.1];exact h2.2
 refine AW.turn [(1,.int .i64 (to:Nat)),(2,.int .i64 (keep:Nat)),(3,.rptr [.ptr bg 3 0 0]),(6,.bool false),(7,.rptr [.osl bx 1 0 n])] (M.set bx ⟨4,1,bools (List.replicate n false)⟩) (Bo.drop hc2 ones1)
  (by simp;exact .ptr c2 1 0 0 ⟨137,1,[.osl bx 1 0 n]⟩ (.osl bx 1 0 n) (Aa.set_same _ _ _) hc2 rfl rfl) ?_
 have hl0:(bools (List.replicate n false)).length=n:=by simp
 (repeat refine AW.seq_k fun K hK=>?_);refine AW.rdT [] [7] [] [] [0,1,2,3,4,5,6,7] C8 (by simp[ht,hk,hl0]) (by simp[ht,hk,hl0]) (by simp[ht,hk,hl0]) (by simp[ht,hk,hl0]) (by simp[ht,hk,hl0]) ?_;simp[ht,hk,hl0];try (refine hK _ rfl ?_;clear hK K)
 rw[Fd,Fd];have hsl:(((List.replicate n false).set to true).set keep true).length=n:=by simp
 have hS:E5 (((List.replicate n false).set to true).set keep true)=fun v=>v==to || v==keep:=by
  rw[I1 (by simp;exact hk),I1 (by simp;exact ht)]
  funext v
  unfold Et;have h0:E5 (List.replicate n false) v=false:=by unfold E5;rw[List.getD_eq_getElem?_getD,List.getElem?_replicate];split<;>rfl
  by_cases e1:v=keep<;>by_cases e2:v=to<;>simp[e1,e2,h0]
 generalize((List.replicate n false).set to true).set keep true=sn at hsl hS ⊢;(repeat refine AW.seq_k fun K hK=>?_);refine AW.rg ?_;simp;try (refine hK _ rfl ?_;clear hK K)
 refine⟨rfl,by simp[AV.cells,AV.one],Ah.intro fun c3 h3=>?_⟩;simp only[Ap]at h3;refine hK _ rfl ?_;clear hK K;(repeat refine AW.seq_k fun K hK=>?_);refine AW.rg ?_;simp;try (refine hK _ rfl ?_;clear hK K)
 have hnx:∀k∈A5 bg bf bc bs,k≠bx∧k≠c3:=fun k hk=>⟨fun e=>hG.dom hk (by rw[e];exact hx),fun e=>hG.dom hk (by rw[e];exact h3.2)⟩;have hV:Hz ((M.set bx ⟨4,1,bools sn⟩).set c3 ⟨100,1,[.fn 195 [.rptr [.ptr bg 3 0 0],.rptr [.osl bx 1 0 n],.ptr c3 1 0 0]]⟩) n bg bf bc bx c3 es fl bs cl sn :=
  {game:=hG.congr fun k hk=>by rw[Aa.set_other _ _ (hnx k hk).2,Aa.set_other _ _ (hnx k hk).1]
   seen:=by rw[Aa.set_other _ _ h3.1.2,Aa.set_same]
   snl:=hsl
   cell:=Aa.set_same _ _ _
   off:=hnx
   xc:=h3.1.2
   only:=fun k hk=>by
    simp only[List.mem_cons];by_cases e1:k=c3
    ·exact .inr (.inl e1)
    ·by_cases e2:k=bx
     ·exact .inl e2
     ·rw[Aa.set_other _ _ e1,Aa.set_other _ _ e2]at hk;exact .inr (.inr (ho k hk))}
 have hc3:=hV.cell;unfold Qpq at hc3;have ih:=Qbf n bg bf bc bx c3 es A hn hes hA (Fm sn) _ fl bs cl sn to (Nat.le_refl _) hV hI ht (by rw[hS];simp);generalize(M.set bx ⟨4,1,bools sn⟩).set c3 ⟨100,1,[.fn 195 [.rptr [.ptr bg 3 0 0],.rptr [.osl bx 1 0 n],.ptr c3 1 0 0]]⟩=M2 at hV hc3 ih ⊢;(repeat refine AW.seq_k fun K hK=>?_);refine AW.rg ?_;simp[hc3];try (refine hK _ rfl ?_;clear hK K)
 refine⟨195,_,⟨rfl,rfl⟩,?_⟩;refine Ac.whole (fun _ h=>h) ih ?_;rintro _ g ⟨ok,rfl,fl',bs',cl',sn',hV',hF,hT⟩;simp;try (refine hK _ rfl ?_;clear hK K)
 have hrec:Bo g (g.only (A5 bg bf bc bs')):=Bo.sub fun b x hb=>by
  by_cases hm:b∈A5 bg bf bc bs'
  ·rw[Bt hm]at hb;exact⟨hb,hV'.ones b x hb⟩
  ·rw[Bq hm]at hb;cases hb
 refine AW.ret ⟨[.bool ok],rfl,.bool ok,_,hrec,.same _,ok,rfl,fl',bs',cl',hV'.game.congr fun k hk=>Bt hk,fun k hk=>?_,fun h=>?_,fun h=>?_⟩
 ·rcases Decidable.em (k∈A5 bg bf bc bs')with hm|hm
  ·exact hm
  ·exact absurd (Bq hm) hk
 ·obtain⟨r1,r2,r3,hL,hsh⟩:=hF h;rw[hS]at hL;refine⟨r1,r2,r3,E5 sn',hL.sub to (by simp),hL.sub keep (by simp),fun v hv hx h1 h2=>hL.zero v hv (by simp[h1,h2]) hx,fun v hv hx h1=>?_⟩;by_cases e:v=to
  ·rw[e];exact hsh
  ·exact hL.shut v hv (by simp[e];exact h1.resolve_left e) hx
 ·have:=(hT h).1;rw[hS]at this;exact this
end Go.Av
end
section
namespace Go.Av
open Go.Proofs Go.Lam
structure GSt where
 M:Aa
 fl:List Nat
 bs:List (Option Nat)
 cl:List (List Nat)
structure H1 (n bg bf bc:Nat) (es:List RE) (A:List Nat) (M:Aa) (fl:List Nat) (bs:List (Option Nat)) (cl:List (List Nat)):Prop where
 mem:Cw M n bg bf bc es fl bs cl
 only:Ey M (A5 bg bf bc bs)
 inv:Inv n (Ad es) A (Dz fl) (Cx cl)
def Qwu (n bg bf bc:Nat) (es:List RE) (A:List Nat) (a b:Nat) (v:AV) (M':Aa):Prop :=
 ∃(fl':List Nat) (bs':List (Option Nat)) (cl':List (List Nat)),v=.int .i64 ((Dz fl' a+Dz fl' b:Nat):Int)∧H1 n bg bf bc es A M' fl' bs' cl'∧Dz fl' a=2 ∧
  (Dz fl' b=2∨Dz fl' b=1∧∃X,Di n (A.map (Ad es)) X∧X a=true∧X b=true)
theorem O9 (n bg bf bc:Nat) (es:List RE) (A:List Nat) (hn:n≤12) (hes:I2 n es) (hA:∀e∈A,e<es.length) (hsp:A4 n (A.map (Ad es))) (M:Aa) (fl:List Nat) (bs:List (Option Nat)) (cl:List (List Nat)) (a b:Nat)
  (hG:H1 n bg bf bc es A M fl bs cl) (ha:a<n) (hb:b<n) (hab:a≠b) :
  Aj Tryz.prog 119 [.ptr bg 3 0 0,.int .i64 (a:Nat),.int .i64 (b:Nat)] M (Qwu n bg bf bc es A a b):=by
 refine Ae Tryz.func119 rfl rfl 50 rfl (Nat.le_of_ble_eq_true rfl) ?_;(repeat refine AW.seq_k fun K hK=>?_);refine AW.rg ?_;simp[Ak];try (refine hK _ rfl ?_;clear hK K)
 refine AW.seq_ex (ι:=GSt) (fun _=>[(0,.ptr bg 3 0 0),(1,.int .i64 (a:Nat)),(2,.int .i64 (b:Nat))]) (fun z=>z.M) (fun z=>H1 n bg bf bc es A z.M z.fl z.bs z.cl∧Dz z.fl a=2) ?_ ?_
 ·refine AW.block (AW.loopS (ι:=GSt) (fun _=>[(0,.ptr bg 3 0 0),(1,.int .i64 (a:Nat)),(2,.int .i64 (b:Nat))]) (fun z=>z.M) (fun z=>H1 n bg bf bc es A z.M z.fl z.bs z.cl) (fun z=>2-Dz z.fl a) ⟨M,fl,bs,cl⟩ hG rfl (by simp) ?_);rintro⟨M,fl,bs,cl⟩ hG;simp only at hG ⊢;have q1:=hG.mem.g;have q2:=hG.mem.f;have q4:=hG.mem.fll;have hal:a<fl.length:=by rw[q4];exact ha
  have hx:=E0 hal;have h2:=hG.inv.two a ha;unfold Cf at q1;by_cases hlt:fl[a]<2
  ·have hc:=Qv n bg bf bc es A hn hes hA M fl bs cl a a hG.mem hG.only hG.inv ha ha;have hlt':((fl[a]:Nat):Int)<2:=by omega
   (repeat refine AW.seq_k fun K hK=>?_);refine AW.rg ?_;simp[q1,q2,ha,q4,hlt];try (refine hK _ rfl ?_;clear hK K)
   refine Ac.whole (fun _ h=>h) hc ?_;rintro _ g ⟨ok,rfl,fl',bs',cl',hM,ho,hF,hT⟩;cases ok with
   |true =>
    have hg:=hT rfl;simp;try (refine hK _ rfl ?_;clear hK K)
    refine AW.yes ?_ rfl;refine AW.skip ?_;try simp
    try (refine hK _ rfl ?_;clear hK K)
    (repeat refine AW.seq ?_);refine AW.block ?_;refine AW.skip ?_;try simp
    exact⟨⟨g,fl',bs',cl'⟩,⟨hM,ho,hg.inv⟩,by simp only;rw[hg.plus];omega,rfl⟩
   |false =>
    obtain⟨r1,r2,r3,X,x1,x2,hz,hsh⟩:=hF rfl;have:=hG.inv.first hsp ha (X:=X) (fun v hv hx e he=>hsh v hv hx (Decidable.em (v=a)) e he) x1 (fun v hv hx h=>hz v hv hx h h);omega
  ·(repeat refine AW.seq_k fun K hK=>?_);refine AW.rg ?_;simp[q1,q2,ha,q4,hlt];try (refine hK _ rfl ?_;clear hK K)
   (repeat refine AW.seq ?_);refine AW.no ?_ rfl;refine AW.exit ?_;try simp
   exact⟨⟨M,fl,bs,cl⟩,⟨hG,by simp only;omega⟩,rfl⟩
 rintro⟨M,fl,bs,cl⟩ ⟨hG,h2⟩;simp only at hG h2 ⊢;refine AW.seq_ex (ι:=GSt) (fun _=>[(0,.ptr bg 3 0 0),(1,.int .i64 (a:Nat)),(2,.int .i64 (b:Nat))]) (fun z=>z.M) (fun z=>H1 n bg bf bc es A z.M z.fl z.bs z.cl∧Dz z.fl a=2∧(Dz z.fl b=2∨Dz z.fl b=1∧∃X,Di n (A.map (Ad es)) X∧X a=true∧X b=true)) ?_ ?_
 ·refine AW.block (AW.loopS (ι:=GSt) (fun _=>[(0,.ptr bg 3 0 0),(1,.int .i64 (a:Nat)),(2,.int .i64 (b:Nat))]) (fun z=>z.M) (fun z=>H1 n bg bf bc es A z.M z.fl z.bs z.cl∧Dz z.fl a=2) (fun z=>2-Dz z.fl b) ⟨M,fl,bs,cl⟩ ⟨hG,h2⟩ rfl (by simp) ?_);rintro⟨M,fl,bs,cl⟩ ⟨hG,h2⟩;simp only at hG h2 ⊢;have q1:=hG.mem.g;have q2:=hG.mem.f;have q4:=hG.mem.fll;have hbl:b<fl.length:=by rw[q4];exact hb
  have hx:=E0 hbl;have h3:=hG.inv.two b hb;have h4:=hG.inv.two a ha;unfold Cf at q1;by_cases hlt:fl[b]<2
  ·have hc:=Qv n bg bf bc es A hn hes hA M fl bs cl b a hG.mem hG.only hG.inv hb ha;(repeat refine AW.seq_k fun K hK=>?_);refine AW.rg ?_;simp[q1,q2,hb,q4,hlt];try (refine hK _ rfl ?_;clear hK K)
   refine Ac.whole (fun _ h=>h) hc ?_;rintro _ g ⟨ok,rfl,fl',bs',cl',hM,ho,hF,hT⟩;cases ok with
   |true =>
    have hg:=hT rfl;simp;try (refine hK _ rfl ?_;clear hK K)
    refine AW.yes ?_ rfl;refine AW.skip ?_;try simp
    try (refine hK _ rfl ?_;clear hK K)
    (repeat refine AW.seq ?_);refine AW.block ?_;refine AW.skip ?_;try simp
    exact⟨⟨g,fl',bs',cl'⟩,⟨⟨hM,ho,hg.inv⟩,by simp only;rw[hg.free a ha (by simp) hab];exact h2⟩,by simp only;rw[hg.plus];omega,rfl⟩
   |false =>
    obtain⟨r1,r2,r3,X,x1,x2,hz,hsh⟩:=hF rfl;subst r1;subst r2;subst r3;have hc0:Cx cl' a=[]:=List.eq_nil_of_length_eq_zero (by omega);obtain⟨k1,k2⟩:=hG.inv.second hsp ha hb hab h2 (X:=X) (fun v hv hx e he=>by
     by_cases e1:v=a
     ·subst e1;rw[hc0]at he;cases he
     ·exact hsh v hv hx (.inr e1) e he) x2 x1 (fun v hv hx h h'=>hz v hv hx h' h) (by omega)
    simp;try (refine hK _ rfl ?_;clear hK K)
    refine AW.no ?_ rfl;refine AW.exit ?_;try simp
    exact⟨⟨g,fl',bs',cl'⟩,⟨⟨hM,ho,hG.inv⟩,h2,.inr ⟨k1,X,k2,x2,x1⟩⟩,rfl⟩
  ·(repeat refine AW.seq_k fun K hK=>?_);refine AW.rg ?_;simp[q1,q2,hb,q4,hlt];try (refine hK _ rfl ?_;clear hK K)
   (repeat refine AW.seq ?_);refine AW.no ?_ rfl;refine AW.exit ?_;try simp
   exact⟨⟨M,fl,bs,cl⟩,⟨hG,h2,.inl (by simp only;omega)⟩,rfl⟩
 rintro⟨M,fl,bs,cl⟩ ⟨hG,h2,h3⟩;simp only at hG h2 h3 ⊢;have q1:=hG.mem.g;have q2:=hG.mem.f;have q4:=hG.mem.fll;have hal:a<fl.length:=by rw[q4];exact ha
 have hbl:b<fl.length:=by rw[q4];exact hb
 have hx:=E0 hal;have hy:=E0 hbl;unfold Cf at q1;have w1:IntKind.i64.wrap ((Dz fl a+Dz fl b:Nat):Int)=((Dz fl a+Dz fl b:Nat):Int):=wi (by rcases h3 with h3 | h3;omega;have:=h3.1;omega);(repeat refine AW.seq_k fun K hK=>?_);refine AW.rdL [bg,bf] [0,1,2,3,4,5,6,7,8,9,10,11,12,13,14,15] C8 (by simp[q1,q2]) ?_;simp[-Int.natCast_add,q1,q2,ha,hb,q4,hx,hy,w1];try (refine hK _ rfl ?_;clear hK K)
 exact AW.ret (Bz rfl (G4 hG.mem hG.only) ⟨fl,bs,cl,rfl,hG,h2,h3⟩)
end Go.Av
end
section
namespace Go.Lam
section
variable {n:Nat} {E:Nat→Ed} {A:List Nat} {fr:Nat→Nat} {cv:Nat→List Nat}
def Far (n:Nat) (E:Nat→Ed) (fr:Nat→Nat) (cv:Nat→List Nat) (S:Nat→Bool) (j:Nat):Prop:=∀X,X j=true→Qe4 n E cv X→∃w,w<n∧X w=true∧S w=false∧0<fr w
theorem Far.direct {S T:Nat→Bool} {j e:Nat} (hsub:∀v,S v=true→T v=true) (hj:j<n) (he:e∈cv j) (hk:Fo E e j<n) (hT:T (Fo E e j)=false) (hf:0<fr (Fo E e j)):Far n E fr cv S j:=fun X hX hs=>by
 refine⟨Fo E e j,hk,hs j hj hX e he,?_,hf⟩;cases h:S (Fo E e j)with
 |false=>rfl
 |true=>rw[hsub _ h]at hT;cases hT
theorem Far.through {S T:Nat→Bool} {j e:Nat} (hsub:∀v,S v=true→T v=true) (hj:j<n) (he:e∈cv j) (h:Far n E fr cv T (Fo E e j)):Far n E fr cv S j:=fun X hX hs=>by
 obtain⟨w,h1,h2,h3,h4⟩:=h X (hs j hj hX e he) hs;refine⟨w,h1,h2,?_,h4⟩;cases hc:S w with
 |false=>rfl
 |true=>rw[hsub _ hc]at h3;cases h3
theorem Qh0 (h:Inv n E A fr cv) {a b v:Nat} (ha:a<n) (hb:b<n) (hab:a≠b) (hv:v<n) (h3:3≤fr a+fr b) {S:Nat→Bool} (hSa:S a=true) (hSb:S b=true) (hF:Far n E fr cv S v) {X:Nat→Bool} (hX:Di n (A.map E) X) (hXa:X a=true) (hXb:X b=true):X v=false:=by
 cases hXv:X v with
 |false=>rfl
 |true =>
  exfalso
  have e2:S5 n fr (Es a b)≤S5 n fr X:=Qg5 fun v _ hv=>by
   simp only[Es,Bool.or_eq_true,beq_iff_eq]at hv;rcases hv with rfl | rfl<;>assumption
  rw[Nq ha hb hab]at e2;have hS:=h.shut (X:=X) (by have:=hX.2;omega);obtain⟨w,w1,w2,w3,w4⟩:=hF X hXv hS;have hwa:w≠a:=fun e=>by rw[e,hSa]at w3;cases w3
  have hwb:w≠b:=fun e=>by rw[e,hSb]at w3;cases w3
  have e3:S5 n fr (Es a b)+S5 n fr (fun v=>v==w)≤S5 n fr X:=by
   unfold S5;rw[←Iy];refine T1 fun v hv=>?_;by_cases h1:v=w
   ·subst h1;have:Es a b v=false:=by simp[Es,hwa,hwb]
    simp[this,w2]
   ·by_cases h2:Es a b v=true
    ·have:X v=true:=by
      simp only[Es,Bool.or_eq_true,beq_iff_eq]at h2;rcases h2 with rfl | rfl<;>assumption
     simp[h2,h1,this]
    ·simp[h1,h2]
  rw[Nq ha hb hab,Ss w1]at e3;have:=h.le X;have:=hX.2;omega
theorem Qeh (h:Inv n E A fr cv) (hs:A4 n (A.map E)) {a b v e:Nat} (ha:a<n) (hb:b<n) (hab:a≠b) (hv:v<n) (heA:e∈A) (he:(E e).1=a∧(E e).2=b) (h2:fr a=2) (h1:fr b=1) (hfv:fr v=0) {T:Nat→Bool}
  (hL:Jm n E fr cv (Et (Et (Et (fun _=>false) a true) b true) v true) T) (hc:∀e∈cv v,T (Fo E e v)=true):Di n (A.map E) T∧T a=true∧T b=true∧T v=true:=by
 have hS:∀w,Et (Et (Et (fun _=>false) a true) b true) v true w=true↔w=v∨w=b∨w=a:=fun w=>by
  unfold Et;by_cases h1:w=v
  ·simp[h1]
  ·by_cases h2:w=b
   ·simp[h2]
   ·by_cases h3:w=a<;>simp[h1,h2,h3]
 have hTa:=hL.sub a ((hS a).2 (.inr (.inr rfl)));have hTb:=hL.sub b ((hS b).2 (.inr (.inl rfl)));have hTv:=hL.sub v ((hS v).2 (.inl rfl));have hca:cv a=[]:=List.eq_nil_of_length_eq_zero (by have:=h.two a ha;omega);have hcb:∀x∈cv b,x=e:=by
  have hm:e∈(List.range n).flatMap cv:=h.perm.mem_iff.2 heA;obtain⟨u,hu,hu2⟩:=List.mem_flatMap.1 hm;have hun:=List.mem_range.1 hu;have hub:u=b:=by
   rcases h.ends u hun e hu2 with h3|h3
   ·rw[he.1]at h3;rw[←h3,hca]at hu2;cases hu2
   ·rw[he.2]at h3;exact h3.symm
  subst hub;have hl:=h.two u hb;intro x hx
  match hcu:cv u,hx,hu2 with
  |[y],hx,hu2=>simp at hx hu2;rw[hx,hu2]
  |[],hx,_=>cases hx
  |y::z::t,_,_=>rw[hcu]at hl;simp at hl;omega
 have hSh:Qe4 n E cv T:=fun u hu hTu x hx=>by
  by_cases hu2:Et (Et (Et (fun _=>false) a true) b true) v true u=true
  ·rcases(hS u).1 hu2 with rfl|rfl|rfl
   ·exact hc x hx
   ·rw[hcb x hx];have:Fo E e u=a:=by unfold Fo;omega
    rw[this];exact hTa
   ·rw[hca]at hx;cases hx
  ·exact hL.shut u hu (by simpa using hu2) hTu x hx
 have:=h.second hs ha hb hab h2 hSh hTa hTb (fun u hu hTu hua hub=>by
  by_cases huv:u=v
  ·rw[huv];exact hfv
  ·refine hL.zero u hu ?_ hTu;cases hq:Et (Et (Et (fun _=>false) a true) b true) v true u with
   |false=>rfl
   |true=>rcases(hS u).1 hq with h' | h' | h'<;>contradiction) (by omega)
 exact⟨this.2,hTa,hTb,hTv⟩
end
end Go.Lam
end
section
namespace Go.Av
open Go.Proofs Go.Lam
def Qpx (bg bx c3 n:Nat):AV:=.fn 124 [.rptr [.ptr bg 3 0 0],.rptr [.osl bx 1 0 n],.ptr c3 1 0 0]
structure Tg (M:Aa) (n bg bf bc bx c3:Nat) (es:List RE) (fl:List Nat) (bs:List (Option Nat)) (cl:List (List Nat)) (sn:List Bool):Prop where
 game:Cw M n bg bf bc es fl bs cl
 seen:M bx=some ⟨4,1,bools sn⟩
 snl:sn.length=n
 cell:M c3=some ⟨100,1,[Qpx bg bx c3 n]⟩
 off:∀k∈A5 bg bf bc bs,k≠bx∧k≠c3
 xc:bx≠c3
 only:Ey M (bx::c3::A5 bg bf bc bs)
section
variable {M:Aa} {n bg bf bc bx c3:Nat} {es:List RE} {fl:List Nat} {bs:List (Option Nat)} {cl:List (List Nat)} {sn:List Bool}
theorem Tg.look (h:Tg M n bg bf bc bx c3 es fl bs cl sn) (i:Nat):Tg (M.set bx ⟨4,1,bools (sn.set i true)⟩) n bg bf bc bx c3 es fl bs cl (sn.set i true) where
 game:=h.game.congr fun k hk=>Aa.set_other _ _ (h.off k hk).1
 seen:=Aa.set_same _ _ _
 snl:=by rw[List.length_set,h.snl]
 cell:=by rw[Aa.set_other _ _ (Ne.symm h.xc)];exact h.cell
 off:=h.off
 xc:=h.xc
 only:=h.only.set _ (by simp)
theorem Tg.ones (h:Tg M n bg bf bc bx c3 es fl bs cl sn):∀c y,M c=some y→∀v∈y.l,v.cells.all AV.one=true:=by
 intro c y hy v hv;have hc:=h.only c (by rw[hy];simp);simp only[List.mem_cons]at hc;rcases hc with rfl | rfl | hc
 ·rw[h.seen]at hy;cases hy;exact K1 _ v hv
 ·rw[h.cell]at hy;cases hy;simp only[List.mem_singleton]at hv;subst hv;rfl
 ·rcases A8.1 hc with rfl|rfl|rfl|⟨i,hi⟩
  ·rw[h.game.g]at hy;cases hy;simp only[Cf,List.mem_singleton]at hv;subst hv;rfl
  ·rw[h.game.f]at hy;cases hy;exact Ce _ v hv
  ·rw[h.game.c]at hy;cases hy;exact Ia _ _ v hv
  ·rw[h.game.row i c hi]at hy;cases hy;exact Ce _ v hv
end
def Qw3 (n bg bf bc bx c3:Nat) (es:List RE) (fl:List Nat) (bs:List (Option Nat)) (cl:List (List Nat)) (sn:List Bool) (j:Nat) (v:AV) (M':Aa):Prop :=
 ∃ok:Bool,v=.bool ok∧∃(sn':List Bool),Tg M' n bg bf bc bx c3 es fl bs cl sn' ∧
  (ok=false→Jm n (Ad es) (Dz fl) (Cx cl) (E5 sn) (E5 sn')∧∀e∈Cx cl j,E5 sn' (Fo (Ad es) e j)=true) ∧
  (ok=true→Far n (Ad es) (Dz fl) (Cx cl) (E5 sn) j)
theorem Zy (n bg bf bc bx c3:Nat) (es:List RE) (A:List Nat) (hn:n≤12) (hes:I2 n es) (hA:∀e∈A,e<es.length) (fl:List Nat) (bs:List (Option Nat)) (cl:List (List Nat)) (hI:Inv n (Ad es) A (Dz fl) (Cx cl)) :
  ∀(fuel:Nat) (M:Aa) (sn:List Bool) (j:Nat),Fm sn≤fuel→Tg M n bg bf bc bx c3 es fl bs cl sn→j<n →
   Aj Tryz.prog 124 [.int .i64 (j:Nat),.rptr [.ptr bg 3 0 0],.rptr [.osl bx 1 0 n],.ptr c3 1 0 0] M (Qw3 n bg bf bc bx c3 es fl bs cl sn j):=by
 have hes12:I2 12 es:=fun i hi=>⟨(hes i hi).1,(hes i hi).2.1,by have:=(hes i hi).2.2;exact⟨by have:=this.1;omega,by have:=this.2.1;omega,this.2.2⟩⟩;intro fuel
 induction fuel using Nat.strongRecOn with
 |ind fuel IH =>
 intro M sn j hu hV hj;refine Ae Tryz.func124 rfl rfl 46 rfl (Nat.le_of_ble_eq_true rfl) ?_;(repeat refine AW.seq_k fun K hK=>?_);refine AW.rg ?_;simp[Ak];try (refine hK _ rfl ?_;clear hK K)
 have m1:=hV.game.g;have m3:=hV.game.c;have hhl:=F9 hV.game;obtain⟨o,ho,hget⟩:=J6 hV.game hj;unfold Cf at m1;have hjh:j<(Gg bs cl).length:=by rw[hhl];exact hj
 have hgel:(Gg bs cl)[j]=W4 o (Cx cl j):=by rw[List.getElem?_eq_getElem hjh]at hget;exact Option.some.inj hget
 cases o with
 |none =>
  have hc0:=hV.game.nil j ho;simp only[W4]at hgel;have hone:=hV.ones;refine AW.seq_ex (ι:=Unit) (fun _=>[]) (fun _=>M) (fun _=>True) ?_ ?_
  ·(repeat refine AW.seq_k fun K hK=>?_);refine AW.rg ?_;simp[m1,m3,hj,hhl,hgel];try (refine hK _ rfl ?_;clear hK K)
   refine AW.block (AW.loopS (ι:=Unit) (fun _=>[(16,.int .i64 0),(17,.int .i64 0)]) (fun _=>M) (fun _=>True) (fun _=>0) () trivial rfl (by simp) ?_);intro _ _;(repeat refine AW.seq_k fun K hK=>?_);refine AW.rg ?_;simp;try (refine hK _ rfl ?_;clear hK K)
   (repeat refine AW.seq ?_);refine AW.no ?_ rfl;refine AW.exit ?_;try simp
  ·rintro _ _;(repeat refine AW.seq_k fun K hK=>?_);refine AW.rg ?_;simp;try (refine hK _ rfl ?_;clear hK K)
   exact AW.ret (Bz rfl hone ⟨false,rfl,sn,hV,fun _=>⟨Jm.refl _,fun e he=>by rw[hc0]at he;cases he⟩,fun h=>by cases h⟩)
 |some b =>
  simp only[W4]at hgel;have hrow:=hV.game.row j b ho;have hlen2:(Cx cl j).length≤2:=by have:=hI.two j hj;omega
  refine AW.seq_ex (ι:=Aa × List Bool) (fun _=>[]) (fun z=>z.1) (fun z=>Tg z.1 n bg bf bc bx c3 es fl bs cl z.2∧Jm n (Ad es) (Dz fl) (Cx cl) (E5 sn) (E5 z.2)∧∀e∈Cx cl j,E5 z.2 (Fo (Ad es) e j)=true) ?_ ?_
  ·(repeat refine AW.seq_k fun K hK=>?_);refine AW.rg ?_;simp[m1,m3,hj,hhl,hgel];try (refine hK _ rfl ?_;clear hK K)
   refine AW.block (AW.loopS (ι:=Aa × List Bool × Nat) (fun z=>[(0,.int .i64 (j:Nat)),(1,.rptr [.ptr bg 3 0 0]),(2,.rptr [.osl bx 1 0 n]),(3,.ptr c3 1 0 0),(15,.osl b 1 0 (Cx cl j).length),(16,.int .i64 ((Cx cl j).length:Nat)),(17,.int .i64 (z.2.2:Nat))]) (fun z=>z.1)
    (fun z=>z.2.2≤(Cx cl j).length∧Tg z.1 n bg bf bc bx c3 es fl bs cl z.2.1∧Jm n (Ad es) (Dz fl) (Cx cl) (E5 sn) (E5 z.2.1)∧∀e∈(Cx cl j).take z.2.2,E5 z.2.1 (Fo (Ad es) e j)=true)
    (fun z=>(Cx cl j).length-z.2.2) (M,sn,0) ⟨by simp,hV,Jm.refl _,by simp⟩ rfl (by simp) ?_)
   rintro⟨M1,s1,i⟩ ⟨g1,g2,g3,g4⟩;simp only at g1 g2 g3 g4;(repeat refine AW.seq_k fun K hK=>?_);refine AW.rg ?_;simp;try (refine hK _ rfl ?_;clear hK K)
   (repeat refine AW.seq ?_);refine AW.cs (fun hi=>?_) (fun hi=>?_) rfl<;>(try simp at hi)
   ·refine AW.skip ?_;try simp
    try (refine hK _ rfl ?_;clear hK K)
    have w1:=Aq (i+1) (by omega);have r1:=g2.game.row j b ho;have r2:=g2.seen;have hsl:=g2.snl;obtain⟨e,he⟩:∃e,(Cx cl j)[i]=e:=⟨_,rfl⟩;have heM:e∈Cx cl j:=he ▸ List.getElem_mem hi;have hel:e<es.length:=hA e (hI.mem hj heM);have hend:=hI.ends j hj e heM;obtain⟨hn1,hn2⟩:=hI.oth_lt hj heM;have htk:=Fv hi he;(repeat refine AW.seq ?_);refine AW.block ?_;(repeat refine AW.seq_k fun K hK=>?_);refine AW.rg ?_;simp[r1,hi,he];try (refine hK _ rfl ?_;clear hK K)
    (repeat refine AW.seq_k fun K hK=>?_);refine AW.rg ?_;simp;try (refine hK _ rfl ?_;clear hK K)
    refine Ac.grant bg (Cf es bf bc n) g2.game.g (fun h=>h) (R9 bg bf bc n es e j hel hes12 (by rcases hend with h | h;exact .inl h.symm;exact .inr h.symm)) ?_;rintro _ _ ⟨rfl,rfl⟩;rw[set_self g2.game.g];simp;try (refine hK _ rfl ?_;clear hK K)
    obtain⟨n1,hn⟩:∃n1,Fo (Ad es) e j=n1:=⟨_,rfl⟩;rw[hn]at hn1 hn2;simp only[hn];have hs1:n1<s1.length:=by rw[hsl];exact hn1
    cases hseen:s1[n1]with
    |true =>
     (repeat refine AW.seq_k fun K hK=>?_);refine AW.rg ?_;simp[r2,hn1,hsl,hseen];try (refine hK _ rfl ?_;clear hK K)
     refine AW.yes ?_ rfl;refine AW.exit ?_;try simp
     (repeat refine AW.seq_k fun K hK=>?_);refine AW.rg ?_;simp[-Int.natCast_add,w1];try (refine hK _ rfl ?_;clear hK K)
     refine⟨M1,s1,i+1,⟨by omega,g2,g3,fun x hx=>?_⟩,by omega,rfl,rfl⟩;rw[htk]at hx;rcases List.mem_append.1 hx with hx | hx
     ·exact g4 x hx
     ·simp only[List.mem_singleton]at hx;subst hx;rw[hn,Qm hs1,hseen]
    |false =>
     have hS1:E5 s1 n1=false:=by rw[Qm hs1,hseen]
     (repeat refine AW.seq_k fun K hK=>?_);refine AW.rg ?_;simp[r2,hn1,hsl,hseen];try (refine hK _ rfl ?_;clear hK K)
     refine AW.no ?_ rfl;refine AW.skip ?_;try simp
     try (refine hK _ rfl ?_;clear hK K)
     (repeat refine AW.seq_k fun K hK=>?_);refine AW.rg ?_;simp[r2,hn1,hsl];try (refine hK _ rfl ?_;clear hK K)
     rw[Fd];have V2:=g2.look n1;have hsn2:E5 (s1.set n1 true)=Et (E5 s1) n1 true:=I1 hs1;have hu2:=Ru hs1 hseen;generalize M1.set bx ⟨4,1,bools (s1.set n1 true)⟩=M2 at V2 ⊢;have q1:=V2.game.g;have q2:=V2.game.f;have q3:=V2.cell;have q4:=V2.game.fll;have hf1:n1<fl.length:=by rw[q4];exact hn1
     unfold Cf at q1;unfold Qpx at q3;have hsub2:∀v,E5 sn v=true→E5 (s1.set n1 true) v=true:=fun v hv=>by
      rw[hsn2];unfold Et;split;rfl;exact g3.sub v hv
     by_cases hz:fl[n1]=0
     ·have ih:=IH (Fm (s1.set n1 true)) (by have h1:=hu2;have h2:=T0 g3 hV.snl g2.snl;omega) _ (s1.set n1 true) n1 (Nat.le_refl _) V2 hn1;(repeat refine AW.seq_k fun K hK=>?_);refine AW.rg ?_;simp[q1,q2,q3,hn1,q4,hz];try (refine hK _ rfl ?_;clear hK K)
      refine⟨124,_,⟨rfl,rfl⟩,?_⟩;refine Ac.whole (fun _ h=>h) ih ?_;rintro _ g ⟨ok,rfl,sn',hV',hF,hT⟩;cases ok with
      |false =>
       obtain⟨hL,hsh⟩:=hF rfl;simp;try (refine hK _ rfl ?_;clear hK K)
       refine AW.no ?_ rfl;refine AW.skip ?_;try simp
       try (refine hK _ rfl ?_;clear hK K)
       (repeat refine AW.seq_k fun K hK=>?_);refine AW.rg ?_;simp[-Int.natCast_add,w1];try (refine hK _ rfl ?_;clear hK K)
       refine⟨g,sn',i+1,⟨by omega,hV',?_,fun x hx=>?_⟩,by omega,rfl,rfl⟩
       ·rw[hsn2]at hL;exact g3.step (by rw[←E0 hf1];exact hz) hL hsh
       ·rw[htk]at hx;have hm:∀v,E5 s1 v=true→E5 sn' v=true:=fun v hv=>hL.sub v (by rw[hsn2];unfold Et;split;rfl;exact hv);rcases List.mem_append.1 hx with hx | hx
        ·exact hm _ (g4 x hx)
        ·simp only[List.mem_singleton]at hx;subst hx;rw[hn];exact hL.sub n1 (by rw[hsn2,Dv])
      |true =>
       have hG:=hT rfl;simp;try (refine hK _ rfl ?_;clear hK K)
       refine AW.yes ?_ rfl;(repeat refine AW.seq_k fun K hK=>?_);refine AW.rg ?_;simp;try (refine hK _ rfl ?_;clear hK K)
       exact AW.ret (Bz rfl hV'.ones ⟨true,rfl,sn',hV',fun h=>(by cases h),fun _=>Far.through hsub2 hj heM (by rw[hn];exact hG)⟩)
     ·have hpos:0<Dz fl n1:=by rw[←E0 hf1];omega
      have hpz:0<fl[n1]:=by omega
      (repeat refine AW.seq_k fun K hK=>?_);refine AW.rg ?_;simp[q1,q2,q3,hn1,q4,hpz];try (refine hK _ rfl ?_;clear hK K)
      refine AW.yes ?_ rfl;(repeat refine AW.seq_k fun K hK=>?_);refine AW.rg ?_;simp;try (refine hK _ rfl ?_;clear hK K)
      exact AW.ret (Bz rfl V2.ones ⟨true,rfl,_,V2,fun h=>(by cases h),fun _=>Far.direct (fun v hv=>g3.sub v hv) hj heM (by rw[hn];exact hn1) (by rw[hn];exact hS1) (by rw[hn];exact hpos)⟩)
   ·refine AW.exit ?_;try simp
    have hil:i=(Cx cl j).length:=by omega
    exact⟨s1,g2,g3,fun e he=>g4 e (by rw[hil,List.take_length];exact he)⟩
  ·rintro⟨M1,s1⟩ ⟨g1,g2,g3⟩;simp only at g1 g2 g3;(repeat refine AW.seq_k fun K hK=>?_);refine AW.rg ?_;simp;try (refine hK _ rfl ?_;clear hK K)
   exact AW.ret (Bz rfl g1.ones ⟨false,rfl,s1,g1,fun _=>⟨g2,g3⟩,fun h=>by cases h⟩)
end Go.Av
end
section
namespace Go.Av
open Go.Proofs Go.Lam
def Qw4 (n bg bf bc:Nat) (es:List RE) (A:List Nat) (e0 x:Nat) (v:AV) (M':Aa):Prop :=
 v=.bool (Gn n (A.map (Ad es)) (Ad es e0) x)∧∃(fl':List Nat) (bs':List (Option Nat)) (cl':List (List Nat)),H1 n bg bf bc es A M' fl' bs' cl'
theorem Qbr (n bg bf bc:Nat) (es:List RE) (A:List Nat) (hn:n≤12) (hes:I2 n es) (hA:∀e∈A,e<es.length) (hsp:A4 n (A.map (Ad es))) (M:Aa) (fl:List Nat) (bs:List (Option Nat)) (cl:List (List Nat)) (e0 x:Nat)
  (hG:H1 n bg bf bc es A M fl bs cl) (he0:e0∈A) (hx:x<n) (hxa:x≠(Ad es e0).1) (hxb:x≠(Ad es e0).2) :
  Aj Tryz.prog 90 [.ptr bg 3 0 0,.int .i64 ((Ad es e0).1:Nat),.int .i64 ((Ad es e0).2:Nat),.int .i64 (x:Nat)] M (Qw4 n bg bf bc es A e0 x):=by
 have hL:∀e∈A.map (Ad es),Dc n e:=fun e he=>by
  obtain⟨k,hk,rfl⟩:=List.mem_map.1 he;exact(hes k (hA k hk)).2.2
 have hok:Dc n (Ad es e0):=hL _ (List.mem_map.2 ⟨e0,he0,rfl⟩);have hT0:=Ir hL hsp (List.mem_map.2 ⟨e0,he0,rfl⟩);have hW:=Ie hL hx hok;have hins:∀X:Nat→Bool,ins X (Ad es e0)=true↔X (Ad es e0).1=true∧X (Ad es e0).2=true:=fun X=>by unfold ins;simp
 simp only[hins]at hW;generalize hw:Gn n (A.map (Ad es)) (Ad es e0) x=W at hW;obtain⟨ha,hb,hab⟩:=hok;obtain⟨a,ea⟩:∃a,(Ad es e0).1=a:=⟨_,rfl⟩;obtain⟨b,eb⟩:∃b,(Ad es e0).2=b:=⟨_,rfl⟩;rw[ea,eb]at hT0 hW;rw[ea]at ha hab hxa ⊢;rw[eb]at hb hab hxb ⊢;have hgc:=O9 n bg bf bc es A hn hes hA hsp M fl bs cl a b hG ha hb hab;refine Ae Tryz.func90 rfl rfl 43 rfl (Nat.le_of_ble_eq_true rfl) ?_;(repeat refine AW.seq_k fun K hK=>?_);refine AW.rgR [4] ?_;simp[Ak];try (refine hK _ rfl ?_;clear hK K)
 (repeat refine AW.seq_k fun K hK=>?_);refine AW.rg ?_;simp;try (refine hK _ rfl ?_;clear hK K)
 refine Ac.whole (fun _ h=>h) hgc ?_;rintro _ g ⟨fl1,bs1,cl1,rfl,hG1,f1,f2⟩;have f3:Dz fl1 b=1:=by
  rcases f2 with f2|f2
  ·exact absurd hT0 (hG1.inv.four ha hb hab (by omega) _ (by simp[Es]) (by simp[Es]))
  ·exact f2.1
 clear f2;simp[-Int.natCast_add];try (refine hK _ rfl ?_;clear hK K)
 clear hG hgc;have q1:=hG1.mem.g;have q2:=hG1.mem.f;have q4:=hG1.mem.fll;have hone:=G4 hG1.mem hG1.only;have hxl:x<fl1.length:=by rw[q4];exact hx
 have hfx:=E0 hxl;unfold Cf at q1;have hno:∀S:Nat→Bool,S a=true→S b=true→Far n (Ad es) (Dz fl1) (Cx cl1) S x→W=false:=fun S h1 h2 h3=>by
  cases hc:W with
  |false=>rfl
  |true =>
   obtain⟨X,x1,x2,x3⟩:=hW.1 hc;rw[Qh0 hG1.inv ha hb hab hx (by omega) h1 h2 h3 x1 x2.1 x2.2]at x3;cases x3
 by_cases hz:0<fl1[x]
 ·have hWf:W=false:=hno (Es a b) (by simp[Es]) (by simp[Es]) (fun X hX _=>⟨x,hx,hX,by simp[Es,hxa,hxb],by omega⟩);(repeat refine AW.seq_k fun K hK=>?_);refine AW.rg ?_;simp[-Int.natCast_add,q1,q2,hx,q4,hz];try (refine hK _ rfl ?_;clear hK K)
  refine AW.yes ?_ rfl;(repeat refine AW.seq_k fun K hK=>?_);refine AW.rg ?_;simp[-Int.natCast_add];try (refine hK _ rfl ?_;clear hK K)
  exact AW.ret (Bz rfl hone ⟨by rw[hw,hWf];rfl,fl1,bs1,cl1,hG1⟩)
 have hz0:fl1[x]=0:=by omega
 (repeat refine AW.seq_k fun K hK=>?_);refine AW.rg ?_;simp[-Int.natCast_add,q1,q2,hx,q4,hz0];try (refine hK _ rfl ?_;clear hK K)
 refine AW.no ?_ rfl;refine AW.skip ?_;try simp[-Int.natCast_add]
 try (refine hK _ rfl ?_;clear hK K)
 (repeat refine AW.seq_k fun K hK=>?_);refine AW.rg ?_;simp[-Int.natCast_add,q1,q4];try (refine hK _ rfl ?_;clear hK K)
 refine⟨by omega,Ah.intro fun bx hbx=>Ah.intro fun c2 h2=>?_⟩;simp only[Ap]at h2;refine hK _ rfl ?_;clear hK K;have hrep:List.replicate n (AV.bool false)=bools (List.replicate n false):=by simp[bools]
 rw[hrep];have ones1:∀c y,g.set bx ⟨4,1,bools (List.replicate n false)⟩ c=some y→∀v∈y.l,v.cells.all AV.one=true:=by
  intro c y hy v hv;by_cases e:c=bx
  ·rw[e,Aa.set_same]at hy;cases hy;exact K1 _ v hv
  ·rw[Aa.set_other _ _ e]at hy;exact hone c y hy v hv
 have hc2:g.set bx ⟨4,1,bools (List.replicate n false)⟩ c2=none:=by rw[Aa.set_other _ _ h2.1.1];exact h2.2
 refine AW.turn [(1,.int .i64 (a:Nat)),(2,.int .i64 (b:Nat)),(3,.int .i64 (x:Nat)),(4,.rptr [.ptr bg 3 0 0]),(8,.bool false),(9,.rptr [.osl bx 1 0 n])] (g.set bx ⟨4,1,bools (List.replicate n false)⟩) (Bo.drop hc2 ones1)
  (by simp[-Int.natCast_add];exact .ptr c2 1 0 0 ⟨137,1,[.osl bx 1 0 n]⟩ (.osl bx 1 0 n) (Aa.set_same _ _ _) hc2 rfl rfl) ?_
 have hl0:(bools (List.replicate n false)).length=n:=by simp
 (repeat refine AW.seq_k fun K hK=>?_);refine AW.rdT [] [9] [] [] [0,1,2,3,4,5,6,7,8,9,10,11] C8 (by simp[ha,hb,hx,hl0]) (by simp[ha,hb,hx,hl0]) (by simp[ha,hb,hx,hl0]) (by simp[ha,hb,hx,hl0]) (by simp[ha,hb,hx,hl0]) ?_;simp[ha,hb,hx,hl0];try (refine hK _ rfl ?_;clear hK K)
 rw[Fd,Fd,Fd];have hsl:((((List.replicate n false).set a true).set b true).set x true).length=n:=by simp
 have hS:E5 ((((List.replicate n false).set a true).set b true).set x true)=Et (Et (Et (fun _=>false) a true) b true) x true:=by
  rw[I1 (by simp;exact hx),I1 (by simp;exact hb),I1 (by simp;exact ha)]
  congr 3
  funext v
  unfold E5;rw[List.getD_eq_getElem?_getD,List.getElem?_replicate];split<;>rfl
 generalize(((List.replicate n false).set a true).set b true).set x true=sn at hsl hS ⊢;(repeat refine AW.seq_k fun K hK=>?_);refine AW.rg ?_;simp;try (refine hK _ rfl ?_;clear hK K)
 refine⟨rfl,by simp[AV.cells,AV.one],Ah.intro fun c3 h3=>?_⟩;simp only[Ap]at h3;refine hK _ rfl ?_;clear hK K;(repeat refine AW.seq_k fun K hK=>?_);refine AW.rg ?_;simp;try (refine hK _ rfl ?_;clear hK K)
 have hnx:∀k∈A5 bg bf bc bs1,k≠bx∧k≠c3:=fun k hk=>⟨fun e=>hG1.mem.dom hk (by rw[e];exact hbx),fun e=>hG1.mem.dom hk (by rw[e];exact h3.2)⟩;have hV:Tg ((g.set bx ⟨4,1,bools sn⟩).set c3 ⟨100,1,[.fn 124 [.rptr [.ptr bg 3 0 0],.rptr [.osl bx 1 0 n],.ptr c3 1 0 0]]⟩) n bg bf bc bx c3 es fl1 bs1 cl1 sn :=
  {game:=hG1.mem.congr fun k hk=>by rw[Aa.set_other _ _ (hnx k hk).2,Aa.set_other _ _ (hnx k hk).1]
   seen:=by rw[Aa.set_other _ _ h3.1.2,Aa.set_same]
   snl:=hsl
   cell:=Aa.set_same _ _ _
   off:=hnx
   xc:=h3.1.2
   only:=fun k hk=>by
    simp only[List.mem_cons];by_cases e1:k=c3
    ·exact .inr (.inl e1)
    ·by_cases e2:k=bx
     ·exact .inl e2
     ·rw[Aa.set_other _ _ e1,Aa.set_other _ _ e2]at hk;exact .inr (.inr (hG1.only k hk))}
 have hc3:=hV.cell;unfold Qpx at hc3;have ih:=Zy n bg bf bc bx c3 es A hn hes hA fl1 bs1 cl1 hG1.inv (Fm sn) _ sn x (Nat.le_refl _) hV hx;generalize(g.set bx ⟨4,1,bools sn⟩).set c3 ⟨100,1,[.fn 124 [.rptr [.ptr bg 3 0 0],.rptr [.osl bx 1 0 n],.ptr c3 1 0 0]]⟩=M2 at hV hc3 ih ⊢;(repeat refine AW.seq_k fun K hK=>?_);refine AW.rg ?_;simp[hc3];try (refine hK _ rfl ?_;clear hK K)
 refine⟨124,_,⟨rfl,rfl⟩,?_⟩;refine Ac.whole (fun _ h=>h) ih ?_;rintro _ g' ⟨ok,rfl,sn',hV',hF,hT⟩;simp;try (refine hK _ rfl ?_;clear hK K)
 have hrec:Bo g' (g'.only (A5 bg bf bc bs1)):=Bo.sub fun b x hb=>by
  by_cases hm:b∈A5 bg bf bc bs1
  ·rw[Bt hm]at hb;exact⟨hb,hV'.ones b x hb⟩
  ·rw[Bq hm]at hb;cases hb
 have hres:(!ok)=W:=by
  cases ok with
  |true =>
   have:=hT rfl;rw[hS]at this;rw[hno _ ?_ ?_ this];rfl
   ·unfold Et;simp[Ne.symm hxa,hab]
   ·unfold Et;simp[Ne.symm hxb]
  |false =>
   obtain⟨hL',hsh⟩:=hF rfl;rw[hS]at hL';have:=Qeh hG1.inv hsp ha hb hab hx he0 ⟨ea,eb⟩ f1 f3 (by rw[←hfx];exact hz0) hL' hsh;exact(hW.2 ⟨_,this.1,⟨this.2.1,this.2.2.1⟩,this.2.2.2⟩).symm
 refine AW.ret ⟨[.bool (!ok)],rfl,.bool (!ok),_,hrec,.same _,by rw[hw,hres],fl1,bs1,cl1,hV'.game.congr fun k hk=>Bt hk,fun k hk=>?_,hG1.inv⟩;rcases Decidable.em (k∈A5 bg bf bc bs1)with hm | hm
 ·exact hm
 ·exact absurd (Bq hm) hk
end Go.Av
end
section
namespace Go.Av
open Go.Proofs Go.Lam
section
variable {M:Aa} {n bg bf bc:Nat} {es:List RE} {fl:List Nat} {bs:List (Option Nat)} {cl:List (List Nat)}
theorem Tp (h:Cw M n bg bf bc es fl bs cl) (ho:Ey M (A5 bg bf bc bs)) {i b':Nat} {l':List Nat} (hi:i<n) (hf:b' ∉ A5 bg bf bc bs∨bs[i]?=some (some b')) {M':Aa}
  (h3:M' bc=some ⟨25,1,(Gg bs cl).set i (.osl b' 1 0 l'.length)⟩) (h4:M' b'=some ⟨3,1,Al l'⟩) (h5:∀k∈A5 bg bf bc bs,k≠b'→k≠bc→bs[i]?≠some (some k)→M' k=M k)
  (h6:∀k,M' k≠none→k=b'∨k∈A5 bg bf bc bs∧(bs[i]?=some (some k)→k=b')):Cw M' n bg bf bc es fl (bs.set i (some b')) (cl.set i l')∧Ey M' (A5 bg bf bc (bs.set i (some b'))):=by
 have hib:i<bs.length:=by rw[h.bsl];exact hi
 have hb':b'≠bg∧b'≠bf∧b'≠bc:=by
  rcases hf with hf|hf
  ·simp only[A5,List.mem_cons,not_or]at hf;exact⟨hf.1,hf.2.1,hf.2.2.1⟩
  ·exact h.ndr i b' hf
 have hrow:∀j,j≠i→bs[j]?≠some (some b'):=fun j hj e=>by
  rcases hf with hf|hf
  ·exact hf (A8.2 (.inr (.inr (.inr ⟨j,e⟩))))
  ·exact hj (h.inj j i b' e hf)
 refine⟨h.setC hi hb' hrow ?_ ?_ h3 h4 ?_,?_⟩
 ·exact h5 bg (by simp[A5]) (Ne.symm hb'.1) h.nd.2.1 fun e=>(h.ndr i bg e).1 rfl
 ·exact h5 bf (by simp[A5]) (Ne.symm hb'.2.1) h.nd.2.2 fun e=>(h.ndr i bf e).2.1 rfl
 ·intro j b hj hb;exact h5 b (A8.2 (.inr (.inr (.inr ⟨j,hb⟩)))) (fun e=>hrow j hj (e ▸ hb)) (h.ndr j b hb).2.2 (fun e=>hj (h.inj j i b hb e))
 ·intro k hk;rcases h6 k hk with rfl | ⟨hk,hk2⟩
  ·exact A8.2 (.inr (.inr (.inr ⟨i,by rw[List.getElem?_set,if_pos rfl,if_pos hib]⟩)))
  ·refine A8.2 ?_;rcases A8.1 hk with hk | hk | hk | ⟨j,hj⟩
   ·exact .inl hk
   ·exact .inr (.inl hk)
   ·exact .inr (.inr (.inl hk))
   ·by_cases hij:i=j
    ·subst hij;rw[hk2 hj];exact .inr (.inr (.inr ⟨i,by rw[List.getElem?_set,if_pos rfl,if_pos hib]⟩))
    ·exact .inr (.inr (.inr ⟨j,by rw[List.getElem?_set,if_neg hij];exact hj⟩))
end
def Qu7 (n bg bf bc:Nat) (es:List RE) (A:List Nat) (e:Nat) (v:AV) (M':Aa):Prop :=
 v=.bool (He n ((A++[e]).map (Ad es)))∧∃(fl':List Nat) (bs':List (Option Nat)) (cl':List (List Nat)),H1 n bg bf bc es (Hl n (Ad es) A e) M' fl' bs' cl'
theorem Yz (n bg bf bc:Nat) (es:List RE) (A:List Nat) (hn:n≤12) (hes:I2 n es) (hA:∀e∈A,e<es.length) (hsp:A4 n (A.map (Ad es))) (M:Aa) (fl:List Nat) (bs:List (Option Nat)) (cl:List (List Nat)) (e:Nat) (he:e<es.length)
  (hG:H1 n bg bf bc es A M fl bs cl) :
  Aj Tryz.prog 82 [.ptr bg 3 0 0,.int .i64 (e:Nat)] M (Qu7 n bg bf bc es A e):=by
 obtain⟨e1,e2,e3⟩:=hes e he;have hLe:∀x∈(A++[e]).map (Ad es),Dc n x:=by
  simp only[List.mem_map,List.mem_append,List.mem_singleton];rintro _ ⟨k,hk | rfl,rfl⟩
  ·exact(hes k (hA k hk)).2.2
  ·exact e3
 have hmap:(A++[e]).map (Ad es)=A.map (Ad es)++[Ad es e]:=by simp
 have q1:=hG.mem.g;unfold Cf at q1;refine Ae Tryz.func82 rfl rfl 53 rfl (Nat.le_of_ble_eq_true rfl) ?_;(repeat refine AW.seq_k fun K hK=>?_);refine AW.rg ?_;simp[Ak];try (refine hK _ rfl ?_;clear hK K)
 (repeat refine AW.seq_k fun K hK=>?_);refine AW.rdL [bg] [0,1,2,3,4,5,6,7,8,9,10,11,12,13,14,15,16,17] C8 (by simp[q1]) ?_;simp[q1,he,Cj,e1,e2];try (refine hK _ rfl ?_;clear hK K)
 have hgc:=O9 n bg bf bc es A hn hes hA hsp M fl bs cl (Ad es e).1 (Ad es e).2 hG e3.1 e3.2.1 e3.2.2;obtain⟨a,ha⟩:∃a,(Ad es e).1=a:=⟨_,rfl⟩;obtain⟨b,hb⟩:∃b,(Ad es e).2=b:=⟨_,rfl⟩;rw[ha,hb]at hgc;simp only[ha,hb];have hE:Ad es e=(a,b):=by rw[←ha,←hb]
 have han:a<n:=ha ▸ e3.1;have hbn:b<n:=hb ▸ e3.2.1;have hab:a≠b:=by rw[←ha,←hb];exact e3.2.2
 (repeat refine AW.seq_k fun K hK=>?_);refine AW.rg ?_;simp;try (refine hK _ rfl ?_;clear hK K)
 refine Ac.whole (fun _ h=>h) hgc ?_;rintro _ g ⟨fl',bs',cl',rfl,hG',h2,h3⟩;rcases h3 with h3 | ⟨h3,X,hX,hXa,hXb⟩
 ·have hf:He n ((A++[e]).map (Ad es))=true:=by
   rw[G3 hLe,hmap,Sh hsp];intro X hX;cases hi:ins X (Ad es e)with
   |false=>rfl
   |true =>
    rw[hE,ins,Bool.and_eq_true]at hi;exact absurd hX (hG'.inv.four han hbn hab (by omega) X hi.1 hi.2)
  have hadd:Hl n (Ad es) A e=A++[e]:=by unfold Hl;rw[if_pos hf]
  rw[h2,h3];simp;try (refine hK _ rfl ?_;clear hK K)
  refine AW.no ?_ rfl;refine AW.skip ?_;try simp
  try (refine hK _ rfl ?_;clear hK K)
  have p1:=hG'.mem.g;have p2:=hG'.mem.f;have p4:=hG'.mem.fll;have hal:a<fl'.length:=by rw[p4];exact han
  have hx:fl'[a]=2:=by rw[E0 hal];exact h2
  have w2:IntKind.i64.wrap 1=1:=rfl;unfold Cf at p1;(repeat refine AW.seq_k fun K hK=>?_);refine AW.rg ?_;simp[p1,p2,han,p4,hx,w2];try (refine hK _ rfl ?_;clear hK K)
  rw[show(AV.int IntKind.i64 1)=.int .i64 ((1:Nat):Int) from rfl,H7];have V4:=hG'.mem.setF a 1;have o4':Ey (g.set bf ⟨3,1,Al (fl'.set a 1)⟩) (A5 bg bf bc bs'):=hG'.only.set _ (by simp[A5]);generalize g.set bf ⟨3,1,Al (fl'.set a 1)⟩=M4 at V4 o4' ⊢;have hinv:∀(M:Aa) (bs'':List (Option Nat)),Cw M n bg bf bc es (fl'.set a 1) bs'' (cl'.set a (Cx cl' a++[e]))∧Ey M (A5 bg bf bc bs'')→Qu7 n bg bf bc es A e (.bool true) M:=fun M bs'' h=>⟨by rw[hf],_,bs'',_,by
   rw[hadd];refine⟨h.1,h.2,?_⟩;rw[We hal,M9 (by rw[hG'.mem.cll];exact han)];have:=hG'.inv.lay (a:=a) (e:=e) ha e3 (by omega);rw[h2]at this;exact this⟩
  have q5:=V4.g;have q6:=V4.c;have hhl4:=F9 V4;obtain⟨o4,ho4,hget4⟩:=J6 V4 han;have hjh4:a<(Gg bs' cl').length:=by rw[hhl4];exact han
  have hgel4:(Gg bs' cl')[a]=W4 o4 (Cx cl' a):=by rw[List.getElem?_eq_getElem hjh4]at hget4;exact Option.some.inj hget4
  have nd:=V4.nd;have hbcn:bc≠bg:=Ne.symm nd.2.1;unfold Cf at q5;have hl3:(Cx cl' a).length≤2:=by have:=hG'.inv.two a han;omega
  refine AW.seq_ex (ι:=Aa × List (Option Nat)) (fun _=>[]) (fun z=>z.1) (fun z=>Cw z.1 n bg bf bc es (fl'.set a 1) z.2 (cl'.set a (Cx cl' a++[e]))∧Ey z.1 (A5 bg bf bc z.2)) ?_ ?_
  ·cases o4 with
   |none =>
    have hc0:=V4.nil a ho4;simp only[W4]at hgel4;(repeat refine AW.seq_k fun K hK=>?_);refine AW.rdLR [50] [bg,bc] [0,1,2,3,4,5,6,7,8,9,10,11,12,13,14,15,16] C8 (by simp[q5,q6]) ?_;simp[q5,q6,han,hhl4,hgel4];refine⟨by unfold maxLen;omega,fun b6 h6 _=>?_⟩;have hfresh:b6 ∉ A5 bg bf bc bs':=fun hm=>V4.dom hm h6;have e1:¬bc=b6:=fun h=>hfresh (by rw[←h];simp[A5]);simp[e1,han,hhl4];refine⟨_,Tp V4 o4' han (.inl hfresh) (by rw[Aa.set_same,hc0];rfl) (by rw[Aa.set_other _ _ (Ne.symm e1),Aa.set_same,hc0];rfl) (fun k _ hk1 hk2 _=>by rw[Aa.set_other _ _ hk2,Aa.set_other _ _ hk1]) (fun k hk=>?_)⟩
    by_cases k1:k=b6
    ·exact .inl k1
    ·refine .inr ⟨?_,fun h=>by rw[ho4]at h;cases h⟩;by_cases k2:k=bc
     ·rw[k2];simp[A5]
     ·rw[Aa.set_other _ _ k2,Aa.set_other _ _ k1]at hk;exact o4' k hk
   |some b4 =>
    simp only[W4]at hgel4;have q7:=V4.row a b4 ho4;have hnd4:=V4.ndr a b4 ho4;(repeat refine AW.seq_k fun K hK=>?_);refine AW.rdLR [50] [bg,bc] [0,1,2,3,4,5,6,7,8,9,10,11,12,13,14,15,16] C8 (by simp[q5,q6]) ?_;simp[q5,q6,q7,han,hhl4,hgel4,hnd4];refine⟨by omega,by unfold maxLen;omega,fun b6 h6 _=>?_⟩;have hf6:b6 ∉ A5 bg bf bc bs'∨bs'[a]?=some (some b6):=by
     by_cases e:b6=b4
     ·exact .inr (by rw[e];exact ho4)
     ·exact .inl fun hm=>V4.dom hm (by rwa [Aa.del_other _ e]at h6)
    have e1:¬bc=b6:=by
     intro h;rcases hf6 with hf6 | hf6
     ·exact hf6 (by rw[←h];simp[A5])
     ·exact(V4.ndr a b6 hf6).2.2 h.symm
    have e2:¬bc=b4:=Ne.symm hnd4.2.2;simp[e1,e2,han,hhl4];refine⟨_,Tp V4 o4' han hf6 (by rw[Aa.set_same];simp) (by rw[Aa.set_other _ _ (Ne.symm e1),Aa.set_same,Cv]) (fun k _ hk1 hk2 hk3=>?_) (fun k hk=>?_)⟩
    ·have:k≠b4:=fun h=>hk3 (by rw[h];exact ho4);rw[Aa.set_other _ _ hk2,Aa.set_other _ _ hk1,Aa.del_other _ this]
    ·by_cases k1:k=b6
     ·exact .inl k1
     ·by_cases k2:k=bc
      ·exact .inr ⟨by rw[k2];simp[A5],fun h=>absurd k2 (V4.ndr a k h).2.2⟩
      ·rw[Aa.set_other _ _ k2,Aa.set_other _ _ k1]at hk;by_cases k3:k=b4
       ·rw[k3,Aa.del_same]at hk;exact absurd rfl hk
       ·rw[Aa.del_other _ k3]at hk;exact .inr ⟨o4' k hk,fun h=>by rw[ho4]at h;cases h;exact absurd rfl k3⟩
  ·rintro⟨M5,bs5⟩ h5;simp only at h5 ⊢;(repeat refine AW.seq_k fun K hK=>?_);refine AW.rg ?_;simp;try (refine hK _ rfl ?_;clear hK K)
   exact AW.ret (Bz rfl (G4 h5.1 h5.2) (hinv M5 bs5 h5))
 ·have hf:He n ((A++[e]).map (Ad es))=false:=by
   cases hc:He n ((A++[e]).map (Ad es))with
   |false=>rfl
   |true =>
    rw[G3 hLe,hmap,Sh hsp]at hc;have:=hc X hX;rw[hE,ins,hXa,hXb]at this;cases this
  have hadd:Hl n (Ad es) A e=A:=by unfold Hl;rw[hf,if_neg (by simp)]
  rw[h2,h3];simp;try (refine hK _ rfl ?_;clear hK K)
  refine AW.yes ?_ rfl;(repeat refine AW.seq_k fun K hK=>?_);refine AW.rg ?_;simp;try (refine hK _ rfl ?_;clear hK K)
  exact AW.ret (Bz rfl (G4 hG'.mem hG'.only) ⟨by rw[hf];rfl,fl',bs',cl',by rw[hadd];exact hG'⟩)
end Go.Av
end
section
namespace Go.Av
open Go.Proofs Go.Lam
structure PSt where
 M:Aa
 fl:List Nat
 bs:List (Option Nat)
 cl:List (List Nat)
 ov:AV
 ob:List Nat
structure Qce (n bg bf bc:Nat) (es:List RE) (A:List Nat) (z:PSt):Prop where
 game:Cw z.M n bg bf bc es z.fl z.bs z.cl
 inv:Inv n (Ad es) A (Dz z.fl) (Cx z.cl)
 lst:Mw z.M 3 1 z.ov z.ob (Al A)
 off:∀b∈z.ob,b ∉ A5 bg bf bc z.bs
 only:Ey z.M (z.ob++A5 bg bf bc z.bs)
theorem Qce.ones {n bg bf bc:Nat} {es:List RE} {A:List Nat} {z:PSt} (h:Qce n bg bf bc es A z):∀c y,z.M c=some y→∀v∈y.l,v.cells.all AV.one=true:=by
 intro c y hy v hv;rcases List.mem_append.1 (h.only c (by rw[hy];simp))with hc | hc
 ·rcases h.lst with⟨_,h2,_⟩|⟨b,h2,_,h3⟩
  ·rw[h2]at hc;cases hc
  ·rw[h2,List.mem_singleton]at hc;rw[hc,h3]at hy;cases hy;exact Ce _ v hv
 ·rcases A8.1 hc with rfl|rfl|rfl|⟨i,hi⟩
  ·rw[h.game.g]at hy;cases hy;simp only[Cf,List.mem_singleton]at hv;subst hv;rfl
  ·rw[h.game.f]at hy;cases hy;exact Ce _ v hv
  ·rw[h.game.c]at hy;cases hy;exact Ia _ _ v hv
  ·rw[h.game.row i c hi]at hy;cases hy;exact Ce _ v hv
def Ql7 (n:Nat) (es:List RE) (A:List Nat) (v:AV) (M':Aa):Prop :=
 ∃(bg bf bc:Nat) (fl:List Nat) (bs:List (Option Nat)) (cl:List (List Nat)),v=.tup [.ptr bg 3 0 0,.sl 1 (Al A)]∧H1 n bg bf bc es A M' fl bs cl
theorem Ok (n:Nat) (es:List RE) (hn:n≤12) (hes:I2 n es) (s:List Nat) (hs:∀k∈s,k<es.length) (hsl:s.length≤100) :
  Aj Tryz.prog 44 [.int .i64 (n:Nat),A3 es,.sl 1 (Al s)] Aa.emp (Ql7 n es (Bl n (Ad es) [] s)):=by
 have hst:=Qbk n es hn;refine Ae Tryz.func44 rfl rfl 31 rfl (Nat.le_of_ble_eq_true rfl) ?_;unfold A3 at hst ⊢;(repeat refine AW.seq_k fun K hK=>?_);refine AW.rg ?_;simp[Ak];try (refine hK _ rfl ?_;clear hK K)
 (repeat refine AW.seq_k fun K hK=>?_);refine AW.rg ?_;simp;try (refine hK _ rfl ?_;clear hK K)
 refine Ac.news hst ?_;rintro _ g ⟨bg,bf,bc,rfl,hG,ho⟩ _;simp;have hg:Aa.back Aa.emp [] g=g:=by funext k;simp only[Aa.back,Az];cases g k<;>simp
 rw[hg];try (refine hK _ rfl ?_;clear hK K)
 (repeat refine AW.seq_k fun K hK=>?_);refine AW.rg ?_;simp;try (refine hK _ rfl ?_;clear hK K)
 refine AW.seq_ex (ι:=PSt) (fun z=>[(8,.ptr bg 3 0 0),(9,z.ov)]) (fun z=>z.M) (fun z=>Qce n bg bf bc es (Bl n (Ad es) [] s) z) ?_ ?_
 ·(repeat refine AW.seq_k fun K hK=>?_);refine AW.rg ?_;simp;try (refine hK _ rfl ?_;clear hK K)
  have hI0:Inv n (Ad es) [] (Dz (List.replicate n 2)) (Cx (List.replicate n [])):=by
   have h1:=Inv.start n (Ad es);refine⟨fun v hv=>?_,?_,fun v hv e he=>?_,by simp⟩
   ·rw[Qj];unfold Dz;rw[List.getD_eq_getElem?_getD,List.getElem?_replicate,if_pos hv];rfl
   ·have:Cx (List.replicate n [])=fun _=>[]:=funext fun i=>Qj n i;rw[this];exact h1.perm
   ·rw[Qj]at he;cases he
  refine AW.block (AW.loopS (ι:=PSt × Nat) (fun z=>[(8,.ptr bg 3 0 0),(9,z.1.ov),(15,.sl 1 (Al s)),(16,.int .i64 (s.length:Nat)),(17,.int .i64 (z.2:Nat))]) (fun z=>z.1.M)
   (fun z=>z.2≤s.length∧Qce n bg bf bc es (Bl n (Ad es) [] (s.take z.2)) z.1) (fun z=>s.length-z.2) (⟨g,List.replicate n 2,List.replicate n none,List.replicate n [],.nil,[]⟩,0)
   ⟨by simp,⟨hG,hI0,.inl ⟨rfl,rfl,rfl⟩,by simp,ho⟩⟩ rfl (by simp) ?_)
  rintro⟨⟨M,fl,bs,cl,ov,ob⟩,i⟩ ⟨g1,g2⟩;simp only at g1 g2;(repeat refine AW.seq_k fun K hK=>?_);refine AW.rg ?_;simp;try (refine hK _ rfl ?_;clear hK K)
  (repeat refine AW.seq ?_);refine AW.cs (fun hi=>?_) (fun hi=>?_) rfl<;>(try simp at hi)
  ·refine AW.skip ?_;try simp
   try (refine hK _ rfl ?_;clear hK K)
   have w1:=Aq (i+1) (by omega);obtain⟨e,he⟩:∃e,s[i]=e:=⟨_,rfl⟩;have hel:e<es.length:=hs e (he ▸ List.getElem_mem hi);have htk:Bl n (Ad es) [] (s.take (i+1))=Hl n (Ad es) (Bl n (Ad es) [] (s.take i)) e:=by
    rw[Fv hi he,Lj];rfl
   have hA:∀k∈Bl n (Ad es) [] (s.take i),k<es.length:=fun k hk=>by
    rcases L3 hk with h|h
    ·cases h
    ·exact hs k (List.mem_of_mem_take h)
   have hsp:A4 n ((Bl n (Ad es) [] (s.take i)).map (Ad es)):=Ew (by simp) (hes.at fun k hk=>hs k (List.mem_of_mem_take hk)) (A4.nil n);have hAl:(Bl n (Ad es) [] (s.take i)).length≤100:=by
    have:=F3 (n:=n) (E:=Ad es) (s.take i) [];simp at this;omega
   generalize Bl n (Ad es) [] (s.take i)=A at *;have hon:H1 n bg bf bc es A (M.only (A5 bg bf bc bs)) fl bs cl:=⟨g2.game.congr fun k hk=>Bt hk,fun k hk=>by
    rcases Decidable.em (k∈A5 bg bf bc bs)with hm|hm
    ·exact hm
    ·exact absurd (Bq hm) hk,g2.inv⟩
   have hac:=Yz n bg bf bc es A hn hes hA hsp _ fl bs cl e hel hon;(repeat refine AW.seq ?_);refine AW.block ?_;(repeat refine AW.seq_k fun K hK=>?_);refine AW.rg ?_;simp[hi,he];try (refine hK _ rfl ?_;clear hK K)
   (repeat refine AW.seq_k fun K hK=>?_);refine AW.rg ?_;simp;try (refine hK _ rfl ?_;clear hK K)
   refine Ac.hand (A5 bg bf bc bs) (fun _ _ h=>h) hac ?_;rintro _ g' ⟨rfl,fl',bs',cl',hG'⟩ hnew;have hobM:∀b∈ob,M b≠none:=fun b hb=>by
    rcases g2.lst with⟨_,h2,_⟩|⟨b',h2,_,h3⟩
    ·simp only at h2;rw[h2]at hb;cases hb
    ·simp only at h2 h3;rw[h2,List.mem_singleton]at hb;rw[hb,h3];simp
   have hobN:∀b∈ob,b ∉ A5 bg bf bc bs':=fun b hb hm=>by
    rcases hnew b (hG'.mem.dom hm)with h|h
    ·exact g2.off b hb h
    ·exact hobM b hb h.1
   have hM2:∀k∈A5 bg bf bc bs',M.back (A5 bg bf bc bs) g' k=g' k:=fun k hk=>by
    unfold Aa.back;cases h:g' k with
    |some x=>rfl
    |none=>exact absurd h (hG'.mem.dom hk)
   have hM2o:∀b∈ob,M.back (A5 bg bf bc bs) g' b=M b:=fun b hb=>by
    have h:g' b=none:=by
     cases h:g' b with
     |none=>rfl
     |some x=>exact absurd (hG'.only b (by rw[h];simp)) (hobN b hb)
    unfold Aa.back;rw[h];exact if_neg (g2.off b hb)
   have hM2n:∀k,M.back (A5 bg bf bc bs) g' k≠none→k∈ob++A5 bg bf bc bs':=fun k hk=>by
    unfold Aa.back at hk;cases h:g' k with
    |some x=>exact List.mem_append_right _ (hG'.only k (by rw[h];simp))
    |none =>
     rw[h]at hk;simp only at hk;by_cases hm:k∈A5 bg bf bc bs
     ·rw[if_pos hm]at hk;exact absurd rfl hk
     ·rw[if_neg hm]at hk;rcases List.mem_append.1 (g2.only k hk)with h' | h'
      ·exact List.mem_append_left _ h'
      ·exact absurd h' hm
   have gm:=hG'.mem.congr hM2;have lm:=g2.lst.keep hM2o;generalize M.back (A5 bg bf bc bs) g'=M2 at gm lm hM2o hM2n ⊢;cases hf:He n ((A++[e]).map (Ad es))with
   |false =>
    have hadd:Hl n (Ad es) A e=A:=by unfold Hl;rw[hf,if_neg (by simp)]
    rw[hadd]at htk hG';simp;try (refine hK _ rfl ?_;clear hK K)
    refine AW.no ?_ rfl;refine AW.skip ?_;try simp
    try (refine hK _ rfl ?_;clear hK K)
    (repeat refine AW.seq_k fun K hK=>?_);refine AW.rg ?_;simp[-Int.natCast_add,w1];try (refine hK _ rfl ?_;clear hK K)
    exact⟨⟨M2,fl',bs',cl',ov,ob⟩,i+1,⟨by omega,by rw[htk];exact⟨gm,hG'.inv,lm,hobN,hM2n⟩⟩,by omega,rfl,rfl,rfl⟩
   |true =>
    have hadd:Hl n (Ad es) A e=A++[e]:=by unfold Hl;rw[hf,if_pos rfl]
    rw[hadd]at htk hG';simp;try (refine hK _ rfl ?_;clear hK K)
    refine AW.yes ?_ rfl;rcases lm with⟨l1,l2,l3⟩ | ⟨b0,l2,l3,l4⟩
    ·simp only at l1 l2 l3;have hA0:A=[]:=by unfold Al at l1;exact List.map_eq_nil_iff.1 l1
     subst l2;subst l3;subst hA0;(repeat refine AW.seq_k fun K hK=>?_);refine AW.rgR [26] ?_;simp;try (refine hK _ rfl ?_;clear hK K)
     refine⟨by unfold maxLen;omega,Ah.intro fun b6 h6=>?_⟩;have hb6:b6 ∉ A5 bg bf bc bs':=fun hm=>gm.dom hm h6;(repeat refine AW.seq_k fun K hK=>?_);refine AW.rg ?_;simp[-Int.natCast_add,w1];try (refine hK _ rfl ?_;clear hK K)
     refine⟨⟨M2.set b6 ⟨3,1,[.int .i64 (e:Nat)]⟩,fl',bs',cl',.osl b6 1 0 1,[b6]⟩,i+1,⟨by omega,?_⟩,by omega,rfl,rfl,rfl⟩;rw[htk];exact⟨gm.congr fun k hk=>Aa.set_other _ _ (fun h=>hb6 (h ▸ hk)),hG'.inv,.inr ⟨b6,rfl,rfl,Aa.set_same _ _ _⟩,fun b hb=>by rw[List.mem_singleton]at hb;rw[hb];exact hb6,fun k hk=>by
      by_cases h:k=b6
      ·rw[h];simp
      ·simp only at hk;rw[Aa.set_other _ _ h]at hk;have:=hM2n k hk;simp only[List.nil_append]at this;exact List.mem_append_right _ this⟩
    ·simp only at l2 l3 l4;subst l2;subst l3;(repeat refine AW.seq_k fun K hK=>?_);refine AW.rgR [26] ?_;simp[l4];try (refine hK _ rfl ?_;clear hK K)
     refine⟨by omega,by unfold maxLen;omega,Ah.intro fun b6 h6=>?_⟩;have hb0:b0 ∉ A5 bg bf bc bs':=hobN b0 (by simp);have hb6:b6 ∉ A5 bg bf bc bs':=fun hm=>by
      by_cases h:b6=b0
      ·exact hb0 (h ▸ hm)
      ·rw[Aa.del_other _ h]at h6;exact gm.dom hm h6
     (repeat refine AW.seq_k fun K hK=>?_);refine AW.rg ?_;simp[-Int.natCast_add,w1];try (refine hK _ rfl ?_;clear hK K)
     refine⟨⟨(M2.del b0).set b6 ⟨3,1,Al A++[.int .i64 (e:Nat)]⟩,fl',bs',cl',.osl b6 1 0 (A.length+1),[b6]⟩,i+1,⟨by omega,?_⟩,by omega,rfl,rfl,rfl⟩;rw[htk];refine⟨gm.congr fun k hk=>by simp only;rw[Aa.set_other _ _ (fun h=>hb6 (by rw[←h];exact hk)),Aa.del_other _ (fun h=>hb0 (by rw[←h];exact hk))],hG'.inv,.inr ⟨b6,rfl,by simp,by simp only;rw[Aa.set_same,Cv]⟩,fun b hb=>by rw[List.mem_singleton]at hb;rw[hb];exact hb6,fun k hk=>?_⟩;by_cases h:k=b6
     ·rw[h];simp
     ·simp only at hk;rw[Aa.set_other _ _ h]at hk;by_cases h':k=b0
      ·rw[h',Aa.del_same]at hk;exact absurd rfl hk
      ·rw[Aa.del_other _ h']at hk;have:=hM2n k hk;simp only[List.singleton_append,List.mem_cons]at this;exact List.mem_append_right _ (this.resolve_left h')
  ·refine AW.exit ?_;try simp
   rw[show i=s.length by omega,List.take_length]at g2;exact⟨_,g2,rfl,rfl⟩
 rintro⟨M,fl,bs,cl,ov,ob⟩ hz;simp only;(repeat refine AW.seq_k fun K hK=>?_);refine AW.rg ?_;simp;try (refine hK _ rfl ?_;clear hK K)
 have hone:=hz.ones;have hview:=hz.lst.view (M':=M.only (A5 bg bf bc bs)) (fun b hb=>Bq (hz.off b hb));refine AW.ret ⟨[.ptr bg 3 0 0,ov],rfl,.tup [.ptr bg 3 0 0,.sl 1 (Al (Bl n (Ad es) [] s))],M.only (A5 bg bf bc bs),Bo.sub fun b x hb=>?_,Bv.tupL ⟨.same _,hview,trivial⟩,bg,bf,bc,fl,bs,cl,rfl,hz.game.congr fun k hk=>Bt hk,fun k hk=>?_,hz.inv⟩
 ·by_cases hm:b∈A5 bg bf bc bs
  ·rw[Bt hm]at hb;exact⟨hb,hone b x hb⟩
  ·rw[Bq hm]at hb;cases hb
 ·rcases Decidable.em (k∈A5 bg bf bc bs)with hm|hm
  ·exact hm
  ·exact absurd (Bq hm) hk
end Go.Av
end
section
namespace Go.Av
open Go.Proofs Go.Lam
theorem O7 (n:Int) (es:List RE) (hb:LbE es):Aj Tryz.prog 13 [.int .i64 n,A3 es] Aa.emp fun v m=>v=.tup [.sl 1 (Al (D1 n es)),Bw n es]∧m=Aa.emp:=by
 have hc:=Og n es hb;refine Ae Tryz.func13 rfl rfl 24 rfl (Nat.le_of_ble_eq_true rfl) ?_;unfold A3 at hc ⊢;(repeat refine AW.seq_k fun K hK=>?_);refine AW.rg ?_;simp[Ak];try (refine hK _ rfl ?_;clear hK K)
 (repeat refine AW.seq_k fun K hK=>?_);refine AW.rg ?_;simp;try (refine hK _ rfl ?_;clear hK K)
 refine Ac.val hc ?_;by_cases hk:C2 n es=true;rotate_left
 ·have e1:Bw n es=.int .i64 1:=by unfold Bw;rw[if_neg hk]
  have e2:D1 n es=[]:=by unfold D1;rw[if_neg hk]
  simp[e1];try (refine hK _ rfl ?_;clear hK K)
  (repeat refine AW.seq_k fun K hK=>?_);refine AW.rg ?_;simp;try (refine hK _ rfl ?_;clear hK K)
  refine AW.yes ?_ rfl;(repeat refine AW.seq_k fun K hK=>?_);refine AW.rg ?_;simp;try (refine hK _ rfl ?_;clear hK K)
  exact AW.ret (Ag [.sl 1 (Al []),.int .i64 1] rfl ⟨.nilsl 1,.same _,trivial⟩ ⟨by rw[e2,e1];rfl,rfl⟩)
 have e1:Bw n es=.int .i64 0:=by unfold Bw;rw[if_pos hk]
 have e2:D1 n es=Bl n.toNat (Ad es) [] (List.range es.length):=by unfold D1;rw[if_pos hk]
 obtain⟨⟨h1,h2,h3⟩,_⟩:=Df hk;have hok:=Hs hk;obtain⟨N,rfl⟩:=Int.eq_ofNat_of_zero_le (show 0≤n by omega);simp only[Int.toNat_natCast]at hok e2;have hall:=Uf es h3;have hpl:=Ok N es (by omega) hok (List.range es.length) (by simp) (by simp;omega);unfold A3 at hall hpl;simp[e1];try (refine hK _ rfl ?_;clear hK K)
 (repeat refine AW.seq_k fun K hK=>?_);refine AW.rg ?_;simp;try (refine hK _ rfl ?_;clear hK K)
 refine AW.no ?_ rfl;refine AW.skip ?_;try simp
 try (refine hK _ rfl ?_;clear hK K)
 (repeat refine AW.seq_k fun K hK=>?_);refine AW.rg ?_;simp;try (refine hK _ rfl ?_;clear hK K)
 refine Ac.val hall ?_;simp;refine Ac.news hpl ?_;rintro _ g ⟨bg,bf,bc,fl,bs,cl,rfl,hG⟩ _;simp;try (refine hK _ rfl ?_;clear hK K)
 (repeat refine AW.seq_k fun K hK=>?_);refine AW.rg ?_;simp;try (refine hK _ rfl ?_;clear hK K)
 exact AW.ret (Ag [.sl 1 (Al (Bl N (Ad es) [] (List.range es.length))),.int .i64 0] rfl ⟨.same _,.same _,trivial⟩ ⟨by rw[e2,e1];rfl,rfl⟩)
theorem Tc (n:Int) (es:List RE) (hb:LbE es):Aj Tryz.prog 15 [.int .i64 n,A3 es] Aa.emp fun v m=>v=.tup [Sj n es,Bw n es]∧m=Aa.emp:=by
 have hc:=O7 n es hb;refine Ae Tryz.func15 rfl rfl 27 rfl (Nat.le_of_ble_eq_true rfl) ?_;unfold A3 at hc ⊢;(repeat refine AW.seq_k fun K hK=>?_);refine AW.rg ?_;simp[Ak];try (refine hK _ rfl ?_;clear hK K)
 (repeat refine AW.seq_k fun K hK=>?_);refine AW.rg ?_;simp;try (refine hK _ rfl ?_;clear hK K)
 refine Ac.val hc ?_;by_cases hk:C2 n es=true;rotate_left
 ·have e1:Bw n es=.int .i64 1:=by unfold Bw;rw[if_neg hk]
  have e2:Sj n es=.int .i64 0:=by unfold Sj;rw[if_neg hk]
  simp[e1];try (refine hK _ rfl ?_;clear hK K)
  (repeat refine AW.seq_k fun K hK=>?_);refine AW.rg ?_;simp;try (refine hK _ rfl ?_;clear hK K)
  refine AW.yes ?_ rfl;(repeat refine AW.seq_k fun K hK=>?_);refine AW.rg ?_;simp;try (refine hK _ rfl ?_;clear hK K)
  exact AW.ret (Ag [.int .i64 0,.int .i64 1] rfl ⟨.same _,.same _,trivial⟩ ⟨by rw[e2,e1];rfl,rfl⟩)
 have e1:Bw n es=.int .i64 0:=by unfold Bw;rw[if_pos hk]
 have hle:=Na hk;obtain⟨⟨h1,h2,h3⟩,_⟩:=Df hk;have e2:Sj n es=.int .i64 (if n=1 then 0 else 2*n-3-((D1 n es).length:Int)):=by unfold Sj;rw[if_pos hk]
 generalize D1 n es=O at *;simp[e1];try (refine hK _ rfl ?_;clear hK K)
 by_cases hn:n=1
 ·(repeat refine AW.seq_k fun K hK=>?_);refine AW.rg ?_;simp[hn];try (refine hK _ rfl ?_;clear hK K)
  refine AW.yes ?_ rfl;(repeat refine AW.seq_k fun K hK=>?_);refine AW.rg ?_;simp;try (refine hK _ rfl ?_;clear hK K)
  exact AW.ret (Ag [.int .i64 0,.int .i64 0] rfl ⟨.same _,.same _,trivial⟩ ⟨by rw[e2,e1,if_pos hn];rfl,rfl⟩)
 rw[if_neg hn]at e2;(repeat refine AW.seq_k fun K hK=>?_);refine AW.rg ?_;simp[hn];try (refine hK _ rfl ?_;clear hK K)
 refine AW.no ?_ rfl;refine AW.skip ?_;try simp
 try (refine hK _ rfl ?_;clear hK K)
 have w1:IntKind.i64.wrap (2*n)=2*n:=Md (by omega);have w2:IntKind.i64.wrap (2*n-3)=2*n-3:=Md (by omega);have w3:IntKind.i64.wrap (2*n-3-(O.length:Int))=2*n-3-(O.length:Int):=Md (by omega);(repeat refine AW.seq_k fun K hK=>?_);refine AW.rg ?_;simp[w1,w2,w3];try (refine hK _ rfl ?_;clear hK K)
 exact AW.ret (Ag [.int .i64 (2*n-3-(O.length:Int)),.int .i64 0] rfl ⟨.same _,.same _,trivial⟩ ⟨by rw[e2,e1];rfl,rfl⟩)
end Go.Av
end
section
namespace Go.Av
section
variable {P:Program}
def isZ (o:Oper):Bool:=match o.op with
 |.call c=>match c.callee with | .builtin .append=>true | _=>false
 |_=>false
def Qt4 (P:Program) (o:Oper) (s:St) (k:AV→Aa→Prop):Prop:=match o.op with
 |.call c=>match c.callee with
  |.builtin .append=>∃x y t ti e te,c.args.toList=[x,y]∧c.argTypes.toList=[t,t]∧Ai P t=some ti∧ti.cls=.slice e∧Ai P e=some te∧0<te.size ∧
    (s.ev x=.nil∨s.ev x=.zc)∧Fq s.m te.size (s.ev y)=some []∧k .zc s.m
  |_=>False
 |_=>False
def Yd (P:Program) (cf:Dm) (o:Oper) (K:St→Prop) (s:St):Prop:=if isZ o=true then Qt4 P o s fun v m'=>K ({s with m:=m'}.put o.dst v) else Eg P cf o K s
def Qcv (P:Program) (cf:Dm):List Oper→(St→Prop)→St→Prop
 |[],K,s=>K s
 |o::rest,K,s=>o.guard=none∧Yd P cf o (Qcv P cf rest K) s
@[simp] theorem Qsp (cf:Dm) (K:St→Prop) (s:St):Qcv P cf [] K s=K s:=(rfl)
@[simp] theorem Qo6 (cf:Dm) (d:Option Tmp) (op:Op) (t:TypeId) (p:String) (a:Array Edge) (l:List Oper) (K:St→Prop) (s:St) :
  Qcv P cf ({dst:=d,op:=op,type:=t,pos:=p,after:=a,guard:=none}::l) K s↔Yd P cf {dst:=d,op:=op,type:=t,pos:=p,after:=a,guard:=none} (Qcv P cf l K) s:=by
 show(_∧_)↔_
 simp
@[simp] theorem Qrg (cf:Dm) (K:St→Prop) (s:St) (d:Option Tmp) (x:Operand) (ty:TypeId) (p:String) (a:Array Edge) (g:Option (Nat × Bool)):Yd P cf ⟨d,.move x,ty,p,a,g⟩ K s=Eg P cf ⟨d,.move x,ty,p,a,g⟩ K s:=(rfl)
@[simp] theorem Qnb (cf:Dm) (K:St→Prop) (s:St) (d:Option Tmp) (x:Operand) (ty:TypeId) (p:String) (a:Array Edge) (g:Option (Nat × Bool)):Yd P cf ⟨d,.assign x,ty,p,a,g⟩ K s=Eg P cf ⟨d,.assign x,ty,p,a,g⟩ K s:=(rfl)
@[simp] theorem Qp8 (cf:Dm) (K:St→Prop) (s:St) (d:Option Tmp) (t:TypeId) (x:Operand) (lo hi mx:Option Operand) (ty:TypeId) (p:String) (a:Array Edge) (g:Option (Nat × Bool)):Yd P cf ⟨d,.slice t x lo hi mx,ty,p,a,g⟩ K s=Eg P cf ⟨d,.slice t x lo hi mx,ty,p,a,g⟩ K s:=(rfl)
@[simp] theorem Qnr (cf:Dm) (K:St→Prop) (s:St) (d:Option Tmp) (o:BinOp) (t t':TypeId) (x y:Operand) (ty:TypeId) (p:String) (a:Array Edge) (g:Option (Nat × Bool)):Yd P cf ⟨d,.binOp o t x y t',ty,p,a,g⟩ K s=Eg P cf ⟨d,.binOp o t x y t',ty,p,a,g⟩ K s:=(rfl)
def emK (x:Option (List AV)) (k:Prop):Prop:=x=some []∧k
@[simp] theorem Qwi (k:Prop):emK (some []) k↔k:=by simp[emK]
@[congr] theorem Qsl {x y:Option (List AV)} {k:Prop} (h:x=y):emK x k=emK y k:=by rw[h]
def zK (x:AV) (k:Prop):Prop:=(x=.nil∨x=.zc)∧k
@[simp] theorem Qwo (k:Prop):zK .nil k↔k:=by simp[zK]
@[simp] theorem Qxh (k:Prop):zK .zc k↔k:=by simp[zK]
@[congr] theorem Qvr {x y:AV} {k:Prop} (h:x=y):zK x k=zK y k:=by rw[h]
@[simp] theorem Qlw (cf:Dm) (K:St→Prop) (s:St) (d:Option Tmp) (x y:Operand) (t ty:TypeId) (p:String) (a:Array Edge) (g:Option (Nat × Bool)):Yd P cf ⟨d,.call ⟨.builtin .append,#[x,y],#[t,t]⟩,ty,p,a,g⟩ K s↔S3 (Ai P t) fun ti=>eK (Ou ti.cls) fun e=>S3 (Ai P e) fun te=>0<te.size∧zK (s.ev x) (emK (Fq s.m te.size (s.ev y)) (Ij K s d .zc s.m)):=by
 unfold Yd Qt4 S3 eK zK emK;simp only[isZ,if_true];constructor
 ·rintro⟨x',y',t',ti,e,te,h1,h2,q1,q2,q3,q4,q5,q6,q7⟩;simp only[List.cons.injEq,and_true]at h1 h2;obtain⟨rfl,rfl⟩:=h1;obtain⟨rfl,_⟩:=h2;exact⟨ti,q1,e,C6.2 q2,te,q3,q4,q5,q6,q7⟩
 ·rintro⟨ti,q1,e,q2,te,q3,q4,q5,q6,q7⟩;exact⟨x,y,t,ti,e,te,rfl,rfl,q1,C6.1 q2,q3,q4,q5,q6,q7⟩
end
end Go.Av
end
section
namespace Go.Av
open Go.Proofs Go.Lam
def Lm (o:Option Nat) (l:List Nat):AV:=match o with
 |none=>.nil
 |some b=>.osl b 1 0 l.length
def S4 (o:Option Nat) (l:List Nat) (m:Aa):Aa:=match o with
 |none=>m
 |some b=>m.set b ⟨3,1,Al l⟩
theorem Qh8 {o:Option Nat} {l:List Nat} {m:Aa} (h:∀c y,m c=some y→∀v∈y.l,v.cells.all AV.one=true):∀c y,S4 o l m c=some y→∀v∈y.l,v.cells.all AV.one=true:=by
 intro c y hy;cases o with
 |none=>exact h c y hy
 |some b =>
  unfold S4 at hy;simp only[A1]at hy;split at hy
  ·cases hy;exact Ce _
  ·exact h c y hy
theorem Qc9 {b:Nat} {m:Aa} (h:m b=none):m.del b=m:=by
 funext c
 unfold Aa.del;by_cases hc:c=b
 ·rw[if_pos hc,hc,h]
 ·rw[if_neg hc]
theorem Ac.look {P:Program} {av:Nat→Prop} {f:FuncId} {args:List AV} {m:Aa} {k:AV→Aa→Prop} {v:AV} (args':List AV) (hv:Dp m Aa.emp args args') (h:Aj P f args' Aa.emp fun v' m'=>v'=v∧m'=Aa.emp) (hf:v.flat=true) (hk:k v m):Ac P av f args m k :=
 .inr ⟨args',_,Ct hv,h,fun v' _ hr=>by rw[hr.1];exact⟨hf,hk⟩⟩
theorem Qhl:∀c y,Aa.emp c=some y→∀v∈y.l,v.cells.all AV.one=true:=by intro c y hy;cases hy
theorem Ra {o:Option Nat} {l:List Nat} {M M':Aa} (h0:o=none→l=[]) (h1:∀b,o=some b→M b=some ⟨3,1,Al l⟩∧M' b=none):Bv M M' (Lm o l) (.sl 1 (Al l)):=by
 cases o with
 |none=>rw[h0 rfl];exact .nilsl 1
 |some b =>
  obtain⟨h2,h3⟩:=h1 b rfl;exact Mw.view (ob:=[b]) (ty:=3) (.inr ⟨b,rfl,by unfold Lm;rw[Jw],h2⟩) (by simpa using h3)
def Xl (e:Nat) (l:List Nat):List Nat:=l.filter fun k=>decide (k<e)
def Qha (n:Int) (es:List RE) (e:Nat):List Nat:=Xl e (D1 n es)
def Uy (n:Nat) (es:List RE) (B:List Nat) (e k:Nat):Bool:=He n ((B.eraseIdx k++[e]).map (Ad es))
def Gl (n:Nat) (es:List RE) (B:List Nat) (e i:Nat):List Nat:=((List.range i).filter (Uy n es B e)).map fun k=>B.getD k 0
def Qm7 (n:Int) (es:List RE) (e:Nat):List Nat:=Gl n.toNat es (Qha n es e) e (Qha n es e).length++[e]
def Hv (n:Int) (es:List RE) (e:Int):Int:=if C2 n es=true then (if e<0∨(es.length:Int)≤e then 1 else if e.toNat∈D1 n es then 7 else 0) else 1
def J0 (n:Int) (es:List RE) (e:Int):AV:=.tup [.sl 1 (Al (if Hv n es e=0 then Qm7 n es e.toNat else [])),.int .i64 (Hv n es e)]
theorem Zs (n:Nat) (es:List RE) (B:List Nat) (e i:Nat) (hi:i<B.length):Gl n es B e (i+1)=Gl n es B e i++(if Uy n es B e i=true then [B[i]] else []):=by
 unfold Gl;rw[List.range_succ,List.filter_append,List.map_append];cases h:Uy n es B e i<;>simp[h,hi]
theorem Uw (n:Nat) (es:List RE) (B:List Nat) (e i:Nat):(Gl n es B e i).length≤i:=by
 unfold Gl;have:=List.length_filter_le (Uy n es B e) (List.range i);simp at this ⊢;omega
theorem Ql {n:Int} {es:List RE} {k:Nat} (h:k∈D1 n es):k<es.length:=by
 unfold D1 at h;split at h
 ·exact Ug h
 ·cases h
theorem Qc7 (O:List Nat) (e i:Nat) (hi:i<O.length):Xl e (O.take (i+1))=Xl e (O.take i)++(if O[i]<e then [O[i]] else []):=by
 unfold Xl;rw[List.take_add_one,List.filter_append,List.getElem?_eq_getElem hi];by_cases h:O[i]<e<;>simp[h]
theorem Qfw (O:List Nat) (e i:Nat):(Xl e (O.take i)).length≤O.length:=by
 unfold Xl;have h1:=List.length_filter_le (fun k=>decide (k<e)) (O.take i);have h2:(O.take i).length≤O.length:=by simp;omega
 omega
theorem Qes {n:Int} {es:List RE} {e:Int} (h:¬C2 n es=true):Hv n es e=1:=by unfold Hv;rw[if_neg h]
theorem Qdv {n:Int} {es:List RE} {e:Int} (h:C2 n es=true) (he:e<0∨(es.length:Int)≤e):Hv n es e=1:=by unfold Hv;rw[if_pos h,if_pos he]
theorem Qgb {n:Int} {es:List RE} {e:Nat} (h:C2 n es=true) (he:e<es.length) (hi:e∈D1 n es):Hv n es (e:Nat)=7:=by
 unfold Hv;rw[if_pos h,if_neg (by omega),if_pos (by simpa using hi)]
theorem Qf4 {n:Int} {es:List RE} {e:Nat} (h:C2 n es=true) (he:e<es.length) (hi:e ∉ D1 n es):Hv n es (e:Nat)=0:=by
 unfold Hv;rw[if_pos h,if_neg (by omega),if_neg (by simpa using hi)]
theorem Qb7 {n:Int} {es:List RE} {e:Int} (h:Hv n es e=1):J0 n es e=.tup [.sl 1 (Al []),.int .i64 1]:=by unfold J0;rw[h,if_neg (by decide)]
theorem Qkd {n:Int} {es:List RE} {e:Int} (h:Hv n es e=7):J0 n es e=.tup [.sl 1 (Al []),.int .i64 7]:=by unfold J0;rw[h,if_neg (by decide)]
theorem Qji {n:Int} {es:List RE} {e:Nat} (h:Hv n es (e:Nat)=0):J0 n es (e:Nat)=.tup [.sl 1 (Al (Gl n.toNat es (Qha n es e) e (Qha n es e).length++[e])),.int .i64 0]:=by unfold J0 Qm7;rw[h,if_pos rfl];simp
end Go.Av
end
section
namespace Go.Av
open Go.Proofs Go.Lam
theorem Q6 {m:Aa} {b:Nat} {x:Ep} (h:m b=some x):m.only [b]=Aa.emp.set b x:=by
 funext c
 by_cases hc:c=b
 ·subst hc;rw[Bt (by simp),h];simp
 ·rw[Bq (by simpa using hc)];simp[Aa.set,hc,Aa.emp]
theorem Wj {m:Aa} {b:Nat} {y:Ep}:m.back [b] (Aa.emp.set b y)=m.set b y:=by
 funext c
 unfold Aa.back;by_cases hc:c=b
 ·subst hc;simp
 ·simp[Aa.set,hc,Aa.emp]
theorem Z4 (n:Int) (es:List RE) (e:Int) (hb:LbE es):Aj Tryz.prog 20 [.int .i64 n,A3 es,.int .i64 e] Aa.emp fun v m=>v=J0 n es e∧m=Aa.emp:=by
 have hc:=O7 n es hb;refine Ae Tryz.func20 rfl rfl 90 rfl (Nat.le_of_ble_eq_true rfl) ?_;unfold A3 at hc ⊢;(repeat refine AW.seq_k fun K hK=>?_);refine AW.rg ?_;simp[Ak];try (refine hK _ rfl ?_;clear hK K)
 (repeat refine AW.seq_k fun K hK=>?_);refine AW.rg ?_;simp;try (refine hK _ rfl ?_;clear hK K)
 refine Ac.val hc ?_;by_cases hk:C2 n es=true;rotate_left
 ·have e1:Bw n es=.int .i64 1:=by unfold Bw;rw[if_neg hk]
  simp[e1];try (refine hK _ rfl ?_;clear hK K)
  (repeat refine AW.seq_k fun K hK=>?_);refine AW.rg ?_;simp;try (refine hK _ rfl ?_;clear hK K)
  refine AW.yes ?_ rfl;(repeat refine AW.seq_k fun K hK=>?_);refine AW.rg ?_;simp;try (refine hK _ rfl ?_;clear hK K)
  exact AW.ret (Ag [.sl 1 (Al []),.int .i64 1] rfl ⟨.nilsl 1,.same _,trivial⟩ ⟨by rw[Qb7 (Qes hk)];rfl,rfl⟩)
 have e1:Bw n es=.int .i64 0:=by unfold Bw;rw[if_pos hk]
 obtain⟨⟨h1,h2,h3⟩,_⟩:=Df hk;have hok:=Hs hk;have hle:=Na hk;have hlt:=fun k=>Ql (n:=n) (es:=es) (k:=k);have hCi:=fun e=>Qgb (n:=n) (es:=es) (e:=e) hk;have hCo:=fun e=>Qf4 (n:=n) (es:=es) (e:=e) hk;have hR:=fun e=>Qji (n:=n) (es:=es) (e:=e);unfold Qha at hR;generalize D1 n es=O at *;obtain⟨N,rfl⟩:=Int.eq_ofNat_of_zero_le (show 0≤n by omega);simp only[Int.toNat_natCast]at hok hR;simp[e1];try (refine hK _ rfl ?_;clear hK K)
 (repeat refine AW.seq_k fun K hK=>?_);refine AW.rg ?_;simp;try (refine hK _ rfl ?_;clear hK K)
 refine AW.no ?_ rfl;refine AW.skip ?_;try simp
 try (refine hK _ rfl ?_;clear hK K)
 by_cases ho:e<0∨(es.length:Int)≤e
 ·have hz:J0 (N:Nat) es e=.tup [.sl 1 (Al []),.int .i64 1]:=Qb7 (Qdv hk ho);rcases ho with ho | ho
  ·(repeat refine AW.seq_k fun K hK=>?_);refine AW.rg ?_;simp[ho];try (refine hK _ rfl ?_;clear hK K)
   refine AW.yes ?_ rfl;(repeat refine AW.seq_k fun K hK=>?_);refine AW.rg ?_;simp;try (refine hK _ rfl ?_;clear hK K)
   exact AW.ret (Ag [.sl 1 (Al []),.int .i64 1] rfl ⟨.nilsl 1,.same _,trivial⟩ ⟨by rw[hz];rfl,rfl⟩)
  ·have hn:¬e<0:=by omega
   (repeat refine AW.seq_k fun K hK=>?_);refine AW.rg ?_;simp[ho,hn];try (refine hK _ rfl ?_;clear hK K)
   refine AW.yes ?_ rfl;(repeat refine AW.seq_k fun K hK=>?_);refine AW.rg ?_;simp;try (refine hK _ rfl ?_;clear hK K)
   exact AW.ret (Ag [.sl 1 (Al []),.int .i64 1] rfl ⟨.nilsl 1,.same _,trivial⟩ ⟨by rw[hz];rfl,rfl⟩)
 obtain⟨E,rfl⟩:=Int.eq_ofNat_of_zero_le (show 0≤e by omega);have hE:E<es.length:=by omega
 clear ho;have hn1:¬(E:Int)<0:=by omega
 have hn2:¬es.length≤E:=by omega
 (repeat refine AW.seq_k fun K hK=>?_);refine AW.rg ?_;simp[hn1,hn2];try (refine hK _ rfl ?_;clear hK K)
 refine AW.no ?_ rfl;refine AW.skip ?_;try simp
 try (refine hK _ rfl ?_;clear hK K)
 have hct:=Su O E (by omega);(repeat refine AW.seq_k fun K hK=>?_);refine AW.rg ?_;simp;try (refine hK _ rfl ?_;clear hK K)
 refine Ac.val hct ?_;by_cases hin:E∈O
 ·have hz:J0 (N:Nat) es (E:Nat)=.tup [.sl 1 (Al []),.int .i64 7]:=Qkd (hCi E hE hin);simp[hin];try (refine hK _ rfl ?_;clear hK K)
  refine AW.yes ?_ rfl;(repeat refine AW.seq_k fun K hK=>?_);refine AW.rg ?_;simp;try (refine hK _ rfl ?_;clear hK K)
  exact AW.ret (Ag [.sl 1 (Al []),.int .i64 7] rfl ⟨.nilsl 1,.same _,trivial⟩ ⟨by rw[hz];rfl,rfl⟩)
 simp[hin];try (refine hK _ rfl ?_;clear hK K)
 refine AW.no ?_ rfl;refine AW.skip ?_;try simp
 try (refine hK _ rfl ?_;clear hK K)
 have hR0:=hR E (hCo E hE hin);(repeat refine AW.seq_k fun K hK=>?_);refine AW.rg ?_;simp;try (refine hK _ rfl ?_;clear hK K)
 refine AW.seq_ex (ι:=Option Nat) (fun o=>[(0,.int .i64 (N:Nat)),(1,.sl 6 (D0 es)),(2,.int .i64 (E:Nat)),(10,Lm o (Xl E O)),(11,.nil)]) (fun o=>S4 o (Xl E O) Aa.emp)
  (fun o=>o=none→Xl E O=[]) ?_ ?_
 ·(repeat refine AW.seq_k fun K hK=>?_);refine AW.rg ?_;simp;try (refine hK _ rfl ?_;clear hK K)
  refine AW.block (AW.loopS (ι:=Option Nat × Nat) (fun z=>[(0,.int .i64 (N:Nat)),(1,.sl 6 (D0 es)),(2,.int .i64 (E:Nat)),(39,.sl 1 (Al O)),(40,.int .i64 (O.length:Nat)),(41,.int .i64 (z.2:Nat)),(10,Lm z.1 (Xl E (O.take z.2))),(11,.nil)]) (fun z=>S4 z.1 (Xl E (O.take z.2)) Aa.emp)
   (fun z=>z.2≤O.length∧(z.1=none→Xl E (O.take z.2)=[])) (fun z=>O.length-z.2) (none,0) ⟨by simp,by simp[Xl]⟩ rfl (by simp[Lm]) ?_)
  rintro⟨o,i⟩ ⟨g1,g0⟩;simp only at g1 g0;(repeat refine AW.seq_k fun K hK=>?_);refine AW.rg ?_;simp;try (refine hK _ rfl ?_;clear hK K)
  (repeat refine AW.seq ?_);refine AW.cs (fun hi=>?_) (fun hi=>?_) rfl<;>(try simp at hi)
  ·refine AW.skip ?_;try simp
   try (refine hK _ rfl ?_;clear hK K)
   have w1:=Aq (i+1) (by omega);have hft:=Qc7 O E i hi;have hfl:=Qfw O E i;generalize Xl E (O.take i)=F at *;(repeat refine AW.seq ?_);refine AW.block ?_;(repeat refine AW.seq_k fun K hK=>?_);refine AW.rg ?_;simp[hi];try (refine hK _ rfl ?_;clear hK K)
   (repeat refine AW.seq_k fun K hK=>?_);refine AW.rg ?_;simp;try (refine hK _ rfl ?_;clear hK K)
   (repeat refine AW.seq ?_);refine AW.cs (fun hx=>?_) (fun hx=>?_) rfl<;>(try simp at hx)
   ·rw[if_pos hx]at hft;cases o with
    |none =>
     have hF:=g0 rfl;subst hF;simp only[Lm,S4];(repeat refine AW.seq_k fun K hK=>?_);refine AW.rgR [50] ?_;simp[hi];try (refine hK _ rfl ?_;clear hK K)
     refine⟨by unfold maxLen;omega,Ah.intro fun b24 _=>?_⟩;(repeat refine AW.seq_k fun K hK=>?_);refine AW.rg ?_;simp[-Int.natCast_add,w1];try (refine hK _ rfl ?_;clear hK K)
     exact⟨some b24,i+1,⟨by omega,by simp⟩,by omega,by rw[hft];rfl,by rw[hft];exact⟨rfl,rfl⟩⟩
    |some b0 =>
     simp only[Lm,S4];(repeat refine AW.seq_k fun K hK=>?_);refine AW.rgR [50] ?_;simp[hi];try (refine hK _ rfl ?_;clear hK K)
     refine⟨by omega,by unfold maxLen;omega,Ah.intro fun b24 _=>?_⟩;(repeat refine AW.seq_k fun K hK=>?_);refine AW.rg ?_;simp[-Int.natCast_add,w1];try (refine hK _ rfl ?_;clear hK K)
     exact⟨some b24,i+1,⟨by omega,by simp⟩,by omega,by rw[hft,←Cv],by rw[hft];simp[Lm]⟩
   ·rw[if_neg (Nat.not_lt.2 hx),List.append_nil]at hft;refine AW.skip ?_;try simp
    try (refine hK _ rfl ?_;clear hK K)
    (repeat refine AW.seq_k fun K hK=>?_);refine AW.rg ?_;simp[-Int.natCast_add,w1];try (refine hK _ rfl ?_;clear hK K)
    exact⟨o,i+1,⟨by omega,by rw[hft];exact g0⟩,by omega,by rw[hft],by rw[hft];exact⟨rfl,rfl⟩⟩
  ·refine AW.exit ?_;try simp
   rw[show i=O.length by omega,List.take_length]at g0 ⊢;exact⟨o,g0,rfl,rfl⟩
 rintro o ho;have hBl:(Xl E O).length≤40:=Nat.le_trans (List.length_filter_le _ _) hle;have hBm:∀k∈Xl E O,k<es.length:=fun k hk=>hlt k (List.mem_filter.1 hk).1;generalize Xl E O=B at *;clear hR hCi hCo hlt hle hin hc hct O;refine AW.toEmp [(0,.int .i64 (N:Nat)),(1,.sl 6 (D0 es)),(2,.int .i64 (E:Nat)),(10,.sl 1 (Al B)),(11,.nil)] (by simp;exact Ra ho fun b h=>by rw[h];exact⟨Aa.set_same _ _ _,rfl⟩) ?_;refine AW.seq_ex (ι:=Option Nat) (fun o=>[(2,.int .i64 (E:Nat)),(11,Lm o (Gl N es B E B.length))]) (fun o=>S4 o (Gl N es B E B.length) Aa.emp) (fun o=>o=none→Gl N es B E B.length=[]) ?_ ?_
 ·(repeat refine AW.seq_k fun K hK=>?_);refine AW.rg ?_;simp;try (refine hK _ rfl ?_;clear hK K)
  refine AW.block (AW.loopS (ι:=Option Nat × Nat) (fun z=>[(0,.int .i64 (N:Nat)),(1,.sl 6 (D0 es)),(2,.int .i64 (E:Nat)),(10,.sl 1 (Al B)),(11,Lm z.1 (Gl N es B E z.2)),(53,.sl 1 (Al B)),(54,.int .i64 (B.length:Nat)),(55,.int .i64 (z.2:Nat))]) (fun z=>S4 z.1 (Gl N es B E z.2) Aa.emp)
   (fun z=>z.2≤B.length∧(z.1=none→Gl N es B E z.2=[])) (fun z=>B.length-z.2) (none,0) ⟨by simp,by simp[Gl]⟩ rfl (by simp[Lm]) ?_)
  rintro⟨o,i⟩ ⟨g1,g2⟩;simp only at g1 g2;(repeat refine AW.seq_k fun K hK=>?_);refine AW.rg ?_;simp;try (refine hK _ rfl ?_;clear hK K)
  (repeat refine AW.seq ?_);refine AW.cs (fun hi=>?_) (fun hi=>?_) rfl<;>(try simp at hi)
  ·refine AW.skip ?_;try simp
   try (refine hK _ rfl ?_;clear hK K)
   have w1:=Aq (i+1) (by omega);have hsc:=Zs N es B E i hi;have hcl:=Uw N es B E i;have hB0:B≠[]:=by rintro rfl;simp at hi
   have hcn:=W0 B (by omega) hB0;have hmem:∀k∈B.eraseIdx i++[E],k<es.length:=(fun k hk=>by
    rcases List.mem_append.1 hk with h|h
    ·exact hBm k (List.mem_of_mem_eraseIdx h)
    ·simp at h;omega)
   have hel:(B.eraseIdx i).length=B.length-1:=by rw[List.length_eraseIdx,if_pos hi]
   have hpl:=Ok N es (by omega) hok (B.eraseIdx i++[E]) hmem (by simp[hel];omega);have hfull:=Xo (n:=N) (E:=Ad es) (s:=B.eraseIdx i++[E]) (fun k hk=>hok.at hmem k hk);have hgl:(Bl N (Ad es) [] (B.eraseIdx i++[E])).length≤40:=by
    have:=F3 (n:=N) (E:=Ad es) (B.eraseIdx i++[E]) [];simp[hel]at this;omega
   have hde:=fun b=>Mx b B i hi (by omega);obtain⟨cb,hcb⟩:∃c,Uy N es B E i=c:=⟨_,rfl⟩;rw[hcb]at hsc;unfold Uy at hcb;generalize Gl N es B E i=L at *;(repeat refine AW.seq ?_);refine AW.block ?_;(repeat refine AW.seq_k fun K hK=>?_);refine AW.rg ?_;simp[hi];try (refine hK _ rfl ?_;clear hK K)
   obtain⟨M,hM⟩:∃M,S4 o L Aa.emp=M:=⟨_,rfl⟩;rw[hM];refine AW.seq_ex (ι:=Nat) (fun b=>[(0,.int .i64 (N:Nat)),(1,.sl 6 (D0 es)),(2,.int .i64 (E:Nat)),(10,.sl 1 (Al B)),(11,Lm o L),(53,.sl 1 (Al B)),(54,.int .i64 (B.length:Nat)),(55,.int .i64 (i:Nat)),(15,.int .i64 (B[i]:Nat)),(16,.osl b 1 0 (B.length-1))]) (fun b=>M.set b ⟨3,1,Al (B.eraseIdx i)⟩) (fun b=>M b=none) ?_ ?_
   ·(repeat refine AW.seq_k fun K hK=>?_);refine AW.rg ?_;simp[w1];try (refine hK _ rfl ?_;clear hK K)
    refine Ac.news hcn ?_;rintro _ g ⟨b,rfl,rfl⟩ hnew;have hMb:M b=none:=(hnew b (by simp)).1;have e2:M.back [] (Aa.emp.set b ⟨3,1,Al B⟩)=M.set b ⟨3,1,Al B⟩:=by
     funext c
     unfold Aa.back;by_cases hc:c=b
     ·subst hc;simp
     ·simp[Aa.set,hc,Aa.emp]
    rw[e2];simp[-Int.natCast_add,w1];refine Ac.hand (R:=fun v m=>v=.osl b 1 0 (B.length-1)∧m=Aa.emp.set b ⟨3,1,Al (B.eraseIdx i)⟩) [b] (fun _ _ h=>h) (by rw[Q6 (Aa.set_same _ _ _)];exact hde b) ?_;rintro _ g ⟨rfl,rfl⟩ _;rw[Wj];simp[-Int.natCast_add];exact hMb
   rintro b hMb;refine AW.seq_ex (ι:=Aa) (fun _=>[(0,.int .i64 (N:Nat)),(1,.sl 6 (D0 es)),(2,.int .i64 (E:Nat)),(10,.sl 1 (Al B)),(11,Lm o L),(53,.sl 1 (Al B)),(54,.int .i64 (B.length:Nat)),(55,.int .i64 (i:Nat)),(15,.int .i64 (B[i]:Nat)),(18,.sl 1 (Al (Bl N (Ad es) [] (B.eraseIdx i++[E]))))]) (fun M3=>M3) (fun M3=>∀c y,M c=some y→M3 c=some y) ?_ ?_
   ·(repeat refine AW.seq_k fun K hK=>?_);refine AW.rgR [71] ?_;simp[hel];try (refine hK _ rfl ?_;clear hK K)
    refine⟨by omega,by unfold maxLen;omega,?_⟩;rw[Qc9 hMb];refine Ah.intro fun b' hb'=>?_;rw[←Cv];refine Ac.hand (R:=Ql7 N es (Bl N (Ad es) [] (B.eraseIdx i++[E]))) [b'] (fun _ _ h=>h) (by
     rw[Q6 (Aa.set_same _ _ _)];exact hpl.view (Ct (l':=[.int .i64 (N:Nat),A3 es,.sl 1 (Al (B.eraseIdx i++[E]))]) ⟨.same _,.same _,Ig (by simp) (by simp[hel]),trivial⟩)) ?_
    rintro _ g ⟨bg,bf,bc,fl,bs,cl,rfl,hG⟩ hnew;simp;intro c y hy;have hcb:c≠b':=by rintro rfl;rw[hb']at hy;cases hy
    have hg:g c=none:=by
     cases h:g c with
     |none=>rfl
     |some x =>
      rcases hnew c (by rw[h];simp)with h'|h'
      ·exact absurd (by simpa using h') hcb
      ·rw[Aa.set_other _ _ hcb,hy]at h';simp at h'
    unfold Aa.back;rw[hg];simp only;rw[if_neg (by simpa using hcb),Aa.set_other _ _ hcb,hy]
   rintro M3 hM3;refine AW.turn [(0,.int .i64 (N:Nat)),(1,.sl 6 (D0 es)),(2,.int .i64 (E:Nat)),(10,.sl 1 (Al B)),(11,Lm o L),(53,.sl 1 (Al B)),(54,.int .i64 (B.length:Nat)),(55,.int .i64 (i:Nat)),(15,.int .i64 (B[i]:Nat)),(18,.sl 1 (Al (Bl N (Ad es) [] (B.eraseIdx i++[E]))))] M (Bo.sub fun c y hy=>⟨hM3 c y hy,(hM ▸ Qh8 Qhl) c y hy⟩) (by simp) ?_;generalize Bl N (Ad es) [] (B.eraseIdx i++[E])=G at *;rw[show(B.eraseIdx i++[E]).length=B.length by simp[hel];omega,hcb]at hfull;subst hM;cases cb with
   |false =>
    have hne:¬G.length=B.length:=fun h=>by have:=hfull.1 h;cases this
    simp at hsc;(repeat refine AW.seq_k fun K hK=>?_);refine AW.rg ?_;simp[hne];try (refine hK _ rfl ?_;clear hK K)
    refine AW.no ?_ rfl;refine AW.skip ?_;try simp
    try (refine hK _ rfl ?_;clear hK K)
    (repeat refine AW.seq_k fun K hK=>?_);refine AW.rg ?_;simp[-Int.natCast_add,w1];try (refine hK _ rfl ?_;clear hK K)
    exact⟨o,i+1,⟨by omega,by rw[hsc];exact g2⟩,by omega,by rw[hsc],by rw[hsc];exact⟨rfl,rfl⟩⟩
   |true =>
    have hne:=hfull.2 rfl;simp at hsc;(repeat refine AW.seq_k fun K hK=>?_);refine AW.rg ?_;simp[hne];try (refine hK _ rfl ?_;clear hK K)
    refine AW.yes ?_ rfl;cases o with
    |none =>
     have hL:=g2 rfl;subst hL;simp only[Lm,S4];(repeat refine AW.seq_k fun K hK=>?_);refine AW.rgR [83] ?_;simp;try (refine hK _ rfl ?_;clear hK K)
     refine⟨by unfold maxLen;omega,Ah.intro fun b6 _=>?_⟩;(repeat refine AW.seq_k fun K hK=>?_);refine AW.rg ?_;simp[-Int.natCast_add,w1];try (refine hK _ rfl ?_;clear hK K)
     exact⟨some b6,i+1,⟨by omega,by simp⟩,by omega,by rw[hsc];rfl,by rw[hsc];exact⟨rfl,rfl⟩⟩
    |some b0 =>
     simp only[Lm,S4];(repeat refine AW.seq_k fun K hK=>?_);refine AW.rgR [83] ?_;simp;try (refine hK _ rfl ?_;clear hK K)
     refine⟨by omega,by unfold maxLen;omega,Ah.intro fun b6 _=>?_⟩;(repeat refine AW.seq_k fun K hK=>?_);refine AW.rg ?_;simp[-Int.natCast_add,w1];try (refine hK _ rfl ?_;clear hK K)
     exact⟨some b6,i+1,⟨by omega,by simp⟩,by omega,by rw[hsc,←Cv],by rw[hsc];simp[Lm]⟩
  ·refine AW.exit ?_;try simp
   rw[show i=B.length by omega]at g2 ⊢;exact⟨o,g2,rfl,rfl⟩
 rintro o ho;have hcl:=Uw N es B E B.length;generalize Gl N es B E B.length=L at *;cases o with
 |none =>
  have hL:=ho rfl;subst hL;simp only[Lm,S4];(repeat refine AW.seq_k fun K hK=>?_);refine AW.rgR [88] ?_;simp;try (refine hK _ rfl ?_;clear hK K)
  refine⟨by unfold maxLen;omega,Ah.intro fun b6 _=>?_⟩;refine hK _ rfl ?_;clear hK K;exact AW.ret (Ag [.sl 1 (Al ([]++[E])),.int .i64 0] rfl ⟨Ig (by simp;rfl) (by simp),.same _,trivial⟩ ⟨hR0.symm,rfl⟩)
 |some b0 =>
  simp only[Lm,S4];(repeat refine AW.seq_k fun K hK=>?_);refine AW.rgR [88] ?_;simp;try (refine hK _ rfl ?_;clear hK K)
  refine⟨by omega,by unfold maxLen;omega,Ah.intro fun b6 _=>?_⟩;rw[←Cv];refine hK _ rfl ?_;clear hK K;exact AW.ret (Ag [.sl 1 (Al (L++[E])),.int .i64 0] rfl ⟨Ig (by simp) (by simp),.same _,trivial⟩ ⟨hR0.symm,rfl⟩)
end Go.Av
end
section
namespace Go.Av
open Go.Proofs Go.Lam
structure K7 (n bg bf bc:Nat) (es:List RE) (A l:List Nat) (z:PSt):Prop where
 game:Cw z.M n bg bf bc es z.fl z.bs z.cl
 inv:Inv n (Ad es) A (Dz z.fl) (Cx z.cl)
 lst:Mw z.M 3 1 z.ov z.ob (Al l)
 off:∀b∈z.ob,b ∉ A5 bg bf bc z.bs
 only:Ey z.M (z.ob++A5 bg bf bc z.bs)
theorem K7.ones {n bg bf bc:Nat} {es:List RE} {A l:List Nat} {z:PSt} (h:K7 n bg bf bc es A l z):∀c y,z.M c=some y→∀v∈y.l,v.cells.all AV.one=true:=by
 intro c y hy v hv;rcases List.mem_append.1 (h.only c (by rw[hy];simp))with hc | hc
 ·rcases h.lst with⟨_,h2,_⟩|⟨b,h2,_,h3⟩
  ·rw[h2]at hc;cases hc
  ·rw[h2,List.mem_singleton]at hc;rw[hc,h3]at hy;cases hy;exact Ce _ v hv
 ·rcases A8.1 hc with rfl|rfl|rfl|⟨i,hi⟩
  ·rw[h.game.g]at hy;cases hy;simp only[Cf,List.mem_singleton]at hv;subst hv;rfl
  ·rw[h.game.f]at hy;cases hy;exact Ce _ v hv
  ·rw[h.game.c]at hy;cases hy;exact Ia _ _ v hv
  ·rw[h.game.row i c hi]at hy;cases hy;exact Ce _ v hv
theorem K7.gam {n bg bf bc:Nat} {es:List RE} {A l:List Nat} {M:Aa} {fl:List Nat} {bs:List (Option Nat)} {cl:List (List Nat)} {ov:AV} {ob:List Nat} (h:K7 n bg bf bc es A l ⟨M,fl,bs,cl,ov,ob⟩):H1 n bg bf bc es A (M.only (A5 bg bf bc bs)) fl bs cl :=
 ⟨h.game.congr fun k hk=>Bt hk,fun k hk=>by
  rcases Decidable.em (k∈A5 bg bf bc bs)with hm|hm
  ·exact hm
  ·exact absurd (Bq hm) hk,h.inv⟩
theorem K7.back {n bg bf bc:Nat} {es:List RE} {A A' l:List Nat} {M g':Aa} {fl fl':List Nat} {bs bs':List (Option Nat)} {cl cl':List (List Nat)} {ov:AV} {ob:List Nat} (g2:K7 n bg bf bc es A l ⟨M,fl,bs,cl,ov,ob⟩)
  (hG':H1 n bg bf bc es A' g' fl' bs' cl') (hnew:∀b,g' b≠none→b∈A5 bg bf bc bs∨M b=none):K7 n bg bf bc es A' l ⟨M.back (A5 bg bf bc bs) g',fl',bs',cl',ov,ob⟩:=by
 have hobM:∀b∈ob,M b≠none:=fun b hb=>by
  rcases g2.lst with⟨_,h2,_⟩|⟨b',h2,_,h3⟩
  ·simp only at h2;rw[h2]at hb;cases hb
  ·simp only at h2 h3;rw[h2,List.mem_singleton]at hb;rw[hb,h3];simp
 have hobN:∀b∈ob,b ∉ A5 bg bf bc bs':=fun b hb hm=>by
  rcases hnew b (hG'.mem.dom hm)with h|h
  ·exact g2.off b hb h
  ·exact hobM b hb h
 have hM2:∀k∈A5 bg bf bc bs',M.back (A5 bg bf bc bs) g' k=g' k:=fun k hk=>by
  unfold Aa.back;cases h:g' k with
  |some x=>rfl
  |none=>exact absurd h (hG'.mem.dom hk)
 have hM2o:∀b∈ob,M.back (A5 bg bf bc bs) g' b=M b:=fun b hb=>by
  have h:g' b=none:=by
   cases h:g' b with
   |none=>rfl
   |some x=>exact absurd (hG'.only b (by rw[h];simp)) (hobN b hb)
  unfold Aa.back;rw[h];exact if_neg (g2.off b hb)
 refine⟨hG'.mem.congr hM2,hG'.inv,g2.lst.keep hM2o,hobN,fun k hk=>?_⟩;simp only at hk;unfold Aa.back at hk;cases h:g' k with
 |some x=>exact List.mem_append_right _ (hG'.only k (by rw[h];simp))
 |none =>
  rw[h]at hk;simp only at hk;by_cases hm:k∈A5 bg bf bc bs
  ·rw[if_pos hm]at hk;exact absurd rfl hk
  ·rw[if_neg hm]at hk;rcases List.mem_append.1 (g2.only k hk)with h' | h'
   ·exact List.mem_append_left _ h'
   ·exact absurd h' hm
theorem K7.push0 {n bg bf bc:Nat} {es:List RE} {A:List Nat} {M:Aa} {fl:List Nat} {bs:List (Option Nat)} {cl:List (List Nat)} {ov:AV} {b6 i:Nat} (h:K7 n bg bf bc es A [] ⟨M,fl,bs,cl,ov,[]⟩) (h6:M b6=none) :
  K7 n bg bf bc es A [i] ⟨M.set b6 ⟨3,1,Al [i]⟩,fl,bs,cl,.osl b6 1 0 1,[b6]⟩:=by
 have hb6:b6 ∉ A5 bg bf bc bs:=fun hm=>h.game.dom hm h6;refine⟨h.game.congr fun k hk=>Aa.set_other _ _ (fun e=>hb6 (e ▸ hk)),h.inv,.inr ⟨b6,rfl,rfl,Aa.set_same _ _ _⟩,fun b hb=>by rw[List.mem_singleton]at hb;rw[hb];exact hb6,fun k hk=>?_⟩;by_cases e:k=b6
 ·rw[e];simp
 ·simp only at hk;rw[Aa.set_other _ _ e]at hk;have:=h.only k hk;simp only[List.nil_append]at this;exact List.mem_append_right _ this
theorem K7.push1 {n bg bf bc:Nat} {es:List RE} {A l:List Nat} {M:Aa} {fl:List Nat} {bs:List (Option Nat)} {cl:List (List Nat)} {ov:AV} {b0 b6 i:Nat} (h:K7 n bg bf bc es A l ⟨M,fl,bs,cl,ov,[b0]⟩) (h6:M.del b0 b6=none) :
  K7 n bg bf bc es A (l++[i]) ⟨(M.del b0).set b6 ⟨3,1,Al l++[.int .i64 (i:Nat)]⟩,fl,bs,cl,.osl b6 1 0 (l.length+1),[b6]⟩:=by
 have hb0:b0 ∉ A5 bg bf bc bs:=h.off b0 (by simp);have hb6:b6 ∉ A5 bg bf bc bs:=fun hm=>by
  by_cases e:b6=b0
  ·exact hb0 (e ▸ hm)
  ·rw[Aa.del_other _ e]at h6;exact h.game.dom hm h6
 refine⟨h.game.congr fun k hk=>by simp only;rw[Aa.set_other _ _ (fun e=>hb6 (by rw[←e];exact hk)),Aa.del_other _ (fun e=>hb0 (by rw[←e];exact hk))],h.inv,.inr ⟨b6,rfl,by simp,by simp only;rw[Aa.set_same,Cv]⟩,fun b hb=>by rw[List.mem_singleton]at hb;rw[hb];exact hb6,fun k hk=>?_⟩;by_cases e:k=b6
 ·rw[e];simp
 ·simp only at hk;rw[Aa.set_other _ _ e]at hk;by_cases e':k=b0
  ·rw[e',Aa.del_same]at hk;exact absurd rfl hk
  ·rw[Aa.del_other _ e']at hk;have:=h.only k hk;simp only[List.singleton_append,List.mem_cons]at this;exact List.mem_append_right _ (this.resolve_left e')
def Qxb (n bg bf bc:Nat) (es:List RE) (A:List Nat) (e:Nat) (v:AV) (M':Aa):Prop :=
 v=.sl 1 (Al (Gk n (A.map (Ad es)) (Ad es e)))∧∃(fl:List Nat) (bs:List (Option Nat)) (cl:List (List Nat)),H1 n bg bf bc es A M' fl bs cl
def Xm (n:Nat) (L:List Ed) (e:Ed) (i:Nat):List Nat:=(List.range i).filter (Gn n L e)
theorem Qem (n:Nat) (L:List Ed) (e:Ed) (i:Nat):Xm n L e (i+1)=Xm n L e i++if Gn n L e i=true then [i] else []:=by
 unfold Xm;rw[List.range_succ,List.filter_append];cases h:Gn n L e i<;>simp[h]
theorem Qhi (n:Nat) (L:List Ed) (e:Ed) (i:Nat):(Xm n L e i).length≤i:=by
 have:=List.length_filter_le (Gn n L e) (List.range i);simpa[Xm]using this
theorem Vk (n bg bf bc:Nat) (es:List RE) (A:List Nat) (hn:n≤12) (hes:I2 n es) (hA:∀e∈A,e<es.length) (hsp:A4 n (A.map (Ad es))) (M:Aa) (fl:List Nat) (bs:List (Option Nat)) (cl:List (List Nat)) (e:Nat)
  (hG:H1 n bg bf bc es A M fl bs cl) (heA:e∈A) :
  Aj Tryz.prog 53 [.ptr bg 3 0 0,.int .i64 (e:Nat)] M (Qxb n bg bf bc es A e):=by
 have he:e<es.length:=hA e heA;obtain⟨e1,e2,e3⟩:=hes e he;have hL:∀e∈A.map (Ad es),Dc n e:=fun e he=>by
  obtain⟨k,hk,rfl⟩:=List.mem_map.1 he;exact(hes k (hA k hk)).2.2
 have hT0:=Ir hL hsp (List.mem_map.2 ⟨e,heA,rfl⟩);have hwa:Gn n (A.map (Ad es)) (Ad es e) (Ad es e).1=true:=(Ie hL e3.1 e3).2 ⟨_,hT0,by simp[ins,Es],by simp[Es]⟩;have hwb:Gn n (A.map (Ad es)) (Ad es e) (Ad es e).2=true:=(Ie hL e3.2.1 e3).2 ⟨_,hT0,by simp[ins,Es],by simp[Es]⟩;have hbd:∀(M:Aa) (fl:List Nat) (bs:List (Option Nat)) (cl:List (List Nat)) (x:Nat),H1 n bg bf bc es A M fl bs cl→x<n→x≠(Ad es e).1→x≠(Ad es e).2→_:=fun M fl bs cl x h h1 h2 h3=>Qbr n bg bf bc es A hn hes hA hsp M fl bs cl e x h heA h1 h2 h3
 obtain⟨a,ha⟩:∃a,(Ad es e).1=a:=⟨_,rfl⟩;obtain⟨b,hb⟩:∃b,(Ad es e).2=b:=⟨_,rfl⟩;have q1:=hG.mem.g;have q2:=hG.mem.f;have q4:=hG.mem.fll;unfold Cf at q1;refine Ae Tryz.func53 rfl rfl 54 rfl (Nat.le_of_ble_eq_true rfl) ?_;(repeat refine AW.seq_k fun K hK=>?_);refine AW.rg ?_;simp[Ak];try (refine hK _ rfl ?_;clear hK K)
 (repeat refine AW.seq_k fun K hK=>?_);refine AW.rdL [bg] [0,1,2,3,4,5,6,7,8,9,10,11,12,13,14,15,16,17] C8 (by simp[q1]) ?_;simp[q1,he,Cj,e1,e2];try (refine hK _ rfl ?_;clear hK K)
 simp only[ha,hb]at hbd hwa hwb ⊢;have han:a<n:=ha ▸ e3.1;have hbn:b<n:=hb ▸ e3.2.1;(repeat refine AW.seq_k fun K hK=>?_);refine AW.rg ?_;simp;try (refine hK _ rfl ?_;clear hK K)
 refine AW.seq_ex (ι:=PSt) (fun z=>[(7,z.ov)]) (fun z=>z.M) (fun z=>K7 n bg bf bc es A (Xm n (A.map (Ad es)) (Ad es e) n) z) ?_ ?_
 ·(repeat refine AW.seq_k fun K hK=>?_);refine AW.rg ?_;simp[q1,q4];try (refine hK _ rfl ?_;clear hK K)
  refine AW.block (AW.loopS (ι:=PSt × Nat) (fun z=>[(0,.ptr bg 3 0 0),(5,.int .i64 (a:Nat)),(6,.int .i64 (b:Nat)),(7,z.1.ov),(29,.int .i64 (n:Nat)),(30,.int .i64 (z.2:Nat))]) (fun z=>z.1.M)
   (fun z=>z.2≤n∧K7 n bg bf bc es A (Xm n (A.map (Ad es)) (Ad es e) z.2) z.1) (fun z=>n-z.2) (⟨M,fl,bs,cl,.nil,[]⟩,0)
   ⟨by simp,⟨hG.mem,hG.inv,.inl ⟨rfl,rfl,rfl⟩,by simp,hG.only⟩⟩ rfl (by simp) ?_)
  rintro⟨⟨M,fl,bs,cl,ov,ob⟩,i⟩ ⟨g1,g2⟩;simp only at g1 g2;(repeat refine AW.seq_k fun K hK=>?_);refine AW.rg ?_;simp;try (refine hK _ rfl ?_;clear hK K)
  (repeat refine AW.seq ?_);refine AW.cs (fun hi=>?_) (fun hi=>?_) rfl<;>(try simp at hi)
  ·refine AW.skip ?_;try simp
   try (refine hK _ rfl ?_;clear hK K)
   have w1:=Aq (i+1) (by omega);have hsc:=Qem n (A.map (Ad es)) (Ad es e) i;have hcl:=Qhi n (A.map (Ad es)) (Ad es e) i;generalize Xm n (A.map (Ad es)) (Ad es e) i=l at *;(repeat refine AW.seq ?_);refine AW.block ?_;(repeat refine AW.seq_k fun K hK=>?_);refine AW.rg ?_;simp;try (refine hK _ rfl ?_;clear hK K)
   refine AW.seq_ex (ι:=PSt) (fun z=>[(0,.ptr bg 3 0 0),(5,.int .i64 (a:Nat)),(6,.int .i64 (b:Nat)),(7,z.ov),(8,.int .i64 (i:Nat)),(29,.int .i64 (n:Nat)),(30,.int .i64 (i:Nat)),(47,.bool (Gn n (A.map (Ad es)) (Ad es e) i))]) (fun z=>z.M) (fun z=>K7 n bg bf bc es A l z) ?_ ?_
   ·by_cases hia:i=a
    ·rw[hia,hwa];(repeat refine AW.seq_k fun K hK=>?_);refine AW.rg ?_;simp;try (refine hK _ rfl ?_;clear hK K)
     exact⟨_,g2,rfl,rfl⟩
    by_cases hib:i=b
    ·rw[hib,hwb];(repeat refine AW.seq_k fun K hK=>?_);refine AW.rg ?_;simp[hib ▸ hia];try (refine hK _ rfl ?_;clear hK K)
     exact⟨_,g2,rfl,rfl⟩
    (repeat refine AW.seq_k fun K hK=>?_);refine AW.rg ?_;simp[hia,hib];try (refine hK _ rfl ?_;clear hK K)
    refine Ac.hand (A5 bg bf bc bs) (fun _ _ h=>h) (hbd _ fl bs cl i g2.gam hi hia hib) ?_;rintro _ g' ⟨rfl,fl',bs',cl',hG'⟩ hnew;simp;exact⟨_,g2.back hG' (fun b h=>(hnew b h).imp id (·.1)),rfl,rfl⟩
   rintro⟨M,fl,bs,cl,ov,ob⟩ hz;simp only;cases hwi:Gn n (A.map (Ad es)) (Ad es e) i with
   |false =>
    rw[hwi]at hsc;simp at hsc;refine AW.no ?_ rfl;refine AW.skip ?_;try simp
    try (refine hK _ rfl ?_;clear hK K)
    (repeat refine AW.seq_k fun K hK=>?_);refine AW.rg ?_;simp[-Int.natCast_add,w1];try (refine hK _ rfl ?_;clear hK K)
    exact⟨_,i+1,⟨by omega,by rw[hsc];exact hz⟩,by omega,rfl,rfl,rfl⟩
   |true =>
    rw[hwi]at hsc;simp at hsc;refine AW.yes ?_ rfl;rcases hz.lst with⟨l1,l2,l3⟩ | ⟨b0,l2,l3,l4⟩
    ·simp only at l1 l2 l3;have hl0:l=[]:=by unfold Al at l1;exact List.map_eq_nil_iff.1 l1
     subst l2;subst l3;subst hl0;(repeat refine AW.seq_k fun K hK=>?_);refine AW.rgR [50] ?_;simp;try (refine hK _ rfl ?_;clear hK K)
     refine⟨by unfold maxLen;omega,Ah.intro fun b6 h6=>?_⟩;(repeat refine AW.seq_k fun K hK=>?_);refine AW.rg ?_;simp[-Int.natCast_add,w1];try (refine hK _ rfl ?_;clear hK K)
     exact⟨_,i+1,⟨by omega,by rw[hsc];exact hz.push0 h6⟩,by omega,rfl,rfl,rfl⟩
    ·simp only at l2 l3 l4;subst l2;subst l3;(repeat refine AW.seq_k fun K hK=>?_);refine AW.rgR [50] ?_;simp[l4];try (refine hK _ rfl ?_;clear hK K)
     refine⟨by omega,by unfold maxLen;omega,Ah.intro fun b6 h6=>?_⟩;(repeat refine AW.seq_k fun K hK=>?_);refine AW.rg ?_;simp[-Int.natCast_add,w1];try (refine hK _ rfl ?_;clear hK K)
     have:=hz.push1 (i:=i) h6;exact⟨_,i+1,⟨by omega,by rw[hsc];exact this⟩,by omega,rfl,rfl,rfl⟩
  ·refine AW.exit ?_;try simp
   rw[show i=n by omega]at g2;exact⟨_,g2,rfl,rfl⟩
 rintro⟨M,fl,bs,cl,ov,ob⟩ hz;simp only;(repeat refine AW.seq_k fun K hK=>?_);refine AW.rg ?_;simp;try (refine hK _ rfl ?_;clear hK K)
 have hone:=hz.ones;have hview:=hz.lst.view (M':=M.only (A5 bg bf bc bs)) (fun b hb=>Bq (hz.off b hb));refine AW.ret ⟨[ov],rfl,.sl 1 (Al (Gk n (A.map (Ad es)) (Ad es e))),M.only (A5 bg bf bc bs),Bo.sub fun b x hb=>?_,hview,rfl,fl,bs,cl,hz.game.congr fun k hk=>Bt hk,fun k hk=>?_,hz.inv⟩
 ·by_cases hm:b∈A5 bg bf bc bs
  ·rw[Bt hm]at hb;exact⟨hb,hone b x hb⟩
  ·rw[Bq hm]at hb;cases hb
 ·rcases Decidable.em (k∈A5 bg bf bc bs)with hm|hm
  ·exact hm
  ·exact absurd (Bq hm) hk
end Go.Av
end
section
namespace Go.Av
open Go.Proofs Go.Lam
def Dk (W:List (List Nat)):List AV:=W.map fun l=>.sl 1 (Al l)
@[simp] theorem Sm (W:List (List Nat)):(Dk W).length=W.length:=by simp[Dk]
@[simp] theorem Qby {W:List (List Nat)} {i:Nat} (h:i<(Dk W).length):(Dk W)[i]=.sl 1 (Al (W[i]'(by simpa using h))):=by simp[Dk]
theorem Qs (W:List (List Nat)):∀v∈Dk W,v.cells.all AV.one=true:=by
 intro v hv;obtain⟨x,_,rfl⟩:=List.mem_map.1 hv;rfl
def Ta (a b:Nat):Int:=if a<b then -1 else if b<a then 1 else 0
def Ju:List Nat→List Nat→Int
 |[],[]=>0
 |[],_::_=>-1
 |_::_,[]=>1
 |a::l,b::m=>if a=b then Ju l m else if a<b then -1 else 1
theorem Qcp:∀(x y:List Nat),Ju x y<0↔A9 x y=true
 |[],[]=>by simp[Ju,A9]
 |[],_::_=>by simp[Ju,A9]
 |_::_,[]=>by simp[Ju,A9]
 |a::l,b::m=>by
  unfold Ju A9;by_cases h:a=b
  ·rw[if_pos h,if_pos h];exact Qcp l m
  ·rw[if_neg h,if_neg h];by_cases h2:a<b<;>simp[h2]
theorem Rg (a:Nat):Aj Tryz.prog 136 [.int .i64 (a:Nat)] Aa.emp fun v m=>v=.bool false∧m=Aa.emp:=by
 refine Ae Tryz.func136 rfl rfl 6 rfl (Nat.le_of_ble_eq_true rfl) ?_;(repeat refine AW.seq_k fun K hK=>?_);refine AW.rg ?_;simp[Ak];try (refine hK _ rfl ?_;clear hK K)
 (repeat refine AW.seq_k fun K hK=>?_);refine AW.rg ?_;simp;try (refine hK _ rfl ?_;clear hK K)
 exact AW.ret (Af rfl _ (.same _) ⟨rfl,rfl⟩)
theorem Qc5 (a b:Nat):Aj Tryz.prog 94 [.int .i64 (a:Nat),.int .i64 (b:Nat)] Aa.emp fun v m=>v=.int .i64 (Ta a b)∧m=Aa.emp:=by
 refine Ae Tryz.func94 rfl rfl 20 rfl (Nat.le_of_ble_eq_true rfl) ?_;(repeat refine AW.seq_k fun K hK=>?_);refine AW.rg ?_;simp[Ak];try (refine hK _ rfl ?_;clear hK K)
 (repeat refine AW.seq_k fun K hK=>?_);refine AW.rg ?_;simp;try (refine hK _ rfl ?_;clear hK K)
 refine Ac.val (Rg a) ?_;simp;try (refine hK _ rfl ?_;clear hK K)
 (repeat refine AW.seq_k fun K hK=>?_);refine AW.rg ?_;simp;try (refine hK _ rfl ?_;clear hK K)
 refine Ac.val (Rg b) ?_;simp;try (refine hK _ rfl ?_;clear hK K)
 (repeat refine AW.seq_k fun K hK=>?_);refine AW.rg ?_;simp;try (refine hK _ rfl ?_;clear hK K)
 refine AW.no ?_ rfl;refine AW.skip ?_;try simp
 try (refine hK _ rfl ?_;clear hK K)
 (repeat refine AW.seq_k fun K hK=>?_);refine AW.rg ?_;simp;try (refine hK _ rfl ?_;clear hK K)
 refine AW.no ?_ rfl;refine AW.skip ?_;try simp
 try (refine hK _ rfl ?_;clear hK K)
 by_cases h1:a<b
 ·(repeat refine AW.seq_k fun K hK=>?_);refine AW.rg ?_;simp[h1];try (refine hK _ rfl ?_;clear hK K)
  refine AW.yes ?_ rfl;(repeat refine AW.seq_k fun K hK=>?_);refine AW.rg ?_;simp;try (refine hK _ rfl ?_;clear hK K)
  exact AW.ret (Af rfl _ (.same _) ⟨by unfold Ta;rw[if_pos h1];rfl,rfl⟩)
 have h1':b≤a:=by omega
 (repeat refine AW.seq_k fun K hK=>?_);refine AW.rg ?_;simp[h1];try (refine hK _ rfl ?_;clear hK K)
 refine AW.no ?_ rfl;refine AW.skip ?_;try simp
 try (refine hK _ rfl ?_;clear hK K)
 by_cases h2:b<a
 ·(repeat refine AW.seq_k fun K hK=>?_);refine AW.rg ?_;simp[h2];try (refine hK _ rfl ?_;clear hK K)
  refine AW.yes ?_ rfl;(repeat refine AW.seq_k fun K hK=>?_);refine AW.rg ?_;simp;try (refine hK _ rfl ?_;clear hK K)
  exact AW.ret (Af rfl _ (.same _) ⟨by unfold Ta;rw[if_neg h1,if_pos h2];rfl,rfl⟩)
 (repeat refine AW.seq_k fun K hK=>?_);refine AW.rg ?_;simp[h2];try (refine hK _ rfl ?_;clear hK K)
 refine AW.no ?_ rfl;refine AW.skip ?_;try simp
 try (refine hK _ rfl ?_;clear hK K)
 (repeat refine AW.seq_k fun K hK=>?_);refine AW.rg ?_;simp;try (refine hK _ rfl ?_;clear hK K)
 exact AW.ret (Af rfl _ (.same _) ⟨by unfold Ta;rw[if_neg h1,if_neg h2];rfl,rfl⟩)
theorem S7 (x y:List Nat) (hx:x.length<2^40) (hy:y.length<2^40):Aj Tryz.prog 58 [.sl 1 (Al x),.sl 1 (Al y)] Aa.emp fun v m=>v=.int .i64 (Ju x y)∧m=Aa.emp:=by
 refine Ae Tryz.func58 rfl rfl 36 rfl (Nat.le_of_ble_eq_true rfl) ?_;(repeat refine AW.seq_k fun K hK=>?_);refine AW.rg ?_;simp[Ak];try (refine hK _ rfl ?_;clear hK K)
 refine AW.seq_ex (ι:=Unit) (fun _=>[(0,.sl 1 (Al x)),(1,.sl 1 (Al y))]) (fun _=>Aa.emp) (fun _=>x.length≤y.length∧Ju x y=Ju [] (y.drop x.length)) ?_ ?_
 ·(repeat refine AW.seq_k fun K hK=>?_);refine AW.rg ?_;simp;try (refine hK _ rfl ?_;clear hK K)
  refine AW.block (AW.loopS (ι:=Nat) (fun i=>[(0,.sl 1 (Al x)),(1,.sl 1 (Al y)),(9,.sl 1 (Al x)),(10,.int .i64 (x.length:Nat)),(11,.int .i64 (i:Nat))]) (fun i=>Aa.emp)
   (fun i=>i≤x.length∧i≤y.length∧Ju x y=Ju (x.drop i) (y.drop i)) (fun i=>x.length-i) 0 ⟨by simp,by simp,by simp⟩ rfl (by simp) ?_)
  rintro i ⟨g1,g2,g3⟩;(repeat refine AW.seq_k fun K hK=>?_);refine AW.rg ?_;simp;try (refine hK _ rfl ?_;clear hK K)
  (repeat refine AW.seq ?_);refine AW.cs (fun hi=>?_) (fun hi=>?_) rfl<;>(try simp at hi)
  ·refine AW.skip ?_;try simp
   try (refine hK _ rfl ?_;clear hK K)
   have w1:=Aq (i+1) (by omega);have hdx:x.drop i=x[i]::x.drop (i+1):=List.drop_eq_getElem_cons hi;rw[hdx]at g3;(repeat refine AW.seq ?_);refine AW.block ?_;(repeat refine AW.seq_k fun K hK=>?_);refine AW.rg ?_;simp[hi];try (refine hK _ rfl ?_;clear hK K)
   (repeat refine AW.seq_k fun K hK=>?_);refine AW.rg ?_;simp;try (refine hK _ rfl ?_;clear hK K)
   (repeat refine AW.seq ?_);refine AW.cs (fun hy2=>?_) (fun hy2=>?_) rfl<;>(try simp at hy2)
   ·rw[List.drop_of_length_le hy2]at g3;(repeat refine AW.seq_k fun K hK=>?_);refine AW.rg ?_;simp;try (refine hK _ rfl ?_;clear hK K)
    exact AW.ret (Af rfl _ (.same _) ⟨by rw[g3];rfl,rfl⟩)
   ·refine AW.skip ?_;try simp
    try (refine hK _ rfl ?_;clear hK K)
    have hdy:y.drop i=y[i]::y.drop (i+1):=List.drop_eq_getElem_cons hy2;rw[hdy]at g3;have hcm:=Qc5 x[i] y[i];obtain⟨a,ha⟩:∃a,x[i]=a:=⟨_,rfl⟩;obtain⟨b,hb⟩:∃b,y[i]=b:=⟨_,rfl⟩;rw[ha,hb]at g3 hcm;simp only[ha];(repeat refine AW.seq_k fun K hK=>?_);refine AW.rg ?_;simp[hy2,hb];try (refine hK _ rfl ?_;clear hK K)
    (repeat refine AW.seq_k fun K hK=>?_);refine AW.rg ?_;simp;try (refine hK _ rfl ?_;clear hK K)
    refine Ac.val hcm ?_;simp;try (refine hK _ rfl ?_;clear hK K)
    by_cases hab:a=b
    ·have hc0:Ta a b=0:=by unfold Ta;rw[if_neg (by omega),if_neg (by omega)]
     have g3':Ju x y=Ju (x.drop (i+1)) (y.drop (i+1)):=by rw[g3,Ju,if_pos hab]
     (repeat refine AW.seq_k fun K hK=>?_);refine AW.rg ?_;simp[hc0];try (refine hK _ rfl ?_;clear hK K)
     refine AW.no ?_ rfl;refine AW.skip ?_;try simp
     try (refine hK _ rfl ?_;clear hK K)
     (repeat refine AW.seq_k fun K hK=>?_);refine AW.rg ?_;simp[-Int.natCast_add,w1];try (refine hK _ rfl ?_;clear hK K)
     exact⟨⟨by omega,by omega,g3'⟩,by omega⟩
    ·have hcv:Ta a b=Ju x y:=by
      rw[g3,Ju,if_neg hab];unfold Ta;by_cases h1:a<b
      ·rw[if_pos h1,if_pos h1]
      ·rw[if_neg h1,if_neg h1,if_pos (by omega)]
     have hc0:¬Ta a b=0:=by
      unfold Ta;by_cases h1:a<b
      ·rw[if_pos h1];decide
      ·rw[if_neg h1,if_pos (by omega)];decide
     (repeat refine AW.seq_k fun K hK=>?_);refine AW.rg ?_;simp[hc0];try (refine hK _ rfl ?_;clear hK K)
     refine AW.yes ?_ rfl;(repeat refine AW.seq_k fun K hK=>?_);refine AW.rg ?_;simp;try (refine hK _ rfl ?_;clear hK K)
     exact AW.ret (Af rfl _ (.same _) ⟨by rw[←hcv];rfl,rfl⟩)
  ·refine AW.exit ?_;try simp
   have:i=x.length:=by omega
   subst this;rw[List.drop_length]at g3;exact⟨g2,g3⟩
 ·rintro _ ⟨h1,h2⟩;(repeat refine AW.seq_k fun K hK=>?_);refine AW.rg ?_;simp;try (refine hK _ rfl ?_;clear hK K)
  (repeat refine AW.seq ?_);refine AW.cs (fun h3=>?_) (fun h3=>?_) rfl<;>(try simp at h3)
  ·(repeat refine AW.seq_k fun K hK=>?_);refine AW.rg ?_;simp;try (refine hK _ rfl ?_;clear hK K)
   have hd:∃c t,y.drop x.length=c::t:=⟨_,_,List.drop_eq_getElem_cons h3⟩;obtain⟨c,t,hd⟩:=hd;rw[hd]at h2;exact AW.ret (Af rfl _ (.same _) ⟨by rw[h2];rfl,rfl⟩)
  ·refine AW.skip ?_;try simp
   try (refine hK _ rfl ?_;clear hK K)
   (repeat refine AW.seq_k fun K hK=>?_);refine AW.rg ?_;simp;try (refine hK _ rfl ?_;clear hK K)
   rw[List.drop_of_length_le h3]at h2;exact AW.ret (Af rfl _ (.same _) ⟨by rw[h2];rfl,rfl⟩)
def Fk (W:List (List Nat)):Prop:=W.Pairwise fun x y=>A9 y x=false
theorem P8 {a b c:List Nat} (h1:A9 b a=false) (h2:A9 c b=false):A9 c a=false:=by
 cases h:A9 c a with
 |false=>rfl
 |true =>
  rcases Gv a b with e|e|e
  ·subst e;rw[h]at h2;cases h2
  ·rw[Fi h e]at h2;cases h2
  ·rw[e]at h1;cases h1
theorem V0 {a b:List Nat} (h:A9 a b=true):A9 b a=false:=by
 cases h':A9 b a with
 |false=>rfl
 |true=>have:=Fi h h';rw[Fy]at this;cases this
theorem Qbn {p1 p2:List (List Nat)} {x:List Nat} (hs:Fk (p1++p2)) (h1:∀y∈p1.getLast?,A9 x y=false) (h2:∀y∈p2,A9 x y=true):Fk (p1++x::p2):=by
 unfold Fk at *;rw[List.pairwise_append]at hs ⊢;obtain⟨s1,s2,s3⟩:=hs;refine⟨s1,List.pairwise_cons.2 ⟨fun y hy=>V0 (h2 y hy),s2⟩,fun y hy z hz=>?_⟩;rcases List.mem_cons.1 hz with rfl | hz
 ·rcases List.eq_nil_or_concat p1 with rfl|⟨p,l,rfl⟩
  ·cases hy
  ·have hl:=h1 l (by simp);rw[List.concat_eq_append]at s1 hy;rcases List.mem_append.1 hy with hy | hy
   ·have:=(List.pairwise_append.1 s1).2.2 y hy l (by simp);exact P8 this hl
   ·simp at hy;subst hy;exact hl
 ·exact s3 y hy z hz
theorem Qfm (p1:List (List Nat)) (y x:List Nat) (r:List (List Nat)):((Dk (p1++y::x::r)).set (p1.length+1) (.sl 1 (Al y))).set p1.length (.sl 1 (Al x))=Dk (p1++x::y::r):=by
 unfold Dk;simp[List.set_append]
theorem Zq (b:Nat) (W:List (List Nat)) (hl:W.length≤12) (hw:∀x∈W,x.length<2^40):Aj Tryz.prog 126 [.osl b 1 0 W.length,.int .i64 0,.int .i64 (W.length:Nat),.fn 58 []] (Aa.emp.set b ⟨25,1,Dk W⟩) fun v m=>∃W',W'.Perm W∧Fk W'∧v=.tup []∧m=Aa.emp.set b ⟨25,1,Dk W'⟩:=by
 have hone:∀(W:List (List Nat)) c y,Aa.emp.set b ⟨25,1,Dk W⟩ c=some y→∀v∈y.l,v.cells.all AV.one=true:=by
  intro W c y hy v hv;simp only[A1,Az]at hy;split at hy
  ·cases hy;exact Qs _ v hv
  ·cases hy
 refine Ae Tryz.func126 rfl rfl 53 rfl (Nat.le_of_ble_eq_true rfl) ?_;have w0:IntKind.i64.wrap 1=1:=rfl;(repeat refine AW.seq_k fun K hK=>?_);refine AW.rg ?_;simp[Ak,w0];try (refine hK _ rfl ?_;clear hK K)
 cases W with
 |nil =>
  refine AW.block (AW.loopS (ι:=Unit) (fun _=>[(2,.int .i64 0),(8,.int .i64 1)]) (fun _=>Aa.emp.set b ⟨25,1,Dk []⟩) (fun _=>True) (fun _=>0) () trivial rfl (by simp) ?_);intro _ _;(repeat refine AW.seq_k fun K hK=>?_);refine AW.rg ?_;simp;try (refine hK _ rfl ?_;clear hK K)
  (repeat refine AW.seq ?_);refine AW.no ?_ rfl;refine AW.exit ?_;try simp
  refine Rh rfl (hone []) ?_;simp[Fk,oneOrTup]
 |cons x0 t0 =>
  obtain⟨W,hW⟩:∃W,x0::t0=W:=⟨_,rfl⟩;rw[hW]at hl hw ⊢;refine AW.block (AW.loopS (ι:=List (List Nat) × List (List Nat)) (fun z=>[(0,.osl b 1 0 W.length),(1,.int .i64 0),(2,.int .i64 (W.length:Nat)),(3,.fn 58 []),(8,.int .i64 (z.1.length:Nat))]) (fun z=>Aa.emp.set b ⟨25,1,Dk (z.1++z.2)⟩)
   (fun z=>z.1≠[]∧(z.1++z.2).Perm W∧Fk z.1) (fun z=>z.2.length) ([x0],t0) ⟨by simp,by rw[←hW];exact .refl _,by simp[Fk]⟩ (by rw[←hW];rfl) (by simp) ?_)
  rintro⟨pre,post⟩ ⟨g1,g2,g3⟩;simp only at g1 g2 g3;have hlen:=g2.length_eq;rw[List.length_append]at hlen;(repeat refine AW.seq_k fun K hK=>?_);refine AW.rg ?_;simp;try (refine hK _ rfl ?_;clear hK K)
  (repeat refine AW.seq ?_);refine AW.cs (fun hi=>?_) (fun hi=>?_) rfl<;>(try simp at hi)
  ·refine AW.skip ?_;try simp
   try (refine hK _ rfl ?_;clear hK K)
   cases post with
   |nil=>simp at hlen;omega
   |cons x post =>
   simp only[List.length_cons]at hlen;have hxw:x.length<2^40:=hw x (g2.mem_iff.1 (by simp));(repeat refine AW.seq ?_);refine AW.block ?_;(repeat refine AW.seq_k fun K hK=>?_);refine AW.rg ?_;simp;try (refine hK _ rfl ?_;clear hK K)
   have w1:=Aq (pre.length+1) (by omega);refine AW.block (AW.loopS (ι:=List (List Nat) × List (List Nat)) (fun z=>[(0,.osl b 1 0 W.length),(1,.int .i64 0),(2,.int .i64 (W.length:Nat)),(3,.fn 58 []),(8,.int .i64 (pre.length:Nat)),(9,.int .i64 (z.1.length:Nat))]) (fun z=>Aa.emp.set b ⟨25,1,Dk (z.1++x::z.2++post)⟩)
    (fun z=>z.1++z.2=pre∧∀y∈z.2,A9 x y=true) (fun z=>z.1.length) (pre,[]) ⟨by simp,by simp⟩ (by simp) (by simp) ?_)
   rintro⟨p1,p2⟩ ⟨k1,k2⟩;simp only at k1 k2;have hL:(p1++x::p2++post).length=W.length:=by rw[←k1]at hlen;simp at hlen ⊢;omega
   have hfin:(∀y∈p1.getLast?,A9 x y=false)→((p1++x::p2)≠[]∧((p1++x::p2)++post).Perm W∧Fk (p1++x::p2))∧(p1++x::p2).length=pre.length+1:=fun h=>by
    refine⟨⟨by simp,?_,Qbn (by rw[k1];exact g3) h k2⟩,by rw[←k1];simp;omega⟩;refine List.Perm.trans ?_ g2;rw[←k1];simp only[List.append_assoc,List.cons_append];exact List.Perm.append_left _ (List.perm_middle (l₁:=p2) (l₂:=post)).symm
   rcases List.eq_nil_or_concat p1 with rfl|⟨p,y,rfl⟩
   ·obtain⟨f1,f2⟩:=hfin (by simp);simp only[List.nil_append]at f1 f2 ⊢;generalize hLv:Dk (x::p2++post)=Lv;(repeat refine AW.seq_k fun K hK=>?_);refine AW.rdL [b] [0,1,2,3,4,5,6,7,8,9,10,11,12,13,14,15,16] C8 (by simp) ?_;simp;try (refine hK _ rfl ?_;clear hK K)
    refine AW.no ?_ rfl;refine AW.exit ?_;try simp
    (repeat refine AW.seq_k fun K hK=>?_);refine AW.rg ?_;simp[-Int.natCast_add,w1];try (refine hK _ rfl ?_;clear hK K)
    refine⟨x::p2,post,f1,by simp,by rw[←hLv],by rw[f2]⟩
   ·rw[List.concat_eq_append]at *;have hyw:y.length<2^40:=hw y (g2.mem_iff.1 (by rw[←k1];simp));have hcm:=S7 x y hxw hyw;have hcl:=Qcp x y;have e1:(p++[y])++x::p2++post=p++y::x::(p2++post):=by simp
    have hpl:(p++[y]).length=p.length+1:=by simp
    simp only[hpl]at hL ⊢;rw[e1]at hL ⊢;have hsw:=Qfm p y x (p2++post);have hx1:∀h:p.length+1<(Dk (p++y::x::(p2++post))).length,(Dk (p++y::x::(p2++post)))[p.length+1]=.sl 1 (Al x):=fun h=>by
     rw[Qby];congr 2;simp[List.getElem_append]
    have hx2:∀h:p.length<(Dk (p++y::x::(p2++post))).length,(Dk (p++y::x::(p2++post)))[p.length]=.sl 1 (Al y):=fun h=>by
     rw[Qby];congr 2;simp[List.getElem_append]
    have hLl:(Dk (p++y::x::(p2++post))).length=W.length:=by rw[Sm,hL]
    have hpW:p.length+1<W.length:=by rw[←hL];simp
    have hpW2:p.length<W.length:=by omega
    have w2:IntKind.i64.wrap (((p.length+1:Nat):Int)-1)=(p.length:Int):=by rw[Md (by omega)];omega
    generalize hLv:Dk (p++y::x::(p2++post))=Lv at hx1 hx2 hLl hsw ⊢;(repeat refine AW.seq_k fun K hK=>?_);refine AW.rdL [b] [0,1,2,3,4,5,6,7,8,9,10,11,12,13,14,15,16] C8 (by simp[-Int.natCast_add]) ?_;simp[-Int.natCast_add,w2,hpW,hpW2,hLl,hx1,hx2];refine⟨58,_,⟨rfl,rfl⟩,?_⟩;refine Ac.val hcm ?_;simp[-Int.natCast_add];try (refine hK _ rfl ?_;clear hK K)
    cases hbf:A9 x y with
    |false =>
     have hlt:¬Ju x y<0:=fun h=>by rw[hcl.1 h]at hbf;cases hbf
     obtain⟨f1,f2⟩:=hfin (by simp[hbf]);(repeat refine AW.seq ?_);refine AW.no ?_ (by simp[-Int.natCast_add];omega);refine AW.exit ?_;try simp[-Int.natCast_add]
     (repeat refine AW.seq_k fun K hK=>?_);refine AW.rg ?_;simp[-Int.natCast_add,w1];try (refine hK _ rfl ?_;clear hK K)
     refine⟨_,post,f1,by simp,?_,by rw[f2]⟩;rw[←hLv];simp
    |true =>
     have hlt:=hcl.2 hbf;have hk:∀z∈y::p2,A9 x z=true:=fun z hz=>by
      rcases List.mem_cons.1 hz with rfl|hz
      ·exact hbf
      ·exact k2 z hz
     refine AW.yes ?_ (by simp[-Int.natCast_add];omega);refine AW.skip ?_;try simp[-Int.natCast_add]
     try (refine hK _ rfl ?_;clear hK K)
     (repeat refine AW.seq ?_);refine AW.block ?_;(repeat refine AW.seq_k fun K hK=>?_);refine AW.rdL [b] [0,1,2,3,4,5,6,7,8,9,10,11,12,13,14,15,16,17] C8 (by simp[-Int.natCast_add]) ?_;simp[-Int.natCast_add,w2,hpW,hpW2,hLl,hx1,hx2];rw[hsw];(repeat refine AW.seq_k fun K hK=>?_);refine AW.rg ?_;simp[-Int.natCast_add,w2];try (refine hK _ rfl ?_;clear hK K)
     refine⟨p,y::p2,⟨by rw[←k1];simp,fun z hz=>?_⟩,by omega,by simp,rfl⟩;exact hk z hz
  ·refine AW.exit ?_;try simp
   have:post=[]:=List.eq_nil_of_length_eq_zero (by omega);subst this;rw[List.append_nil]at g2 ⊢;exact Rh rfl (hone pre) ⟨pre,g2,g3,rfl,rfl⟩
set_option maxRecDepth 100000 in
theorem Qar (x:Nat) (hx:x<256):Aj Tryz.prog 135 [.int .u64 x] Aa.emp fun v m=>(∃y:Int,v=.int .i64 y)∧m=Aa.emp:=by
 refine Ae Tryz.func135 rfl rfl 25 rfl (Nat.le_of_ble_eq_true rfl) ?_;have h1:¬((4294967296:Int)≤(x:Int)):=by omega
 have h2:¬((65536:Int)≤(x:Int)):=by omega
 have h3:¬((256:Int)≤(x:Int)):=by omega
 (repeat refine AW.seq_k fun K hK=>?_);refine AW.rg ?_;simp[Ak];try (refine hK _ rfl ?_;clear hK K)
 (repeat refine AW.seq_k fun K hK=>?_);refine AW.rg ?_;simp[h1];try (refine hK _ rfl ?_;clear hK K)
 refine AW.no ?_ rfl;refine AW.skip ?_;try simp
 try (refine hK _ rfl ?_;clear hK K)
 (repeat refine AW.seq_k fun K hK=>?_);refine AW.rg ?_;simp[h2];try (refine hK _ rfl ?_;clear hK K)
 refine AW.no ?_ rfl;refine AW.skip ?_;try simp
 try (refine hK _ rfl ?_;clear hK K)
 (repeat refine AW.seq_k fun K hK=>?_);refine AW.rg ?_;simp[h3];try (refine hK _ rfl ?_;clear hK K)
 refine AW.no ?_ rfl;refine AW.skip ?_;try simp
 try (refine hK _ rfl ?_;clear hK K)
 have hm:x % 256=x:=Nat.mod_eq_of_lt hx;(repeat refine AW.seq_k fun K hK=>?_);refine AW.rg ?_;simp[hm];try (refine hK _ rfl ?_;clear hK K)
 refine T5 (by kernel_rfl) hx fun t t1 t2=>?_;simp;try (refine hK _ rfl ?_;clear hK K)
 exact AW.ret (Af rfl _ (.same _) ⟨⟨_,rfl⟩,rfl⟩)
theorem Qex (x:Nat) (hx:x<256):Aj Tryz.prog 93 [.int .u64 x] Aa.emp fun v m=>(∃y:Int,v=.int .i64 y)∧m=Aa.emp:=by
 refine Ae Tryz.func93 rfl rfl 8 rfl (Nat.le_of_ble_eq_true rfl) ?_;(repeat refine AW.seq_k fun K hK=>?_);refine AW.rg ?_;simp[Ak];try (refine hK _ rfl ?_;clear hK K)
 (repeat refine AW.seq_k fun K hK=>?_);refine AW.no ?_ rfl;refine AW.skip ?_;try simp
 try (refine hK _ rfl ?_;clear hK K)
 (repeat refine AW.seq_k fun K hK=>?_);refine AW.rg ?_;simp;try (refine hK _ rfl ?_;clear hK K)
 refine Ac.pure (Qar x hx) ?_;rintro _ ⟨y,rfl⟩;simp;try (refine hK _ rfl ?_;clear hK K)
 exact AW.ret (Af rfl _ (.same _) ⟨⟨y,rfl⟩,rfl⟩)
theorem Qhu (b:Nat) (W:List (List Nat)) (hl:W.length≤12) (hw:∀x∈W,x.length<2^40) (y:Int):Aj Tryz.prog 92 [.osl b 1 0 W.length,.int .i64 0,.int .i64 (W.length:Nat),.int .i64 y,.fn 58 []] (Aa.emp.set b ⟨25,1,Dk W⟩) fun v m=>∃W',W'.Perm W∧Fk W'∧v=.tup []∧m=Aa.emp.set b ⟨25,1,Dk W'⟩:=by
 have hc:=Zq b W hl hw;have hone:∀(W:List (List Nat)) c y,Aa.emp.set b ⟨25,1,Dk W⟩ c=some y→∀v∈y.l,v.cells.all AV.one=true:=by
  intro W c y hy v hv;simp only[A1,Az]at hy;split at hy
  ·cases hy;exact Qs _ v hv
  ·cases hy
 refine Ae Tryz.func92 rfl rfl 148 rfl (Nat.le_of_ble_eq_true rfl) ?_;have w0:IntKind.i64.wrap (W.length:Int)=(W.length:Int):=wi (by omega);have w1:(W.length:Int)≤12:=by omega
 (repeat refine AW.seq_k fun K hK=>?_);refine AW.rg ?_;simp[Ak];try (refine hK _ rfl ?_;clear hK K)
 (repeat refine AW.seq_k fun K hK=>?_);refine AW.rg ?_;simp;try (refine hK _ rfl ?_;clear hK K)
 refine AW.block (AW.loopS (ι:=Unit) (fun _=>[(0,.osl b 1 0 W.length),(1,.int .i64 0),(2,.int .i64 (W.length:Nat)),(3,.int .i64 y),(4,.fn 58 [])]) (fun _=>Aa.emp.set b ⟨25,1,Dk W⟩) (fun _=>True) (fun _=>0) () trivial rfl (by simp) ?_);intro _ _;(repeat refine AW.seq ?_);refine AW.block ?_;(repeat refine AW.seq_k fun K hK=>?_);refine AW.rg ?_;simp[w0];try (refine hK _ rfl ?_;clear hK K)
 (repeat refine AW.seq_k fun K hK=>?_);refine AW.rg ?_;simp[w1];try (refine hK _ rfl ?_;clear hK K)
 refine AW.yes ?_ rfl;(repeat refine AW.seq_k fun K hK=>?_);refine AW.rg ?_;simp;try (refine hK _ rfl ?_;clear hK K)
 refine Ac.whole (fun _ h=>h) hc ?_;rintro _ g ⟨W',p1,p2,rfl,rfl⟩;simp;try (refine hK _ rfl ?_;clear hK K)
 exact AW.ret (Bz rfl (hone W') ⟨W',p1,p2,rfl,rfl⟩)
theorem Qdq (b:Nat) (W:List (List Nat)) (hl:W.length≤12) (hw:∀x∈W,x.length<2^40):Aj Tryz.prog 57 [.osl b 1 0 W.length,.fn 58 []] (Aa.emp.set b ⟨25,1,Dk W⟩) fun v m=>∃W',W'.Perm W∧Fk W'∧v=.tup []∧m=Aa.emp.set b ⟨25,1,Dk W'⟩:=by
 have hc:=Qhu b W hl hw;have hone:∀(W:List (List Nat)) c y,Aa.emp.set b ⟨25,1,Dk W⟩ c=some y→∀v∈y.l,v.cells.all AV.one=true:=by
  intro W c y hy v hv;simp only[A1,Az]at hy;split at hy
  ·cases hy;exact Qs _ v hv
  ·cases hy
 have hsl:=Qex W.length (by omega);have hmod:W.length % 18446744073709551616=W.length:=Nat.mod_eq_of_lt (by omega);refine Ae Tryz.func57 rfl rfl 14 rfl (Nat.le_of_ble_eq_true rfl) ?_;(repeat refine AW.seq_k fun K hK=>?_);refine AW.rg ?_;simp[Ak];try (refine hK _ rfl ?_;clear hK K)
 (repeat refine AW.seq_k fun K hK=>?_);refine AW.rg ?_;simp[hmod];try (refine hK _ rfl ?_;clear hK K)
 refine Ac.pure hsl ?_;rintro _ ⟨y,rfl⟩;simp;refine Ac.whole (fun _ h=>h) (hc y) ?_;rintro _ g ⟨W',p1,p2,rfl,rfl⟩;simp;exact Rh rfl (hone W') ⟨W',p1,p2,rfl,rfl⟩
theorem Yh (x y:List Nat) (hx:x.length<2^40) (hy:y.length<2^40):Aj Tryz.prog 56 [.sl 1 (Al x),.sl 1 (Al y)] Aa.emp fun v m=>v=.bool (decide (x=y))∧m=Aa.emp:=by
 refine Ae Tryz.func56 rfl rfl 26 rfl (Nat.le_of_ble_eq_true rfl) ?_;(repeat refine AW.seq_k fun K hK=>?_);refine AW.rg ?_;simp[Ak];try (refine hK _ rfl ?_;clear hK K)
 by_cases hl:x.length=y.length;rotate_left
 ·have hne:¬x=y:=fun h=>hl (by rw[h]);(repeat refine AW.seq_k fun K hK=>?_);refine AW.rg ?_;simp[hl];try (refine hK _ rfl ?_;clear hK K)
  refine AW.yes ?_ rfl;(repeat refine AW.seq_k fun K hK=>?_);refine AW.rg ?_;simp;try (refine hK _ rfl ?_;clear hK K)
  exact AW.ret (Af rfl _ (.same _) ⟨by simp[hne,oneOrTup],rfl⟩)
 (repeat refine AW.seq_k fun K hK=>?_);refine AW.rg ?_;simp[hl];try (refine hK _ rfl ?_;clear hK K)
 refine AW.no ?_ rfl;refine AW.skip ?_;try simp
 try (refine hK _ rfl ?_;clear hK K)
 refine AW.seq_ex (ι:=Unit) (fun _=>[]) (fun _=>Aa.emp) (fun _=>x=y) ?_ ?_
 ·(repeat refine AW.seq_k fun K hK=>?_);refine AW.rg ?_;simp;try (refine hK _ rfl ?_;clear hK K)
  refine AW.block (AW.loopS (ι:=Nat) (fun i=>[(0,.sl 1 (Al x)),(1,.sl 1 (Al y)),(12,.int .i64 (x.length:Nat)),(13,.int .i64 (i:Nat))]) (fun i=>Aa.emp)
   (fun i=>i≤x.length∧x.take i=y.take i) (fun i=>x.length-i) 0 ⟨by simp,by simp⟩ rfl (by simp) ?_)
  rintro i ⟨g1,g2⟩;(repeat refine AW.seq_k fun K hK=>?_);refine AW.rg ?_;simp;try (refine hK _ rfl ?_;clear hK K)
  (repeat refine AW.seq ?_);refine AW.cs (fun hi=>?_) (fun hi=>?_) rfl<;>(try simp at hi)
  ·refine AW.skip ?_;try simp
   try (refine hK _ rfl ?_;clear hK K)
   have w1:=Aq (i+1) (by omega);have hi2:i<y.length:=by omega
   (repeat refine AW.seq ?_);refine AW.block ?_;(repeat refine AW.seq_k fun K hK=>?_);refine AW.rg ?_;simp;try (refine hK _ rfl ?_;clear hK K)
   (repeat refine AW.seq_k fun K hK=>?_);refine AW.rd [0,1,2,3,4,5,6,7,8] C8 ?_;simp[hi,hi2];try (refine hK _ rfl ?_;clear hK K)
   by_cases he:x[i]=y[i]
   ·refine AW.no ?_ (by simp[he]);refine AW.skip ?_;try simp
    try (refine hK _ rfl ?_;clear hK K)
    (repeat refine AW.seq_k fun K hK=>?_);refine AW.rg ?_;simp[-Int.natCast_add,w1];try (refine hK _ rfl ?_;clear hK K)
    refine⟨⟨by omega,?_⟩,by omega⟩;rw[Fv hi he,Fv hi2 rfl,g2]
   ·refine AW.yes ?_ (by simp[he]);(repeat refine AW.seq_k fun K hK=>?_);refine AW.rg ?_;simp;try (refine hK _ rfl ?_;clear hK K)
    have hne:¬x=y:=fun h=>he (by simp[h]);exact AW.ret (Af rfl _ (.same _) ⟨by simp[hne,oneOrTup],rfl⟩)
  ·refine AW.exit ?_;try simp
   have:i=x.length:=by omega
   subst this;rw[List.take_length,hl,List.take_length]at g2;exact g2
 ·rintro _ h;(repeat refine AW.seq_k fun K hK=>?_);refine AW.rg ?_;simp;try (refine hK _ rfl ?_;clear hK K)
  exact AW.ret (Af rfl _ (.same _) ⟨by simp[h,oneOrTup],rfl⟩)
theorem Qgp (x y:List Nat) (hx:x.length<2^40) (hy:y.length<2^40):Aj Tryz.prog 55 [.sl 1 (Al x),.rptr [.sl 1 (Al y)]] Aa.emp fun v m=>v=.bool (decide (x=y))∧m=Aa.emp:=by
 have hc:=Yh x y hx hy;refine Ae Tryz.func55 rfl rfl 7 rfl (Nat.le_of_ble_eq_true rfl) ?_;(repeat refine AW.seq_k fun K hK=>?_);refine AW.rg ?_;simp[Ak];try (refine hK _ rfl ?_;clear hK K)
 (repeat refine AW.seq_k fun K hK=>?_);refine AW.rg ?_;simp;try (refine hK _ rfl ?_;clear hK K)
 refine Ac.val hc ?_;simp;try (refine hK _ rfl ?_;clear hK K)
 exact AW.ret (Af rfl _ (.same _) ⟨rfl,rfl⟩)
theorem Wc (W:List (List Nat)) (y:List Nat) (hl:W.length<2^40) (hw:∀x∈W,x.length<2^40) (hy:y.length<2^40):Aj Tryz.prog 91 [.sl 1 (Dk W),.fn 55 [.rptr [.sl 1 (Al y)]]] Aa.emp fun v m=>(∃t:Int,v=.int .i64 t∧(0≤t↔y∈W))∧m=Aa.emp:=by
 refine Ae Tryz.func91 rfl rfl 19 rfl (Nat.le_of_ble_eq_true rfl) ?_;(repeat refine AW.seq_k fun K hK=>?_);refine AW.rg ?_;simp[Ak];try (refine hK _ rfl ?_;clear hK K)
 refine AW.seq_ex (ι:=Unit) (fun _=>[]) (fun _=>Aa.emp) (fun _=>y ∉ W) ?_ ?_
 ·(repeat refine AW.seq_k fun K hK=>?_);refine AW.rg ?_;simp;try (refine hK _ rfl ?_;clear hK K)
  refine AW.block (AW.loopS (ι:=Nat) (fun i=>[(0,.sl 1 (Dk W)),(1,.fn 55 [.rptr [.sl 1 (Al y)]]),(7,.int .i64 (W.length:Nat)),(8,.int .i64 (i:Nat))]) (fun i=>Aa.emp)
   (fun i=>i≤W.length∧∀k,(h:k<W.length)→k<i→W[k]≠y) (fun i=>W.length-i) 0 ⟨by simp,by omega⟩ rfl (by simp) ?_)
  rintro i ⟨g1,g2⟩;(repeat refine AW.seq_k fun K hK=>?_);refine AW.rg ?_;simp;try (refine hK _ rfl ?_;clear hK K)
  (repeat refine AW.seq ?_);refine AW.cs (fun hi=>?_) (fun hi=>?_) rfl<;>(try simp at hi)
  ·refine AW.skip ?_;try simp
   try (refine hK _ rfl ?_;clear hK K)
   have w1:=Aq (i+1) (by omega);have hc:=Qgp W[i] y (hw _ (List.getElem_mem hi)) hy;(repeat refine AW.seq ?_);refine AW.block ?_;(repeat refine AW.seq_k fun K hK=>?_);refine AW.rg ?_;simp;try (refine hK _ rfl ?_;clear hK K)
   (repeat refine AW.seq_k fun K hK=>?_);refine AW.rg ?_;simp[hi];try (refine hK _ rfl ?_;clear hK K)
   refine⟨55,_,⟨rfl,rfl⟩,?_⟩;refine Ac.val hc ?_;simp;try (refine hK _ rfl ?_;clear hK K)
   (repeat refine AW.seq ?_);refine AW.cs (fun he=>?_) (fun he=>?_) rfl<;>(try simp at he)
   ·(repeat refine AW.seq_k fun K hK=>?_);refine AW.rg ?_;simp;try (refine hK _ rfl ?_;clear hK K)
    exact AW.ret (Af rfl _ (.same _) ⟨⟨i,rfl,⟨fun _=>(by rw[←he];exact List.getElem_mem hi),fun _=>(by omega)⟩⟩,rfl⟩)
   ·refine AW.skip ?_;try simp
    try (refine hK _ rfl ?_;clear hK K)
    (repeat refine AW.seq_k fun K hK=>?_);refine AW.rg ?_;simp[-Int.natCast_add,w1];try (refine hK _ rfl ?_;clear hK K)
    refine⟨⟨by omega,fun k h hk=>?_⟩,by omega⟩;rcases Nat.lt_or_ge k i with h1 | h1
    ·exact g2 k h h1
    ·have:k=i:=by omega
     subst this;exact he
  ·refine AW.exit ?_;try simp
   intro hm;obtain⟨k,hk,rfl⟩:=List.mem_iff_getElem.1 hm;exact g2 k hk (by omega) rfl
 ·rintro _ h;(repeat refine AW.seq_k fun K hK=>?_);refine AW.rg ?_;simp;try (refine hK _ rfl ?_;clear hK K)
  exact AW.ret (Af rfl _ (.same _) ⟨⟨-1,rfl,⟨fun h=>(by omega),fun h'=>absurd h' h⟩⟩,rfl⟩)
theorem P0 (W:List (List Nat)) (y:List Nat) (hl:W.length<2^40) (hw:∀x∈W,x.length<2^40) (hy:y.length<2^40):Aj Tryz.prog 54 [.sl 1 (Dk W),.fn 55 [.rptr [.sl 1 (Al y)]]] Aa.emp fun v m=>v=.bool (decide (y∈W))∧m=Aa.emp:=by
 have hc:=Wc W y hl hw hy;refine Ae Tryz.func54 rfl rfl 9 rfl (Nat.le_of_ble_eq_true rfl) ?_;(repeat refine AW.seq_k fun K hK=>?_);refine AW.rg ?_;simp[Ak];try (refine hK _ rfl ?_;clear hK K)
 (repeat refine AW.seq_k fun K hK=>?_);refine AW.rg ?_;simp;try (refine hK _ rfl ?_;clear hK K)
 refine Ac.pure hc ?_;rintro _ ⟨t,rfl,ht⟩;simp;try (refine hK _ rfl ?_;clear hK K)
 exact AW.ret (Af rfl _ (.same _) ⟨by show AV.bool (decide (0≤t))=_;rw[decide_eq_decide.2 ht],rfl⟩)
end Go.Av
end
section
namespace Go.Av
open Go.Proofs Go.Lam
structure Hd (n bg bf bc:Nat) (es:List RE) (A:List Nat) (X:Aa) (z:GSt):Prop where
 game:Cw z.M n bg bf bc es z.fl z.bs z.cl
 inv:Inv n (Ad es) A (Dz z.fl) (Cx z.cl)
 ext:∀k x,X k=some x→z.M k=some x
 off:∀k,X k≠none→k ∉ A5 bg bf bc z.bs
 only:∀k,z.M k≠none→X k≠none∨k∈A5 bg bf bc z.bs
section
variable {n bg bf bc:Nat} {es:List RE} {A:List Nat} {X M g':Aa} {fl fl':List Nat} {bs bs':List (Option Nat)} {cl cl':List (List Nat)}
theorem Hd.of (h:H1 n bg bf bc es A M fl bs cl):Hd n bg bf bc es A Aa.emp ⟨M,fl,bs,cl⟩ :=
 ⟨h.mem,h.inv,fun k x hx=>(by cases hx),fun k hk=>absurd rfl hk,fun k hk=>.inr (h.only k hk)⟩
theorem Hd.gam (h:Hd n bg bf bc es A X ⟨M,fl,bs,cl⟩):H1 n bg bf bc es A (M.only (A5 bg bf bc bs)) fl bs cl :=
 ⟨h.game.congr fun k hk=>Bt hk,fun k hk=>by
  rcases Decidable.em (k∈A5 bg bf bc bs)with hm|hm
  ·exact hm
  ·exact absurd (Bq hm) hk,h.inv⟩
theorem Hd.back (h:Hd n bg bf bc es A X ⟨M,fl,bs,cl⟩) (hG':H1 n bg bf bc es A g' fl' bs' cl') (hnew:∀b,g' b≠none→b∈A5 bg bf bc bs∨M b=none):Hd n bg bf bc es A X ⟨M.back (A5 bg bf bc bs) g',fl',bs',cl'⟩:=by
 have hN:∀k,X k≠none→k ∉ A5 bg bf bc bs':=fun k hk hm=>by
  rcases hnew k (hG'.mem.dom hm)with h'|h'
  ·exact h.off k hk h'
  ·cases hx:X k with
   |none=>exact hk hx
   |some x=>have:=h.ext k x hx;simp only at this;rw[h']at this;cases this
 refine⟨hG'.mem.congr fun k hk=>?_,hG'.inv,fun k x hx=>?_,hN,fun k hk=>?_⟩
 ·simp only[Aa.back];cases h:g' k with
  |some x=>rfl
  |none=>exact absurd h (hG'.mem.dom hk)
 ·have h1:g' k=none:=by
   cases h':g' k with
   |none=>rfl
   |some y=>exact absurd (hG'.only k (by rw[h'];simp)) (hN k (by rw[hx];simp))
  simp only[Aa.back];rw[h1];simp only;rw[if_neg (h.off k (by rw[hx];simp))];exact h.ext k x hx
 ·simp only[Aa.back]at hk;cases h':g' k with
  |some x=>exact .inr (hG'.only k (by rw[h'];simp))
  |none =>
   rw[h']at hk;simp only at hk;by_cases hm:k∈A5 bg bf bc bs
   ·rw[if_pos hm]at hk;exact absurd rfl hk
   ·rw[if_neg hm]at hk;exact .inl ((h.only k hk).resolve_right hm)
theorem Hd.set (h:Hd n bg bf bc es A X ⟨M,fl,bs,cl⟩) {b:Nat} (y:Ep) (hb:X b≠none∨M b=none):Hd n bg bf bc es A (X.set b y) ⟨M.set b y,fl,bs,cl⟩:=by
 have hbg:b ∉ A5 bg bf bc bs:=fun hm=>by
  rcases hb with hb|hb
  ·exact h.off b hb hm
  ·exact h.game.dom hm hb
 refine⟨h.game.congr fun k hk=>Aa.set_other _ _ (fun e=>hbg (e ▸ hk)),h.inv,fun k x hx=>?_,fun k hk=>?_,fun k hk=>?_⟩
 ·by_cases e:k=b
  ·subst e;simp only;rw[Aa.set_same]at hx ⊢;exact hx
  ·simp only;rw[Aa.set_other _ _ e]at hx ⊢;exact h.ext k x hx
 ·by_cases e:k=b
  ·rw[e];exact hbg
  ·rw[Aa.set_other _ _ e]at hk;exact h.off k hk
 ·by_cases e:k=b
  ·rw[e,Aa.set_same];simp
  ·simp only at hk;rw[Aa.set_other _ _ e]at hk ⊢;exact h.only k hk
theorem Hd.del (h:Hd n bg bf bc es A X ⟨M,fl,bs,cl⟩) {b:Nat} (hb:X b≠none):Hd n bg bf bc es A (X.del b) ⟨M.del b,fl,bs,cl⟩:=by
 have hbg:b ∉ A5 bg bf bc bs:=h.off b hb;refine⟨h.game.congr fun k hk=>Aa.del_other _ (fun e=>hbg (e ▸ hk)),h.inv,fun k x hx=>?_,fun k hk=>?_,fun k hk=>?_⟩
 ·by_cases e:k=b
  ·subst e;rw[Aa.del_same]at hx;cases hx
  ·simp only;rw[Aa.del_other _ e]at hx ⊢;exact h.ext k x hx
 ·by_cases e:k=b
  ·rw[e];exact hbg
  ·rw[Aa.del_other _ e]at hk;exact h.off k hk
 ·by_cases e:k=b
  ·rw[e]at hk;simp only at hk;rw[Aa.del_same]at hk;exact absurd rfl hk
  ·simp only at hk;rw[Aa.del_other _ e]at hk ⊢;exact h.only k hk
theorem Hd.ones (h:Hd n bg bf bc es A X ⟨M,fl,bs,cl⟩) (hX:∀c y,X c=some y→∀v∈y.l,v.cells.all AV.one=true):∀c y,M c=some y→∀v∈y.l,v.cells.all AV.one=true:=by
 intro c y hy v hv;rcases h.only c (by simp only;rw[hy];simp)with hc | hc
 ·cases hx:X c with
  |none=>exact absurd hx hc
  |some x =>
   have:=h.ext c x hx;simp only at this;rw[hy]at this;cases this;exact hX c y hx v hv
 ·rcases A8.1 hc with rfl|rfl|rfl|⟨i,hi⟩
  ·have:=h.game.g;simp only at this;rw[this]at hy;cases hy;simp only[Cf,List.mem_singleton]at hv;subst hv;rfl
  ·have:=h.game.f;simp only at this;rw[this]at hy;cases hy;exact Ce _ v hv
  ·have:=h.game.c;simp only at this;rw[this]at hy;cases hy;exact Ia _ _ v hv
  ·have:=h.game.row i c hi;simp only at this;rw[this]at hy;cases hy;exact Ce _ v hv
end
def Mi (o:Option Nat) (W:List (List Nat)):AV:=match o with
 |none=>.nil
 |some b=>.osl b 1 0 W.length
def P6 (b0:Nat) (al:List Bool) (o:Option Nat) (W:List (List Nat)):Aa:=match o with
 |none=>Aa.emp.set b0 ⟨72,12,[.agg (bools al)]⟩
 |some b=>(Aa.emp.set b0 ⟨72,12,[.agg (bools al)]⟩).set b ⟨25,1,Dk W⟩
theorem Qf5 {b0:Nat} {al:List Bool} {o:Option Nat} {W:List (List Nat)}:∀c y,P6 b0 al o W c=some y→∀v∈y.l,v.cells.all AV.one=true:=by
 have h1:∀c y,(Aa.emp.set b0 ⟨72,12,[.agg (bools al)]⟩) c=some y→∀v∈y.l,v.cells.all AV.one=true:=by
  intro c y hy v hv;simp only[A1,Az]at hy;split at hy
  ·cases hy;simp only[List.mem_singleton]at hv;subst hv;unfold bools AV.cells;simp only[List.all_map,List.all_eq_true];intro x _;rfl
  ·cases hy
 intro c y hy;cases o with
 |none=>exact h1 c y hy
 |some b =>
  unfold P6 at hy;simp only[A1 (m:=Aa.set _ _ _)]at hy;by_cases e:c=b
  ·rw[if_pos e]at hy;cases hy;exact Qs _
  ·rw[if_neg e]at hy;exact h1 c y hy
def C4 (n:Nat) (L:List Ed):List Bool:=(List.range 12).map fun j=>decide (j<n)&&Bi L j
@[simp] theorem Tj (n:Nat) (L:List Ed):(C4 n L).length=12:=by simp[C4]
theorem L7 (n:Nat) (L:List Ed) {j:Nat} (h:j<(C4 n L).length):(C4 n L)[j]=(decide (j<n)&&Bi L j):=by simp[C4]
theorem Xi (n:Nat) (L:List Ed) (a b:Nat):((C4 n L).set a false).set b false=C4 n (L++[(a,b)]):=by
 refine List.ext_getElem (by simp) fun j h1 h2=>?_;rw[List.getElem_set,List.getElem_set,L7,L7];have:Bi (L++[(a,b)]) j=(Bi L j&&!(a==j || b==j)):=by simp[Bi]
 rw[this];by_cases e1:b=j
 ·simp[e1]
 ·by_cases e2:a=j
  ·simp[e2]
  ·have f1:(a==j)=false:=by simpa using e2
   have f2:(b==j)=false:=by simpa using e1
   rw[if_neg e1,if_neg e2,f1,f2];simp
def Hx (j:Nat):List Bool:=(List.range 12).map fun k=>decide (k<j)
theorem G8 {l:List Bool} {j:Nat} (v:Bool) (h:j<12) (hl:l.length=12):Cn 12 1 (.agg (bools l)) (.bool v) j=.agg (bools (l.set j v)):=by
 unfold Cn;rw[if_neg (by omega)];show AV.agg ((bools l).take j++[.bool v]++(bools l).drop (j+1))=_
 rw[←Fd,List.set_eq_take_append_cons_drop,if_pos (by simp[hl];exact h)];simp
@[simp] theorem Qla (j:Nat):(Hx j).length=12:=by simp[Hx]
theorem Qd8 {j:Nat} (h:j<12):(Hx j).set j true=Hx (j+1):=by
 refine List.ext_getElem (by simp) fun k h1 h2=>?_;rw[List.getElem_set];have g1:∀(i:Nat) (h:k<(Hx i).length),(Hx i)[k]=decide (k<i):=fun i h=>by simp[Hx]
 rw[g1,g1];by_cases e:j=k
 ·simp[e]
 ·rw[if_neg e];refine decide_eq_decide.2 ⟨fun h=>by omega,fun h=>?_⟩;rcases Nat.lt_or_ge k j with h' | h'
  ·exact h'
  ·exact absurd (by omega) e
theorem Qdt (n:Nat):Hx n=C4 n []:=by unfold Hx C4 Bi;simp
def Fp (n:Int) (es:List RE):List (List Nat):=if C2 n es=true then Jg n.toNat ((D1 n es).map (Ad es)) else []
def fC (n:Nat) (L:List Ed) (i:Nat):List (List Nat):=(L.take i).foldl (fun o e=>Lo o (Gk n L e)) []
theorem Qdu (n:Nat) (L:List Ed) (e:Ed):(Gk n L e).length≤n:=by
 have:=List.length_filter_le (Gn n L e) (List.range n);simpa[Gk]using this
theorem Qg7 (n:Nat) (L:List Ed) (i:Nat):∀x∈fC n L i,x.length≤n:=fun x hx=>by
 rcases((I7 (Gk n L) (L.take i) [] (by simp)).2 x).1 hx with h|h
 ·cases h
 ·obtain⟨e,_,rfl⟩:=List.mem_map.1 h;exact Qdu n L e
theorem Wu (f:Ed→List Nat):∀(s:List Ed) (o:List (List Nat)),(s.foldl (fun o e=>Lo o (f e)) o).length≤o.length+s.length
 |[],o=>by simp
 |a::s,o=>by
  have h1:=Wu f s (Lo o (f a));have h2:(Lo o (f a)).length≤o.length+1:=by unfold Lo;split<;>simp
  simp only[List.foldl_cons,List.length_cons];omega
theorem Qhc (n:Nat) (L:List Ed) (i:Nat):(fC n L i).length≤i:=by
 have h1:=Wu (Gk n L) (L.take i) [];unfold fC;simp at h1;omega
theorem Qci {b0:Nat} {al al':List Bool} {o:Option Nat} {W:List (List Nat)} (h:∀b,o=some b→b≠b0):(P6 b0 al o W).set b0 ⟨72,12,[.agg (bools al')]⟩=P6 b0 al' o W:=by
 cases o with
 |none=>funext c;simp only[P6,A1];split<;>rfl
 |some b =>
  have:=h b rfl
  funext c
  simp only[P6,A1];by_cases e:c=b0
  ·rw[if_pos e,if_neg (fun e'=>this (e'.symm.trans e)),if_pos e]
  ·rw[if_neg e,if_neg e,if_neg e]
theorem Ul {b0 b:Nat} {al:List Bool} {W:List (List Nat)}:(P6 b0 al none []).set b ⟨25,1,Dk W⟩=P6 b0 al (some b) W:=rfl
theorem T9 {b0 b b':Nat} {al:List Bool} {W W':List (List Nat)} (h:b≠b0):((P6 b0 al (some b) W).del b).set b' ⟨25,1,Dk W'⟩=P6 b0 al (some b') W':=by
 funext c
 simp only[P6,A1,Aa.del];by_cases e:c=b'
 ·rw[if_pos e,if_pos e]
 ·rw[if_neg e,if_neg e];by_cases e2:c=b
  ·rw[if_pos e2,if_neg (fun e'=>h (e2.symm.trans e'))];rfl
  ·rw[if_neg e2,if_neg e2]
theorem Ic {b0 b:Nat} {al:List Bool} {W:List (List Nat)}:P6 b0 al (some b) W b=some ⟨25,1,Dk W⟩:=by simp[P6]
theorem Xj {b0:Nat} {al:List Bool} {o:Option Nat} {W:List (List Nat)} (h:∀b,o=some b→b≠b0):P6 b0 al o W b0=some ⟨72,12,[.agg (bools al)]⟩:=by
 cases o with
 |none=>simp[P6]
 |some b=>have:=h b rfl;simp[P6,Ne.symm this]
theorem Jp (W:List (List Nat)) (x:List Nat):Dk W++[.sl 1 (Al x)]=Dk (W++[x]):=by simp[Dk]
theorem Rc {o:Option Nat} {W:List (List Nat)} {M M':Aa} (h0:o=none→W=[]) (h1:∀b,o=some b→M b=some ⟨25,1,Dk W⟩∧M' b=none):Bv M M' (Mi o W) (.sl 1 (Dk W)):=by
 cases o with
 |none=>rw[h0 rfl];exact .nilsl 1
 |some b =>
  obtain⟨h2,h3⟩:=h1 b rfl;exact Mw.view (ob:=[b]) (ty:=25) (.inr ⟨b,rfl,by unfold Mi;rw[Sm],h2⟩) (by simpa using h3)
def rC (n:Nat) (L:List Ed) (k i:Nat):List (List Nat):=fC n L k++((List.range i).filter (Bi L)).map D4
theorem Qkf (n:Nat) (L:List Ed) (k i:Nat):rC n L k (i+1)=rC n L k i++if Bi L i=true then [[i]] else []:=by
 unfold rC;rw[List.range_succ,List.filter_append,List.map_append,List.append_assoc];cases h:Bi L i<;>simp[h,D4]
theorem Qno (n:Nat) (L:List Ed) (k i:Nat):(rC n L k i).length≤k+i:=by
 have h1:=Qhc n L k;have h2:=List.length_filter_le (Bi L) (List.range i);unfold rC;simp at h2 ⊢;omega
theorem Qjt {n:Nat} {L:List Ed} (hn:1≤n):Hj n L≠[]:=by
 unfold Hj;intro h;obtain⟨h1,h2⟩:=List.append_eq_nil_iff.1 h;cases L with
 |nil =>
  have:0∈(List.range n).filter (Bi []):=by simp[Bi];omega
  rw[List.map_eq_nil_iff.1 h2]at this;cases this
 |cons e L =>
  have:=((I7 (Gk n (e::L)) (e::L) [] (by simp)).2 (Gk n (e::L) e)).2 (.inr (by simp));rw[h1]at this;cases this
theorem Re (n:Int) (es:List RE) (hb:LbE es) (h8:C2 n es=true→n≤8):Aj Tryz.prog 22 [.int .i64 n,A3 es] Aa.emp fun v m=>v=.tup [.sl 1 (Dk (Fp n es)),Bw n es]∧m=Aa.emp:=by
 have hc:=Og n es hb;refine Ae Tryz.func22 rfl rfl 83 rfl (Nat.le_of_ble_eq_true rfl) ?_;unfold A3 at hc ⊢;(repeat refine AW.seq_k fun K hK=>?_);refine AW.rg ?_;simp[Ak];try (refine hK _ rfl ?_;clear hK K)
 (repeat refine AW.seq_k fun K hK=>?_);refine AW.rg ?_;simp;try (refine hK _ rfl ?_;clear hK K)
 refine Ac.val hc ?_;by_cases hk:C2 n es=true;rotate_left
 ·have e1:Bw n es=.int .i64 1:=by unfold Bw;rw[if_neg hk]
  have e2:Fp n es=[]:=by unfold Fp;rw[if_neg hk]
  simp[e1];try (refine hK _ rfl ?_;clear hK K)
  (repeat refine AW.seq_k fun K hK=>?_);refine AW.rg ?_;simp;try (refine hK _ rfl ?_;clear hK K)
  refine AW.yes ?_ rfl;(repeat refine AW.seq_k fun K hK=>?_);refine AW.rg ?_;simp;try (refine hK _ rfl ?_;clear hK K)
  exact AW.ret (Ag [.sl 1 (Dk []),.int .i64 1] rfl ⟨.nilsl 1,.same _,trivial⟩ ⟨by rw[e2,e1];rfl,rfl⟩)
 have e1:Bw n es=.int .i64 0:=by unfold Bw;rw[if_pos hk]
 have h8':=h8 hk;have eA:D1 n es=Bl n.toNat (Ad es) [] (List.range es.length):=by unfold D1;rw[if_pos hk]
 have e2:Fp n es=Jg n.toNat ((D1 n es).map (Ad es)):=by unfold Fp;rw[if_pos hk]
 obtain⟨⟨h1,h2,h3⟩,_⟩:=Df hk;have hok:=Hs hk;have hle:=Na hk;have hlt:=fun k=>Ql (n:=n) (es:=es) (k:=k);obtain⟨N,rfl⟩:=Int.eq_ofNat_of_zero_le (show 0≤n by omega);simp only[Int.toNat_natCast]at hok eA e2;have hsp:A4 N ((D1 (N:Nat) es).map (Ad es)):=by rw[eA];exact Ew (by simp) (hok.at fun k hk=>by simpa using hk) (A4.nil N)
 have hall:=Uf es h3;have hpl:=Ok N es (by omega) hok (List.range es.length) (by simp) (by simp;omega);rw[←eA]at hpl;clear eA;generalize D1 (N:Nat) es=A at *;have hL:∀e∈A.map (Ad es),Dc N e:=fun e he=>by
  obtain⟨k,hk,rfl⟩:=List.mem_map.1 he;exact(hok k (hlt k hk)).2.2
 unfold A3 at hall hpl;simp[e1];try (refine hK _ rfl ?_;clear hK K)
 (repeat refine AW.seq_k fun K hK=>?_);refine AW.rg ?_;simp;try (refine hK _ rfl ?_;clear hK K)
 refine AW.no ?_ rfl;refine AW.skip ?_;try simp
 try (refine hK _ rfl ?_;clear hK K)
 (repeat refine AW.seq_k fun K hK=>?_);refine AW.rg ?_;simp;try (refine hK _ rfl ?_;clear hK K)
 refine Ac.val hall ?_;simp;refine Ac.news hpl ?_;rintro _ g ⟨bg,bf,bc,fl,bs,cl,rfl,hG⟩ _;have hg:Aa.back Aa.emp [] g=g:=by funext k;simp only[Aa.back,Az];cases g k<;>simp
 rw[hg];simp;try (refine hK _ rfl ?_;clear hK K)
 (repeat refine AW.seq_k fun K hK=>?_);refine AW.rg ?_;simp;try (refine hK _ rfl ?_;clear hK K)
 (repeat refine AW.seq_k fun K hK=>?_);refine AW.rg ?_;simp;try (refine hK _ rfl ?_;clear hK K)
 refine Ah.intro fun b0 hb0=>?_;refine hK _ rfl ?_;clear hK K;have X1:Hd N bg bf bc es A (P6 b0 (Hx 0) none []) ⟨g.set b0 ⟨72,12,[.agg (bools (Hx 0))]⟩,fl,bs,cl⟩:=(Hd.of hG).set _ (.inr hb0);refine AW.seq_ex (ι:=Aa) (fun M=>[(0,.int .i64 (N:Nat)),(1,.sl 6 (D0 es)),(7,.ptr bg 3 0 0),(8,.sl 1 (Al A)),(10,.ptr b0 12 0 0),(9,.nil)]) (fun M=>M) (fun M=>Hd N bg bf bc es A (P6 b0 (C4 N []) none []) ⟨M,fl,bs,cl⟩) ?_ ?_
 ·(repeat refine AW.seq_k fun K hK=>?_);refine AW.rg ?_;simp;try (refine hK _ rfl ?_;clear hK K)
  refine AW.block (AW.loopS (ι:=Aa × Nat) (fun z=>[(0,.int .i64 (N:Nat)),(1,.sl 6 (D0 es)),(7,.ptr bg 3 0 0),(8,.sl 1 (Al A)),(10,.ptr b0 12 0 0),(9,.nil),(30,.int .i64 (N:Nat)),(31,.int .i64 (z.2:Nat))]) (fun z=>z.1)
   (fun z=>z.2≤N∧Hd N bg bf bc es A (P6 b0 (Hx z.2) none []) ⟨z.1,fl,bs,cl⟩) (fun z=>N-z.2) (_,0) ⟨by simp,X1⟩ rfl (by simp) ?_)
  rintro⟨M,i⟩ ⟨g1,g2⟩;simp only at g1 g2;have p0:M b0=some ⟨72,12,[.agg (bools (Hx i))]⟩:=g2.ext b0 _ (by simp[P6]);have hi12:i<8→i<12:=fun h=>by omega
  (repeat refine AW.seq_k fun K hK=>?_);refine AW.rg ?_;simp;try (refine hK _ rfl ?_;clear hK K)
  (repeat refine AW.seq ?_);refine AW.cs (fun hi=>?_) (fun hi=>?_) rfl<;>(try simp at hi)
  ·refine AW.skip ?_;try simp
   try (refine hK _ rfl ?_;clear hK K)
   have w1:=Aq (i+1) (by omega);have hi12:i<12:=by omega
   (repeat refine AW.seq ?_);refine AW.block ?_;(repeat refine AW.seq_k fun K hK=>?_);refine AW.rg ?_;simp;try (refine hK _ rfl ?_;clear hK K)
   have hi11:i≤11:=by omega
   have hi12':(i:Int)<12:=by omega
   (repeat refine AW.seq_k fun K hK=>?_);refine AW.rg ?_;simp[p0,hi12,hi11,hi12'];try (refine hK _ rfl ?_;clear hK K)
   rw[G8 _ hi12 (by simp),Qd8 hi12];(repeat refine AW.seq_k fun K hK=>?_);refine AW.rg ?_;simp[-Int.natCast_add,w1];try (refine hK _ rfl ?_;clear hK K)
   have g3:=g2.set (b:=b0) ⟨72,12,[.agg (bools (Hx (i+1)))]⟩ (.inl (by simp[P6]));rw[Qci (by simp)]at g3;exact⟨_,i+1,⟨by omega,g3⟩,by omega,rfl,rfl⟩
  ·refine AW.exit ?_;try simp
   have:i=N:=by omega
   subst this;rw[Qdt]at g2;exact g2
 rintro M hM;have hcl:∀(M:Aa) (fl:List Nat) (bs:List (Option Nat)) (cl:List (List Nat)) (e:Nat),H1 N bg bf bc es A M fl bs cl→e∈A→_:=fun M fl bs cl e h1 h2=>Vk N bg bf bc es A (by omega) hok hlt hsp M fl bs cl e h1 h2;refine AW.seq_ex (ι:=GSt × Option Nat) (fun z=>[(0,.int .i64 (N:Nat)),(1,.sl 6 (D0 es)),(7,.ptr bg 3 0 0),(8,.sl 1 (Al A)),(10,.ptr b0 12 0 0),(9,Mi z.2 (fC N (A.map (Ad es)) A.length))]) (fun z=>z.1.M)
  (fun z=>Hd N bg bf bc es A (P6 b0 (C4 N (A.map (Ad es))) z.2 (fC N (A.map (Ad es)) A.length)) z.1∧(∀b,z.2=some b→b≠b0)∧(z.2=none→fC N (A.map (Ad es)) A.length=[])) ?_ ?_
 ·(repeat refine AW.seq_k fun K hK=>?_);refine AW.rg ?_;simp;try (refine hK _ rfl ?_;clear hK K)
  refine AW.block (AW.loopS (ι:=GSt × Option Nat × Nat) (fun z=>[(0,.int .i64 (N:Nat)),(1,.sl 6 (D0 es)),(7,.ptr bg 3 0 0),(8,.sl 1 (Al A)),(10,.ptr b0 12 0 0),(9,Mi z.2.1 (fC N (A.map (Ad es)) z.2.2)),(37,.sl 1 (Al A)),(38,.int .i64 (A.length:Nat)),(39,.int .i64 (z.2.2:Nat))]) (fun z=>z.1.M)
   (fun z=>z.2.2≤A.length∧Hd N bg bf bc es A (P6 b0 (C4 N ((A.map (Ad es)).take z.2.2)) z.2.1 (fC N (A.map (Ad es)) z.2.2)) z.1∧(∀b,z.2.1=some b→b≠b0)∧(z.2.1=none→fC N (A.map (Ad es)) z.2.2=[]))
   (fun z=>A.length-z.2.2) (⟨M,fl,bs,cl⟩,none,0) ⟨by simp,hM,by simp,by simp[fC]⟩ rfl (by simp[Mi]) ?_)
  clear hM X1 hG hb0;rintro⟨⟨M,fl,bs,cl⟩,o,i⟩ ⟨g1,g2,g3,g4⟩;simp only at g1 g2 g3 g4;(repeat refine AW.seq_k fun K hK=>?_);refine AW.rg ?_;simp;try (refine hK _ rfl ?_;clear hK K)
  (repeat refine AW.seq ?_);refine AW.cs (fun hi=>?_) (fun hi=>?_) rfl<;>(try simp at hi)
  ·refine AW.skip ?_;try simp
   try (refine hK _ rfl ?_;clear hK K)
   have w1:=Aq (i+1) (by omega);obtain⟨e,he⟩:∃e,A[i]=e:=⟨_,rfl⟩;have heA:e∈A:=he ▸ List.getElem_mem hi;have hel:e<es.length:=hlt e heA;obtain⟨q1,q2,q3⟩:=hok e hel;have htk:(A.map (Ad es)).take (i+1)=(A.map (Ad es)).take i++[Ad es e]:=by
    rw[List.take_add_one,List.getElem?_map,List.getElem?_eq_getElem hi,he];rfl
   have hfo:fC N (A.map (Ad es)) (i+1)=Lo (fC N (A.map (Ad es)) i) (Gk N (A.map (Ad es)) (Ad es e)):=by unfold fC;rw[htk,List.foldl_append];rfl
   have hcle:=fun M fl bs cl h=>hcl M fl bs cl e h heA;have hcll:(Gk N (A.map (Ad es)) (Ad es e)).length≤8:=by
    have:=List.length_filter_le (Gn N (A.map (Ad es)) (Ad es e)) (List.range N);unfold Gk;simp at this;omega
   have hWm:=Qg7 N (A.map (Ad es)) i;have hWl:=Qhc N (A.map (Ad es)) i;generalize hW:fC N (A.map (Ad es)) i=W at *;have halp:=Xi N ((A.map (Ad es)).take i) (Ad es e).1 (Ad es e).2;rw[show((Ad es e).1,(Ad es e).2)=Ad es e from rfl,←htk]at halp;have p0:M b0=some ⟨72,12,[.agg (bools (C4 N ((A.map (Ad es)).take i)))]⟩:=g2.ext b0 _ (Xj g3);have hall:=Tj N ((A.map (Ad es)).take i);generalize C4 N ((A.map (Ad es)).take i)=al at *;obtain⟨a,ha⟩:∃a,(Ad es e).1=a:=⟨_,rfl⟩;obtain⟨b,hb⟩:∃b,(Ad es e).2=b:=⟨_,rfl⟩
   rw[ha]at q1 halp;rw[hb]at q2 halp;have ha8:a<12:=by have:=q3.1;omega
   have hb8:b<12:=by have:=q3.2.1;omega
   have ha8':(a:Int)<12:=by omega
   have hb8':(b:Int)<12:=by omega
   have ha8'':a≤11:=by omega
   have hb8'':b≤11:=by omega
   (repeat refine AW.seq ?_);refine AW.block ?_;(repeat refine AW.seq_k fun K hK=>?_);refine AW.rg ?_;simp[hi,he];try (refine hK _ rfl ?_;clear hK K)
   refine AW.seq_ex (ι:=Unit) (fun _=>[(0,.int .i64 (N:Nat)),(1,.sl 6 (D0 es)),(7,.ptr bg 3 0 0),(8,.sl 1 (Al A)),(10,.ptr b0 12 0 0),(9,Mi o W),(37,.sl 1 (Al A)),(38,.int .i64 (A.length:Nat)),(39,.int .i64 (i:Nat)),(13,.int .i64 (e:Nat))]) (fun _=>M.set b0 ⟨72,12,[.agg (bools (C4 N ((A.map (Ad es)).take (i+1))))]⟩) (fun _=>True) ?_ ?_
   ·refine AW.rd2 9 11 [0,1,2,3,4,5,6,7,8,9,10,11,12,13] [0,1,2,3,4,5,6,7,8,10,11,9,12,13] C8 ?_ ?_
    ·simp[hel,Cj,q1,q2,p0,ha8,hb8,ha8',hb8',ha8'',hb8''];rw[G8 _ ha8 hall,G8 _ hb8 (by simp[hall]),halp]
    ·simp[hel,Cj,q1,q2,p0,ha8,hb8,ha8',hb8',ha8'',hb8''];rw[G8 _ ha8 hall,G8 _ hb8 (by simp[hall]),halp]
   rintro _ _;have g5:=g2.set (b:=b0) ⟨72,12,[.agg (bools (C4 N ((A.map (Ad es)).take (i+1))))]⟩ (.inl (by rw[Xj g3];simp));rw[Qci g3]at g5;generalize hal2:C4 N ((A.map (Ad es)).take (i+1))=al2 at *;generalize M.set b0 ⟨72,12,[.agg (bools al2)]⟩=M2 at g5 ⊢;(repeat refine AW.seq_k fun K hK=>?_);refine AW.rg ?_;simp;try (refine hK _ rfl ?_;clear hK K)
   refine Ac.hand (A5 bg bf bc bs) (fun _ _ h=>h) (hcle _ fl bs cl g5.gam) ?_;rintro _ g' ⟨rfl,fl',bs',cl',hG'⟩ hnew;have g6:=g5.back hG' (fun b h=>(hnew b h).imp id (·.1));generalize M2.back (A5 bg bf bc bs) g'=M3 at g6 ⊢;generalize Gk N (A.map (Ad es)) (Ad es e)=c at *;simp;refine Ah.intro fun b4 hb4=>?_;refine hK _ rfl ?_;clear hK K;refine AW.turn [(0,.int .i64 (N:Nat)),(1,.sl 6 (D0 es)),(7,.ptr bg 3 0 0),(8,.sl 1 (Al A)),(10,.ptr b0 12 0 0),(9,Mi o W),(37,.sl 1 (Al A)),(38,.int .i64 (A.length:Nat)),(39,.int .i64 (i:Nat)),(14,.rptr [.sl 1 (Al c)])] M3 (Bo.drop hb4 (g6.ones Qf5))
    (by simp;exact .ptr b4 1 0 0 ⟨25,1,[.sl 1 (Al c)]⟩ (.sl 1 (Al c)) (Aa.set_same _ _ _) hb4 rfl rfl) ?_
   (repeat refine AW.seq_k fun K hK=>?_);refine AW.rg ?_;simp;try (refine hK _ rfl ?_;clear hK K)
   refine Ac.look [.sl 1 (Dk W),.fn 55 [.rptr [.sl 1 (Al c)]]] ⟨Rc g4 fun b hb=>⟨g6.ext b _ (by rw[hb];exact Ic),rfl⟩,.same _,trivial⟩ (P0 W c (by omega) (fun x hx=>by have:=hWm x hx;omega) (by omega)) rfl ?_;simp;try (refine hK _ rfl ?_;clear hK K)
   unfold Lo at hfo;by_cases hcW:c∈W
   ·rw[if_pos hcW]at hfo;refine AW.no ?_ (by simp[hcW]);refine AW.skip ?_;try simp
    try (refine hK _ rfl ?_;clear hK K)
    (repeat refine AW.seq_k fun K hK=>?_);refine AW.rg ?_;simp[-Int.natCast_add,w1];try (refine hK _ rfl ?_;clear hK K)
    exact⟨⟨M3,fl',bs',cl'⟩,o,i+1,⟨by omega,by rw[hfo,hal2];exact g6,g3,by rw[hfo];exact g4⟩,by omega,rfl,by rw[hfo];exact⟨rfl,rfl⟩⟩
   ·rw[if_neg hcW]at hfo;refine AW.yes ?_ (by simp[hcW]);cases o with
    |none =>
     have hW0:=g4 rfl;subst hW0;simp only[Mi];(repeat refine AW.seq_k fun K hK=>?_);refine AW.rgR [64] ?_;simp;try (refine hK _ rfl ?_;clear hK K)
     refine⟨by unfold maxLen;omega,Ah.intro fun b6 h6=>?_⟩;have hb60:b6≠b0:=fun e=>by
      have:=g6.ext b0 _ (Xj g3);rw[←e]at this;simp only at this;rw[h6]at this;cases this
     have g7:=g6.set (b:=b6) ⟨25,1,Dk [c]⟩ (.inr h6);rw[Ul]at g7;(repeat refine AW.seq_k fun K hK=>?_);refine AW.rg ?_;simp[-Int.natCast_add,w1];try (refine hK _ rfl ?_;clear hK K)
     exact⟨⟨_,fl',bs',cl'⟩,some b6,i+1,⟨by omega,by rw[hfo,hal2];exact g7,fun b hb=>by cases hb;exact hb60,by simp⟩,by omega,rfl,by rw[hfo];exact⟨rfl,rfl⟩⟩
    |some b1 =>
     have hb1:=g3 b1 rfl;have p1:M3 b1=some ⟨25,1,Dk W⟩:=g6.ext b1 _ Ic;simp only[Mi];(repeat refine AW.seq_k fun K hK=>?_);refine AW.rgR [64] ?_;simp[p1];try (refine hK _ rfl ?_;clear hK K)
     refine⟨by omega,by unfold maxLen;omega,Ah.intro fun b6 h6=>?_⟩;have hb60:b6≠b0:=fun e=>by
      have:=g6.ext b0 _ (Xj g3);rw[←e]at this;simp only at this;rw[Aa.del_other _ (by rw[e];exact Ne.symm hb1),this]at h6;cases h6
     have g7:=(g6.del (b:=b1) (by rw[Ic];simp)).set (b:=b6) ⟨25,1,Dk (W++[c])⟩ (.inr h6);rw[T9 hb1]at g7;rw[Jp];(repeat refine AW.seq_k fun K hK=>?_);refine AW.rg ?_;simp[-Int.natCast_add,w1];try (refine hK _ rfl ?_;clear hK K)
     exact⟨⟨_,fl',bs',cl'⟩,some b6,i+1,⟨by omega,by rw[hfo,hal2];exact g7,fun b hb=>by cases hb;exact hb60,by simp⟩,by omega,rfl,by rw[hfo];exact⟨by simp[Mi],rfl⟩⟩
  ·refine AW.exit ?_;try simp
   have:i=A.length:=by omega
   subst this;rw[List.take_of_length_le (by simp)]at g2;exact⟨_,o,⟨g2,g3,g4⟩,rfl,rfl⟩
 clear hM X1 hG hb0;rintro⟨⟨M,fl,bs,cl⟩,o⟩ ⟨g2,g3,g4⟩;simp only at g2 g3 g4 ⊢;have hr0:rC N (A.map (Ad es)) A.length 0=fC N (A.map (Ad es)) A.length:=by simp[rC]
 have hrN:rC N (A.map (Ad es)) A.length N=Hj N (A.map (Ad es)):=by unfold rC fC Hj;rw[List.take_of_length_le (by simp)]
 rw[←hr0]at g2 g4 ⊢;refine AW.seq_ex (ι:=Aa × Option Nat) (fun z=>[(9,Mi z.2 (Hj N (A.map (Ad es))))]) (fun z=>z.1)
  (fun z=>Hd N bg bf bc es A (P6 b0 (C4 N (A.map (Ad es))) z.2 (Hj N (A.map (Ad es)))) ⟨z.1,fl,bs,cl⟩∧(z.2=none→Hj N (A.map (Ad es))=[])) ?_ ?_
 ·(repeat refine AW.seq_k fun K hK=>?_);refine AW.rg ?_;simp;try (refine hK _ rfl ?_;clear hK K)
  refine AW.block (AW.loopS (ι:=Aa × Option Nat × Nat) (fun z=>[(0,.int .i64 (N:Nat)),(1,.sl 6 (D0 es)),(7,.ptr bg 3 0 0),(8,.sl 1 (Al A)),(10,.ptr b0 12 0 0),(9,Mi z.2.1 (rC N (A.map (Ad es)) A.length z.2.2)),(67,.int .i64 (N:Nat)),(68,.int .i64 (z.2.2:Nat))]) (fun z=>z.1)
   (fun z=>z.2.2≤N∧Hd N bg bf bc es A (P6 b0 (C4 N (A.map (Ad es))) z.2.1 (rC N (A.map (Ad es)) A.length z.2.2)) ⟨z.1,fl,bs,cl⟩∧(∀b,z.2.1=some b→b≠b0)∧(z.2.1=none→rC N (A.map (Ad es)) A.length z.2.2=[]))
   (fun z=>N-z.2.2) (M,o,0) ⟨by simp,g2,g3,g4⟩ rfl (by simp) ?_)
  clear g2 g3 g4;rintro⟨M,o,i⟩ ⟨g1,g2,g3,g4⟩;simp only at g1 g2 g3 g4;(repeat refine AW.seq_k fun K hK=>?_);refine AW.rg ?_;simp;try (refine hK _ rfl ?_;clear hK K)
  (repeat refine AW.seq ?_);refine AW.cs (fun hi=>?_) (fun hi=>?_) rfl<;>(try simp at hi)
  ·refine AW.skip ?_;try simp
   try (refine hK _ rfl ?_;clear hK K)
   have w1:=Aq (i+1) (by omega);have hfo:=Qkf N (A.map (Ad es)) A.length i;have hWl:=Qno N (A.map (Ad es)) A.length i;generalize rC N (A.map (Ad es)) A.length i=W at *;have p0:M b0=some ⟨72,12,[.agg (bools (C4 N (A.map (Ad es))))]⟩:=g2.ext b0 _ (Xj g3);have hi12:i<12:=by omega
   have hi11:i≤11:=by omega
   have hi12':(i:Int)<12:=by omega
   have hal:∀h:i<(C4 N (A.map (Ad es))).length,(C4 N (A.map (Ad es)))[i]=Bi (A.map (Ad es)) i:=fun h=>by rw[L7];simp[hi]
   (repeat refine AW.seq ?_);refine AW.block ?_;(repeat refine AW.seq_k fun K hK=>?_);refine AW.rg ?_;simp;try (refine hK _ rfl ?_;clear hK K)
   (repeat refine AW.seq_k fun K hK=>?_);refine AW.rg ?_;simp[p0,hi12,hi11,hi12',hal];try (refine hK _ rfl ?_;clear hK K)
   cases hab:Bi (A.map (Ad es)) i with
   |false =>
    rw[hab]at hfo;simp at hfo;refine AW.no ?_ rfl;refine AW.skip ?_;try simp
    try (refine hK _ rfl ?_;clear hK K)
    (repeat refine AW.seq_k fun K hK=>?_);refine AW.rg ?_;simp[-Int.natCast_add,w1];try (refine hK _ rfl ?_;clear hK K)
    exact⟨M,o,i+1,⟨by omega,by rw[hfo];exact g2,g3,by rw[hfo];exact g4⟩,by omega,rfl,by rw[hfo];exact⟨rfl,rfl⟩⟩
   |true =>
    rw[hab]at hfo;simp at hfo;refine AW.yes ?_ rfl;have e77:[AV.sl 1 [AV.int .i64 (i:Nat)]]=Dk [[i]]:=rfl;cases o with
    |none =>
     have hW0:=g4 rfl;subst hW0;simp only[Mi];(repeat refine AW.seq_k fun K hK=>?_);refine AW.rgR [76,77] ?_;simp;refine⟨by unfold maxLen;omega,Ah.intro fun b6 h6=>?_⟩;have hb60:b6≠b0:=fun e=>by rw[e,p0]at h6;cases h6
     have g7:=g2.set (b:=b6) ⟨25,1,Dk [[i]]⟩ (.inr h6);rw[Ul]at g7;(repeat refine AW.seq_k fun K hK=>?_);refine AW.rg ?_;simp[-Int.natCast_add,w1];try (refine hK _ rfl ?_;clear hK K)
     exact⟨_,some b6,i+1,⟨by omega,by rw[hfo];exact g7,fun b hb=>by cases hb;exact hb60,by simp⟩,by omega,rfl,by rw[hfo];exact⟨rfl,rfl⟩⟩
    |some b1 =>
     have hb1:=g3 b1 rfl;have p1:M b1=some ⟨25,1,Dk W⟩:=g2.ext b1 _ Ic;simp only[Mi];(repeat refine AW.seq_k fun K hK=>?_);refine AW.rgR [76,77] ?_;simp[p1];refine⟨by omega,by unfold maxLen;omega,Ah.intro fun b6 h6=>?_⟩;have hb60:b6≠b0:=fun e=>by rw[e,Aa.del_other _ (Ne.symm hb1),p0]at h6;cases h6
     have g7:=(g2.del (b:=b1) (by rw[Ic];simp)).set (b:=b6) ⟨25,1,Dk (W++[[i]])⟩ (.inr h6);rw[T9 hb1]at g7;rw[show AV.sl 1 [AV.int .i64 (i:Nat)]=.sl 1 (Al [i]) from rfl,Jp];(repeat refine AW.seq_k fun K hK=>?_);refine AW.rg ?_;simp[-Int.natCast_add,w1];try (refine hK _ rfl ?_;clear hK K)
     exact⟨_,some b6,i+1,⟨by omega,by rw[hfo];exact g7,fun b hb=>by cases hb;exact hb60,by simp⟩,by omega,rfl,by rw[hfo];exact⟨by simp[Mi],rfl⟩⟩
  ·refine AW.exit ?_;try simp
   have:i=N:=by omega
   subst this;rw[hrN]at g2 g4 ⊢;exact⟨M,o,⟨g2,g4⟩,rfl,rfl⟩
 clear g2 g3 g4;rintro⟨M,o⟩ ⟨g2,g4⟩;simp only at g2 g4 ⊢;have hrc:=Qgw hL hsp (by omega);have hrl:∀x∈Hj N (A.map (Ad es)),x.length<2^40:=fun x hx=>by
  unfold Hj at hx;rcases List.mem_append.1 hx with hx | hx
  ·have:=Qg7 N (A.map (Ad es)) (A.map (Ad es)).length x (by unfold fC;rw[List.take_length];exact hx);omega
  ·obtain⟨j,_,rfl⟩:=List.mem_map.1 hx;simp[D4]
 have hfin:=fun W' h1 h2=>Xg (W:=W') hL hsp h1 h2;have hne:=Qjt (n:=N) (L:=A.map (Ad es)) (by omega);cases o with
 |none=>exact absurd (g4 rfl) hne
 |some b =>
  have p1:M b=some ⟨25,1,Dk (Hj N (A.map (Ad es)))⟩:=g2.ext b _ Ic;have hst:=Qdq b (Hj N (A.map (Ad es))) hrc hrl;simp only[Mi];generalize Hj N (A.map (Ad es))=W at *;(repeat refine AW.seq_k fun K hK=>?_);refine AW.rg ?_;simp;try (refine hK _ rfl ?_;clear hK K)
  refine Ac.hand (R:=fun v m=>∃W',W'.Perm W∧Fk W'∧v=.tup []∧m=Aa.emp.set b ⟨25,1,Dk W'⟩) [b] (fun _ _ h=>h) (by rw[Q6 p1];exact hst) ?_;rintro _ g ⟨W',p1,p2,rfl,rfl⟩ _;rw[Wj];have hW':=hfin W' p1 p2;simp;try (refine hK _ rfl ?_;clear hK K)
  (repeat refine AW.seq_k fun K hK=>?_);refine AW.rg ?_;simp;try (refine hK _ rfl ?_;clear hK K)
  have hl2:W'.length=W.length:=p1.length_eq;have hv:Bv (M.set b ⟨25,1,Dk W'⟩) Aa.emp (.osl b 1 0 W.length) (.sl 1 (Dk W')):=by
   rw[←hl2];exact Rc (o:=some b) (W:=W') (by simp) (fun b' h=>by cases h;exact⟨Aa.set_same _ _ _,rfl⟩)
  exact AW.ret (Ag [.sl 1 (Dk W'),.int .i64 0] rfl ⟨hv,.same _,trivial⟩ ⟨by rw[e2,e1,←hW'];rfl,rfl⟩)
end Go.Av
end
section
namespace Go.Av
open Go.Proofs Go.Lam
theorem Zv (es:List RE) (n:Nat) (hn:n≤12) (hes:I2 n es) (hl:es.length≤40) (some_:List Nat) (hsome:∀i∈some_,i<es.length) (hsl:some_.length≤100) (s:Nat) (hs:s<2^n) :
  Aj Tryz.prog 59 [A3 es,.sl 1 (Al some_),.int .i64 (s:Nat)] Aa.emp fun v m=>v=.bool (G6 n (some_.map (Ad es)) s)∧m=Aa.emp:=by
 have hsz:=T2 n s hn hs;have hwi:=Ph es n hn hes hl some_ hsome hsl s hs;have hkn:=Ux n (A2 s);have hp:G6 n (some_.map (Ad es)) s=(decide (2≤sz n (A2 s))&&decide (spn (some_.map (Ad es)) (A2 s)+3=2*sz n (A2 s))):=rfl;generalize G6 n (some_.map (Ad es)) s=T at *;generalize sz n (A2 s)=k at *;generalize spn (some_.map (Ad es)) (A2 s)=q at *;have w2:=Aq (2*k) (by omega);have w3:IntKind.i64.wrap (((2*k:Nat):Int)-3)=((2*k:Nat):Int)-3:=Md (by omega);refine Ae Tryz.func59 rfl rfl 22 rfl (Nat.le_of_ble_eq_true rfl) ?_
 unfold A3 at hwi ⊢;(repeat refine AW.seq_k fun K hK=>?_);refine AW.rg ?_;simp[Ak];try (refine hK _ rfl ?_;clear hK K)
 (repeat refine AW.seq_k fun K hK=>?_);refine AW.rg ?_;simp;try (refine hK _ rfl ?_;clear hK K)
 refine Ac.val hsz ?_;simp;try (refine hK _ rfl ?_;clear hK K)
 by_cases hk:2≤k
 ·(repeat refine AW.seq_k fun K hK=>?_);refine AW.rg ?_;simp[hk];try (refine hK _ rfl ?_;clear hK K)
  refine Ac.val hwi ?_;simp[-Int.natCast_mul,w2,w3];try (refine hK _ rfl ?_;clear hK K)
  refine AW.ret (Af rfl _ (.same _) ⟨?_,rfl⟩);rw[hp,oneOrTup];simp[-Int.natCast_mul,hk];omega
 ·(repeat refine AW.seq_k fun K hK=>?_);refine AW.rg ?_;simp[hk];try (refine hK _ rfl ?_;clear hK K)
  refine AW.ret (Af rfl _ (.same _) ⟨?_,rfl⟩);rw[hp,oneOrTup];simp[hk]
theorem Qdd {m v k:Nat} (h:m<2^v) (hk:v≤k):(List.range k).filter (A2 m)=(List.range v).filter (A2 m):=by
 induction k with
 |zero=>rw[show v=0 by omega]
 |succ k ih =>
  rcases Nat.lt_or_ge k v with h1|h1
  ·rw[show v=k+1 by omega]
  ·rw[List.range_succ,List.filter_append,ih h1];have:A2 m k=false:=by
    cases hc:A2 m k with
    |false=>rfl
    |true=>have:=Qcn h hc;omega
   simp[this]
def bI (m v:Nat):List Nat:=(List.range v).filter (A2 m)
theorem Qiy (m v:Nat):bI m (v+1)=bI m v++if m / 2^v % 2=1 then [v] else []:=by
 unfold bI;rw[List.range_succ,List.filter_append];have:A2 m v=decide (m / 2^v % 2=1):=Nat.testBit_eq_decide_div_mod_eq;by_cases h:m / 2^v % 2=1<;>simp[this,h]
theorem Qof (m v:Nat):(bI m v).length≤v:=by
 have:=List.length_filter_le (A2 m) (List.range v);simpa[bI]using this
theorem Qdz (n m:Nat) (hn:n≤12) (hm:m<2^n):Aj Tryz.prog 61 [.int .i64 (m:Nat)] Aa.emp fun v M=>v=.sl 1 (Al (Dy n m))∧M=Aa.emp:=by
 have h12:2^n≤4096:=Nat.pow_le_pow_right (n:=2) (by omega) hn;refine Ae Tryz.func61 rfl rfl 19 rfl (Nat.le_of_ble_eq_true rfl) ?_;(repeat refine AW.seq_k fun K hK=>?_);refine AW.rg ?_;simp[Ak];try (refine hK _ rfl ?_;clear hK K)
 (repeat refine AW.seq_k fun K hK=>?_);refine AW.rg ?_;simp;try (refine hK _ rfl ?_;clear hK K)
 refine AW.seq_ex (ι:=Option Nat) (fun o=>[(3,Lm o (Dy n m))]) (fun o=>S4 o (Dy n m) Aa.emp) (fun o=>o=none→Dy n m=[]) ?_ ?_
 ·(repeat refine AW.seq_k fun K hK=>?_);refine AW.rg ?_;simp;try (refine hK _ rfl ?_;clear hK K)
  refine AW.block (AW.loopS (ι:=Option Nat × Nat × Nat) (fun z=>[(0,.int .i64 (z.2.2:Nat)),(3,Lm z.1 (bI m z.2.1)),(4,.int .i64 (z.2.1:Nat))]) (fun z=>S4 z.1 (bI m z.2.1) Aa.emp)
   (fun z=>z.2.1≤n∧z.2.2=m / 2^z.2.1∧(z.1=none→bI m z.2.1=[])) (fun z=>n-z.2.1) (none,0,m) ⟨by simp,by simp,by simp[bI]⟩ rfl (by simp[Lm]) ?_)
  rintro⟨o,i,s⟩ ⟨g1,g2,g3⟩;simp only at g1 g2 g3;have hsm:s≤m:=by rw[g2];exact Nat.div_le_self _ _
  (repeat refine AW.seq_k fun K hK=>?_);refine AW.rg ?_;simp;try (refine hK _ rfl ?_;clear hK K)
  (repeat refine AW.seq ?_);refine AW.cs (fun hi=>?_) (fun hi=>?_) rfl<;>(try simp at hi)
  ·refine AW.skip ?_;try simp
   try (refine hK _ rfl ?_;clear hK K)
   have hin:i<n:=by
    rcases Nat.lt_or_ge i n with h|h
    ·exact h
    ·have:m / 2^i=0:=Nat.div_eq_of_lt (Nat.lt_of_lt_of_le hm (Nat.pow_le_pow_right (by omega) h));omega
   have w1:=Aq (i+1) (by omega);have w2:=Aq (s / 2) (by omega);have hsc:=Qiy m i;have hbl:=Qof m i;have g4:s / 2=m / 2^(i+1):=by rw[g2,Nat.pow_succ,Nat.div_div_eq_div_mul]
   rw[←g2]at hsc;generalize bI m i=l at *;by_cases hod:s % 2=1
   ·rw[if_pos hod]at hsc;(repeat refine AW.seq ?_);refine AW.block ?_;(repeat refine AW.seq_k fun K hK=>?_);refine AW.rg ?_;simp[hod];try (refine hK _ rfl ?_;clear hK K)
    refine AW.yes ?_ rfl;cases o with
    |none =>
     have hl:=g3 rfl;subst hl;simp only[Lm,S4];(repeat refine AW.seq_k fun K hK=>?_);refine AW.rgR [14] ?_;simp;try (refine hK _ rfl ?_;clear hK K)
     refine⟨by unfold maxLen;omega,Ah.intro fun b6 _=>?_⟩;refine hK _ rfl ?_;clear hK K;(repeat refine AW.seq_k fun K hK=>?_);refine AW.rg ?_;simp[-Int.natCast_ediv,w2];try (refine hK _ rfl ?_;clear hK K)
     (repeat refine AW.seq_k fun K hK=>?_);refine AW.rg ?_;simp[-Int.natCast_add,-Int.natCast_ediv,w1];try (refine hK _ rfl ?_;clear hK K)
     exact⟨some b6,i+1,s / 2,⟨by omega,g4,by simp⟩,by omega,by rw[hsc];rfl,by rw[hsc];exact⟨rfl,rfl,rfl⟩⟩
    |some b0 =>
     simp only[Lm,S4];(repeat refine AW.seq_k fun K hK=>?_);refine AW.rgR [14] ?_;simp;try (refine hK _ rfl ?_;clear hK K)
     refine⟨by omega,by unfold maxLen;omega,Ah.intro fun b6 _=>?_⟩;refine hK _ rfl ?_;clear hK K;(repeat refine AW.seq_k fun K hK=>?_);refine AW.rg ?_;simp[-Int.natCast_ediv,w2];try (refine hK _ rfl ?_;clear hK K)
     (repeat refine AW.seq_k fun K hK=>?_);refine AW.rg ?_;simp[-Int.natCast_add,-Int.natCast_ediv,w1];try (refine hK _ rfl ?_;clear hK K)
     exact⟨some b6,i+1,s / 2,⟨by omega,g4,by simp⟩,by omega,by rw[hsc,←Cv];rfl,by rw[hsc];simp[Lm]⟩
   ·rw[if_neg hod,List.append_nil]at hsc;(repeat refine AW.seq ?_);refine AW.block ?_;(repeat refine AW.seq_k fun K hK=>?_);refine AW.rg ?_;simp[-Int.natCast_emod,hod];try (refine hK _ rfl ?_;clear hK K)
    refine AW.no ?_ rfl;refine AW.skip ?_;try simp[-Int.natCast_emod]
    try (refine hK _ rfl ?_;clear hK K)
    (repeat refine AW.seq_k fun K hK=>?_);refine AW.rg ?_;simp[-Int.natCast_ediv,-Int.natCast_emod,w2];try (refine hK _ rfl ?_;clear hK K)
    (repeat refine AW.seq_k fun K hK=>?_);refine AW.rg ?_;simp[-Int.natCast_add,-Int.natCast_emod,-Int.natCast_ediv,w1];try (refine hK _ rfl ?_;clear hK K)
    exact⟨o,i+1,s / 2,⟨by omega,g4,by rw[hsc];exact g3⟩,by omega,by rw[hsc],by rw[hsc];exact⟨rfl,rfl,rfl⟩⟩
  ·refine AW.exit ?_;try simp
   have hs0:m / 2^i=0:=by omega
   have hlt:m<2^i:=by
    rcases Nat.lt_or_ge m (2^i)with h|h
    ·exact h
    ·have:=Nat.div_pos h (Nat.pow_pos (by omega:0<2));omega
   have e:bI m i=Dy n m:=(Qdd hlt g1).symm;rw[e]at g3 ⊢;exact⟨o,g3,rfl,rfl⟩
 rintro o ho;(repeat refine AW.seq_k fun K hK=>?_);refine AW.rg ?_;simp;try (refine hK _ rfl ?_;clear hK K)
 have hv:=Ra (M:=S4 o (Dy n m) Aa.emp) (M':=Aa.emp) ho fun b h=>by rw[h];exact⟨Aa.set_same _ _ _,rfl⟩
 exact AW.ret (Ag [.sl 1 (Al (Dy n m))] rfl ⟨hv,trivial⟩ ⟨rfl,rfl⟩)
theorem Vi (x y:List Nat) (hx:x.length<2^40) (hy:y.length<2^40):Aj Tryz.prog 95 [.sl 1 (Al x),.sl 1 (Al y)] Aa.emp fun v m=>v=.bool (A9 x y)∧m=Aa.emp:=by
 refine Ae Tryz.func95 rfl rfl 41 rfl (Nat.le_of_ble_eq_true rfl) ?_;(repeat refine AW.seq_k fun K hK=>?_);refine AW.rg ?_;simp[Ak];try (refine hK _ rfl ?_;clear hK K)
 refine AW.seq_ex (ι:=Unit) (fun _=>[(0,.sl 1 (Al x)),(1,.sl 1 (Al y))]) (fun _=>Aa.emp) (fun _=>A9 x y=decide (x.length<y.length)) ?_ ?_
 ·(repeat refine AW.seq_k fun K hK=>?_);refine AW.rg ?_;simp;try (refine hK _ rfl ?_;clear hK K)
  refine AW.block (AW.loopS (ι:=Nat) (fun i=>[(0,.sl 1 (Al x)),(1,.sl 1 (Al y)),(5,.int .i64 (i:Nat))]) (fun i=>Aa.emp)
   (fun i=>i≤x.length∧i≤y.length∧A9 x y=A9 (x.drop i) (y.drop i)) (fun i=>x.length-i) 0 ⟨by simp,by simp,by simp⟩ rfl (by simp) ?_)
  rintro i ⟨g1,g2,g3⟩;by_cases hi:i<x.length
  ·by_cases hi2:i<y.length
   ·(repeat refine AW.seq_k fun K hK=>?_);refine AW.rg ?_;simp[hi,hi2];try (refine hK _ rfl ?_;clear hK K)
    refine AW.yes ?_ rfl;refine AW.skip ?_;try simp
    try (refine hK _ rfl ?_;clear hK K)
    have w1:=Aq (i+1) (by omega);rw[List.drop_eq_getElem_cons hi,List.drop_eq_getElem_cons hi2]at g3;obtain⟨a,ha⟩:∃a,x[i]=a:=⟨_,rfl⟩;obtain⟨b,hb⟩:∃b,y[i]=b:=⟨_,rfl⟩;rw[ha,hb]at g3;(repeat refine AW.seq ?_);refine AW.block ?_;by_cases hab:a=b
    ·have g3':A9 x y=A9 (x.drop (i+1)) (y.drop (i+1)):=by rw[g3,A9,if_pos hab]
     (repeat refine AW.seq_k fun K hK=>?_);refine AW.rd [0,1,2,3,4,5,6,7,8] C8 ?_;simp[hi,hi2,ha,hb,hab];try (refine hK _ rfl ?_;clear hK K)
     refine AW.no ?_ rfl;refine AW.skip ?_;try simp
     try (refine hK _ rfl ?_;clear hK K)
     (repeat refine AW.seq_k fun K hK=>?_);refine AW.rg ?_;simp[-Int.natCast_add,w1];try (refine hK _ rfl ?_;clear hK K)
     exact⟨⟨by omega,by omega,g3'⟩,by omega⟩
    ·have g3':A9 x y=decide (a<b):=by rw[g3,A9,if_neg hab]
     (repeat refine AW.seq_k fun K hK=>?_);refine AW.rd [0,1,2,3,4,5,6,7,8] C8 ?_;simp[hi,hi2,ha,hb,hab];try (refine hK _ rfl ?_;clear hK K)
     refine AW.yes ?_ rfl;(repeat refine AW.seq_k fun K hK=>?_);refine AW.rd [0,1,2,3,4,5,6,7,8,9] C8 ?_;simp[hi,hi2,ha,hb];try (refine hK _ rfl ?_;clear hK K)
     exact AW.ret (Af rfl _ (.same _) ⟨by rw[g3'];rfl,rfl⟩)
   ·(repeat refine AW.seq_k fun K hK=>?_);refine AW.rg ?_;simp[hi,hi2];try (refine hK _ rfl ?_;clear hK K)
    refine AW.no ?_ rfl;refine AW.exit ?_;try simp
    rw[List.drop_eq_getElem_cons hi,List.drop_of_length_le (by omega:y.length≤i)]at g3;rw[g3,A9]
    symm;simp;omega
  ·(repeat refine AW.seq_k fun K hK=>?_);refine AW.rg ?_;simp[hi];try (refine hK _ rfl ?_;clear hK K)
   refine AW.no ?_ rfl;refine AW.exit ?_;try simp
   rw[List.drop_of_length_le (by omega:x.length≤i)]at g3;rw[g3];rcases Nat.lt_or_ge i y.length with h | h
   ·rw[List.drop_eq_getElem_cons h,A9];symm;simp;omega
   ·rw[List.drop_of_length_le h,A9];symm;simp;omega
 ·rintro _ h;(repeat refine AW.seq_k fun K hK=>?_);refine AW.rg ?_;simp;try (refine hK _ rfl ?_;clear hK K)
  exact AW.ret (Af rfl _ (.same _) ⟨by rw[h];rfl,rfl⟩)
end Go.Av
end
section
namespace Go.Av
open Go.Proofs Go.Lam
def llM (o:Option Nat) (W:List (List Nat)):Aa:=match o with
 |none=>Aa.emp
 |some b=>Aa.emp.set b ⟨25,1,Dk W⟩
theorem Qg9 {o:Option Nat} {W:List (List Nat)} (h:o=none→W=[]):Bv (llM o W) Aa.emp (Mi o W) (.sl 1 (Dk W)) :=
 Rc h fun b hb=>by rw[hb];exact⟨Aa.set_same _ _ _,rfl⟩
theorem Qg8 {x y:List Nat}:∀{W:List (List Nat)} {i:Nat} (hi:i<W.length),D5 W x=W.take i++D5 (W.drop i) x→W[i]=y→A9 x y=false→D5 W x=W.take (i+1)++D5 (W.drop (i+1)) x:=fun {W i} hi h e hb=>by
 rw[h,List.drop_eq_getElem_cons hi,D5,e,if_neg (by simp[hb]),List.take_add_one,List.getElem?_eq_getElem hi,e];simp
theorem Qgo {x y:List Nat} {W:List (List Nat)} {i:Nat} (hi:i<W.length) (h:D5 W x=W.take i++D5 (W.drop i) x) (e:W[i]=y) (hb:A9 x y=true):D5 W x=W.take i++[x]++[y]++W.drop (i+1):=by
 rw[h,List.drop_eq_getElem_cons hi,D5,e,if_pos hb];simp
def Sq (W:List (List Nat)) (x:List Nat) (i:Nat) (p:Bool) (out:List (List Nat)):Prop:=if p=true then D5 W x=out++W.drop i else out=W.take i∧D5 W x=W.take i++D5 (W.drop i) x
structure ISt where
 i:Nat
 o:Option Nat
 p:Bool
 out:List (List Nat)
theorem Oy (W:List (List Nat)) (x:List Nat) (hl:W.length≤5000) (hw:∀y∈W,y.length<2^40) (hx:x.length<2^40):Aj Tryz.prog 60 [.sl 1 (Dk W),.sl 1 (Al x)] Aa.emp fun v m=>v=.sl 1 (Dk (D5 W x))∧m=Aa.emp:=by
 refine Ae Tryz.func60 rfl rfl 42 rfl (Nat.le_of_ble_eq_true rfl) ?_;(repeat refine AW.seq_k fun K hK=>?_);refine AW.rg ?_;simp[Ak];try (refine hK _ rfl ?_;clear hK K)
 (repeat refine AW.seq_k fun K hK=>?_);refine AW.rg ?_;simp;try (refine hK _ rfl ?_;clear hK K)
 (repeat refine AW.seq_k fun K hK=>?_);refine AW.rg ?_;simp;try (refine hK _ rfl ?_;clear hK K)
 refine AW.seq_ex (ι:=ISt) (fun z=>[(0,.sl 1 (Dk W)),(1,.sl 1 (Al x)),(5,Mi z.o z.out),(6,.bool z.p)]) (fun z=>llM z.o z.out) (fun z=>Sq W x W.length z.p z.out∧(z.o=none→z.out=[])∧z.out.length≤5001) ?_ ?_
 ·(repeat refine AW.seq_k fun K hK=>?_);refine AW.rg ?_;simp;try (refine hK _ rfl ?_;clear hK K)
  refine AW.block (AW.loopS (ι:=ISt) (fun z=>[(0,.sl 1 (Dk W)),(1,.sl 1 (Al x)),(5,Mi z.o z.out),(6,.bool z.p),(7,.int .i64 (z.i:Nat))]) (fun z=>llM z.o z.out)
   (fun z=>z.i≤W.length∧Sq W x z.i z.p z.out∧(z.o=none→z.out=[])∧z.out.length≤z.i+1) (fun z=>W.length-z.i) ⟨0,none,false,[]⟩ ⟨by simp,by simp[Sq],by simp,by simp⟩ rfl (by simp[Mi]) ?_)
  rintro⟨i,o,p,out⟩ ⟨g1,g2,g3,g4⟩;simp only at g1 g2 g3 g4;(repeat refine AW.seq_k fun K hK=>?_);refine AW.rg ?_;simp;try (refine hK _ rfl ?_;clear hK K)
  (repeat refine AW.seq ?_);refine AW.cs (fun hi=>?_) (fun hi=>?_) rfl<;>(try simp at hi)
  ·refine AW.skip ?_;try simp
   try (refine hK _ rfl ?_;clear hK K)
   have w1:=Aq (i+1) (by omega);obtain⟨y,hy⟩:∃y,W[i]=y:=⟨_,rfl⟩;have hyl:y.length<2^40:=hw y (hy ▸ List.getElem_mem hi);have hbf:=Vi x y hx hyl;(repeat refine AW.seq ?_);refine AW.block ?_;refine AW.seq_ex (ι:=ISt) (fun z=>[(0,.sl 1 (Dk W)),(1,.sl 1 (Al x)),(5,Mi z.o z.out),(6,.bool z.p),(7,.int .i64 (i:Nat))]) (fun z=>llM z.o z.out) (fun z=>Sq W x (i+1) z.p (z.out++[y])∧(z.o=none→z.out=[])∧z.out.length≤i+1) ?_ ?_
   ·cases p with
    |true =>
     unfold Sq at g2;rw[if_pos rfl,List.drop_eq_getElem_cons hi,hy]at g2;(repeat refine AW.seq_k fun K hK=>?_);refine AW.rg ?_;simp;try (refine hK _ rfl ?_;clear hK K)
     refine AW.no ?_ rfl;refine AW.skip ?_;try simp
     try (refine hK _ rfl ?_;clear hK K)
     refine⟨⟨0,o,true,out⟩,⟨?_,g3,by simp only;omega⟩,rfl,rfl,rfl⟩;unfold Sq;rw[if_pos rfl,g2];simp
    |false =>
     unfold Sq at g2;rw[if_neg (by simp)]at g2;obtain⟨k1,k2⟩:=g2;(repeat refine AW.seq_k fun K hK=>?_);refine AW.rg ?_;simp[hi,hy];try (refine hK _ rfl ?_;clear hK K)
     refine Ac.val hbf ?_;simp;try (refine hK _ rfl ?_;clear hK K)
     cases hb:A9 x y with
     |false =>
      refine AW.no ?_ rfl;refine AW.skip ?_;try simp
      try (refine hK _ rfl ?_;clear hK K)
      refine⟨⟨0,o,false,out⟩,⟨?_,g3,by simp only;omega⟩,rfl,rfl,rfl⟩;unfold Sq;rw[if_neg (by simp)];exact⟨by rw[k1,List.take_add_one,List.getElem?_eq_getElem hi,hy];rfl,Qg8 hi k2 hy hb⟩
     |true =>
      have hput:=Qgo hi k2 hy hb;rw[←k1]at hput;have hol:out.length≤i:=by rw[k1];simp;omega
      refine AW.yes ?_ rfl;cases o with
      |none =>
       have hz:=g3 rfl;subst hz;simp only[Mi,llM];(repeat refine AW.seq_k fun K hK=>?_);refine AW.rgR [26] ?_;simp;try (refine hK _ rfl ?_;clear hK K)
       refine⟨by unfold maxLen;omega,Ah.intro fun b6 _=>?_⟩;refine hK _ rfl ?_;clear hK K;(repeat refine AW.seq_k fun K hK=>?_);refine AW.rg ?_;simp;try (refine hK _ rfl ?_;clear hK K)
       refine⟨⟨0,some b6,true,[x]⟩,⟨?_,by simp,by simp⟩,rfl,rfl,rfl⟩;unfold Sq;rw[if_pos rfl];exact hput
      |some b0 =>
       simp only[Mi,llM];(repeat refine AW.seq_k fun K hK=>?_);refine AW.rgR [26] ?_;simp;try (refine hK _ rfl ?_;clear hK K)
       refine⟨by omega,by unfold maxLen;omega,Ah.intro fun b6 _=>?_⟩;rw[Jp];refine hK _ rfl ?_;clear hK K;(repeat refine AW.seq_k fun K hK=>?_);refine AW.rg ?_;simp;try (refine hK _ rfl ?_;clear hK K)
       refine⟨⟨0,some b6,true,out++[x]⟩,⟨?_,by simp,by simp;omega⟩,rfl,by simp[Mi],rfl⟩;unfold Sq;rw[if_pos rfl];exact hput
   clear g2 g3 g4;rintro⟨_,o,p,out⟩ ⟨g2,g3,g4⟩;simp only at g2 g3 g4 ⊢;cases o with
   |none =>
    have hz:=g3 rfl;subst hz;simp only[Mi,llM];(repeat refine AW.seq_k fun K hK=>?_);refine AW.rgR [33] ?_;simp[hi,hy];try (refine hK _ rfl ?_;clear hK K)
    refine⟨by unfold maxLen;omega,Ah.intro fun b6 _=>?_⟩;(repeat refine AW.seq_k fun K hK=>?_);refine AW.rg ?_;simp[-Int.natCast_add,w1];try (refine hK _ rfl ?_;clear hK K)
    exact⟨⟨i+1,some b6,p,[y]⟩,⟨by simp only;omega,g2,by simp,by simp⟩,by simp only;omega,rfl,rfl,rfl,rfl⟩
   |some b0 =>
    simp only[Mi,llM];(repeat refine AW.seq_k fun K hK=>?_);refine AW.rgR [33] ?_;simp[hi,hy];try (refine hK _ rfl ?_;clear hK K)
    refine⟨by omega,by unfold maxLen;omega,Ah.intro fun b6 _=>?_⟩;rw[Jp];(repeat refine AW.seq_k fun K hK=>?_);refine AW.rg ?_;simp[-Int.natCast_add,w1];try (refine hK _ rfl ?_;clear hK K)
    exact⟨⟨i+1,some b6,p,out++[y]⟩,⟨by simp only;omega,g2,by simp,by simp;omega⟩,by simp only;omega,rfl,by simp[Mi],rfl,rfl⟩
  ·refine AW.exit ?_;try simp
   have:i=W.length:=by omega
   subst this;exact⟨⟨0,o,p,out⟩,⟨g2,g3,by simp only;omega⟩,rfl,rfl,rfl⟩
 rintro⟨_,o,p,out⟩ ⟨g2,g3,g4⟩;simp only at g2 g3 g4 ⊢;unfold Sq at g2;refine AW.seq_ex (ι:=Option Nat) (fun o=>[(5,Mi o (D5 W x))]) (fun o=>llM o (D5 W x)) (fun o=>o=none→D5 W x=[]) ?_ ?_
 ·cases p with
  |true =>
   rw[if_pos rfl,List.drop_length,List.append_nil]at g2;(repeat refine AW.seq_k fun K hK=>?_);refine AW.rg ?_;simp;try (refine hK _ rfl ?_;clear hK K)
   refine AW.no ?_ rfl;refine AW.skip ?_;try simp
   try (refine hK _ rfl ?_;clear hK K)
   exact⟨o,by rw[g2];exact g3,by rw[g2],by rw[g2]⟩
  |false =>
   rw[if_neg (by simp),List.take_length,List.drop_length]at g2;obtain⟨k1,k2⟩:=g2;have k3:D5 W x=out++[x]:=by rw[k2,k1];rfl
   (repeat refine AW.seq_k fun K hK=>?_);refine AW.rg ?_;simp;try (refine hK _ rfl ?_;clear hK K)
   refine AW.yes ?_ rfl;cases o with
   |none =>
    have hz:=g3 rfl;rw[hz]at k3;subst hz;simp only[Mi,llM];(repeat refine AW.seq_k fun K hK=>?_);refine AW.rgR [39] ?_;simp;try (refine hK _ rfl ?_;clear hK K)
    refine⟨by unfold maxLen;omega,Ah.intro fun b6 _=>?_⟩;exact⟨some b6,by simp,by rw[k3];rfl,by rw[k3];rfl⟩
   |some b0 =>
    simp only[Mi,llM];(repeat refine AW.seq_k fun K hK=>?_);refine AW.rgR [39] ?_;simp;try (refine hK _ rfl ?_;clear hK K)
    refine⟨by omega,by unfold maxLen;omega,Ah.intro fun b6 _=>?_⟩;rw[Jp];exact⟨some b6,by simp,by rw[k3],by rw[k3];simp⟩
 rintro o ho;(repeat refine AW.seq_k fun K hK=>?_);refine AW.rg ?_;simp;try (refine hK _ rfl ?_;clear hK K)
 exact AW.ret (Ag [.sl 1 (Dk (D5 W x))] rfl ⟨Qg9 ho,trivial⟩ ⟨rfl,rfl⟩)
end Go.Av
end
section
namespace Go.Av
open Go.Proofs Go.Lam
def tI (n:Nat) (L:List Ed) (i:Nat):List Nat:=(List.range i).filter (G6 n L)
theorem Qkb (n:Nat) (L:List Ed) (i:Nat):tI n L (i+1)=tI n L i++if G6 n L i=true then [i] else []:=by
 unfold tI;rw[List.range_succ,List.filter_append];cases h:G6 n L i<;>simp[h]
theorem Qfv (n:Nat) (L:List Ed) (i:Nat):(tI n L i).length≤i:=by
 have:=List.length_filter_le (G6 n L) (List.range i);simpa[tI]using this
def Qgm (T:List Nat) (m:Nat):Bool:=T.all fun k=>k==m || k &&& m != m
def Mo (n:Nat) (T:List Nat) (i:Nat):List (List Nat):=((T.take i).filter (Qgm T)).foldl (fun o m=>D5 o (Dy n m)) []
theorem Qdi (n:Nat) (T:List Nat) (i:Nat) (hi:i<T.length):Mo n T (i+1)=if Qgm T T[i]=true then D5 (Mo n T i) (Dy n T[i]) else Mo n T i:=by
 unfold Mo;rw[List.take_add_one,List.getElem?_eq_getElem hi,List.filter_append];cases h:Qgm T T[i]<;>simp[h,List.foldl_append]
def P4 (L:List Ed) (B:List (List Nat)) (i:Nat):List (List Nat):=((List.range i).filter (Bi L)).foldl (fun o j=>D5 o (D4 j)) B
theorem Qe2 (L:List Ed) (B:List (List Nat)) (i:Nat):P4 L B (i+1)=if Bi L i=true then D5 (P4 L B i) [i] else P4 L B i:=by
 unfold P4;rw[List.range_succ,List.filter_append];cases h:Bi L i<;>simp[h,List.foldl_append,D4]
theorem Wp (x:List Nat):∀W:List (List Nat),(D5 W x).length=W.length+1
 |[]=>rfl
 |y::W=>by
  unfold D5;split
  ·simp
  ·simp[Wp x W]
def Few (W:List (List Nat)) (k:Nat):Prop:=W.length≤k∧∀x∈W,x.length≤12
theorem Few.ins {W:List (List Nat)} {k:Nat} (h:Few W k) {x:List Nat} (hx:x.length≤12):Few (D5 W x) (k+1):=⟨by rw[Wp];have:=h.1;omega,fun y hy=>by
 rcases Jo.1 hy with rfl|hy
 ·exact hx
 ·exact h.2 y hy⟩
theorem Qfu {T:List Nat} (h:T.Nodup) {i j:Nat} (hi:i<T.length) (hj:j<T.length) (e:T[i]=T[j]):i=j:=by
 have:=List.pairwise_iff_getElem.1 h;rcases Nat.lt_trichotomy i j with h1 | h1 | h1
 ·exact absurd e (this i j hi hj h1)
 ·exact h1
 ·exact absurd e.symm (this j i hj hi h1)
theorem Qfp {a b i:Nat}:Ji a b &&& 2^i=0↔a≠i∧b≠i:=by
 constructor
 ·intro h;have h1:(Ji a b &&& 2^i).testBit i=false:=by rw[h];simp
  unfold Ji at h1;simp[Nat.testBit_and,Nat.testBit_or,Nat.testBit_two_pow]at h1;exact h1
 ·rintro⟨h1,h2⟩;refine Nat.eq_of_testBit_eq fun k=>?_;unfold Ji;simp only[Nat.testBit_and,Nat.testBit_or,Nat.testBit_two_pow,Nat.zero_testBit];by_cases hk:i=k
  ·subst hk;simp[h1,h2]
  ·simp[hk]
structure BSt where
 j:Nat
 w:Bool
theorem Qa2 (n:Int) (es:List RE) (hb:LbE es):Aj Tryz.prog 23 [.int .i64 n,A3 es] Aa.emp fun v m=>v=.tup [.sl 1 (Dk (Fp n es)),Bw n es]∧m=Aa.emp:=by
 have hc:=Vs n es hb;refine Ae Tryz.func23 rfl rfl 114 rfl (Nat.le_of_ble_eq_true rfl) ?_;unfold A3 at hc ⊢;(repeat refine AW.seq_k fun K hK=>?_);refine AW.rg ?_;simp[Ak];try (refine hK _ rfl ?_;clear hK K)
 (repeat refine AW.seq_k fun K hK=>?_);refine AW.rg ?_;simp;try (refine hK _ rfl ?_;clear hK K)
 refine Ac.val hc ?_;by_cases hk:C2 n es=true;rotate_left
 ·have e1:Bw n es=.int .i64 1:=by unfold Bw;rw[if_neg hk]
  have e2:Fp n es=[]:=by unfold Fp;rw[if_neg hk]
  simp[e1];try (refine hK _ rfl ?_;clear hK K)
  (repeat refine AW.seq_k fun K hK=>?_);refine AW.rg ?_;simp;try (refine hK _ rfl ?_;clear hK K)
  refine AW.yes ?_ rfl;(repeat refine AW.seq_k fun K hK=>?_);refine AW.rg ?_;simp;try (refine hK _ rfl ?_;clear hK K)
  exact AW.ret (Ag [.sl 1 (Dk []),.int .i64 1] rfl ⟨.nilsl 1,.same _,trivial⟩ ⟨by rw[e2,e1];rfl,rfl⟩)
 have e1:Bw n es=.int .i64 0:=by unfold Bw;rw[if_pos hk]
 have e2:Fp n es=Jg n.toNat ((D1 n es).map (Ad es)):=by unfold Fp;rw[if_pos hk]
 obtain⟨⟨h1,h2,h3⟩,_⟩:=Df hk;have hok:=Hs hk;have hle:=Na hk;have hlt:=fun k=>Ql (n:=n) (es:=es) (k:=k);obtain⟨N,rfl⟩:=Int.eq_ofNat_of_zero_le (show 0≤n by omega);simp only[Int.toNat_natCast]at hok e2;generalize D1 (N:Nat) es=A at *;obtain⟨L,hL⟩:∃L,A.map (Ad es)=L:=⟨_,rfl⟩;have h12:2^N≤4096:=Nat.pow_le_pow_right (n:=2) (by omega) (show N≤12 by omega);have m1:min N IntKind.i64.bits=N:=by show min N 64=N;omega
 have e3:IntKind.i64.wrap ((2:Int)^min N IntKind.i64.bits)=((2^N:Nat):Int):=by rw[m1,←wi (a:=2^N) (by omega),Int.natCast_pow];rfl
 rw[hL]at e2;simp[e1];try (refine hK _ rfl ?_;clear hK K)
 (repeat refine AW.seq_k fun K hK=>?_);refine AW.rg ?_;simp;try (refine hK _ rfl ?_;clear hK K)
 refine AW.no ?_ rfl;refine AW.skip ?_;try simp
 try (refine hK _ rfl ?_;clear hK K)
 (repeat refine AW.seq_k fun K hK=>?_);refine AW.rg ?_;simp;try (refine hK _ rfl ?_;clear hK K)
 refine AW.seq_ex (ι:=Option Nat) (fun o=>[(0,.int .i64 (N:Nat)),(1,.sl 6 (D0 es)),(6,.sl 1 (Al A)),(8,Lm o (tI N L (2^N)))]) (fun o=>S4 o (tI N L (2^N)) Aa.emp) (fun o=>o=none→tI N L (2^N)=[]) ?_ ?_
 ·(repeat refine AW.seq_k fun K hK=>?_);refine AW.rg ?_;simp;try (refine hK _ rfl ?_;clear hK K)
  refine AW.block (AW.loopS (ι:=Option Nat × Nat) (fun z=>[(0,.int .i64 (N:Nat)),(1,.sl 6 (D0 es)),(6,.sl 1 (Al A)),(8,Lm z.1 (tI N L z.2)),(9,.int .i64 (z.2:Nat))]) (fun z=>S4 z.1 (tI N L z.2) Aa.emp)
   (fun z=>z.2≤2^N∧(z.1=none→tI N L z.2=[])) (fun z=>2^N-z.2) (none,0) ⟨by simp,by simp[tI]⟩ rfl (by simp[Lm]) ?_)
  rintro⟨o,i⟩ ⟨g1,g2⟩;simp only at g1 g2;(repeat refine AW.seq_k fun K hK=>?_);refine AW.rg ?_;simp[-Int.natCast_pow,e3];try (refine hK _ rfl ?_;clear hK K)
  (repeat refine AW.seq ?_);refine AW.cs (fun hi=>?_) (fun hi=>?_) rfl<;>(try simp at hi)
  ·refine AW.skip ?_;try simp[-Int.natCast_pow]
   try (refine hK _ rfl ?_;clear hK K)
   have w1:=Aq (i+1) (by omega);have hrg:=Zv es N (by omega) hok h3 A hlt (by omega) i hi;rw[hL]at hrg;have hsc:=Qkb N L i;have htl:=Qfv N L i;generalize tI N L i=T at *;unfold A3 at hrg;(repeat refine AW.seq ?_);refine AW.block ?_;(repeat refine AW.seq_k fun K hK=>?_);refine AW.rg ?_;simp[-Int.natCast_pow];try (refine hK _ rfl ?_;clear hK K)
   refine Ac.look [.sl 6 (D0 es),.sl 1 (Al A),.int .i64 (i:Nat)] ⟨.same _,.same _,.same _,trivial⟩ hrg rfl ?_;simp[-Int.natCast_pow];try (refine hK _ rfl ?_;clear hK K)
   cases htb:G6 N L i with
   |false =>
    rw[htb]at hsc;simp at hsc;refine AW.no ?_ rfl;refine AW.skip ?_;try simp[-Int.natCast_pow]
    try (refine hK _ rfl ?_;clear hK K)
    (repeat refine AW.seq_k fun K hK=>?_);refine AW.rg ?_;simp[-Int.natCast_pow,-Int.natCast_add,w1];try (refine hK _ rfl ?_;clear hK K)
    exact⟨o,i+1,⟨by omega,by rw[hsc];exact g2⟩,by omega,by rw[hsc],by rw[hsc];exact⟨rfl,rfl⟩⟩
   |true =>
    rw[htb]at hsc;simp at hsc;refine AW.yes ?_ rfl;cases o with
    |none =>
     have hT:=g2 rfl;subst hT;simp only[Lm,S4];(repeat refine AW.seq_k fun K hK=>?_);refine AW.rgR [38] ?_;simp[-Int.natCast_pow];try (refine hK _ rfl ?_;clear hK K)
     refine⟨by unfold maxLen;omega,Ah.intro fun b6 _=>?_⟩;(repeat refine AW.seq_k fun K hK=>?_);refine AW.rg ?_;simp[-Int.natCast_pow,-Int.natCast_add,w1];try (refine hK _ rfl ?_;clear hK K)
     exact⟨some b6,i+1,⟨by omega,by simp⟩,by omega,by rw[hsc];rfl,by rw[hsc];exact⟨rfl,rfl⟩⟩
    |some b0 =>
     simp only[Lm,S4];(repeat refine AW.seq_k fun K hK=>?_);refine AW.rgR [38] ?_;simp[-Int.natCast_pow];try (refine hK _ rfl ?_;clear hK K)
     refine⟨by omega,by unfold maxLen;omega,Ah.intro fun b6 _=>?_⟩;(repeat refine AW.seq_k fun K hK=>?_);refine AW.rg ?_;simp[-Int.natCast_pow,-Int.natCast_add,w1];try (refine hK _ rfl ?_;clear hK K)
     exact⟨some b6,i+1,⟨by omega,by simp⟩,by omega,by rw[hsc,←Cv],by rw[hsc];simp[Lm]⟩
  ·refine AW.exit ?_;try simp[-Int.natCast_pow]
   have:i=2^N:=by omega
   subst this;exact⟨o,g2,rfl,rfl⟩
 rintro o ho;have hT:tI N L (2^N)=E3 N L:=rfl;rw[hT]at ho ⊢;have hTl:(E3 N L).length≤4096:=by have:=Qfv N L (2^N);rw[hT]at this;omega
 have hTm:∀m∈E3 N L,m<2^N:=fun m hm=>(Bx.1 hm).1;have hTn:(E3 N L).Nodup:=List.nodup_range.filter _;have hBL:Jg N L=P4 L (Mo N (E3 N L) (E3 N L).length) N:=by unfold Mo;rw[List.take_length];rfl
 clear hT;generalize E3 N L=T at *;refine AW.toEmp [(0,.int .i64 (N:Nat)),(1,.sl 6 (D0 es)),(6,.sl 1 (Al A)),(8,.sl 1 (Al T))] (by simp;exact Ra ho fun b h=>by rw[h];exact⟨Aa.set_same _ _ _,rfl⟩) ?_;(repeat refine AW.seq_k fun K hK=>?_);refine AW.rg ?_;simp;try (refine hK _ rfl ?_;clear hK K)
 refine AW.turn [(0,.int .i64 (N:Nat)),(1,.sl 6 (D0 es)),(6,.sl 1 (Al A)),(8,.sl 1 (Al T)),(10,.sl 1 (Dk []))] Aa.emp (Bo.refl _ (by intro b x hx;cases hx)) (by simp;exact .nilsl 1) ?_;refine AW.seq_ex (ι:=Unit) (fun _=>[(0,.int .i64 (N:Nat)),(1,.sl 6 (D0 es)),(6,.sl 1 (Al A)),(10,.sl 1 (Dk (Mo N T T.length)))]) (fun _=>Aa.emp) (fun _=>Few (Mo N T T.length) 4096) ?_ ?_
 ·(repeat refine AW.seq_k fun K hK=>?_);refine AW.rg ?_;simp;try (refine hK _ rfl ?_;clear hK K)
  refine AW.block (AW.loopS (ι:=Nat) (fun i=>[(0,.int .i64 (N:Nat)),(1,.sl 6 (D0 es)),(6,.sl 1 (Al A)),(8,.sl 1 (Al T)),(10,.sl 1 (Dk (Mo N T i))),(11,.int .i64 (i:Nat))]) (fun _=>Aa.emp)
   (fun i=>i≤T.length∧Few (Mo N T i) i) (fun i=>T.length-i) 0 ⟨by simp,by simp[Mo,Few]⟩ rfl (by simp[Mo]) ?_)
  rintro i ⟨g1,g2⟩;(repeat refine AW.seq_k fun K hK=>?_);refine AW.rg ?_;simp;try (refine hK _ rfl ?_;clear hK K)
  (repeat refine AW.seq ?_);refine AW.cs (fun hi=>?_) (fun hi=>?_) rfl<;>(try simp at hi)
  ·refine AW.skip ?_;try simp
   try (refine hK _ rfl ?_;clear hK K)
   have w1:=Aq (i+1) (by omega);have hsc:=Qdi N T i hi;generalize Mo N T i=W at *;obtain⟨m,hm⟩:∃m,T[i]=m:=⟨_,rfl⟩;have hmT:m∈T:=hm ▸ List.getElem_mem hi;have hmlt:=hTm m hmT;rw[hm]at hsc;(repeat refine AW.seq ?_);refine AW.block ?_;(repeat refine AW.seq_k fun K hK=>?_);refine AW.rg ?_;simp;try (refine hK _ rfl ?_;clear hK K)
   refine AW.seq_ex (ι:=Unit) (fun _=>[(0,.int .i64 (N:Nat)),(1,.sl 6 (D0 es)),(6,.sl 1 (Al A)),(8,.sl 1 (Al T)),(10,.sl 1 (Dk W)),(11,.int .i64 (i:Nat)),(12,.bool (Qgm T m))]) (fun _=>Aa.emp) (fun _=>True) ?_ ?_
   ·(repeat refine AW.seq_k fun K hK=>?_);refine AW.rg ?_;simp;try (refine hK _ rfl ?_;clear hK K)
    refine AW.block (AW.loopS (ι:=BSt) (fun z=>[(0,.int .i64 (N:Nat)),(1,.sl 6 (D0 es)),(6,.sl 1 (Al A)),(8,.sl 1 (Al T)),(10,.sl 1 (Dk W)),(11,.int .i64 (i:Nat)),(12,.bool z.w),(13,.int .i64 (z.j:Nat))]) (fun _=>Aa.emp)
     (fun z=>z.j≤T.length∧z.w=(T.take z.j).all (fun k=>k==m || k &&& m != m)) (fun z=>T.length-z.j) ⟨0,true⟩ ⟨by simp,by simp⟩ rfl (by simp) ?_)
    rintro⟨j,w⟩ ⟨k1,k2⟩;simp only at k1 k2;(repeat refine AW.seq_k fun K hK=>?_);refine AW.rg ?_;simp;try (refine hK _ rfl ?_;clear hK K)
    (repeat refine AW.seq ?_);refine AW.cs (fun hj=>?_) (fun hj=>?_) rfl<;>(try simp at hj)
    ·refine AW.skip ?_;try simp
     try (refine hK _ rfl ?_;clear hK K)
     have w2:=Aq (j+1) (by omega);obtain⟨x,hx⟩:∃x,T[j]=x:=⟨_,rfl⟩;have hxlt:=hTm x (hx ▸ List.getElem_mem hj);have hall:(T.take (j+1)).all (fun k=>k==m || k &&& m != m)=(w&&(x==m || x &&& m != m)):=by
      rw[List.take_add_one,List.getElem?_eq_getElem hj,hx,List.all_append,k2];simp
     have hbw:=Sl x m (by omega) (by omega);(repeat refine AW.seq ?_);refine AW.block ?_;cases w with
     |false =>
      (repeat refine AW.seq_k fun K hK=>?_);refine AW.rd [0,1,2,3,4,5,6,7,8,9,10,11,12,13,14,15,16,17,18,19,20,21,22] C8 ?_;simp;try (refine hK _ rfl ?_;clear hK K)
      (repeat refine AW.seq_k fun K hK=>?_);refine AW.rg ?_;simp[-Int.natCast_add,w2];try (refine hK _ rfl ?_;clear hK K)
      exact⟨⟨j+1,false⟩,⟨by simp only;omega,by rw[hall];rfl⟩,by simp only;omega,rfl,rfl⟩
     |true =>
      by_cases hji:j=i
      ·subst hji;have hxm:x=m:=by rw[←hx,←hm]
       (repeat refine AW.seq_k fun K hK=>?_);refine AW.rd [0,1,2,3,4,5,6,7,8,9,10,11,12,13,14,15,16,17,18,19,20,21,22] C8 ?_;simp;try (refine hK _ rfl ?_;clear hK K)
       (repeat refine AW.seq_k fun K hK=>?_);refine AW.rg ?_;simp[-Int.natCast_add,w2];try (refine hK _ rfl ?_;clear hK K)
       exact⟨⟨j+1,true⟩,⟨by simp only;omega,by rw[hall,hxm];simp⟩,by simp only;omega,rfl,rfl⟩
      ·have hxm:¬x=m:=fun e=>hji (Qfu hTn hj hi (by rw[hx,hm,e]));(repeat refine AW.seq_k fun K hK=>?_);refine AW.rd [0,1,2,3,4,5,6,7,8,9,10,11,12,13,14,15,16,17,18,19,20,21,22] C8 ?_;simp[hji,hj,hi,hx,hm,hbw];try (refine hK _ rfl ?_;clear hK K)
       (repeat refine AW.seq_k fun K hK=>?_);refine AW.rg ?_;simp[-Int.natCast_add,w2];try (refine hK _ rfl ?_;clear hK K)
       exact⟨⟨j+1,!decide (x &&& m=m)⟩,⟨by simp only;omega,by rw[hall];simp only[Bool.true_and];rw[show(x==m)=false from by simpa using hxm];by_cases h:x &&& m=m<;>simp[bne,h]⟩,by simp only;omega,by simp,rfl⟩
    ·refine AW.exit ?_;try simp
     have:j=T.length:=by omega
     subst this;rw[List.take_length]at k2;exact k2
   rintro _ _;have hli:=Qdz N m (by omega) hmlt;have hbl:(Dy N m).length≤12:=by
    have:=List.length_filter_le (A2 m) (List.range N);unfold Dy;simp at this;omega
   have hin:=Oy W (Dy N m) (by have:=g2.1;omega) (fun y hy=>by have:=g2.2 y hy;omega) (by omega);cases hbp:Qgm T m with
   |false =>
    rw[hbp,if_neg (by simp)]at hsc;(repeat refine AW.seq_k fun K hK=>?_);refine AW.rg ?_;simp;try (refine hK _ rfl ?_;clear hK K)
    refine AW.no ?_ rfl;refine AW.skip ?_;try simp
    try (refine hK _ rfl ?_;clear hK K)
    (repeat refine AW.seq_k fun K hK=>?_);refine AW.rg ?_;simp[-Int.natCast_add,w1];try (refine hK _ rfl ?_;clear hK K)
    exact⟨i+1,⟨by omega,by rw[hsc];exact⟨by have:=g2.1;omega,g2.2⟩⟩,by omega,by rw[hsc],rfl⟩
   |true =>
    rw[hbp,if_pos rfl]at hsc;(repeat refine AW.seq_k fun K hK=>?_);refine AW.rg ?_;simp;try (refine hK _ rfl ?_;clear hK K)
    refine AW.yes ?_ rfl;(repeat refine AW.seq_k fun K hK=>?_);refine AW.rg ?_;simp[hi,hm];try (refine hK _ rfl ?_;clear hK K)
    refine Ac.val hli ?_;simp;refine Ac.val hin ?_;simp;try (refine hK _ rfl ?_;clear hK K)
    (repeat refine AW.seq_k fun K hK=>?_);refine AW.rg ?_;simp[-Int.natCast_add,w1];try (refine hK _ rfl ?_;clear hK K)
    exact⟨i+1,⟨by omega,by rw[hsc];exact g2.ins hbl⟩,by omega,by rw[hsc],rfl⟩
  ·refine AW.exit ?_;try simp
   have:i=T.length:=by omega
   subst this;exact⟨⟨by have:=g2.1;omega,g2.2⟩,rfl⟩
 rintro _ hfew;generalize Mo N T T.length=B at *;refine AW.seq_ex (ι:=Unit) (fun _=>[(10,.sl 1 (Dk (P4 L B N)))]) (fun _=>Aa.emp) (fun _=>True) ?_ ?_
 ·(repeat refine AW.seq_k fun K hK=>?_);refine AW.rg ?_;simp;try (refine hK _ rfl ?_;clear hK K)
  refine AW.block (AW.loopS (ι:=Nat) (fun i=>[(0,.int .i64 (N:Nat)),(1,.sl 6 (D0 es)),(6,.sl 1 (Al A)),(10,.sl 1 (Dk (P4 L B i))),(14,.int .i64 (i:Nat))]) (fun _=>Aa.emp)
   (fun i=>i≤N∧Few (P4 L B i) (4096+i)) (fun i=>N-i) 0 ⟨by simp,by simpa[P4]using hfew⟩ rfl (by simp[P4]) ?_)
  rintro i ⟨g1,g2⟩;(repeat refine AW.seq_k fun K hK=>?_);refine AW.rg ?_;simp;try (refine hK _ rfl ?_;clear hK K)
  (repeat refine AW.seq ?_);refine AW.cs (fun hi=>?_) (fun hi=>?_) rfl<;>(try simp at hi)
  ·refine AW.skip ?_;try simp
   try (refine hK _ rfl ?_;clear hK K)
   have w1:=Aq (i+1) (by omega);have hsc:=Qe2 L B i;generalize P4 L B i=W at *;(repeat refine AW.seq ?_);refine AW.block ?_;(repeat refine AW.seq_k fun K hK=>?_);refine AW.rg ?_;simp;try (refine hK _ rfl ?_;clear hK K)
   refine AW.seq_ex (ι:=Unit) (fun _=>[(0,.int .i64 (N:Nat)),(1,.sl 6 (D0 es)),(6,.sl 1 (Al A)),(10,.sl 1 (Dk W)),(14,.int .i64 (i:Nat)),(15,.bool (Bi L i))]) (fun _=>Aa.emp) (fun _=>True) ?_ ?_
   ·(repeat refine AW.seq_k fun K hK=>?_);refine AW.rg ?_;simp;try (refine hK _ rfl ?_;clear hK K)
    refine AW.block (AW.loopS (ι:=BSt) (fun z=>[(0,.int .i64 (N:Nat)),(1,.sl 6 (D0 es)),(6,.sl 1 (Al A)),(10,.sl 1 (Dk W)),(14,.int .i64 (i:Nat)),(15,.bool z.w),(16,.int .i64 (z.j:Nat))]) (fun _=>Aa.emp)
     (fun z=>z.j≤A.length∧z.w=Bi (L.take z.j) i) (fun z=>A.length-z.j) ⟨0,true⟩ ⟨by simp,by simp[Bi]⟩ rfl (by simp) ?_)
    rintro⟨j,w⟩ ⟨k1,k2⟩;simp only at k1 k2;(repeat refine AW.seq_k fun K hK=>?_);refine AW.rg ?_;simp;try (refine hK _ rfl ?_;clear hK K)
    (repeat refine AW.seq ?_);refine AW.cs (fun hj=>?_) (fun hj=>?_) rfl<;>(try simp at hj)
    ·refine AW.skip ?_;try simp
     try (refine hK _ rfl ?_;clear hK K)
     have w2:=Aq (j+1) (by omega);obtain⟨e,he⟩:∃e,A[j]=e:=⟨_,rfl⟩;have heA:e∈A:=he ▸ List.getElem_mem hj;have hel:=hlt e heA;obtain⟨q1,q2,q3⟩:=hok e hel;have hall:Bi (L.take (j+1)) i=(w&&!((Ad es e).1==i || (Ad es e).2==i)):=by
      rw[List.take_add_one,←hL,List.getElem?_map,List.getElem?_eq_getElem hj,he,hL,k2];simp[Bi]
     have hbo:=Qw (Gx es e) _ _ q1 q2 (by have:=q3.1;omega) (by have:=q3.2.1;omega);(repeat refine AW.seq ?_);refine AW.block ?_;cases w with
     |false =>
      (repeat refine AW.seq_k fun K hK=>?_);refine AW.rd [0,1,2,3,4,5,6,7,8,10,11,9,12,13,14,15] C8 ?_;simp;try (refine hK _ rfl ?_;clear hK K)
      (repeat refine AW.seq_k fun K hK=>?_);refine AW.rg ?_;simp[-Int.natCast_add,w2];try (refine hK _ rfl ?_;clear hK K)
      exact⟨⟨j+1,false⟩,⟨by simp only;omega,by rw[hall];rfl⟩,by simp only;omega,rfl,rfl⟩
     |true =>
      have m2:min i IntKind.i64.bits=i:=by show min i 64=i;omega
      have p2:(2:Nat)^i<2^12:=Nat.pow_lt_pow_right (by omega) (by omega);have e4:IntKind.i64.wrap ((2:Int)^min i IntKind.i64.bits)=((2^i:Nat):Int):=by rw[m2,←wi (a:=2^i) (by omega),Int.natCast_pow];rfl
      have hlt2:=Qb8 (n:=12) (a:=(Ad es e).1) (b:=(Ad es e).2) (by have:=q3.1;omega) (by have:=q3.2.1;omega);have hba:=Sl (Ji (Ad es e).1 (Ad es e).2) (2^i) (by omega) (by omega);have hoff:=Qfp (a:=(Ad es e).1) (b:=(Ad es e).2) (i:=i);(repeat refine AW.seq_k fun K hK=>?_);refine AW.rd [0,1,2,3,4,5,6,7,8,10,11,9,12,13,14,15] C8 ?_;simp[hj,he,hel,Cj];refine Ac.val hbo ?_;simp[-Int.natCast_pow,e4,hba];(repeat refine AW.seq_k fun K hK=>?_);refine AW.rg ?_;simp[-Int.natCast_pow,-Int.natCast_add,w2];try (refine hK _ rfl ?_;clear hK K)
      refine⟨⟨j+1,decide (Ji (Ad es e).1 (Ad es e).2 &&& 2^i=0)⟩,⟨by simp only;omega,?_⟩,by simp only;omega,rfl,rfl⟩;rw[hall,Bool.true_and,Bool.eq_iff_iff];rw[decide_eq_true_eq,hoff];simp
    ·refine AW.exit ?_;try simp
     have:j=A.length:=by omega
     subst this;rw[List.take_of_length_le (by rw[←hL];simp)]at k2;exact k2
   rintro _ _;have hin:=Oy W [i] (by have:=g2.1;omega) (fun y hy=>by have:=g2.2 y hy;omega) (by simp);cases hab:Bi L i with
   |false =>
    rw[hab,if_neg (by simp)]at hsc;(repeat refine AW.seq_k fun K hK=>?_);refine AW.rg ?_;simp;try (refine hK _ rfl ?_;clear hK K)
    refine AW.no ?_ rfl;refine AW.skip ?_;try simp
    try (refine hK _ rfl ?_;clear hK K)
    (repeat refine AW.seq_k fun K hK=>?_);refine AW.rg ?_;simp[-Int.natCast_add,w1];try (refine hK _ rfl ?_;clear hK K)
    exact⟨i+1,⟨by omega,by rw[hsc];exact⟨by have:=g2.1;omega,g2.2⟩⟩,by omega,by rw[hsc],rfl⟩
   |true =>
    rw[hab,if_pos rfl]at hsc;(repeat refine AW.seq_k fun K hK=>?_);refine AW.rg ?_;simp;try (refine hK _ rfl ?_;clear hK K)
    refine AW.yes ?_ rfl;(repeat refine AW.seq_k fun K hK=>?_);refine AW.rgR [111] ?_;simp;try (refine hK _ rfl ?_;clear hK K)
    refine Ac.val hin ?_;simp;try (refine hK _ rfl ?_;clear hK K)
    (repeat refine AW.seq_k fun K hK=>?_);refine AW.rg ?_;simp[-Int.natCast_add,w1];try (refine hK _ rfl ?_;clear hK K)
    exact⟨i+1,⟨by omega,by rw[hsc];exact g2.ins (by simp)⟩,by omega,by rw[hsc],rfl⟩
  ·refine AW.exit ?_;try simp
   rw[show i=N by omega]
 rintro _ _;(repeat refine AW.seq_k fun K hK=>?_);refine AW.rg ?_;simp;try (refine hK _ rfl ?_;clear hK K)
 exact AW.ret (Ag [.sl 1 (Dk (P4 L B N)),.int .i64 0] rfl ⟨.same _,.same _,trivial⟩ ⟨by rw[e2,e1,hBL];rfl,rfl⟩)
end Go.Av
end
section
namespace Go.Av
open Go.Proofs Go.Lam
theorem Qbv (x y:List Nat) (hx:x.length<2^40) (hy:y.length<2^40):Aj Tryz.prog 19 [.sl 1 (Al x),.sl 1 (Al y)] Aa.emp fun v m=>v=.bool (decide (x=y))∧m=Aa.emp:=by
 refine Ae Tryz.func19 rfl rfl 26 rfl (Nat.le_of_ble_eq_true rfl) ?_;(repeat refine AW.seq_k fun K hK=>?_);refine AW.rg ?_;simp[Ak];try (refine hK _ rfl ?_;clear hK K)
 by_cases hl:x.length=y.length;rotate_left
 ·have hne:¬x=y:=fun h=>hl (by rw[h]);(repeat refine AW.seq_k fun K hK=>?_);refine AW.rg ?_;simp[hl];try (refine hK _ rfl ?_;clear hK K)
  refine AW.yes ?_ rfl;(repeat refine AW.seq_k fun K hK=>?_);refine AW.rg ?_;simp;try (refine hK _ rfl ?_;clear hK K)
  exact AW.ret (Af rfl _ (.same _) ⟨by simp[hne,oneOrTup],rfl⟩)
 (repeat refine AW.seq_k fun K hK=>?_);refine AW.rg ?_;simp[hl];try (refine hK _ rfl ?_;clear hK K)
 refine AW.no ?_ rfl;refine AW.skip ?_;try simp
 try (refine hK _ rfl ?_;clear hK K)
 refine AW.seq_ex (ι:=Unit) (fun _=>[]) (fun _=>Aa.emp) (fun _=>x=y) ?_ ?_
 ·(repeat refine AW.seq_k fun K hK=>?_);refine AW.rg ?_;simp;try (refine hK _ rfl ?_;clear hK K)
  refine AW.block (AW.loopS (ι:=Nat) (fun i=>[(0,.sl 1 (Al x)),(1,.sl 1 (Al y)),(5,.int .i64 (i:Nat))]) (fun i=>Aa.emp)
   (fun i=>i≤x.length∧x.take i=y.take i) (fun i=>x.length-i) 0 ⟨by simp,by simp⟩ rfl (by simp) ?_)
  rintro i ⟨g1,g2⟩;(repeat refine AW.seq_k fun K hK=>?_);refine AW.rg ?_;simp;try (refine hK _ rfl ?_;clear hK K)
  (repeat refine AW.seq ?_);refine AW.cs (fun hi=>?_) (fun hi=>?_) rfl<;>(try simp at hi)
  ·refine AW.skip ?_;try simp
   try (refine hK _ rfl ?_;clear hK K)
   have w1:=Aq (i+1) (by omega);have hi2:i<y.length:=by omega
   (repeat refine AW.seq ?_);refine AW.block ?_;(repeat refine AW.seq_k fun K hK=>?_);refine AW.rd [0,1,2,3,4,5,6,7,8] C8 ?_;simp[hi,hi2];try (refine hK _ rfl ?_;clear hK K)
   by_cases he:x[i]=y[i]
   ·refine AW.no ?_ (by simp[he]);refine AW.skip ?_;try simp
    try (refine hK _ rfl ?_;clear hK K)
    (repeat refine AW.seq_k fun K hK=>?_);refine AW.rg ?_;simp[-Int.natCast_add,w1];try (refine hK _ rfl ?_;clear hK K)
    refine⟨⟨by omega,?_⟩,by omega⟩;rw[Fv hi he,Fv hi2 rfl,g2]
   ·refine AW.yes ?_ (by simp[he]);(repeat refine AW.seq_k fun K hK=>?_);refine AW.rg ?_;simp;try (refine hK _ rfl ?_;clear hK K)
    have hne:¬x=y:=fun h=>he (by simp[h]);exact AW.ret (Af rfl _ (.same _) ⟨by simp[hne,oneOrTup],rfl⟩)
  ·refine AW.exit ?_;try simp
   have:i=x.length:=by omega
   subst this;rw[List.take_length,hl,List.take_length]at g2;exact g2
 ·rintro _ h;(repeat refine AW.seq_k fun K hK=>?_);refine AW.rg ?_;simp;try (refine hK _ rfl ?_;clear hK K)
  exact AW.ret (Af rfl _ (.same _) ⟨by simp[h,oneOrTup],rfl⟩)
theorem W8 (X Y:List (List Nat)) (hX:X.length<2^40) (hY:Y.length<2^40) (hx:∀x∈X,x.length<2^40) (hy:∀y∈Y,y.length<2^40):Aj Tryz.prog 24 [.sl 1 (Dk X),.sl 1 (Dk Y)] Aa.emp fun v m=>v=.bool (decide (X=Y))∧m=Aa.emp:=by
 refine Ae Tryz.func24 rfl rfl 27 rfl (Nat.le_of_ble_eq_true rfl) ?_;(repeat refine AW.seq_k fun K hK=>?_);refine AW.rg ?_;simp[Ak];try (refine hK _ rfl ?_;clear hK K)
 by_cases hl:X.length=Y.length;rotate_left
 ·have hne:¬X=Y:=fun h=>hl (by rw[h]);(repeat refine AW.seq_k fun K hK=>?_);refine AW.rg ?_;simp[hl];try (refine hK _ rfl ?_;clear hK K)
  refine AW.yes ?_ rfl;(repeat refine AW.seq_k fun K hK=>?_);refine AW.rg ?_;simp;try (refine hK _ rfl ?_;clear hK K)
  exact AW.ret (Af rfl _ (.same _) ⟨by simp[hne,oneOrTup],rfl⟩)
 (repeat refine AW.seq_k fun K hK=>?_);refine AW.rg ?_;simp[hl];try (refine hK _ rfl ?_;clear hK K)
 refine AW.no ?_ rfl;refine AW.skip ?_;try simp
 try (refine hK _ rfl ?_;clear hK K)
 refine AW.seq_ex (ι:=Unit) (fun _=>[]) (fun _=>Aa.emp) (fun _=>X=Y) ?_ ?_
 ·(repeat refine AW.seq_k fun K hK=>?_);refine AW.rg ?_;simp;try (refine hK _ rfl ?_;clear hK K)
  refine AW.block (AW.loopS (ι:=Nat) (fun i=>[(0,.sl 1 (Dk X)),(1,.sl 1 (Dk Y)),(5,.int .i64 (i:Nat))]) (fun i=>Aa.emp)
   (fun i=>i≤X.length∧X.take i=Y.take i) (fun i=>X.length-i) 0 ⟨by simp,by simp⟩ rfl (by simp) ?_)
  rintro i ⟨g1,g2⟩;(repeat refine AW.seq_k fun K hK=>?_);refine AW.rg ?_;simp;try (refine hK _ rfl ?_;clear hK K)
  (repeat refine AW.seq ?_);refine AW.cs (fun hi=>?_) (fun hi=>?_) rfl<;>(try simp at hi)
  ·refine AW.skip ?_;try simp
   try (refine hK _ rfl ?_;clear hK K)
   have w1:=Aq (i+1) (by omega);have hi2:i<Y.length:=by omega
   have hc:=Qbv X[i] Y[i] (hx _ (List.getElem_mem hi)) (hy _ (List.getElem_mem hi2));(repeat refine AW.seq ?_);refine AW.block ?_;(repeat refine AW.seq_k fun K hK=>?_);refine AW.rd [0,1,2,3,4,5,6,7,8,9] C8 ?_;simp[hi,hi2];refine Ac.val hc ?_;simp;try (refine hK _ rfl ?_;clear hK K)
   by_cases he:X[i]=Y[i]
   ·refine AW.no ?_ (by simp[he]);refine AW.skip ?_;try simp
    try (refine hK _ rfl ?_;clear hK K)
    (repeat refine AW.seq_k fun K hK=>?_);refine AW.rg ?_;simp[-Int.natCast_add,w1];try (refine hK _ rfl ?_;clear hK K)
    refine⟨⟨by omega,?_⟩,by omega⟩;rw[List.take_add_one,List.take_add_one,g2,List.getElem?_eq_getElem hi,List.getElem?_eq_getElem hi2,he]
   ·refine AW.yes ?_ (by simp[he]);(repeat refine AW.seq_k fun K hK=>?_);refine AW.rg ?_;simp;try (refine hK _ rfl ?_;clear hK K)
    have hne:¬X=Y:=fun h=>he (by simp[h]);exact AW.ret (Af rfl _ (.same _) ⟨by simp[hne,oneOrTup],rfl⟩)
  ·refine AW.exit ?_;try simp
   have:i=X.length:=by omega
   subst this;rw[List.take_length,hl,List.take_length]at g2;exact g2
 ·rintro _ h;(repeat refine AW.seq_k fun K hK=>?_);refine AW.rg ?_;simp;try (refine hK _ rfl ?_;clear hK K)
  exact AW.ret (Af rfl _ (.same _) ⟨by simp[h,oneOrTup],rfl⟩)
end Go.Av
end
section
namespace Go.Av
open Go.Proofs
def Qd5 (e:Int) (r:RR) (Z:Option Rat):Prop :=
 match Z with
 |some q=>e=0∧r=Bj q∧B1 q
 |none=>e=2
theorem Qd5.step {e:Int} {a:RR} {Z:Option Rat} (h:Qd5 e a Z) {op:Rat→Option Rat} (hop:∀q z,op q=some z→B1 z):Qd5 (C0 e a (op a.q)).1 (C0 e a (op a.q)).2 (Z.bind op):=by
 cases Z with
 |none =>
  have:e=2:=h;rw[Km (by omega)];exact h
 |some q =>
  obtain⟨h1,rfl,h3⟩:e=0∧a=Bj q∧B1 q:=h;rw[Gm];show Qd5 _ _ (op q)
  cases ho:op q with
  |none=>rw[Ny h1];rfl
  |some z=>rw[Kp h1];exact⟨rfl,rfl,hop q z ho⟩
theorem Qd5.ok {e:Int} {a:RR} {Z:Option Rat} (h:Qd5 e a Z) (he:e=0):a.ok=true:=by
 cases Z with
 |none=>have:e=2:=h;omega
 |some q=>obtain⟨_,rfl,h3⟩:e=0∧a=Bj q∧B1 q:=h;exact Eu h3
set_option maxHeartbeats 1000000
end Go.Av
end
section
namespace Go.Av
open Go.Proofs
theorem R6 (z:Int):Aj Tryz.prog 86 [Au z] Aa.emp fun v m=>v=.bool (decide (z=0))∧m=Aa.emp:=by
 have h:=H6 (decide (z<0)) (Ao z.natAbs);have e:decide ((Ao z.natAbs).length=0)=decide (z=0):=by
  have h1:Ao z.natAbs=[]↔z.natAbs=0:=B5;have h2:(Ao z.natAbs).length=0↔z=0:=by rw[List.length_eq_zero_iff,h1];omega
  simp[h2]
 rw[e]at h;exact h
theorem Qdg {x y:Int}:H4 x y=0↔x=y:=by unfold H4;split<;>(try split)<;>omega
theorem Qbu (x y:Int):H4 x y=-1∨H4 x y=0∨H4 x y=1:=by unfold H4;split<;>(try split)<;>simp
theorem Qp2 {x y u v:Int} (hy:0<y) (hv:0<v) (h:x.fdiv y≠u.fdiv v):x*v≠u*y:=by
 intro e;apply h;rw[Int.fdiv_eq_ediv_of_nonneg _ (by omega),Int.fdiv_eq_ediv_of_nonneg _ (by omega)];have h1:(x*v) / (y*v)=x / y:=Int.mul_ediv_mul_of_pos_left _ _ hv;have h2:(u*y) / (v*y)=u / v:=Int.mul_ediv_mul_of_pos_left _ _ hy;rw[←h1,←h2,e,Int.mul_comm v y]
theorem Qov {x y u v:Int} (h:x.fdiv y=u.fdiv v):x*v=u*y↔x.fmod y*v=u.fmod v*y:=by
 have h1:x=y*x.fdiv y+x.fmod y:=by rw[Int.mul_fdiv_add_fmod]
 have h2:u=v*u.fdiv v+u.fmod v:=by rw[Int.mul_fdiv_add_fmod]
 generalize x.fmod y=r1 at *;generalize u.fmod v=r2 at *;rw[←h]at h2;generalize x.fdiv y=q at *;subst h1 h2;rw[Int.add_mul,Int.add_mul,show v*q*y=y*q*v by rw[Int.mul_comm v q,Int.mul_assoc,Int.mul_comm v y,←Int.mul_assoc,Int.mul_comm q y]];omega
theorem Sc {x y:Int} (hy:0<y):0≤x.fmod y∧x.fmod y<y:=⟨Int.fmod_nonneg_of_pos _ hy,Int.fmod_lt_of_pos _ hy⟩
def B7 (z:Int):Ep:=⟨42,2,[.agg [.bool (decide (z<0)),An (Ao z.natAbs)]]⟩
structure Qkr where
 x:Int
 y:Int
 u:Int
 v:Int
 s:Int
def Qvi (a b:Rat) (t:Qkr):Prop:=0<t.y∧0<t.v∧t.x.natAbs<Bf∧t.y.natAbs<Bf∧t.u.natAbs<Bf∧t.v.natAbs<Bf∧(a=b↔t.x*t.v=t.u*t.y)∧(t.s=1∨t.s=-1)
theorem Qd9 (n:Nat):B7 (n:Nat)=⟨42,2,[.agg [.bool false,An (Ao n)]]⟩:=by
 unfold B7;have:decide ((n:Int)<0)=false:=by simp
 rw[this];rfl
def Im (b5 b6 b7 b8:Nat) (t:Qkr):Aa:=(((Aa.emp.set b5 (B7 t.x)).set b6 (B7 t.y)).set b7 (B7 t.u)).set b8 (B7 t.v)
theorem Qcm {r:Int} (h:0≤r) (h0:r≠0):0<r:=by omega
theorem Qke {r y:Int} (h:0≤r) (h0:r<y):r.natAbs<y.natAbs:=by omega
theorem Qoo {s c:Int} (h:s=1∨s=-1) (hc:¬c=0):¬s*c=0:=by
 rcases h with h|h<;>subst h<;>omega
theorem Qc0 {s c:Int} (h:s=1∨s=-1) (hc:c=-1∨c=0∨c=1):s*c=-1∨s*c=0∨s*c=1:=by
 rcases h with h|h<;>subst h<;>omega
theorem Qfh {s c:Int} (h:s=1∨s=-1) (hc:c=-1∨c=0∨c=1):IntKind.i64.wrap (s*c)=s*c:=by
 rcases h with h|h<;>rcases hc with h'|h'|h'<;>subst h h'<;>rfl
theorem Qjs {s:Int} (h:s=1∨s=-1):IntKind.i64.wrap (-s)=-s∧(-s=1∨-s=-1)∧¬-s=0∧¬s=0:=by
 rcases h with h|h<;>subst h<;>exact⟨rfl,by decide,by decide,by decide⟩
def Qqe (a b:Rat) (v:AV):Prop:=∃c:Int,v=.int .i64 c∧(c=0↔a=b)∧(c=-1∨c=0∨c=1)
set_option maxHeartbeats 1000000
theorem Tk (a b:Rat) (ha:B1 a) (hb:B1 b):Aj Tryz.prog 188 [Jn a,Jn b] Aa.emp fun v m=>Qqe a b v∧m=Aa.emp:=by
 have key:∀t:Qkr,Qvi a b t→∃q1 r1 q2 r2,q1=t.x.fdiv t.y∧r1=t.x.fmod t.y∧q2=t.u.fdiv t.v∧r2=t.u.fmod t.v:=fun t _=>⟨_,_,_,_,rfl,rfl,rfl,rfl⟩;have hab:a=b↔a.num*b.den=b.num*a.den:=Rat.eq_iff_mul_eq_mul;have d1:0<(a.den:Int):=by have:=a.den_pos;omega
 have d2:0<(b.den:Int):=by have:=b.den_pos;omega
 unfold Jn;refine Ae Tryz.func188 rfl rfl 73 rfl (Nat.le_of_ble_eq_true rfl) ?_;(repeat refine AW.seq_k fun K hK=>?_);refine AW.rgR [2,3] ?_;simp[Ak];try (refine hK _ rfl ?_;clear hK K)
 (repeat refine AW.seq_k fun K hK=>?_);refine AW.rdT [] [2,3,18,20,22,24] [] [] [0,1,2,3,4,5,6,7,8,9,10,11,12,13,14,15] C8 (by simp) (by simp) (by simp) (by simp) (by simp) ?_;simp;try (refine hK _ rfl ?_;clear hK K)
 refine Ah.intro fun b5 hb5=>?_;simp only[Ap,Az,and_true]at hb5;refine Ah.intro fun b6 hb6=>?_;simp only[Ap,Az,and_true]at hb6;refine Ah.intro fun b7 hb7=>?_;simp only[Ap,Az,and_true]at hb7;refine Ah.intro fun b8 hb8=>?_;simp only[Ap,Az,and_true]at hb8;simp[hb5,hb6,hb7,hb8];refine hK _ rfl ?_;clear hK K;(repeat refine AW.seq_k fun K hK=>?_);refine AW.rg ?_;simp;try (refine hK _ rfl ?_;clear hK K)
 refine AW.block (AW.loopS (ι:=Qkr) (fun t=>[(5,.ptr b5 2 0 0),(6,.ptr b6 2 0 0),(7,.ptr b7 2 0 0),(8,.ptr b8 2 0 0),(9,.int .i64 t.s)]) (fun t=>Im b5 b6 b7 b8 t) (fun t=>Qvi a b t) (fun t=>t.y.natAbs) ⟨a.num,(a.den:Nat),b.num,(b.den:Nat),1⟩ ⟨d1,d2,ha.1,H3 ha,hb.1,H3 hb,hab,.inl rfl⟩ ?_ (by simp) ?_)
 ·unfold Im;simp only[Qd9];unfold B7
  funext c
  simp only[A1,Az]
  (repeat' split)<;>simp_all
 rintro⟨x,y,u,v,s⟩ ⟨i1,i2,i3,i4,i5,i6,i7,i8⟩;simp only at i1 i2 i3 i4 i5 i6 i7 i8;have c1:=Gy x y i3 i4 (by omega);have c2:=Gy u v i5 i6 (by omega);have e1:=Qh (y:=y) i3 (by omega);have e2:=Qh (y:=v) i5 (by omega);have e3:=Qr (x:=x) i4 (by omega);have e4:=Qr (x:=u) i6 (by omega);have c3:=Qeu (x.fdiv y) (u.fdiv v) e1 e2;have c4:=R6 (x.fmod y);have c5:=R6 (u.fmod v);have f1:=Sc (x:=x) i1;have f2:=Sc (x:=u) i2;have p1:=Qp2 (x:=x) (u:=u) i1 i2;have p2:=Qov (x:=x) (y:=y) (u:=u) (v:=v)
 generalize x.fdiv y=q1 at *;generalize u.fdiv v=q2 at *;generalize x.fmod y=r1 at *;generalize u.fmod v=r2 at *;unfold Im B7;unfold Au at *;simp only;(repeat refine AW.seq ?_);refine AW.block ?_;(repeat refine AW.seq_k fun K hK=>?_);refine AW.rg ?_;simp[hb5,hb6,hb7,hb8];try (refine hK _ rfl ?_;clear hK K)
 refine Ac.val c1 ?_;simp[hb5,hb6,hb7,hb8];refine Ah.intro fun b10 hb10=>?_;simp only[Ap,Az,and_true]at hb10;refine Ah.intro fun b11 hb11=>?_;simp only[Ap,Az,and_true]at hb11;simp[hb5,hb6,hb7,hb8,hb10,hb11,R3 hb11.1.2];refine hK _ rfl ?_;clear hK K;(repeat refine AW.seq_k fun K hK=>?_);refine AW.rg ?_;simp[hb5,hb6,hb7,hb8,hb10,hb11];try (refine hK _ rfl ?_;clear hK K)
 refine Ac.val c2 ?_;simp[hb5,hb6,hb7,hb8,hb10,hb11];refine Ah.intro fun b13 hb13=>?_;simp only[Ap,Az,and_true]at hb13;refine Ah.intro fun b14 hb14=>?_;simp only[Ap,Az,and_true]at hb14;simp[hb5,hb6,hb7,hb8,hb10,hb11,hb13,hb14,R3 hb14.1.2];refine hK _ rfl ?_;clear hK K;refine AW.seq_ex (ι:=Unit) (fun _=>[(5,.ptr b5 2 0 0),(6,.ptr b6 2 0 0),(7,.ptr b7 2 0 0),(8,.ptr b8 2 0 0),(9,.int .i64 s),(11,.ptr b11 2 0 0),(14,.ptr b14 2 0 0)]) (fun _=>((((Im b5 b6 b7 b8 ⟨x,y,u,v,s⟩).set b10 (B7 q1)).set b11 (B7 r1)).set b13 (B7 q2)).set b14 (B7 r2)) (fun _=>q1=q2) ?_ ?_
 ·(repeat refine AW.seq_k fun K hK=>?_);refine AW.rg ?_;simp[hb5,hb6,hb7,hb8,hb10,hb11,hb13,hb14];try (refine hK _ rfl ?_;clear hK K)
  refine Ac.val c3 ?_;simp[hb5,hb6,hb7,hb8,hb10,hb11,hb13,hb14];refine hK _ rfl ?_;clear hK K;have hc1:H4 q1 q2=0↔q1=q2:=Qdg;have hc2:=Qbu q1 q2;generalize H4 q1 q2=cc at *;(repeat refine AW.seq_k fun K hK=>?_);refine AW.rg ?_;simp;try (refine hK _ rfl ?_;clear hK K)
  (repeat refine AW.seq ?_);refine AW.cs (fun hc=>?_) (fun hc=>?_) rfl<;>(try simp at hc)
  ·(repeat refine AW.seq_k fun K hK=>?_);refine AW.rg ?_;simp;try (refine hK _ rfl ?_;clear hK K)
   have hw:IntKind.i64.wrap (s*cc)=s*cc:=Qfh i8 hc2;refine AW.ret (Ag (vs:=[.int .i64 (s*cc)]) [.int .i64 (s*cc)] (by simp[hw]) (by simp) ⟨⟨s*cc,rfl,?_,?_⟩,rfl⟩)
   ·have:a≠b:=fun h=>(p1 (fun h2=>hc (hc1.2 h2))) (i7.1 h);exact⟨fun h0=>absurd h0 (Qoo i8 hc),fun h=>absurd h this⟩
   ·exact Qc0 i8 hc2
  ·refine AW.skip ?_;try simp
   refine⟨hc1.1 hc,?_⟩;rfl
 rintro _ hq;subst hq;have p2:=p2 rfl;obtain⟨t1,ht1⟩:∃t,t=decide (r1=0):=⟨_,rfl⟩;obtain⟨t2,ht2⟩:∃t,t=decide (r2=0):=⟨_,rfl⟩;rw[←ht1]at c4;rw[←ht2]at c5;have hne:(t1=true∨t2=true)→(a=b↔t1=true∧t2=true):=by
  intro h;rw[i7,p2,ht1,ht2]at *;simp only[decide_eq_true_eq]at h ⊢;constructor
  ·intro e;rcases h with h | h
   ·rw[h,Int.zero_mul]at e;refine⟨h,?_⟩;rcases Int.mul_eq_zero.1 e.symm with h' | h'
    ·exact h'
    ·omega
   ·rw[h,Int.zero_mul]at e;refine⟨?_,h⟩;rcases Int.mul_eq_zero.1 e with h' | h'
    ·exact h'
    ·omega
  ·rintro⟨h1,h2⟩;rw[h1,h2];simp
 have hsn:=Qjs i8;refine AW.seq_ex (ι:=Unit) (fun _=>[(5,.ptr b5 2 0 0),(6,.ptr b6 2 0 0),(7,.ptr b7 2 0 0),(8,.ptr b8 2 0 0),(9,.int .i64 s),(11,.ptr b11 2 0 0),(14,.ptr b14 2 0 0)]) (fun _=>((((Im b5 b6 b7 b8 ⟨x,y,u,v,s⟩).set b10 (B7 q1)).set b11 (B7 r1)).set b13 (B7 q1)).set b14 (B7 r2)) (fun _=>t1=false∧t2=false) ?_ ?_
 ·(repeat refine AW.seq ?_);refine AW.block ?_;refine AW.seq_ex (ι:=Unit) (fun _=>[(5,.ptr b5 2 0 0),(6,.ptr b6 2 0 0),(7,.ptr b7 2 0 0),(8,.ptr b8 2 0 0),(9,.int .i64 s),(11,.ptr b11 2 0 0),(14,.ptr b14 2 0 0),(53,.bool (t1&&t2))]) (fun _=>((((Im b5 b6 b7 b8 ⟨x,y,u,v,s⟩).set b10 (B7 q1)).set b11 (B7 r1)).set b13 (B7 q1)).set b14 (B7 r2)) (fun _=>True) ?_ ?_
  ·cases t1
   ·(repeat refine AW.seq_k fun K hK=>?_);refine AW.rg ?_;simp[B7,Im,hb5,hb6,hb7,hb8,hb10,hb11,hb13,hb14];try (refine hK _ rfl ?_;clear hK K)
    refine Ac.val c4 ?_;simp[hb5,hb6,hb7,hb8,hb10,hb11,hb13,hb14]
   ·(repeat refine AW.seq_k fun K hK=>?_);refine AW.rg ?_;simp[B7,Im,hb5,hb6,hb7,hb8,hb10,hb11,hb13,hb14];try (refine hK _ rfl ?_;clear hK K)
    refine Ac.val c4 ?_;simp[hb5,hb6,hb7,hb8,hb10,hb11,hb13,hb14];refine Ac.val c5 ?_;simp[hb5,hb6,hb7,hb8,hb10,hb11,hb13,hb14]
  rintro _ -;cases h12:(t1&&t2)
  ·refine AW.no ?_ rfl;refine AW.seq_ex (ι:=Unit) (fun _=>[(5,.ptr b5 2 0 0),(6,.ptr b6 2 0 0),(7,.ptr b7 2 0 0),(8,.ptr b8 2 0 0),(9,.int .i64 s),(11,.ptr b11 2 0 0),(14,.ptr b14 2 0 0),(60,.bool t1)]) (fun _=>((((Im b5 b6 b7 b8 ⟨x,y,u,v,s⟩).set b10 (B7 q1)).set b11 (B7 r1)).set b13 (B7 q1)).set b14 (B7 r2)) (fun _=>True) ?_ ?_
   ·(repeat refine AW.seq_k fun K hK=>?_);refine AW.rg ?_;simp[B7,Im,hb5,hb6,hb7,hb8,hb10,hb11,hb13,hb14];try (refine hK _ rfl ?_;clear hK K)
    refine Ac.val c4 ?_;simp[hb5,hb6,hb7,hb8,hb10,hb11,hb13,hb14]
   rintro _ -;cases t1
   ·refine AW.no ?_ rfl;refine AW.seq_ex (ι:=Unit) (fun _=>[(5,.ptr b5 2 0 0),(6,.ptr b6 2 0 0),(7,.ptr b7 2 0 0),(8,.ptr b8 2 0 0),(9,.int .i64 s),(11,.ptr b11 2 0 0),(14,.ptr b14 2 0 0),(65,.bool t2)]) (fun _=>((((Im b5 b6 b7 b8 ⟨x,y,u,v,s⟩).set b10 (B7 q1)).set b11 (B7 r1)).set b13 (B7 q1)).set b14 (B7 r2)) (fun _=>True) ?_ ?_
    ·(repeat refine AW.seq_k fun K hK=>?_);refine AW.rg ?_;simp[B7,Im,hb5,hb6,hb7,hb8,hb10,hb11,hb13,hb14];try (refine hK _ rfl ?_;clear hK K)
     refine Ac.val c5 ?_;simp[hb5,hb6,hb7,hb8,hb10,hb11,hb13,hb14]
    rintro _ -;cases t2
    ·refine AW.no ?_ rfl;refine AW.skip ?_;try simp
    ·refine AW.yes ?_ rfl;(repeat refine AW.seq_k fun K hK=>?_);refine AW.rg ?_;simp;try (refine hK _ rfl ?_;clear hK K)
     refine AW.ret (Ag (vs:=[.int .i64 s]) [.int .i64 s] (by simp) (by simp) ⟨⟨s,rfl,⟨fun h=>absurd h hsn.2.2.2,fun h=>?_⟩,?_⟩,rfl⟩)
     ·have:=(hne (.inr rfl)).1 h;simp at this
     ·rcases i8 with h|h<;>simp[h]
   ·refine AW.yes ?_ rfl;(repeat refine AW.seq_k fun K hK=>?_);refine AW.rg ?_;simp[hsn.1];try (refine hK _ rfl ?_;clear hK K)
    refine AW.ret (Ag (vs:=[.int .i64 (-s)]) [.int .i64 (-s)] (by simp) (by simp) ⟨⟨-s,rfl,⟨fun h=>absurd h hsn.2.2.1,fun h=>?_⟩,?_⟩,rfl⟩)
    ·have:=(hne (.inl rfl)).1 h;rw[this.2]at h12;simp at h12
    ·rcases hsn.2.1 with h|h<;>simp[h]
  ·refine AW.yes ?_ rfl;(repeat refine AW.seq_k fun K hK=>?_);refine AW.rg ?_;simp;try (refine hK _ rfl ?_;clear hK K)
   have hb:t1=true∧t2=true:=by simpa using h12
   refine AW.ret (Ag (vs:=[.int .i64 0]) [.int .i64 0] (by simp) (by simp) ⟨⟨0,rfl,⟨fun _=>(hne (.inl hb.1)).2 hb,fun _=>rfl⟩,.inr (.inl rfl)⟩,rfl⟩)
 rintro _ ⟨z1,z2⟩;rw[ht1]at z1;rw[ht2]at z2;have z1:r1≠0:=by simpa using z1
 have z2:r2≠0:=by simpa using z2
 clear ht1 ht2 hne c1 c2 c3 c4 c5;(repeat refine AW.seq_k fun K hK=>?_);refine AW.rdT [(6,b6),(11,b11),(8,b8),(14,b14),(5,b5),(7,b7)] [] [] [b6,b11,b8,b14] [0,1,2,3,4,5,6,7] C8 (by simp[B7,Im,hb5,hb6,hb7,hb8,hb10,hb11,hb13,hb14]) (by simp[B7,Im,hb5,hb6,hb7,hb8,hb10,hb11,hb13,hb14]) (by simp[B7,Im,hb5,hb6,hb7,hb8,hb10,hb11,hb13,hb14]) (by simp[B7,Im,hb5,hb6,hb7,hb8,hb10,hb11,hb13,hb14]) (by simp[B7,Im,hb5,hb6,hb7,hb8,hb10,hb11,hb13,hb14]) ?_;simp[B7,Im,hb5,hb6,hb7,hb8,hb10,hb11,hb13,hb14]
 try (refine hK _ rfl ?_;clear hK K)
 refine AW.turn [(5,.ptr b5 2 0 0),(6,.ptr b6 2 0 0),(7,.ptr b7 2 0 0),(8,.ptr b8 2 0 0),(9,.int .i64 s)] (Im b5 b6 b7 b8 ⟨y,r1,v,r2,s⟩) (Bo.sub fun k z hz=>?_) (by simp) ?_
 ·unfold Im B7 at hz;simp only[A1,Az]at hz;by_cases k8:k=b8
  ·subst k8;rw[if_pos rfl]at hz;cases hz;exact⟨by simp[hb5,hb6,hb7,hb8,hb10,hb11,hb13,hb14],by simp⟩
  rw[if_neg k8]at hz;by_cases k7:k=b7
  ·subst k7;rw[if_pos rfl]at hz;cases hz;exact⟨by simp[hb5,hb6,hb7,hb8,hb10,hb11,hb13,hb14],by simp⟩
  rw[if_neg k7]at hz;by_cases k6:k=b6
  ·subst k6;rw[if_pos rfl]at hz;cases hz;exact⟨by simp[hb5,hb6,hb7,hb8,hb10,hb11,hb13,hb14],by simp⟩
  rw[if_neg k6]at hz;by_cases k5:k=b5
  ·subst k5;rw[if_pos rfl]at hz;cases hz;exact⟨by simp[hb5,hb6,hb7,hb8,hb10,hb11,hb13,hb14],by simp⟩
  rw[if_neg k5]at hz;cases hz
 (repeat refine AW.seq_k fun K hK=>?_);refine AW.rg ?_;simp[hsn.1];try (refine hK _ rfl ?_;clear hK K)
 refine⟨⟨y,r1,v,r2,-s⟩,⟨Qcm f1.1 z1,Qcm f2.1 z2,i4,e3,i6,e4,?_,hsn.2.1⟩,Qke f1.1 f1.2,rfl,rfl⟩;rw[i7,p2];simp only;rw[Int.mul_comm y r2,Int.mul_comm v r1];exact eq_comm
theorem Qet (a b:RR) (ha:a.Lb) (hb:b.Lb) (oa:a.ok=true) (ob:b.ok=true):Aj Tryz.prog 151 [a.av,b.av] Aa.emp fun v m=>(∃c:Int,v=.tup [.int .i64 c,.int .i64 0]∧(c=0↔a.q=b.q))∧m=Aa.emp:=by
 have hal:=Rx a b ha hb;rw[oa,ob]at hal;have hc:=Tk a.q b.q (El ha oa).1 (El hb ob).1;rw[←Pe ha oa,←Pe hb ob]at hc;unfold RR.av at *;refine Ae Tryz.func151 rfl rfl 14 rfl (Nat.le_of_ble_eq_true rfl) ?_;(repeat refine AW.seq_k fun K hK=>?_);refine AW.rgR [2,3] ?_;simp[Ak];try (refine hK _ rfl ?_;clear hK K)
 (repeat refine AW.seq_k fun K hK=>?_);refine AW.rgR [8] ?_;simp;try (refine hK _ rfl ?_;clear hK K)
 refine Ac.val hal ?_;simp;refine hK _ rfl ?_;clear hK K;refine AW.no ?_ rfl;refine AW.skip ?_;try simp
 refine hK _ rfl ?_;clear hK K;(repeat refine AW.seq_k fun K hK=>?_);refine AW.rg ?_;simp;try (refine hK _ rfl ?_;clear hK K)
 refine Ac.pure hc ?_;rintro _ ⟨c,rfl,h1,h2⟩;simp;refine hK _ rfl ?_;clear hK K;exact AW.ret (Ag (vs:=[.int .i64 c,.int .i64 0]) [.int .i64 c,.int .i64 0] (by simp) (by simp) ⟨⟨c,rfl,h1⟩,rfl⟩)
def symm (M:List (List Rat)) (n:Nat):Prop:=∀i,i<n→∀k,k<i→Jb M i k=Jb M k i
end Go.Av
end
section
namespace Go.Av
open Go.Proofs
def Yj (e:Int) (v:List RR) (Z:Option (List Rat)):Prop :=
 match Z with
 |some q=>e=0∧v=q.map Bj∧F7 q
 |none=>e=2
theorem Yj.to {e:Int} {v:List RR} {Z Z':Option (List Rat)} (h:Yj e v Z) (hZ:Z'=Z):Yj e v Z':=hZ ▸ h
theorem Yj.ok {e:Int} {v:List RR} {Z:Option (List Rat)} (h:Yj e v Z) (he:e=0) {k:Nat} (hk:k<v.length):(rr v k).ok=true:=by
 cases Z with
 |none=>have:e=2:=h;omega
 |some q =>
  obtain⟨_,rfl,m3⟩:e=0∧v=q.map Bj∧F7 q:=h;have hkq:k<q.length:=by simpa using hk
  rw[Jd hkq];refine Eu (m3 _ ?_);unfold Dr;rw[List.getD_eq_getElem?_getD,List.getElem?_eq_getElem hkq];exact List.getElem_mem hkq
theorem F7.at {r:List Rat} (h:F7 r) {k:Nat} (hk:k<r.length):B1 (Dr r k):=by
 unfold Dr;rw[List.getD_eq_getElem?_getD,List.getElem?_eq_getElem hk];exact h _ (List.getElem_mem hk)
end Go.Av
end
section
namespace Go.Av
open Go.Proofs
structure Fa (M:Aa) (c B:Nat) (bs:List Nat) (rows:List (List RR)) (x:AV) (by_:Nat) (fs:List AV) (ov:AV) (ob:List Nat) (ws:List AV):Prop where
 red:Dg (M.only (c::B::bs)) c B bs rows x .nil [] []
 by':M by_=some ⟨51,1,fs⟩
 lst:Mw M 44 4 ov ob ws
 nby:by_ ∉ c::B::bs
 nob:∀b∈ob,b ∉ c::B::bs∧b≠by_
section
variable {M:Aa} {c B:Nat} {bs:List Nat} {rows:List (List RR)} {x:AV} {by_:Nat} {fs:List AV} {ov:AV} {ob:List Nat} {ws:List AV}
theorem Fa.cell (h:Fa M c B bs rows x by_ fs ov ob ws):M c=some ⟨118,1,[x]⟩:=by
 have:=h.red.cell;rwa [Bt (by simp)]at this
theorem Fa.top (h:Fa M c B bs rows x by_ fs ov ob ws):M B=some ⟨51,1,Gj bs rows⟩:=by
 have:=h.red.mat.top;rwa [Bt (by simp)]at this
theorem Fa.row (h:Fa M c B bs rows x by_ fs ov ob ws) {i:Nat} (hi:i<rows.length):M (nb bs i)=some ⟨44,4,Cm (Am rows i)⟩:=by
 have:=h.red.mat.row i hi
 rwa [Bt (by simp[Er (show i<bs.length by rw[h.red.mat.len];exact hi)])]at this
theorem Fa.back (h:Fa M c B bs rows x by_ fs ov ob ws) {g:Aa} {rows':List (List RR)} {x':AV} (hg:Dg g c B bs rows' x' .nil [] []):Fa (M.back (c::B::bs) g) c B bs rows' x' by_ fs ov ob ws:=by
 have ho:∀b,b ∉ c::B::bs→g b=none:=fun b hb=>by
  cases hx:g b with
  |none=>rfl
  |some y=>have:=hg.only b (by rw[hx];simp);exact absurd (by simpa using this) hb
 have e:(M.back (c::B::bs) g).only (c::B::bs)=g:=by
  funext b
  by_cases hb:b∈c::B::bs
  ·rw[Bt hb,Qcf hb]
  ·rw[Bq hb,ho b hb]
 exact⟨by rw[e];exact hg,by rw[Hb (ho _ h.nby) h.nby];exact h.by',h.lst.keep fun b hb=>Hb (ho b (h.nob b hb).1) (h.nob b hb).1,h.nby,h.nob⟩
theorem It {m:Aa} {l:List Nat} {b:Nat} (hb:b ∉ l) (y:Ep):(m.set b y).only l=m.only l:=by
 funext k
 by_cases hk:k∈l
 ·rw[Bt hk,Bt hk];simp only[A1];rw[if_neg (by rintro rfl;exact hb hk)]
 ·rw[Bq hk,Bq hk]
theorem Fa.push0 (h:Fa M c B bs rows x by_ fs .nil [] []) {b:Nat} (hb:M b=none) (v:AV):Fa (M.set b ⟨44,4,[v]⟩) c B bs rows x by_ fs (.osl b 4 0 1) [b] [v]:=by
 have h1:b ∉ c::B::bs:=by
  intro hm;have:(M.only (c::B::bs)) b=none:=by rw[Bt hm];exact hb
  obtain⟨f1,f2,f3,_⟩:=h.red.fresh this;simp[f1,f2,f3]at hm
 have h2:b≠by_:=by rintro rfl;rw[h.by']at hb;cases hb
 exact⟨by rw[It h1];exact h.red,by simp only[A1];rw[if_neg (Ne.symm h2)];exact h.by',.inr ⟨b,rfl,rfl,by simp⟩,h.nby,fun a ha=>by simp at ha;subst ha;exact⟨h1,h2⟩⟩
theorem Fa.push1 {b0:Nat} (h:Fa M c B bs rows x by_ fs (.osl b0 4 0 ws.length) [b0] ws) {b:Nat} (hb:(M.del b0) b=none) (v:AV):Fa ((M.del b0).set b ⟨44,4,ws++[v]⟩) c B bs rows x by_ fs (.osl b 4 0 (ws.length+1)) [b] (ws++[v]):=by
 obtain⟨k1,k2⟩:=h.nob b0 (by simp);have hh:Fa (M.del b0) c B bs rows x by_ fs .nil [] []:=by
  have hdel:∀a,a≠b0→(M.del b0) a=M a:=fun a ha=>if_neg ha;have e:(M.del b0).only (c::B::bs)=M.only (c::B::bs):=by
   funext a
   by_cases ha:a∈c::B::bs
   ·rw[Bt ha,Bt ha,hdel a (by rintro rfl;exact k1 ha)]
   ·rw[Bq ha,Bq ha]
  exact⟨by rw[e];exact h.red,by rw[hdel by_ (Ne.symm k2)];exact h.by',.inl ⟨rfl,rfl,rfl⟩,h.nby,by simp⟩
 have h1:b ∉ c::B::bs:=by
  intro hm;have:((M.del b0).only (c::B::bs)) b=none:=by rw[Bt hm];exact hb
  obtain⟨f1,f2,f3,_⟩:=hh.red.fresh this;simp[f1,f2,f3]at hm
 have h2:b≠by_:=by rintro rfl;rw[hh.by']at hb;cases hb
 exact⟨by rw[It h1];exact hh.red,by simp only[A1];rw[if_neg (Ne.symm h2)];exact hh.by',.inr ⟨b,rfl,by simp,by simp⟩,h.nby,fun a ha=>by simp at ha;subst ha;exact⟨h1,h2⟩⟩
theorem Dg.as_only {M:Aa} {c B:Nat} {bs:List Nat} {rows:List (List RR)} {x:AV} (h:Dg M c B bs rows x .nil [] []):Dg (M.only (c::B::bs)) c B bs rows x .nil [] []:=by
 rw[Qeq (h.only.sub fun b hb=>by simpa using hb)];exact h
theorem Fa.start {x:AV} {by_:Nat} {fs:List AV} (h:Dg M c B bs rows x .nil [] []) (hb:M by_=none):Fa (M.set by_ ⟨51,1,fs⟩) c B bs rows x by_ fs .nil [] []:=by
 obtain⟨f1,f2,f3,_⟩:=h.fresh hb;have hn:by_ ∉ c::B::bs:=by simp[f1,f2,f3]
 exact⟨by rw[It hn];exact h.as_only,by simp,.inl ⟨rfl,rfl,rfl⟩,hn,by simp⟩
theorem Fa.store (h:Fa M c B bs rows x by_ fs ov ob ws) {e:Int} (hx:F8 x e) {bv n j:Nat} {form:List RR} (hb:M bv=none) (hl:form.length=n) (h1:∀v∈fs,v.cells.all AV.one=true) (h2:∀b y,M b=some y→∀v∈y.l,v.cells.all AV.one=true) (hj:j<fs.length) :
  Bo ((M.set bv ⟨44,4,Cm form⟩).set by_ ⟨51,1,fs.set j (.osl bv 4 0 n)⟩) (M.set by_ ⟨51,1,fs.set j (A7 form)⟩):=by
 have hne:by_≠bv:=by rintro rfl;rw[h.by']at hb;cases hb
 refine⟨fun b y hy=>?_⟩;simp only[A1]at hy;by_cases hby:b=by_
 ·rw[if_pos hby]at hy;cases hy;refine⟨⟨51,1,fs.set j (.osl bv 4 0 n)⟩,by simp[hby],rfl,rfl,by simp,fun k v v' q1 q2=>?_⟩;simp only[List.getElem?_set]at q1 q2;by_cases hk:j=k
  ·subst hk;rw[if_pos rfl,if_pos hj]at q1 q2;cases q1;cases q2;refine⟨Ye (e:=44) (r:=form) (by simp[Ne.symm hne]) ?_ hl,rfl⟩;simp only[A1];rw[if_neg (Ne.symm hne)];exact hb
  ·rw[if_neg hk]at q1 q2;rw[q1]at q2;cases q2;exact⟨.same _,h1 v (List.mem_of_getElem? q1)⟩
 ·rw[if_neg hby]at hy;have hbv:b≠bv:=by rintro rfl;rw[hb]at hy;cases hy
  refine⟨y,?_,rfl,rfl,rfl,fun k v v' q1 q2=>?_⟩
  ·simp only[A1];rw[if_neg hby,if_neg hbv];exact hy
  ·rw[q1]at q2;cases q2;exact⟨.same _,h2 b y hy v (List.mem_of_getElem? q1)⟩
end
end Go.Av
end
section
namespace Go.Av
open Go.Proofs
def Ib (M:Aa):Prop:=∀b y,M b=some y→∀v∈y.l,v.cells.all AV.one=true
theorem Ib.set {M:Aa} (h:Ib M) (b:Nat) {y:Ep} (hy:∀v∈y.l,v.cells.all AV.one=true):Ib (M.set b y):=by
 intro c z hz;simp only[A1]at hz;split at hz
 ·cases hz;exact hy
 ·exact h c z hz
theorem Ib.del {M:Aa} (h:Ib M) (b:Nat):Ib (M.del b):=by
 intro c z hz;unfold Aa.del at hz;split at hz
 ·cases hz
 ·exact h c z hz
theorem Qau {q:Rat} (h:B1 q):(Bj q).l1.length<2^40∧(Bj q).l2.length<2^40:=by
 have h1:=Bd h.1;have h2:=Bd h.2;exact⟨Nat.lt_of_le_of_lt h1 (by omega),Nat.lt_of_le_of_lt h2 (by omega)⟩
theorem Qdc {m g:Aa} {l:List Nat} (h1:∀b y,m b=some y→∀v∈y.l,v.cells.all AV.one=true) (h2:∀b y,g b=some y→∀v∈y.l,v.cells.all AV.one=true):∀b y,m.back l g b=some y→∀v∈y.l,v.cells.all AV.one=true:=by
 intro b y hy;unfold Aa.back at hy;cases hg:g b with
 |some z=>rw[hg]at hy;exact h2 b y (hg.trans hy)
 |none =>
  rw[hg]at hy;simp only at hy;split at hy
  ·cases hy
  ·exact h1 b y hy
set_option maxHeartbeats 2000000
end Go.Av
end
section
namespace Go.Av
open Go.Proofs
def Qfs (p:Prop) (v:AV):Prop:=∃t:Bool,v=.bool t∧(t=true↔p)
theorem Vf {a b:List Nat} (h:a.length=b.length) (he:∀k,k<a.length→nth a k=nth b k):a=b:=by
 refine List.ext_getElem h fun k h1 h2=>?_;have:=he k h1;unfold nth at this
 rwa [List.getD_eq_getElem?_getD,List.getD_eq_getElem?_getD,List.getElem?_eq_getElem h1,List.getElem?_eq_getElem h2]at this
theorem So (n1 n2:Bool) (l1 l2:List Nat) (h1:l1.length<2^40):Aj Tryz.prog 71 [.agg [.bool n1,An l1],.agg [.bool n2,An l2]] Aa.emp fun v m=>Qfs (n1=n2∧l1=l2) v∧m=Aa.emp:=by
 by_cases hn:n1=n2
 ·subst hn;by_cases hl:l1.length=l2.length
  ·refine Ae Tryz.func71 rfl rfl 38 rfl (Nat.le_of_ble_eq_true rfl) ?_;(repeat refine AW.seq_k fun K hK=>?_);refine AW.rgR [2,3] ?_;simp[Ak];try (refine hK _ rfl ?_;clear hK K)
   (repeat refine AW.seq_k fun K hK=>?_);refine AW.rg ?_;simp[hl];try (refine hK _ rfl ?_;clear hK K)
   refine AW.no ?_ (by simp);refine AW.skip ?_;try simp
   refine hK _ rfl ?_;clear hK K;refine AW.seq_ex (ι:=Unit) (fun _=>[]) (fun _=>Aa.emp) (fun _=>l1=l2) ?_ ?_
   ·(repeat refine AW.seq_k fun K hK=>?_);refine AW.rg ?_;simp;try (refine hK _ rfl ?_;clear hK K)
    refine AW.block (AW.loopS (ι:=Nat) (fun i=>[(2,.rptr [.bool n1,An l1]),(3,.rptr [.bool n1,An l2]),(5,.int .i64 (i:Nat))]) (fun _=>Aa.emp) (fun i=>i≤l1.length∧∀k,k<i→nth l1 k=nth l2 k) (fun i=>l1.length-i) 0 ⟨by simp,by simp⟩ rfl (by simp) ?_);rintro i ⟨g1,g2⟩;(repeat refine AW.seq_k fun K hK=>?_);refine AW.rg ?_;simp;try (refine hK _ rfl ?_;clear hK K)
    (repeat refine AW.seq ?_);refine AW.cs (fun hi=>?_) (fun hi=>?_) rfl<;>(try simp at hi)
    ·refine AW.skip ?_;try simp
     refine hK _ rfl ?_;clear hK K;have hi2:i<l2.length:=by omega
     have w1:=Aq (i+1) (by omega);refine AW.seq_ex (ι:=Unit) (fun _=>[(2,.rptr [.bool n1,An l1]),(3,.rptr [.bool n1,An l2]),(5,.int .i64 (i:Nat))]) (fun _=>Aa.emp) (fun _=>nth l1 i=nth l2 i) ?_ ?_
     ·(repeat refine AW.seq ?_);refine AW.block ?_;(repeat refine AW.seq_k fun K hK=>?_);refine AW.rd [0,1,2,3,4,5,6,7,8,9,10] C8 ?_;simp[hi,hi2];try (refine hK _ rfl ?_;clear hK K)
      by_cases h0:nth l1 i=nth l2 i
      ·refine AW.no ?_ (by simp[h0]);exact AW.skip ⟨(),h0,by simp⟩
      ·refine AW.yes ?_ (by simp[h0]);(repeat refine AW.seq_k fun K hK=>?_);refine AW.rg ?_;simp;try (refine hK _ rfl ?_;clear hK K)
       exact AW.ret (Ag (vs:=[.bool false]) [.bool false] (by simp) (by simp) ⟨⟨false,rfl,by simp;intro h;exact h0 (by rw[h])⟩,rfl⟩)
     rintro _ h0;(repeat refine AW.seq_k fun K hK=>?_);refine AW.rg ?_;simp[-Int.natCast_add,w1];try (refine hK _ rfl ?_;clear hK K)
     refine⟨⟨hi,fun k hk=>?_⟩,by omega⟩;rcases Nat.lt_succ_iff_lt_or_eq.1 hk with h | rfl
     ·exact g2 k h
     ·exact h0
    ·refine AW.exit ?_;try simp
     exact Vf hl fun k hk=>g2 k (by omega)
   rintro _ rfl;(repeat refine AW.seq_k fun K hK=>?_);refine AW.rg ?_;simp;try (refine hK _ rfl ?_;clear hK K)
   exact AW.ret (Ag (vs:=[.bool true]) [.bool true] (by simp) (by simp) ⟨⟨true,rfl,by simp⟩,rfl⟩)
  ·refine Ae Tryz.func71 rfl rfl 38 rfl (Nat.le_of_ble_eq_true rfl) ?_;(repeat refine AW.seq_k fun K hK=>?_);refine AW.rgR [2,3] ?_;simp[Ak];try (refine hK _ rfl ?_;clear hK K)
   (repeat refine AW.seq_k fun K hK=>?_);refine AW.rg ?_;simp[hl];try (refine hK _ rfl ?_;clear hK K)
   refine AW.yes ?_ (by simp);(repeat refine AW.seq_k fun K hK=>?_);refine AW.rg ?_;simp;try (refine hK _ rfl ?_;clear hK K)
   exact AW.ret (Ag (vs:=[.bool false]) [.bool false] (by simp) (by simp) ⟨⟨false,rfl,by simp;intro h;exact hl (by rw[h])⟩,rfl⟩)
 ·refine Ae Tryz.func71 rfl rfl 38 rfl (Nat.le_of_ble_eq_true rfl) ?_;(repeat refine AW.seq_k fun K hK=>?_);refine AW.rgR [2,3] ?_;simp[Ak];try (refine hK _ rfl ?_;clear hK K)
  (repeat refine AW.seq_k fun K hK=>?_);refine AW.rg ?_;simp[hn];try (refine hK _ rfl ?_;clear hK K)
  refine AW.yes ?_ (by simp);(repeat refine AW.seq_k fun K hK=>?_);refine AW.rg ?_;simp;try (refine hK _ rfl ?_;clear hK K)
  exact AW.ret (Ag (vs:=[.bool false]) [.bool false] (by simp) (by simp) ⟨⟨false,rfl,by simp[hn]⟩,rfl⟩)
def Qn4 (a:RR):Prop:=a.l1.length<2^40∧a.l2.length<2^40
theorem Qel (a b:RR) (h:Qn4 a):Aj Tryz.prog 33 [a.av,b.av] Aa.emp fun v m=>Qfs (a=b) v∧m=Aa.emp:=by
 have i1:=So a.n1 b.n1 a.l1 b.l1 h.1;have i2:=So a.n2 b.n2 a.l2 b.l2 h.2;have hab:a=b↔(a.n1=b.n1∧a.l1=b.l1)∧(a.n2=b.n2∧a.l2=b.l2):=by
  obtain⟨x1,x2,x3,x4⟩:=a;obtain⟨y1,y2,y3,y4⟩:=b;simp only[RR.mk.injEq,and_assoc]
 unfold RR.av;refine Ae Tryz.func33 rfl rfl 17 rfl (Nat.le_of_ble_eq_true rfl) ?_;(repeat refine AW.seq_k fun K hK=>?_);refine AW.rgR [2,3] ?_;simp[Ak];try (refine hK _ rfl ?_;clear hK K)
 (repeat refine AW.seq_k fun K hK=>?_);refine AW.rg ?_;simp;try (refine hK _ rfl ?_;clear hK K)
 refine Ac.pure i1 ?_;rintro _ ⟨t1,rfl,h1⟩;simp;cases t1
 ·simp;refine hK _ rfl ?_;clear hK K;exact AW.ret (Ag (vs:=[.bool false]) [.bool false] (by simp) (by simp) ⟨⟨false,rfl,by simp only[Bool.false_eq_true,false_iff];intro h;have:=h1.2 (hab.1 h).1;cases this⟩,rfl⟩)
 ·simp;refine Ac.pure i2 ?_;rintro _ ⟨t2,rfl,h2⟩;simp;refine hK _ rfl ?_;clear hK K;exact AW.ret (Ag (vs:=[.bool t2]) [.bool t2] (by simp) (by simp) ⟨⟨t2,rfl,by rw[h2,hab];exact⟨fun h=>⟨h1.1 rfl,h⟩,fun h=>h.2⟩⟩,rfl⟩)
end Go.Av
end
section
namespace Go.Av
open Go.Proofs
theorem Qj3 (X:List (List Rat)):Wf (Ci X)=X:=by
 unfold Wf Ci;rw[List.map_map]
 conv=>rhs;rw[←List.map_id X]
 refine List.map_congr_left fun r _=>?_;show(r.map Bj).map RR.q=r
 rw[List.map_map]
 conv=>rhs;rw[←List.map_id r]
 exact List.map_congr_left fun q _=>Gm q
theorem Qg3 {n w:Nat} {X:List (List Rat)} (h:Da n w X) (hw:(Am X 0).length=w) (h1:n≤64) (h2:w≤64):Zm (Ci X)=0:=by
 refine Qft ?_ ?_
 ·rintro(h'|⟨k,hk,h'⟩)
  ·rw[Bh,h.2.2]at h';omega
  ·rw[Bh,h.2.2]at hk;rw[Cb,List.length_map,(h.row hk).2]at h';omega
 ·intro k hk;rw[Bh,h.2.2]at hk;rw[Cb,Cb,List.length_map,List.length_map,(h.row hk).2,hw];refine⟨rfl,fun j hj=>?_⟩;have hjl:j<(Am X k).length:=by rw[(h.row hk).2];exact hj
  rw[Jd hjl];exact Eu ((h.row hk).1.at hjl)
set_option maxHeartbeats 1000000
end Go.Av
end
section
namespace Go.Av
open Go.Proofs
def Qdr (M:Aa) (B:Nat) (bs:List Nat) (X:List (List Rat)):Prop:=Eh M B bs (Ci X)∧Dn M (B::bs)
theorem Qdr.ones {M:Aa} {B:Nat} {bs:List Nat} {X:List (List Rat)} (h:Qdr M B bs X):Ib M:=h.1.ones (l:=[]) h.2 (by simp)
theorem Qdr.setRow {M:Aa} {B:Nat} {bs:List Nat} {X:List (List Rat)} (h:Qdr M B bs X) {i:Nat} (hi:i<X.length) {r:List Rat} (hr:r.length=(Am X i).length):Qdr (M.set (nb bs i) ⟨44,4,Cm (r.map Bj)⟩) B bs (X.set i r):=by
 refine⟨?_,h.2.set ?_ _⟩
 ·rw[Nd];exact h.1.setRow (by rw[Bh];exact hi) _ (by rw[Cb,List.length_map,List.length_map,hr])
 ·exact List.mem_cons_of_mem _ (Er (by rw[h.1.len,Bh];exact hi))
set_option maxHeartbeats 1000000
end Go.Av
end
section
namespace Go.Av
open Go.Proofs
structure Ls (M:Aa) (B:Nat) (bs:List Nat) (X:List (List Rat)) (pv:AV) (pb ps:List Nat):Prop where
 mat:Eh M B bs (Ci X)
 piv:U7 M pv pb ps
 npb:∀b∈pb,b ∉ B::bs
 ones:Ib M
section
variable {M:Aa} {B:Nat} {bs:List Nat} {X:List (List Rat)} {pv:AV} {pb ps:List Nat}
theorem Ls.back (h:Ls M B bs X pv pb ps) {g:Aa} {X':List (List Rat)} (hg:Qdr g B bs X'):Ls (M.back (B::bs) g) B bs X' pv pb ps :=
 ⟨hg.1.back _,h.piv.keep fun b hb=>Hb (hg.2.none (h.npb b hb)) (h.npb b hb),h.npb,Qdc h.ones hg.ones⟩
theorem Ls.swap (h:Ls M B bs X pv pb ps) {i r:Nat} (hi:i<X.length) (hr:r<X.length) :
  Ls (M.set B ⟨51,1,((Gj bs (Ci X)).set i (.osl (nb bs r) 4 0 (Am (Ci X) r).length)).set r (.osl (nb bs i) 4 0 (Am (Ci X) i).length)⟩) B (E9 bs i r) (De X i r) pv pb ps:=by
 have hiE:i<(Ci X).length:=by rw[Bh];exact hi
 have hrE:r<(Ci X).length:=by rw[Bh];exact hr
 have hb:∀b,b∈E9 bs i r↔b∈bs:=fun b=>K4 (by rw[h.mat.len];exact hiE) (by rw[h.mat.len];exact hrE) b;refine⟨by rw[Yc];exact h.mat.swap hiE hrE,h.piv.keep fun b hb'=>?_,fun b hb'=>?_,Ib.set h.ones B fun v hv=>?_⟩
 ·simp only[A1];rw[if_neg (by rintro rfl;exact h.npb _ hb' (by simp))]
 ·have:=h.npb b hb';simpa[hb]using this
 ·rcases List.mem_or_eq_of_mem_set hv with hv|rfl
  ·rcases List.mem_or_eq_of_mem_set hv with hv|rfl
   ·exact Us bs (Ci X) v hv
   ·rfl
  ·rfl
theorem Ls.fresh (h:Ls M B bs X pv pb ps) {b:Nat} (hb:M b=none):b ∉ B::bs:=by
 intro hm;rcases List.mem_cons.1 hm with rfl | hm
 ·rw[h.mat.top]at hb;cases hb
 ·obtain⟨k,hk,e⟩:=List.mem_iff_getElem.1 hm;rw[←Ii hk]at e;have:=h.mat.row k (by rw[←h.mat.len];exact hk);rw[e,hb]at this;cases this
theorem Ls.push0 (h:Ls M B bs X .nil [] []) {b:Nat} (hb:M b=none) (j:Nat):Ls (M.set b ⟨3,1,[.int .i64 (j:Nat)]⟩) B bs X (.osl b 1 0 1) [b] [j]:=by
 have hn:=h.fresh hb;have h1:b≠B:=fun e=>hn (by simp[e]);have h2:b ∉ bs:=fun e=>hn (by simp[e]);exact⟨h.mat.other h1 h2 _,.inr ⟨b,rfl,rfl,by simp[Al]⟩,fun a ha=>by simp at ha;subst ha;exact hn,h.ones.set b fun v hv=>by simp at hv;subst hv;rfl⟩
theorem Ls.push1 {b0:Nat} (h:Ls M B bs X (.osl b0 1 0 ps.length) [b0] ps) {b:Nat} (hb:(M.del b0) b=none) (j:Nat):Ls ((M.del b0).set b ⟨3,1,Al ps++[.int .i64 (j:Nat)]⟩) B bs X (.osl b 1 0 (ps.length+1)) [b] (ps++[j]):=by
 have h0:=h.npb b0 (by simp);have hh:Ls (M.del b0) B bs X .nil [] []:=by
  have hdel:∀a,a≠b0→(M.del b0) a=M a:=fun a ha=>if_neg ha;refine⟨⟨by rw[hdel B (by rintro rfl;exact h0 (by simp))];exact h.mat.top,h.mat.len,fun i hi=>?_,h.mat.nd,h.mat.nB⟩,.inl ⟨rfl,rfl,rfl⟩,by simp,h.ones.del b0⟩;rw[hdel _ (fun e=>h0 (e ▸ List.mem_cons_of_mem _ (Er (by rw[h.mat.len];exact hi))))];exact h.mat.row i hi
 have hn:=hh.fresh hb;have h1:b≠B:=fun e=>hn (by simp[e]);have h2:b ∉ bs:=fun e=>hn (by simp[e]);refine⟨hh.mat.other h1 h2 _,.inr ⟨b,rfl,by simp,by simp[Cv]⟩,fun a ha=>by simp at ha;subst ha;exact hn,hh.ones.set b fun v hv=>?_⟩;rcases List.mem_append.1 hv with hv | hv
 ·exact Ce ps v hv
 ·simp at hv;subst hv;rfl
end
set_option maxHeartbeats 1000000
end Go.Av
end
section
namespace Go.Av
open Go.Proofs
structure Me (M:Aa) (ty:TypeId) (z:Nat) (ov:AV) (ob:List Nat) (l:List AV):Prop where
 lst:Mw M ty z ov ob l
 only:Dn M ob
section
variable {M:Aa} {ov:AV} {ty:TypeId} {z:Nat} {ob:List Nat} {l:List AV}
theorem Me.start (ty:TypeId) (z:Nat):Me Aa.emp ty z .nil [] []:=⟨.inl ⟨rfl,rfl,rfl⟩,fun _ h=>absurd rfl h⟩
theorem Me.ones (h:Me M ty z ov ob l) (hl:∀v∈l,v.cells.all AV.one=true):Ib M:=by
 intro b y hy;have hb:=h.only b (by rw[hy];simp);rcases h.lst with⟨_,h1,_⟩ | ⟨b',h1,_,h3⟩
 ·rw[h1]at hb;cases hb
 ·rw[h1]at hb;simp at hb;subst hb;rw[h3]at hy;cases hy;exact hl
theorem Me.push0 (h:Me M ty z .nil [] []) (b:Nat) (v:AV):Me (M.set b ⟨ty,z,[v]⟩) ty z (.osl b z 0 1) [b] [v] :=
 ⟨.inr ⟨b,rfl,rfl,by simp⟩,(h.only.sub fun a ha=>by cases ha).set (by simp) _⟩
theorem Me.push1 {b0:Nat} (h:Me M ty z (.osl b0 z 0 l.length) [b0] l) (b:Nat) (v:AV):Me ((M.del b0).set b ⟨ty,z,l++[v]⟩) ty z (.osl b z 0 (l.length+1)) [b] (l++[v]):=by
 refine⟨.inr ⟨b,rfl,by simp,by simp⟩,Dn.set (l:=[b]) (fun a ha=>?_) (by simp) _⟩;by_cases h1:a=b0
 ·subst h1;exact absurd (if_pos rfl) ha
 ·have e:(M.del b0) a=M a:=if_neg h1;rw[e]at ha;have:=h.only a ha;simp at this;exact absurd this h1
end
structure Qfl where
 M:Aa
 ov:AV
 ob:List Nat
theorem Qae (X:List (List Rat)):∀v∈(Ci X).map A7,v.cells.all AV.one=true:=by
 intro v hv;obtain⟨r,_,rfl⟩:=List.mem_map.1 hv;rfl
end Go.Av
end
section
namespace Go.Av
open Go.Proofs Go.Lam
theorem O1 (n:Int) (h1:-9223372036854775808≤n) (h2:n<9223372036854775808):Aj Tryz.prog 104 [.int .i64 n] Aa.emp fun v m=>v=(Bj (Qc n)).av∧m=Aa.emp:=by
 have ho:=Qb2 n 1 h1 h2 (by omega) (by omega) (by omega);have e:Rat.divInt n 1=Qc n:=rfl;rw[e,Ff]at ho;generalize Qc n=q at *;rw[H0];unfold Jn at *;refine Ae Tryz.func104 rfl rfl 11 rfl (Nat.le_of_ble_eq_true rfl) ?_;(repeat refine AW.seq_k fun K hK=>?_);refine AW.rg ?_;simp[Ak];try (refine hK _ rfl ?_;clear hK K)
 refine Ah.intro fun b2 hb2=>?_;refine hK _ rfl ?_;clear hK K;(repeat refine AW.seq_k fun K hK=>?_);refine AW.rg ?_;simp;try (refine hK _ rfl ?_;clear hK K)
 refine Ac.val ho ?_;simp;refine Ah.intro fun b3 hb3=>?_;simp only[Ap,Az,and_true]at hb3;try simp[hb3]
 refine hK _ rfl ?_;clear hK K;(repeat refine AW.seq_k fun K hK=>?_);refine AW.rg ?_;simp[hb3];try (refine hK _ rfl ?_;clear hK K)
 exact AW.ret (Ag (vs:=[.agg [.bool (decide (q.num<0)),An (Ao q.num.natAbs),.bool false,An (Ao q.den)]]) [.agg [.bool (decide (q.num<0)),An (Ao q.num.natAbs),.bool false,An (Ao q.den)]] (by simp[hb3]) (by simp) ⟨rfl,rfl⟩)
theorem Kd (n:Int) (h1:-9223372036854775808≤n) (h2:n<9223372036854775808):Aj Tryz.prog 28 [.int .i64 n] Aa.emp fun v m=>v=(Bj (Qc n)).av∧m=Aa.emp:=by
 have ho:=Qfk n 1 h1 h2 (by omega) (by omega) (by omega);have e:Rat.divInt n 1=Qc n:=rfl;rw[e,Ff]at ho;generalize Qc n=q at *;rw[H0];unfold Jn at *;refine Ae Tryz.func28 rfl rfl 11 rfl (Nat.le_of_ble_eq_true rfl) ?_;(repeat refine AW.seq_k fun K hK=>?_);refine AW.rg ?_;simp[Ak];try (refine hK _ rfl ?_;clear hK K)
 refine Ah.intro fun b2 hb2=>?_;refine hK _ rfl ?_;clear hK K;(repeat refine AW.seq_k fun K hK=>?_);refine AW.rg ?_;simp;try (refine hK _ rfl ?_;clear hK K)
 refine Ac.val ho ?_;simp;refine Ah.intro fun b3 hb3=>?_;simp only[Ap,Az,and_true]at hb3;try simp[hb3]
 refine hK _ rfl ?_;clear hK K;(repeat refine AW.seq_k fun K hK=>?_);refine AW.rg ?_;simp[hb3];try (refine hK _ rfl ?_;clear hK K)
 exact AW.ret (Ag (vs:=[.agg [.bool (decide (q.num<0)),An (Ao q.num.natAbs),.bool false,An (Ao q.den)]]) [.agg [.bool (decide (q.num<0)),An (Ao q.num.natAbs),.bool false,An (Ao q.den)]] (by simp[hb3]) (by simp) ⟨rfl,rfl⟩)
theorem U4 (a b:RR) (ha:a.Lb) (hb:b.Lb) (oa:a.ok=true) (ob:b.ok=true):Aj Tryz.prog 105 [a.av,b.av] Aa.emp fun v m=>v=.bool (decide (a.q≠b.q))∧m=Aa.emp:=by
 have hc:=Qet a b ha hb oa ob;refine Ae Tryz.func105 rfl rfl 15 rfl (Nat.le_of_ble_eq_true rfl) ?_;unfold RR.av at *;(repeat refine AW.seq_k fun K hK=>?_);refine AW.rgR [2,3] ?_;simp[Ak];try (refine hK _ rfl ?_;clear hK K)
 (repeat refine AW.seq_k fun K hK=>?_);refine AW.rg ?_;simp;try (refine hK _ rfl ?_;clear hK K)
 refine Ac.pure hc ?_;rintro _ ⟨c,rfl,hc0⟩;simp;try (refine hK _ rfl ?_;clear hK K)
 (repeat refine AW.seq_k fun K hK=>?_);refine AW.rg ?_;simp;try (refine hK _ rfl ?_;clear hK K)
 exact AW.ret (Af rfl _ (.same _) ⟨by simp[oneOrTup,hc0],rfl⟩)
end Go.Av
end
section
namespace Go.Av
open Go.Proofs Go.Lam
def zR:AV:=.agg [.bool false,.nil,.bool false,.nil]
def zrI (n i:Nat):List AV:=Cm (List.replicate i (Bj 0))++List.replicate (n-i) zR
@[simp] theorem Qan {n i:Nat} (h:i≤n):(zrI n i).length=n:=by simp[zrI,Cm];omega
theorem Qk8 {n i:Nat} (h:i<n):(zrI n i).set i (Bj 0).av=zrI n (i+1):=by
 unfold zrI;rw[List.set_append_right _ _ (by simp[Cm])];have e:n-i=(n-(i+1))+1:=by omega
 rw[e,List.replicate_succ,show i-(Cm (List.replicate i (Bj 0))).length=0 by simp[Cm]];simp only[List.set_cons_zero];simp[Cm,List.replicate_succ']
theorem O8 (n:Nat) (hn:n<2^30):Aj Tryz.prog 102 [.int .i64 (n:Nat)] Aa.emp fun v M=>∃b,v=.osl b 4 0 n∧M=Aa.emp.set b ⟨44,4,Cm (List.replicate n (Bj 0))⟩:=by
 have hw:=O1 0 (by omega) (by omega);rw[Ih]at hw;refine Ae Tryz.func102 rfl rfl 17 rfl (Nat.le_of_ble_eq_true rfl) ?_;(repeat refine AW.seq_k fun K hK=>?_);refine AW.rg ?_;simp[Ak];try (refine hK _ rfl ?_;clear hK K)
 (repeat refine AW.seq_k fun K hK=>?_);refine AW.rg ?_;simp[-Int.natCast_mul];try (refine hK _ rfl ?_;clear hK K)
 refine⟨by omega,Ah.intro fun b hb=>?_⟩;refine hK _ rfl ?_;clear hK K;have hz:List.replicate n (AV.agg [.bool false,.nil,.bool false,.nil])=zrI n 0:=by simp[zrI,Cm,zR]
 rw[hz];have hzn:zrI n n=Cm (List.replicate n (Bj 0)):=by simp[zrI]
 refine AW.seq_ex (ι:=Unit) (fun _=>[(3,.osl b 4 0 n)]) (fun _=>Aa.emp.set b ⟨44,4,zrI n n⟩) (fun _=>True) ?_ ?_
 ·(repeat refine AW.seq_k fun K hK=>?_);refine AW.rg ?_;simp;try (refine hK _ rfl ?_;clear hK K)
  refine AW.block (AW.loopS (ι:=Nat) (fun i=>[(3,.osl b 4 0 n),(7,.int .i64 (n:Nat)),(8,.int .i64 (i:Nat))]) (fun i=>Aa.emp.set b ⟨44,4,zrI n i⟩)
   (fun i=>i≤n) (fun i=>n-i) 0 (by simp) rfl (by simp) ?_)
  intro i g1;(repeat refine AW.seq_k fun K hK=>?_);refine AW.rg ?_;simp;try (refine hK _ rfl ?_;clear hK K)
  (repeat refine AW.seq ?_);refine AW.cs (fun hi=>?_) (fun hi=>?_) rfl<;>(try simp at hi)
  ·refine AW.skip ?_;try simp
   try (refine hK _ rfl ?_;clear hK K)
   have w1:=Aq (i+1) (by omega);have hzl:(zrI n i).length=n:=Qan g1;(repeat refine AW.seq ?_);refine AW.block ?_;(repeat refine AW.seq_k fun K hK=>?_);refine AW.rg ?_;simp;try (refine hK _ rfl ?_;clear hK K)
   (repeat refine AW.seq_k fun K hK=>?_);refine AW.rg ?_;simp;try (refine hK _ rfl ?_;clear hK K)
   refine Ac.val hw ?_;simp[hi,hzl];rw[Qk8 hi];(repeat refine AW.seq_k fun K hK=>?_);refine AW.rg ?_;simp[-Int.natCast_add,w1];try (refine hK _ rfl ?_;clear hK K)
   exact⟨i+1,by omega,by omega,rfl,rfl⟩
  ·refine AW.exit ?_;try simp
   rw[show i=n by omega]
 rintro _ _;rw[hzn];(repeat refine AW.seq_k fun K hK=>?_);refine AW.rg ?_;simp;try (refine hK _ rfl ?_;clear hK K)
 refine AW.ret (Bz rfl (fun c y hy v hv=>?_) ⟨b,rfl,rfl⟩);by_cases e:c=b
 ·rw[e]at hy;simp at hy;cases hy;exact Ob _ v hv
 ·simp[Aa.set,e,Aa.emp]at hy
end Go.Av
end
section
namespace Go.Av
open Go.Proofs Go.Lam
def H8 (n:Int) (es:List RE) (p:List RR):Bool:=C2 n es&&decide ((p.length:Int)=2*n)&&p.all RR.ok
def H9 (n:Int) (es:List RE) (p:List RR):AV:=.int .i64 (if H8 n es p=true then 0 else 1)
theorem Xc (n:Int) (es:List RE) (p:List RR) (hb:LbE es) (hp:∀x∈p,x.Lb):Aj Tryz.prog 67 [.int .i64 n,A3 es,A7 p] Aa.emp fun v m=>v=H9 n es p∧m=Aa.emp:=by
 have hc:=Og n es hb;refine Ae Tryz.func67 rfl rfl 31 rfl (Nat.le_of_ble_eq_true rfl) ?_;unfold A3 A7 at *;(repeat refine AW.seq_k fun K hK=>?_);refine AW.rg ?_;simp[Ak];try (refine hK _ rfl ?_;clear hK K)
 (repeat refine AW.seq_k fun K hK=>?_);refine AW.rg ?_;simp;try (refine hK _ rfl ?_;clear hK K)
 refine Ac.val hc ?_;by_cases hk:C2 n es=true;rotate_left
 ·have e1:Bw n es=.int .i64 1:=by unfold Bw;rw[if_neg hk]
  have e2:H9 n es p=.int .i64 1:=by unfold H9 H8;rw[Bool.not_eq_true]at hk;rw[hk];rfl
  simp[e1];try (refine hK _ rfl ?_;clear hK K)
  (repeat refine AW.seq_k fun K hK=>?_);refine AW.rg ?_;simp;try (refine hK _ rfl ?_;clear hK K)
  refine AW.yes ?_ rfl;(repeat refine AW.seq_k fun K hK=>?_);refine AW.rg ?_;simp;try (refine hK _ rfl ?_;clear hK K)
  exact AW.ret (Af rfl _ (.same _) ⟨by rw[e2];rfl,rfl⟩)
 have e1:Bw n es=.int .i64 0:=by unfold Bw;rw[if_pos hk]
 obtain⟨⟨h1,h2,h3⟩,_⟩:=Df hk;simp[e1];try (refine hK _ rfl ?_;clear hK K)
 (repeat refine AW.seq_k fun K hK=>?_);refine AW.rg ?_;simp;try (refine hK _ rfl ?_;clear hK K)
 refine AW.no ?_ rfl;refine AW.skip ?_;try simp
 try (refine hK _ rfl ?_;clear hK K)
 have w2:IntKind.i64.wrap (2*n)=2*n:=Md (by omega);by_cases hlen:(p.length:Int)=2*n;rotate_left
 ·have e2:H9 n es p=.int .i64 1:=by unfold H9 H8;rw[decide_eq_false hlen];simp
  (repeat refine AW.seq_k fun K hK=>?_);refine AW.rg ?_;simp[w2,hlen];try (refine hK _ rfl ?_;clear hK K)
  refine AW.yes ?_ rfl;(repeat refine AW.seq_k fun K hK=>?_);refine AW.rg ?_;simp;try (refine hK _ rfl ?_;clear hK K)
  exact AW.ret (Af rfl _ (.same _) ⟨by rw[e2];rfl,rfl⟩)
 (repeat refine AW.seq_k fun K hK=>?_);refine AW.rg ?_;simp[w2,hlen];try (refine hK _ rfl ?_;clear hK K)
 refine AW.no ?_ (by simp[hlen]);refine AW.skip ?_;try simp
 try (refine hK _ rfl ?_;clear hK K)
 refine AW.seq_ex (ι:=Unit) (fun _=>[]) (fun _=>Aa.emp) (fun _=>p.all RR.ok=true) ?_ ?_
 ·(repeat refine AW.seq_k fun K hK=>?_);refine AW.rg ?_;simp;try (refine hK _ rfl ?_;clear hK K)
  refine AW.block (AW.loopS (ι:=Nat) (fun i=>[(21,.sl 4 (Cm p)),(22,.int .i64 (p.length:Nat)),(23,.int .i64 (i:Nat))]) (fun i=>Aa.emp)
   (fun i=>i≤p.length∧(p.take i).all RR.ok=true) (fun i=>p.length-i) 0 ⟨by simp,by simp⟩ rfl (by simp) ?_)
  rintro i ⟨g1,g2⟩;(repeat refine AW.seq_k fun K hK=>?_);refine AW.rg ?_;simp;try (refine hK _ rfl ?_;clear hK K)
  (repeat refine AW.seq ?_);refine AW.cs (fun hi=>?_) (fun hi=>?_) rfl<;>(try simp at hi)
  ·refine AW.skip ?_;try simp
   try (refine hK _ rfl ?_;clear hK K)
   have w1:=Aq (i+1) (by omega);have hxm:rr p i∈p:=by rw[La hi];exact List.getElem_mem hi
   have hv:=Fc (rr p i) (hp _ hxm);have hst:(p.take (i+1)).all RR.ok=(rr p i).ok:=by
    rw[List.take_add_one,List.getElem?_eq_getElem hi,List.all_append,g2,La hi];simp
   unfold RR.av at hv;(repeat refine AW.seq ?_);refine AW.block ?_;(repeat refine AW.seq_k fun K hK=>?_);refine AW.rg ?_;simp[hi];try (refine hK _ rfl ?_;clear hK K)
   refine Ah.intro fun b6 hb6=>?_;refine hK _ rfl ?_;clear hK K;refine AW.toEmp [(9,.rptr [.bool (rr p i).n1,An (rr p i).l1,.bool (rr p i).n2,An (rr p i).l2]),(21,.sl 4 (Cm p)),(22,.int .i64 (p.length:Nat)),(23,.int .i64 (i:Nat))] (by simp;exact Kr rfl) ?_;(repeat refine AW.seq_k fun K hK=>?_);refine AW.rg ?_;simp;try (refine hK _ rfl ?_;clear hK K)
   refine Ac.val hv ?_;simp;try (refine hK _ rfl ?_;clear hK K)
   cases hok:(rr p i).ok with
   |false =>
    have e2:H9 n es p=.int .i64 1:=by
     have:p.all RR.ok=false:=List.all_eq_false.2 ⟨rr p i,hxm,by rw[hok];simp⟩;unfold H9 H8;rw[this];simp
    refine AW.yes ?_ rfl;(repeat refine AW.seq_k fun K hK=>?_);refine AW.rg ?_;simp;try (refine hK _ rfl ?_;clear hK K)
    exact AW.ret (Af rfl _ (.same _) ⟨by rw[e2];rfl,rfl⟩)
   |true =>
    refine AW.no ?_ rfl;refine AW.skip ?_;try simp
    try (refine hK _ rfl ?_;clear hK K)
    (repeat refine AW.seq_k fun K hK=>?_);refine AW.rg ?_;simp[-Int.natCast_add,w1];try (refine hK _ rfl ?_;clear hK K)
    exact⟨⟨by omega,by rw[hok]at hst;simpa using hst⟩,by omega⟩
  ·refine AW.exit ?_;try simp
   have:i=p.length:=by omega
   subst this;rw[List.take_length]at g2;simpa using g2
 ·rintro _ h;have e2:H9 n es p=.int .i64 0:=by unfold H9 H8;rw[hk,decide_eq_true hlen,h];rfl
  (repeat refine AW.seq_k fun K hK=>?_);refine AW.rg ?_;simp;try (refine hK _ rfl ?_;clear hK K)
  exact AW.ret (Af rfl _ (.same _) ⟨by rw[e2];rfl,rfl⟩)
end Go.Av
end
section
namespace Go.Av
open Go.Proofs Go.Lam
def uI (a b s:Nat):Nat:=2*(if s<2 then a else b)+s % 2
def vI (a b s:Nat):Nat:=2*(if s<2 then b else a)+s % 2
def eqS (n:Nat) (p:List Rat) (a b:Nat):Nat→Option (List Rat)
 |0=>some (List.replicate (2*n) 0)
 |s+1=>(eqS n p a b s).bind fun r=>(Dh (Dr p (uI a b s)) (Dr p (vI a b s))).map fun d=>r.set (uI a b s) d
def Wg (n:Nat) (E:Nat→Ed) (p:List Rat):Nat→Option (List (List Rat))
 |0=>some []
 |k+1=>(Wg n E p k).bind fun M=>(eqS n p (E k).1 (E k).2 4).map fun r=>M++[r]
def Y9 (n:Nat) (p:List Rat):Option Nat:=(List.range n).find? fun i=>decide (1≤i)&&(decide (Dr p (2*i)≠Dr p 0) || decide (Dr p (2*i+1)≠Dr p 1))
def Sz (n:Nat) (p:List Rat):Option (List (List Rat)) :=
 let z:=List.replicate (2*n) (0:Rat)
 match Y9 n p with
 |none=>some [z.set 0 1,z.set 1 1]
 |some i=>(Dh (Dr p 1) (Dr p (2*i+1))).bind fun d1=>(Dh (Dr p (2*i)) (Dr p 0)).map fun d2=>[z.set 0 1,z.set 1 1,(z.set (2*i) d1).set (2*i+1) d2]
def Fn (n:Nat) (r:List Rat):Prop:=r.length=2*n∧∀q∈r,B1 q
theorem Fn.set {n:Nat} {r:List Rat} (h:Fn n r) (i:Nat) {d:Rat} (hd:B1 d):Fn n (r.set i d):=⟨by rw[List.length_set];exact h.1,fun q hq=>by
 rcases List.mem_or_eq_of_mem_set hq with h1|h1
 ·exact h.2 q h1
 ·rw[h1];exact hd⟩
theorem Fn.zero (n:Nat):Fn n (List.replicate (2*n) 0):=⟨by simp,fun q hq=>by rw[List.eq_of_mem_replicate hq];exact Ut⟩
theorem Nb {n:Nat} {p:List Rat} {a b:Nat}:∀{s:Nat} {r:List Rat},eqS n p a b s=some r→Fn n r
 |0,r,h=>by cases h;exact Fn.zero n
 |s+1,r,h=>by
  rw[eqS]at h;obtain⟨r',h1,h2⟩:=Option.bind_eq_some_iff.1 h;obtain⟨d,h3,rfl⟩:=Option.map_eq_some_iff.1 h2;exact(Nb h1).set _ (X3 h3)
theorem Ni {n:Nat} {E:Nat→Ed} {p:List Rat}:∀{k:Nat} {M:List (List Rat)},Wg n E p k=some M→M.length=k∧∀r∈M,Fn n r
 |0,M,h=>by cases h;simp
 |k+1,M,h=>by
  rw[Wg]at h;obtain⟨M',h1,h2⟩:=Option.bind_eq_some_iff.1 h;obtain⟨r,h3,rfl⟩:=Option.map_eq_some_iff.1 h2;obtain⟨h4,h5⟩:=Ni h1;refine⟨by simp[h4],fun x hx=>?_⟩;rcases List.mem_append.1 hx with hx | hx
  ·exact h5 x hx
  ·simp at hx;subst hx;exact Nb h3
theorem Qfy {n:Nat} {p:List Rat} {a b s t:Nat} (h:eqS n p a b s=none) (hst:s≤t):eqS n p a b t=none:=by
 induction t with
 |zero=>rw[show s=0 by omega]at h;exact h
 |succ t ih =>
  rcases Nat.lt_or_ge t s with h1|h1
  ·rw[show t+1=s by omega];exact h
  ·rw[eqS,ih h1];rfl
theorem Qhb {n:Nat} {E:Nat→Ed} {p:List Rat} {k t:Nat} (h:Wg n E p k=none) (hst:k≤t):Wg n E p t=none:=by
 induction t with
 |zero=>rw[show k=0 by omega]at h;exact h
 |succ t ih =>
  rcases Nat.lt_or_ge t k with h1|h1
  ·rw[show t+1=k by omega];exact h
  ·rw[Wg,ih h1];rfl
end Go.Av
end
section
namespace Go.Av
section
variable {P:Program}
def isB (o:Oper):Bool:=match o.op with
 |.build _ _=>true
 |_=>false
def Qky (P:Program) (o:Oper) (s:St) (k:AV→Aa→Prop):Prop:=match o.op with
 |.build t parts=>∃ti n e te zs,Ai P t=some ti∧ti.cls=.array n e∧Ai P e=some te∧te.size=1∧ti.zero=.agg zs∧zs.length=n∧parts.toList.map (·.1)=List.range n ∧
   (∀p∈parts.toList,∃kd m,s.ev p.2=.int kd m)∧k (.agg (parts.toList.map fun p=>s.ev p.2)) s.m
 |_=>False
theorem W3 (n:Nat):∀(parts:List (Nat × Value)) (vs:Array Value),(∀p∈parts,p.1<n∧p.2.cells=#[p.2])→vs.size=n →
  ∃vs',Instr.fill (fun i=>some (i*1,1)) vs parts=some vs'∧vs'.size=n∧∀i:Nat,vs'[i]?=match parts.reverse.find? (fun p=>p.1==i)with | some p=>some p.2 | none=>vs[i]?
 |[],vs,_,hs=>⟨vs,rfl,hs,fun i=>rfl⟩
 |(i,v)::rest,vs,h,hs=>by
  obtain⟨h1,h2⟩:=h (i,v) (by simp);simp only at h1 h2;obtain⟨vs',e1,e2,e3⟩:=W3 n rest (vs.setIfInBounds i v) (fun p hp=>h p (by simp[hp])) (by simpa using hs);refine⟨vs',?_,e2,fun j=>?_⟩
  ·unfold Instr.fill;simp only[Nat.mul_one,h2];rw[if_neg (by simp;omega)];simpa using e1
  ·rw[e3 j,List.reverse_cons,List.find?_append];cases hf:rest.reverse.find? (fun p=>p.1==j)with
   |some p=>simp
   |none =>
    simp only[Option.none_or,List.find?_cons,List.find?_nil];by_cases hij:i=j
    ·subst hij;have hi:i<vs.size:=by rw[hs];exact h1
     simp[hi]
    ·have:(i==j)=false:=by simpa using hij
     rw[this];simp[Array.getElem?_setIfInBounds,hij]
theorem Zp {F G:Nat→Prop} {w0 w:World} {s:St} {a:Act} (hrel:Ds F G w0 s a w) {o:Oper} (hok:F1 s.n o=true) {K:St→Prop} (h:Qky P o s fun v m'=>K ({s with m:=m'}.put o.dst v)) (Q:Exit→Act→World→Prop):o.wp P a w (Ev F G w0 s.n K) Q:=by
 have hd:Lh s.n o.dst=true:=by unfold F1 at hok;rw[Bool.and_eq_true]at hok;exact hok.1
 have hall:∀x∈o.op.operands.toList,Fs s.n x=true:=by unfold F1 at hok;rw[Bool.and_eq_true]at hok;exact List.all_eq_true.1 hok.2
 unfold Qky at h;split at h
 ·rename_i t parts ho
  rw[ho]at hall;obtain⟨ti,n,e,te,zs,ht,hc,hte,hz1,hzz,hzl,hidx,hone,hk⟩:=h;obtain⟨inf,d,z,hi,hdd,hz,g1,g2,g3,g4,g5⟩:=(D7 ht).get;obtain⟨ie,de,ze,hie,hde,hze,k1,k2,k3,k4,k5⟩:=(D7 hte).get;rw[←g3]at hc;cases d<;>simp only[C3,reduceCtorEq,J5.array.injEq]at hc
  obtain⟨rfl,rfl⟩:=hc;have hzs:z.cells.size=zs.length:=by
   have hzc:VR w F (.agg zs) z:=by rw[←hzz,←g4];exact Ht w F z
   exact(hzc.cells (by simp)).1
  have hpl:∀p∈parts.toList,∃kd m,s.ev p.2=.int kd m∧a.eval p.2=.int kd m:=fun p hp=>by
   have h1:=hrel.ev (hall p.2 (by
    have e0:(Op.build t parts).operands.toList=parts.toList.map (·.2):=by simp[Op.operands]
    rw[e0];exact List.mem_map.2 ⟨p,hp,rfl⟩))
   obtain⟨kd,m,h2⟩:=hone p hp;rw[h2]at h1;cases hv:a.eval p.2<;>rw[hv]at h1<;>cases h1
   exact⟨_,_,h2,rfl⟩
  have hlt:∀p∈parts.toList,p.1<zs.length:=fun p hp=>by
   have:p.1∈parts.toList.map (·.1):=List.mem_map.2 ⟨p,hp,rfl⟩;rw[hidx,List.mem_range]at this;omega
  have hsz:parts.toList.length=zs.length:=by
   have:=congrArg List.length hidx;rw[List.length_map,List.length_range]at this;omega
  obtain⟨vs',f1,f2,f3⟩:=W3 zs.length (parts.toList.map fun p=>(p.1,a.eval p.2)) z.cells (fun q hq=>by
   obtain⟨p,hp,rfl⟩:=List.mem_map.1 hq;obtain⟨kd,m,_,h3⟩:=hpl p hp;exact⟨hlt p hp,by simp only[h3];rfl⟩) hzs
  have hval:∀j (hj:j<parts.toList.length),vs'[j]?=some (a.eval (parts.toList[j]).2):=fun j hj=>by
   rw[f3 j];have hj1:(parts.toList[j]).1=j:=by
    have:(parts.toList.map (·.1))[j]?=some j:=by rw[hidx];rw[List.getElem?_range (by omega)]
    rw[List.getElem?_map,List.getElem?_eq_getElem hj,Option.map_some]at this;exact Option.some.inj this
   have huniq:∀i (hi:i<parts.toList.length),(parts.toList[i]).1=j→i=j:=fun i hi e=>by
    have:(parts.toList.map (·.1))[i]?=some i:=by rw[hidx];rw[List.getElem?_range (by omega)]
    rw[List.getElem?_map,List.getElem?_eq_getElem hi,Option.map_some]at this;have:=Option.some.inj this;omega
   cases hf:(parts.toList.map fun p=>(p.1,a.eval p.2)).reverse.find? (fun p=>p.1==j)with
   |none =>
    have:=List.find?_eq_none.1 hf (j,a.eval (parts.toList[j]).2) (by
     rw[List.mem_reverse,List.mem_map];exact⟨parts.toList[j],List.getElem_mem hj,by rw[hj1]⟩)
    simp at this
   |some q =>
    have h1:=List.mem_of_find?_eq_some hf;have h2:=List.find?_some hf;rw[List.mem_reverse,List.mem_map]at h1;obtain⟨p,hp,rfl⟩:=h1;obtain⟨i,hi',rfl⟩:=List.mem_iff_getElem.1 hp;have:=huniq i hi' (by simpa using h2);subst this;rfl
  refine C5 (cv:=.agg vs') ?_ ⟨_,hk,Hn _ _ _,hrel.put hd (.agg _ _ (by rw[f2,List.length_map,hsz]) fun j u v hu hv=>?_)⟩
  ·have hzv:(zeroValue t).run P w=.ok z w:=by simp[zeroValue,typeInfo,hi,hz]
   unfold execOp;rw[ho];simp[Instr.build,hzv,run_underlying hdd,Ez hie,k1,hz1];simp only[Nat.mul_one]at f1;rw[f1];simp
  ·rw[List.getElem?_map]at hu;obtain⟨p,hp,rfl⟩:=Option.map_eq_some_iff.1 hu;obtain⟨hj,rfl⟩:=List.getElem?_eq_some_iff.1 hp;rw[hval j hj]at hv;cases hv;obtain⟨kd,m,h2,h3⟩:=hpl _ (List.getElem_mem hj);rw[h2,h3];exact .int kd m
 ·exact h.elim
def Mr (P:Program) (cf:Dm) (o:Oper) (K:St→Prop) (s:St):Prop:=if isB o=true then Qky P o s fun v m'=>K ({s with m:=m'}.put o.dst v) else Eg P cf o K s
def Ld (P:Program) (cf:Dm):List Oper→(St→Prop)→St→Prop
 |[],K,s=>K s
 |o::rest,K,s=>o.guard=none∧Mr P cf o (Ld P cf rest K) s
theorem Qba {F G:Nat→Prop} {w0 w:World} {s:St} {a:Act} (hrel:Ds F G w0 s a w) {cf:Dm} (hav:∀b,cf.av b→b<w.heap.size) {o:Oper} (hok:F1 s.n o=true) {K:St→Prop} (h:Mr P cf o K s) (Q:Exit→Act→World→Prop):o.wp P a w (Ev F G w0 s.n K) Q:=by
 unfold Mr at h;split at h
 ·exact Zp hrel hok h Q
 ·exact Ks hrel hav hok h Q
theorem O0 {F G:Nat→Prop} {w0:World} {cf:Dm} (hcf:∀b,¬cf.av b) {ops:Array Oper} {K:St→Prop} {QQ:Exit→Act→World→Prop} (n:Nat) (hQ:∀a w,Ev F G w0 n K a w→QQ .normal a w) :
  ∀(l:List Oper) (s:St) (a:Act) (w:World),s.n=n→(∀o∈l,(F1 n o&&Ip ops n o)=true)→Ds F G w0 s a w→Ld P cf l K s→wpList P ops QQ l a w
 |[],s,a,w,hn,_,hr,hk=>hQ a w ⟨s,hk,hn,hr⟩
 |o::rest,s,a,w,hn,hok,hr,hk=>by
  have ho:=hok o (by simp);rw[Bool.and_eq_true]at ho;have hrest:∀o∈rest,(F1 n o&&Ip ops n o)=true:=fun x hx=>hok x (by simp[hx]);have hmono:∀{s:St} {a:Act} {w:World},s.n=n→Ev F G w0 s.n (Ld P cf rest K) a w→wpList P ops QQ rest a w:=by
   rintro s a w hn ⟨s',h1,h2,h3⟩;exact O0 hcf n hQ rest s' a w (h2.trans hn) hrest h3 h1
  have hop:Ds F G w0 s a w→Mr P cf o (Ld P cf rest K) s→o.wp P a w (wpList P ops QQ rest) QQ:=by
   intro hr hk;have:=Qba hr (fun b hb=>(hcf b hb).elim) (by rw[hn];exact ho.1) hk QQ;unfold Oper.wp at this ⊢
   revert this
   generalize(execOp a.eval o).run P w=res;intro this;have hm:∀a w,Ev F G w0 s.n (Ld P cf rest K) a w→wpList P ops QQ rest a w:=fun a w h=>hmono hn h;unfold Oper.upon at this ⊢;split at this<;>first
    |exact hm _ _ this
    |(refine Calls.mono this ?_;intro e w' h;cases e<;>first | exact hm _ _ h | exact h)
    |(refine Rows.mono this ?_;intro e w' h;exact hm _ _ h)
    |exact this
    |exact this.elim
  unfold wpList;unfold Ld at hk;rw[if_pos (by simp[Region.wanted,hk.1])];exact .inl (hop hr hk.2)
theorem AW.rgB {Q:Exit→St→Prop} {s:St} {id:Nat} {ops:Array Oper} (ro:List Nat) (h:Ld P (Dm.txt (roL ro)) ops.toList (Q .normal) s) (hok:Bu s.n ops=true:=by kernel_rfl):AW P (.region id ops false) Q s:=by
 intro F G w0 a w hr;refine wp_region_list (O0 (F:=F) (G:=G) (w0:=w0) (cf:=Dm.txt (roL ro)) (fun _ h=>h) s.n (K:=Q .normal) (fun a w h=>h) ops.toList s a w rfl (fun o ho=>?_) hr h);unfold Bu at hok;exact List.all_eq_true.1 hok o ho
@[simp] theorem Qs9 (cf:Dm) (K:St→Prop) (s:St):Ld P cf [] K s=K s:=(rfl)
@[simp] theorem Qpe (cf:Dm) (d:Option Tmp) (op:Op) (t:TypeId) (p:String) (a:Array Edge) (l:List Oper) (K:St→Prop) (s:St) :
  Ld P cf ({dst:=d,op:=op,type:=t,pos:=p,after:=a,guard:=none}::l) K s↔Mr P cf {dst:=d,op:=op,type:=t,pos:=p,after:=a,guard:=none} (Ld P cf l K) s:=by
 show(_∧_)↔_
 simp
@[simp] theorem Qs4 (cf:Dm) (K:St→Prop) (s:St) (d:Option Tmp) (x:Operand) (ty:TypeId) (p:String) (a:Array Edge) (g:Option (Nat × Bool)):Mr P cf ⟨d,.move x,ty,p,a,g⟩ K s=Eg P cf ⟨d,.move x,ty,p,a,g⟩ K s:=(rfl)
@[simp] theorem Qna (cf:Dm) (K:St→Prop) (s:St) (d:Option Tmp) (x:Operand) (ty:TypeId) (p:String) (a:Array Edge) (g:Option (Nat × Bool)):Mr P cf ⟨d,.assign x,ty,p,a,g⟩ K s=Eg P cf ⟨d,.assign x,ty,p,a,g⟩ K s:=(rfl)
@[simp] theorem Qn9 (cf:Dm) (K:St→Prop) (s:St) (d:Option Tmp) (o:BinOp) (t t':TypeId) (x y:Operand) (ty:TypeId) (p:String) (a:Array Edge) (g:Option (Nat × Bool)):Mr P cf ⟨d,.binOp o t x y t',ty,p,a,g⟩ K s=Eg P cf ⟨d,.binOp o t x y t',ty,p,a,g⟩ K s:=(rfl)
@[simp] theorem Qta (cf:Dm) (K:St→Prop) (s:St) (d:Option Tmp) (t:TypeId) (x:Operand) (ty:TypeId) (p:String) (a:Array Edge) (g:Option (Nat × Bool)):Mr P cf ⟨d,.load t x,ty,p,a,g⟩ K s=Eg P cf ⟨d,.load t x,ty,p,a,g⟩ K s:=(rfl)
@[simp] theorem Qgs (cf:Dm) (K:St→Prop) (s:St) (d:Option Tmp) (t:TypeId) (x:Operand) (i:Nat) (ty:TypeId) (p:String) (a:Array Edge) (g:Option (Nat × Bool)):Mr P cf ⟨d,.fieldAddr t x i,ty,p,a,g⟩ K s=Eg P cf ⟨d,.fieldAddr t x i,ty,p,a,g⟩ K s:=(rfl)
@[simp] theorem Qff (cf:Dm) (K:St→Prop) (s:St) (d:Option Tmp) (t:TypeId) (n:Nat) (ps:Array (Nat × Operand)) (ty:TypeId) (p:String) (a:Array Edge) (g:Option (Nat × Bool)):Mr P cf ⟨d,.buildSlice t n ps,ty,p,a,g⟩ K s=Eg P cf ⟨d,.buildSlice t n ps,ty,p,a,g⟩ K s:=(rfl)
@[simp] theorem Qtf (cf:Dm) (K:St→Prop) (s:St) (d:Option Tmp) (c:Call) (ty:TypeId) (p:String) (a:Array Edge) (g:Option (Nat × Bool)):Mr P cf ⟨d,.call c,ty,p,a,g⟩ K s=Eg P cf ⟨d,.call c,ty,p,a,g⟩ K s:=(rfl)
@[simp] theorem Qo5 (cf:Dm) (K:St→Prop) (s:St) (d:Option Tmp) (t ty:TypeId) (parts:Array (Nat × Operand)) (p:String) (a:Array Edge) (g:Option (Nat × Bool)):Mr P cf ⟨d,.build t parts,ty,p,a,g⟩ K s↔∃ti n e te zs,Ai P t=some ti∧ti.cls=.array n e∧Ai P e=some te∧te.size=1∧ti.zero=.agg zs∧zs.length=n∧parts.toList.map (·.1)=List.range n ∧
   (∀p∈parts.toList,∃kd m,s.ev p.2=.int kd m)∧Ij K s d (.agg (parts.toList.map fun p=>s.ev p.2)) s.m:=by
 unfold Mr Qky;simp only[isB,if_true];exact Iff.rfl
end
end Go.Av
end
section
namespace Go.Av
open Go.Proofs Go.Lam
def eqB (w:Nat) (M:List (List Rat)):List AV:=(Ci M).map A7++List.replicate (w-M.length) .nil
def eqR (n:Nat) (es:List RE) (p:List Rat) (v:AV) (m:Aa):Prop:=match Wg n (Ad es) p es.length with
 |some M=>∃B,v=.tup [.osl B 1 0 es.length,.int .i64 0]∧m=Aa.emp.set B ⟨51,1,(Ci M).map A7⟩
 |none=>v=.tup [Ba [],.int .i64 2]∧m=Aa.emp
theorem Q4 (N:Nat) (es:List RE) (p:List Rat) (hN:1≤N) (hN12:N≤12) (hok:I2 N es) (h3:es.length≤40) (hp:Fn N p):Aj Tryz.prog 68 [.int .i64 (N:Nat),A3 es,A7 (p.map Bj)] Aa.emp (eqR N es p):=by
 have hzr:=O8 (2*N) (by omega);have w0:=Aq (2*N) (by omega);refine Ae Tryz.func68 rfl rfl 89 rfl (Nat.le_of_ble_eq_true rfl) ?_;unfold A3 A7 at *;(repeat refine AW.seq_k fun K hK=>?_);refine AW.rg ?_;simp[Ak];try (refine hK _ rfl ?_;clear hK K)
 (repeat refine AW.seq_k fun K hK=>?_);refine AW.rg ?_;simp;try (refine hK _ rfl ?_;clear hK K)
 refine⟨by omega,Ah.intro fun B hB=>?_⟩;refine hK _ rfl ?_;clear hK K;have hB0:List.replicate es.length AV.nil=eqB es.length []:=by simp[eqB,Ci]
 rw[hB0];refine AW.seq_ex (ι:=List (List Rat)) (fun M=>[(8,.osl B 1 0 es.length)]) (fun M=>Aa.emp.set B ⟨51,1,eqB es.length M⟩) (fun M=>Wg N (Ad es) p es.length=some M) ?_ ?_
 ·(repeat refine AW.seq_k fun K hK=>?_);refine AW.rg ?_;simp;try (refine hK _ rfl ?_;clear hK K)
  refine AW.block (AW.loopS (ι:=List (List Rat) × Nat) (fun z=>[(0,.int .i64 (N:Nat)),(1,.sl 6 (D0 es)),(2,.sl 4 (Cm (p.map Bj))),(8,.osl B 1 0 es.length),(20,.sl 6 (D0 es)),(21,.int .i64 (es.length:Nat)),(22,.int .i64 (z.2:Nat))]) (fun z=>Aa.emp.set B ⟨51,1,eqB es.length z.1⟩)
   (fun z=>z.2≤es.length∧Wg N (Ad es) p z.2=some z.1) (fun z=>es.length-z.2) ([],0) ⟨by simp,rfl⟩ rfl (by simp) ?_)
  rintro⟨M,i⟩ ⟨g1,g2⟩;simp only at g1 g2;obtain⟨gl,gg⟩:=Ni g2;(repeat refine AW.seq_k fun K hK=>?_);refine AW.rg ?_;simp;try (refine hK _ rfl ?_;clear hK K)
  (repeat refine AW.seq ?_);refine AW.cs (fun hi=>?_) (fun hi=>?_) rfl<;>(try simp at hi)
  ·refine AW.skip ?_;try simp
   try (refine hK _ rfl ?_;clear hK K)
   have w1:=Aq (i+1) (by omega);obtain⟨e1,e2,e3⟩:=hok i hi;obtain⟨a,ha⟩:∃a,(Ad es i).1=a:=⟨_,rfl⟩;obtain⟨b,hb⟩:∃b,(Ad es i).2=b:=⟨_,rfl⟩;have hsc:Wg N (Ad es) p (i+1)=(eqS N p a b 4).map fun r=>M++[r]:=by rw[Wg,g2,ha,hb];rfl
   rw[ha]at e1;rw[hb]at e2;have han:a<N:=ha ▸ e3.1;have hbn:b<N:=hb ▸ e3.2.1;(repeat refine AW.seq ?_);refine AW.block ?_;(repeat refine AW.seq_k fun K hK=>?_);refine AW.rg ?_;simp[hi,Cj,e1,e2];try (refine hK _ rfl ?_;clear hK K)
   refine Ah.intro fun b10 hb10=>?_;refine hK _ rfl ?_;clear hK K;have ones0:∀c y,Aa.emp.set B ⟨51,1,eqB es.length M⟩ c=some y→∀v∈y.l,v.cells.all AV.one=true:=by
    intro c y hy v hv;by_cases e:c=B
    ·rw[e,Aa.set_same]at hy;cases hy;unfold eqB at hv;rcases List.mem_append.1 hv with hv | hv
     ·obtain⟨x,_,rfl⟩:=List.mem_map.1 hv;rfl
     ·rw[List.eq_of_mem_replicate hv];rfl
    ·rw[Aa.set_other _ _ e]at hy;cases hy
   generalize hM0:Aa.emp.set B ⟨51,1,eqB es.length M⟩=M0 at *;refine AW.turn [(0,.int .i64 (N:Nat)),(1,.sl 6 (D0 es)),(2,.sl 4 (Cm (p.map Bj))),(8,.osl B 1 0 es.length),(9,.int .i64 (i:Nat)),(10,.rptr [.int .i64 (a:Nat),.int .i64 (b:Nat),.bool (Gx es i).sq.n1,An (Gx es i).sq.l1,.bool (Gx es i).sq.n2,An (Gx es i).sq.l2]),(20,.sl 6 (D0 es)),(21,.int .i64 (es.length:Nat)),(22,.int .i64 (i:Nat))] M0 (Bo.drop hb10 ones0)
    (by simp;exact .ptr b10 6 0 0 ⟨46,6,[.agg [.int .i64 (a:Nat),.int .i64 (b:Nat),.bool (Gx es i).sq.n1,An (Gx es i).sq.l1,.bool (Gx es i).sq.n2,An (Gx es i).sq.l2]]⟩ (.agg [.int .i64 (a:Nat),.int .i64 (b:Nat),.bool (Gx es i).sq.n1,An (Gx es i).sq.l1,.bool (Gx es i).sq.n2,An (Gx es i).sq.l2]) (Aa.set_same _ _ _) hb10 rfl rfl) ?_
   (repeat refine AW.seq_k fun K hK=>?_);refine AW.rg ?_;simp[-Int.natCast_mul,w0];try (refine hK _ rfl ?_;clear hK K)
   refine Ac.make (R:=fun b v x=>v=.osl b 4 0 (2*N)∧x=⟨44,4,Cm (List.replicate (2*N) (Bj 0))⟩) (hzr.mono fun v m ⟨b,h1,h2⟩=>⟨b,_,⟨h1,rfl⟩,h2⟩) ?_;rintro br _ _ ⟨rfl,rfl⟩ hbr _;simp[-Int.natCast_mul];try (refine hK _ rfl ?_;clear hK K)
   have hz0:Cm (List.replicate (2*N) (Bj 0))=Cm ((List.replicate (2*N) (0:Rat)).map Bj):=by simp
   rw[hz0];have wa:=Aq (2*a) (by omega);have wb:=Aq (2*b) (by omega);refine AW.seq_ex (ι:=List Rat) (fun _=>[(0,.int .i64 (N:Nat)),(1,.sl 6 (D0 es)),(2,.sl 4 (Cm (p.map Bj))),(8,.osl B 1 0 es.length),(9,.int .i64 (i:Nat)),(11,.osl br 4 0 (2*N)),(20,.sl 6 (D0 es)),(21,.int .i64 (es.length:Nat)),(22,.int .i64 (i:Nat))]) (fun r=>M0.set br ⟨44,4,Cm (r.map Bj)⟩) (fun r=>eqS N p a b 4=some r) ?_ ?_
   ·(repeat refine AW.seq_k fun K hK=>?_);refine AW.rgB [44] ?_;simp[-Int.natCast_mul,wa,wb];refine⟨2,3,⟨rfl,rfl⟩,_,ti3,rfl,rfl,rfl,2,3,⟨rfl,rfl⟩,_,ti3,rfl,rfl,rfl,?_⟩;try (refine hK _ rfl ?_;clear hK K)
    refine AW.block (AW.loopS (ι:=List Rat × Nat) (fun z=>[(0,.int .i64 (N:Nat)),(1,.sl 6 (D0 es)),(2,.sl 4 (Cm (p.map Bj))),(8,.osl B 1 0 es.length),(9,.int .i64 (i:Nat)),(11,.osl br 4 0 (2*N)),(20,.sl 6 (D0 es)),(21,.int .i64 (es.length:Nat)),(22,.int .i64 (i:Nat)),(44,.sl 2 [.agg [.int .i64 ((2*a:Nat):Int),.int .i64 ((2*b:Nat):Int)],.agg [.int .i64 ((2*b:Nat):Int),.int .i64 ((2*a:Nat):Int)]]),(45,.int .i64 2),(46,.int .i64 (z.2:Nat))]) (fun z=>M0.set br ⟨44,4,Cm (z.1.map Bj)⟩) (fun z=>z.2≤2∧eqS N p a b (2*z.2)=some z.1) (fun z=>2-z.2)
     (List.replicate (2*N) 0,0) ⟨by simp,rfl⟩ (by simp) (by simp[-Int.natCast_mul]) ?_)
    rintro⟨r,t⟩ ⟨k1,k2⟩;simp only at k1 k2;(repeat refine AW.seq_k fun K hK=>?_);refine AW.rg ?_;simp[-Int.natCast_mul];try (refine hK _ rfl ?_;clear hK K)
    (repeat refine AW.seq ?_);refine AW.cs (fun ht=>?_) (fun ht=>?_) rfl<;>(try simp at ht)
    ·refine AW.skip ?_;try simp[-Int.natCast_mul]
     try (refine hK _ rfl ?_;clear hK K)
     have wt:=Aq (t+1) (by omega);obtain⟨u,hu⟩:∃u,(if t<1 then 2*a else 2*b)=u:=⟨_,rfl⟩;obtain⟨v,hv⟩:∃v,(if t<1 then 2*b else 2*a)=v:=⟨_,rfl⟩;have hpr:∀h:t<[AV.agg [.int .i64 ((2*a:Nat):Int),.int .i64 ((2*b:Nat):Int)],AV.agg [.int .i64 ((2*b:Nat):Int),.int .i64 ((2*a:Nat):Int)]].length,[AV.agg [.int .i64 ((2*a:Nat):Int),.int .i64 ((2*b:Nat):Int)],AV.agg [.int .i64 ((2*b:Nat):Int),.int .i64 ((2*a:Nat):Int)]][t]=.agg [.int .i64 (u:Nat),.int .i64 (v:Nat)]:=fun h=>by
      rcases(by omega:t=0∨t=1)with rfl|rfl
      ·rw[←hu,←hv];rfl
      ·rw[←hu,←hv];rfl
     generalize hprs:[AV.agg [.int .i64 ((2*a:Nat):Int),.int .i64 ((2*b:Nat):Int)],AV.agg [.int .i64 ((2*b:Nat):Int),.int .i64 ((2*a:Nat):Int)]]=PRS at hpr ⊢;have hprl:PRS.length=2:=by rw[←hprs];rfl
     (repeat refine AW.seq ?_);refine AW.block ?_;(repeat refine AW.seq_k fun K hK=>?_);refine AW.rg ?_;simp[ht,hprl,hpr,J5.agg];try (refine hK _ rfl ?_;clear hK K)
     refine Ah.intro fun b13 hb13=>?_;refine hK _ rfl ?_;clear hK K;have ones1:∀c y,M0.set br ⟨44,4,Cm (r.map Bj)⟩ c=some y→∀v∈y.l,v.cells.all AV.one=true:=by
      intro c y hy v hv;by_cases e:c=br
      ·rw[e,Aa.set_same]at hy;cases hy;exact Ob _ v hv
      ·rw[Aa.set_other _ _ e]at hy;exact ones0 c y hy v hv
     refine AW.turn [(0,.int .i64 (N:Nat)),(1,.sl 6 (D0 es)),(2,.sl 4 (Cm (p.map Bj))),(8,.osl B 1 0 es.length),(9,.int .i64 (i:Nat)),(11,.osl br 4 0 (2*N)),(20,.sl 6 (D0 es)),(21,.int .i64 (es.length:Nat)),(22,.int .i64 (i:Nat)),(13,.rptr [.int .i64 (u:Nat),.int .i64 (v:Nat)]),(44,.sl 2 PRS),(45,.int .i64 2),(46,.int .i64 (t:Nat))] (M0.set br ⟨44,4,Cm (r.map Bj)⟩) (Bo.drop hb13 ones1)
      (by simp;exact .ptr b13 2 0 0 ⟨121,2,[.agg [.int .i64 (u:Nat),.int .i64 (v:Nat)]]⟩ (.agg [.int .i64 (u:Nat),.int .i64 (v:Nat)]) (Aa.set_same _ _ _) hb13 rfl rfl) ?_
     (repeat refine AW.seq_k fun K hK=>?_);refine AW.rg ?_;simp;try (refine hK _ rfl ?_;clear hK K)
     refine AW.block (AW.loopS (ι:=List Rat × Nat) (fun z=>[(0,.int .i64 (N:Nat)),(1,.sl 6 (D0 es)),(2,.sl 4 (Cm (p.map Bj))),(8,.osl B 1 0 es.length),(9,.int .i64 (i:Nat)),(11,.osl br 4 0 (2*N)),(20,.sl 6 (D0 es)),(21,.int .i64 (es.length:Nat)),(22,.int .i64 (i:Nat)),(13,.rptr [.int .i64 (u:Nat),.int .i64 (v:Nat)]),(44,.sl 2 PRS),(45,.int .i64 2),(46,.int .i64 (t:Nat)),(50,.int .i64 (z.2:Nat))]) (fun z=>M0.set br ⟨44,4,Cm (z.1.map Bj)⟩) (fun z=>z.2≤2∧eqS N p a b (2*t+z.2)=some z.1) (fun z=>2-z.2)
      (r,0) ⟨by simp,k2⟩ rfl (by simp) ?_)
     rintro⟨r,k⟩ ⟨j1,j2⟩;simp only at j1 j2;(repeat refine AW.seq_k fun K hK=>?_);refine AW.rg ?_;simp;try (refine hK _ rfl ?_;clear hK K)
     (repeat refine AW.seq ?_);refine AW.cs (fun hk=>?_) (fun hk=>?_) rfl<;>(try simp at hk)
     ·refine AW.skip ?_;try simp
      try (refine hK _ rfl ?_;clear hK K)
      have wk:=Aq (k+1) (by omega);have hul:u+k<2*N:=by rw[←hu];split<;>omega
      have hvl:v+k<2*N:=by rw[←hv];split<;>omega
      have wu:=Aq (u+k) (by omega);have wv:=Aq (v+k) (by omega);have hpl:p.length=2*N:=hp.1;have hg:∀i,i<2*N→B1 (Dr p i):=fun i hi=>by
       unfold Dr;rw[List.getD_eq_getElem?_getD,List.getElem?_eq_getElem (by omega)];exact hp.2 _ (List.getElem_mem _)
      have hsu:=Kx (Dr p (u+k)) (Dr p (v+k)) (hg _ hul) (hg _ hvl);have hrr:∀i,i<2*N→rr (p.map Bj) i=Bj (Dr p i):=fun i hi=>by
       rw[La (by simp;omega)];unfold Dr;simp[hpl,hi]
      (repeat refine AW.seq ?_);refine AW.block ?_;(repeat refine AW.seq_k fun K hK=>?_);refine AW.rg ?_;simp;try (refine hK _ rfl ?_;clear hK K)
      (repeat refine AW.seq_k fun K hK=>?_);refine AW.rd [0,1,2,3,4,5,6,7,8,9,10,11,12,13,14,15,16,17,18,19,20] C8 ?_;simp[-Int.natCast_mul,-Int.natCast_add,wu,wv,hul,hvl,hpl,hrr];cases hd:Dh (Dr p (u+k)) (Dr p (v+k))with
      |none =>
       rw[hd,←H0,←H0,Ff]at hsu;unfold RR.av Ch at hsu;refine Ac.val hsu ?_;simp[-Int.natCast_add];refine Ah.intro fun b15 hb15=>?_;refine hK _ rfl ?_;clear hK K;(repeat refine AW.seq_k fun K hK=>?_);refine AW.rg ?_;simp[-Int.natCast_add];try (refine hK _ rfl ?_;clear hK K)
       refine AW.yes ?_ rfl;(repeat refine AW.seq_k fun K hK=>?_);refine AW.rg ?_;simp[-Int.natCast_add];try (refine hK _ rfl ?_;clear hK K)
       have hno:eqR N es p (.tup [Ba [],.int .i64 2]) Aa.emp:=by
        have hui:uI a b (2*t+k)=u+k:=by unfold uI;rw[←hu];split<;>split<;>omega
        have hvi:vI a b (2*t+k)=v+k:=by unfold vI;rw[←hv];split<;>split<;>omega
        have hs1:eqS N p a b (2*t+k+1)=none:=by rw[eqS,j2,hui,hvi,Option.bind_some,hd];rfl
        have hs4:=Qfy (t:=4) hs1 (by omega);have hm:=Qhb (t:=es.length) (show Wg N (Ad es) p (i+1)=none by rw[hsc,hs4];rfl) (by omega);unfold eqR;rw[hm];exact⟨rfl,rfl⟩
       exact AW.ret (Ag [Ba [],.int .i64 2] rfl ⟨.nilsl 1,.same _,trivial⟩ hno)
      |some d =>
       rw[hd,←H0,←H0,Ff,←H0]at hsu;unfold RR.av at hsu;refine Ac.val hsu ?_;simp[-Int.natCast_add];refine Ah.intro fun b15 hb15=>?_;refine hK _ rfl ?_;clear hK K;have hui:uI a b (2*t+k)=u+k:=by unfold uI;rw[←hu];split<;>split<;>omega
       have hvi:vI a b (2*t+k)=v+k:=by unfold vI;rw[←hv];split<;>split<;>omega
       have hst:eqS N p a b (2*t+(k+1))=some (r.set (u+k) d):=by
        rw[show 2*t+(k+1)=(2*t+k)+1 by omega,eqS,j2,hui,hvi,Option.bind_some,hd];rfl
       have ones2:∀c y,M0.set br ⟨44,4,Cm (r.map Bj)⟩ c=some y→∀v∈y.l,v.cells.all AV.one=true:=by
        intro c y hy v hv;by_cases e:c=br
        ·rw[e,Aa.set_same]at hy;cases hy;exact Ob _ v hv
        ·rw[Aa.set_other _ _ e]at hy;exact ones0 c y hy v hv
       have hrl:(Cm (r.map Bj)).length=2*N:=by simp[Cm];exact(Nb j2).1
       refine AW.turn [(0,.int .i64 (N:Nat)),(1,.sl 6 (D0 es)),(2,.sl 4 (Cm (p.map Bj))),(8,.osl B 1 0 es.length),(9,.int .i64 (i:Nat)),(11,.osl br 4 0 (2*N)),(20,.sl 6 (D0 es)),(21,.int .i64 (es.length:Nat)),(22,.int .i64 (i:Nat)),(13,.rptr [.int .i64 (u:Nat),.int .i64 (v:Nat)]),(14,.int .i64 (k:Nat)),(15,.rptr [.bool (Bj d).n1,An (Bj d).l1,.bool (Bj d).n2,An (Bj d).l2]),(16,.int .i64 0),(44,.sl 2 PRS),(45,.int .i64 2),(46,.int .i64 (t:Nat)),(50,.int .i64 (k:Nat))] (M0.set br ⟨44,4,Cm (r.map Bj)⟩) (Bo.drop hb15 ones2)
        (by simp[-Int.natCast_add];exact Kr hb15) ?_
       (repeat refine AW.seq_k fun K hK=>?_);refine AW.rg ?_;simp;try (refine hK _ rfl ?_;clear hK K)
       refine AW.no ?_ rfl;refine AW.skip ?_;try simp
       try (refine hK _ rfl ?_;clear hK K)
       (repeat refine AW.seq_k fun K hK=>?_);refine AW.rg ?_;simp[-Int.natCast_mul,-Int.natCast_add,wu,hul,hrl];try (refine hK _ rfl ?_;clear hK K)
       have hset:(Cm (r.map Bj)).set (u+k) (.agg [.bool (Bj d).n1,An (Bj d).l1,.bool (Bj d).n2,An (Bj d).l2])=Cm ((r.set (u+k) d).map Bj):=by
        unfold Cm;rw[List.map_set,List.map_set];rfl
       rw[hset];(repeat refine AW.seq_k fun K hK=>?_);refine AW.rg ?_;simp[-Int.natCast_add,wk];try (refine hK _ rfl ?_;clear hK K)
       exact⟨r.set (u+k) d,k+1,⟨by omega,hst⟩,by omega,by rw[List.map_set],rfl⟩
     ·refine AW.exit ?_;try simp
      have:k=2:=by omega
      subst this;(repeat refine AW.seq_k fun K hK=>?_);refine AW.rg ?_;simp[-Int.natCast_add,wt];try (refine hK _ rfl ?_;clear hK K)
      exact⟨r,t+1,⟨by omega,by rw[show 2*(t+1)=2*t+2 by omega];exact j2⟩,by omega,rfl,rfl⟩
    ·refine AW.exit ?_;try simp[-Int.natCast_mul]
     have:t=2:=by omega
     subst this;exact⟨r,k2,rfl⟩
   rintro r hr;have hrl:(Cm (r.map Bj)).length=2*N:=by simp[Cm];exact(Nb hr).1
   have hsr:Wg N (Ad es) p (i+1)=some (M++[r]):=by rw[hsc,hr];rfl
   have hbl:(eqB es.length M).length=es.length:=by simp[eqB,Ci,gl];omega
   have hpush:(eqB es.length M).set i (.sl 4 (Cm (r.map Bj)))=eqB es.length (M++[r]):=by
    unfold eqB;rw[List.set_append_right _ _ (by simp[Ci,gl]),show i-((Ci M).map A7).length=0 by simp[Ci,gl],show es.length-M.length=(es.length-(M.length+1))+1 by omega,List.replicate_succ,List.set_cons_zero];simp[Ci,A7]
   refine AW.turn [(0,.int .i64 (N:Nat)),(1,.sl 6 (D0 es)),(2,.sl 4 (Cm (p.map Bj))),(8,.osl B 1 0 es.length),(9,.int .i64 (i:Nat)),(11,.sl 4 (Cm (r.map Bj))),(20,.sl 6 (D0 es)),(21,.int .i64 (es.length:Nat)),(22,.int .i64 (i:Nat))] M0 (Bo.drop hbr ones0) ?_ ?_
   ·simp;refine .osl br 4 0 (2*N) _ (Cm (r.map Bj)) (Aa.set_same _ _ _) hbr rfl hrl (by simp[hrl]) (fun k v v' h1 h2=>?_);rw[Nat.zero_add]at h1;rw[h1]at h2;cases h2;exact .same _
   subst hM0;(repeat refine AW.seq_k fun K hK=>?_);refine AW.rg ?_;simp[hi,hbl];try (refine hK _ rfl ?_;clear hK K)
   rw[hpush];(repeat refine AW.seq_k fun K hK=>?_);refine AW.rg ?_;simp[-Int.natCast_add,w1];try (refine hK _ rfl ?_;clear hK K)
   exact⟨_,i+1,⟨by omega,hsr⟩,by omega,rfl,rfl⟩
  ·refine AW.exit ?_;try simp
   have:i=es.length:=by omega
   subst this;exact⟨M,g2,rfl⟩
 rintro M hM;obtain⟨gl,gg⟩:=Ni hM;(repeat refine AW.seq_k fun K hK=>?_);refine AW.rg ?_;simp;try (refine hK _ rfl ?_;clear hK K)
 have e0:eqB es.length M=(Ci M).map A7:=by unfold eqB;rw[gl];simp
 rw[e0];refine AW.ret (Bz rfl (Ib.set (M:=Aa.emp) (fun c y hy=>by cases hy) B (Qae M)) ?_);unfold eqR;rw[hM];exact⟨B,rfl,rfl⟩
end Go.Av
end
section
namespace Go.Av
open Go.Proofs Go.Lam
noncomputable def Lu (m:List (List RR)):AV:=match (Vj m).1,(Vj m).2 with
 |0,v::_=>.tup [A7 (v.map Bj),.bool true,.int .i64 0]
 |e,_=>.tup [A7 [],.bool false,.int .i64 e]
theorem Qaw (m:List (List RR)) (hm:Zc m):Aj Tryz.prog 70 [Ba m] Aa.emp fun v mm=>v=Lu m∧mm=Aa.emp:=by
 have hk:=V3 m hm;unfold Lu;generalize Vj m=K0 at *;obtain⟨e,V⟩:=K0;simp only at *;refine Ae Tryz.func70 rfl rfl 23 rfl (Nat.le_of_ble_eq_true rfl) ?_;unfold Ba at hk ⊢;(repeat refine AW.seq_k fun K hK=>?_);refine AW.rg ?_;simp[Ak];try (refine hK _ rfl ?_;clear hK K)
 (repeat refine AW.seq_k fun K hK=>?_);refine AW.rg ?_;simp;try (refine hK _ rfl ?_;clear hK K)
 refine Ac.val hk ?_;simp;try (refine hK _ rfl ?_;clear hK K)
 by_cases he:e=0
 ·subst he;cases V with
  |nil =>
   (repeat refine AW.seq_k fun K hK=>?_);refine AW.rg ?_;simp[Ci];try (refine hK _ rfl ?_;clear hK K)
   refine AW.yes ?_ (by simp[Ci]);(repeat refine AW.seq_k fun K hK=>?_);refine AW.rg ?_;simp;try (refine hK _ rfl ?_;clear hK K)
   exact AW.ret (Ag [A7 [],.bool false,.int .i64 0] rfl ⟨.nilsl 4,.same _,.same _,trivial⟩ ⟨rfl,rfl⟩)
  |cons v t =>
   (repeat refine AW.seq_k fun K hK=>?_);refine AW.rg ?_;simp[-Int.natCast_add,Ci];try (refine hK _ rfl ?_;clear hK K)
   refine AW.no ?_ (by simp[-Int.natCast_add,Ci]);refine AW.skip ?_;try simp[-Int.natCast_add]
   try (refine hK _ rfl ?_;clear hK K)
   (repeat refine AW.seq_k fun K hK=>?_);refine AW.rg ?_;simp[-Int.natCast_add,Ci];try (refine hK _ rfl ?_;clear hK K)
   exact AW.ret (Ag [A7 (v.map Bj),.bool true,.int .i64 0] rfl ⟨.same _,.same _,.same _,trivial⟩ ⟨rfl,rfl⟩)
 ·(repeat refine AW.seq_k fun K hK=>?_);refine AW.rg ?_;simp[he];try (refine hK _ rfl ?_;clear hK K)
  refine AW.yes ?_ (by simp[he]);(repeat refine AW.seq_k fun K hK=>?_);refine AW.rg ?_;simp;try (refine hK _ rfl ?_;clear hK K)
  exact AW.ret (Ag [A7 [],.bool false,.int .i64 e] rfl ⟨.nilsl 4,.same _,.same _,trivial⟩ ⟨by cases V<;>(split<;>first | rfl | contradiction | simp_all),rfl⟩)
end Go.Av
end
