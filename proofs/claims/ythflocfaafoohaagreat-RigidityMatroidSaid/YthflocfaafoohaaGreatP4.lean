/- A part of the proof. -/
import Derived.Test.YthflocfaafoohaaGreatP3
set_option linter.all false
set_option exponentiation.threshold 5000
set_option maxRecDepth 10000
section
namespace Go.Av
open Go.Proofs Go.Lam
structure VSt where
 M:Aa
 fl:List Nat
 bs:List (Option Nat)
 cl:List (List Nat)
 sn:List Bool
def Quy (n bg bf bc bx c3:Nat) (es:List RE) (A:List Nat) (fl:List Nat) (bs:List (Option Nat)) (cl:List (List Nat)) (sn:List Bool) (j:Nat) (v:AV) (M':Aa):Prop :=
 ∃ok:Bool,v=.bool ok∧∃(fl':List Nat) (bs':List (Option Nat)) (cl':List (List Nat)) (sn':List Bool),H8 M' n bg bf bc bx c3 es fl' bs' cl' sn' ∧
  (ok=false→fl'=fl∧bs'=bs∧cl'=cl∧Jy n (Ae es) (D6 fl) (C4 cl) (E8 sn) (E8 sn')∧∀e∈C4 cl j,E8 sn' (Fw (Ae es) e j)=true) ∧
  (ok=true→Got n (Ae es) A (E8 sn) j (D6 fl) (C4 cl) (D6 fl') (C4 cl')∧∀v,E8 sn v=true→E8 sn' v=true)
theorem set_self {m:Aa} {b:Nat} {x:Et} (h:m b=some x):m.set b x=m:=by
 funext k
 by_cases e:k=b
 ·subst e;rw[Aa.set_same,h]
 ·rw[Aa.set_other _ _ e]
theorem Ug {n:Nat} {E:Nat→Ed} {fr:Nat→Nat} {cv:Nat→List Nat} {s t:List Bool} (h:Jy n E fr cv (E8 s) (E8 t)) (hs:s.length=n) (ht:t.length=n):Fs t≤Fs s:=by
 have key:∀{s t:List Bool},s.length=t.length→(∀i,E8 s i=true→E8 t i=true)→Fs t≤Fs s:=by
  intro s
  induction s with
  |nil=>intro t hl _;cases t with
   |nil=>exact Nat.le_refl _
   |cons b t=>simp at hl
  |cons a s ih=>intro t hl hi;cases t with
   |nil=>simp at hl
   |cons b t =>
    have h1:=ih (t:=t) (by simpa using hl) (fun i hi'=>by have:=hi (i+1);simp[E8]at this;simpa[E8]using this (by simpa[E8]using hi'));have h2:=hi 0;simp[E8]at h2;unfold Fs at *;rw[List.countP_cons,List.countP_cons];cases a<;>cases b<;>simp_all
    omega
 exact key (by rw[hs,ht]) h.sub
theorem I4 {l:List Nat} {i e:Nat} (hi:i<l.length) (he:l[i]=e):l.take (i+1)=l.take i++[e]:=by
 rw[List.take_add_one,List.getElem?_eq_getElem hi,he];rfl
theorem Qbo (n bg bf bc bx c3:Nat) (es:List RE) (A:List Nat) (hn:n≤12) (hes:Ln n es) (hA:∀e∈A,e<es.length) :
  ∀(fuel:Nat) (M:Aa) (fl:List Nat) (bs:List (Option Nat)) (cl:List (List Nat)) (sn:List Bool) (j:Nat),Fs sn≤fuel→H8 M n bg bf bc bx c3 es fl bs cl sn→Inv n (Ae es) A (D6 fl) (C4 cl)→j<n→E8 sn j=true →
   Aj Tryz.prog 195 [.int .i64 (j:Nat),.rptr [.ptr bg 3 0 0],.rptr [.osl bx 1 0 n],.ptr c3 1 0 0] M (Quy n bg bf bc bx c3 es A fl bs cl sn j):=by
 have hes12:Ln 12 es:=fun i hi=>⟨(hes i hi).1,(hes i hi).2.1,by have:=(hes i hi).2.2;exact⟨by have:=this.1;omega,by have:=this.2.1;omega,this.2.2⟩⟩;intro fuel
 induction fuel using Nat.strongRecOn with
 |ind fuel IH =>
 intro M fl bs cl sn j hu hV hI hj hjs;refine Ad Tryz.func195 rfl rfl 99 rfl (Nat.le_of_ble_eq_true rfl) ?_;(repeat refine AW.seq_k fun K hK=>?_);refine AW.rg ?_;simp[Ak];try (refine hK _ rfl ?_;clear hK K)
 have m1:=hV.game.g;have m3:=hV.game.c;have hhl:=Gj hV.game;obtain⟨o,ho,hget⟩:=Kj hV.game hj;unfold Cn at m1;have hjh:j<(Gs bs cl).length:=by rw[hhl];exact hj
 have hgel:(Gs bs cl)[j]=Yg o (C4 cl j):=by rw[List.getElem?_eq_getElem hjh]at hget;exact Option.some.inj hget
 cases o with
 |none =>
  have hc0:=hV.game.nil j ho;simp only[Yg]at hgel;have hone:=hV.ones;refine AW.seq_ex (ι:=Unit) (fun _=>[]) (fun _=>M) (fun _=>True) ?_ ?_
  ·(repeat refine AW.seq_k fun K hK=>?_);refine AW.rg ?_;simp[m1,m3,hj,hhl,hgel];try (refine hK _ rfl ?_;clear hK K)
   refine AW.block (AW.loopS (ι:=Unit) (fun _=>[(16,.int .i64 0),(17,.int .i64 0)]) (fun _=>M) (fun _=>True) (fun _=>0) () trivial rfl (by simp) ?_);intro _ _;(repeat refine AW.seq_k fun K hK=>?_);refine AW.rg ?_;simp;try (refine hK _ rfl ?_;clear hK K)
   (repeat refine AW.seq ?_);refine AW.no ?_ rfl;refine AW.exit ?_;try simp
  ·rintro _ _;(repeat refine AW.seq_k fun K hK=>?_);refine AW.rg ?_;simp;try (refine hK _ rfl ?_;clear hK K)
   exact AW.ret (B0 rfl hone ⟨false,rfl,fl,bs,cl,sn,hV,fun _=>⟨rfl,rfl,rfl,Jy.refl _,fun e he=>by rw[hc0]at he;cases he⟩,fun h=>by cases h⟩)
 |some b =>
  simp only[Yg]at hgel;have hrow:=hV.game.row j b ho;have hlen2:(C4 cl j).length≤2:=by have:=hI.two j hj;omega
  refine AW.seq_ex (ι:=Aa × List Bool) (fun _=>[]) (fun z=>z.1) (fun z=>H8 z.1 n bg bf bc bx c3 es fl bs cl z.2∧Jy n (Ae es) (D6 fl) (C4 cl) (E8 sn) (E8 z.2)∧∀e∈C4 cl j,E8 z.2 (Fw (Ae es) e j)=true) ?_ ?_
  ·(repeat refine AW.seq_k fun K hK=>?_);refine AW.rg ?_;simp[m1,m3,hj,hhl,hgel];try (refine hK _ rfl ?_;clear hK K)
   refine AW.block (AW.loopS (ι:=Aa × List Bool × Nat) (fun z=>[(0,.int .i64 (j:Nat)),(1,.rptr [.ptr bg 3 0 0]),(2,.rptr [.osl bx 1 0 n]),(3,.ptr c3 1 0 0),(15,.osl b 1 0 (C4 cl j).length),(16,.int .i64 ((C4 cl j).length:Nat)),(17,.int .i64 (z.2.2:Nat))]) (fun z=>z.1)
    (fun z=>z.2.2≤(C4 cl j).length∧H8 z.1 n bg bf bc bx c3 es fl bs cl z.2.1∧Jy n (Ae es) (D6 fl) (C4 cl) (E8 sn) (E8 z.2.1)∧∀e∈(C4 cl j).take z.2.2,E8 z.2.1 (Fw (Ae es) e j)=true)
    (fun z=>(C4 cl j).length-z.2.2) (M,sn,0) ⟨by simp,hV,Jy.refl _,by simp⟩ rfl (by simp) ?_)
   rintro⟨M1,s1,i⟩ ⟨g1,g2,g3,g4⟩;simp only at g1 g2 g3 g4;(repeat refine AW.seq_k fun K hK=>?_);refine AW.rg ?_;simp;try (refine hK _ rfl ?_;clear hK K)
   (repeat refine AW.seq ?_);refine AW.cs (fun hi=>?_) (fun hi=>?_) rfl<;>(try simp at hi)
   ·refine AW.skip ?_;try simp
    try (refine hK _ rfl ?_;clear hK K)
    have w1:=Aq (i+1) (by omega);have r1:=g2.game.row j b ho;have r2:=g2.seen;have hsl:=g2.snl;obtain⟨e,he⟩:∃e,(C4 cl j)[i]=e:=⟨_,rfl⟩;have heM:e∈C4 cl j:=he ▸ List.getElem_mem hi;have hei:(C4 cl j)[i]?=some e:=by rw[List.getElem?_eq_getElem hi,he]
    have hel:e<es.length:=hA e (hI.mem hj heM);have hend:=hI.ends j hj e heM;obtain⟨hn1,hn2⟩:=hI.oth_lt hj heM;have htk:=I4 hi he;(repeat refine AW.seq ?_);refine AW.block ?_;(repeat refine AW.seq_k fun K hK=>?_);refine AW.rg ?_;simp[r1,hi,he];try (refine hK _ rfl ?_;clear hK K)
    (repeat refine AW.seq_k fun K hK=>?_);refine AW.rg ?_;simp;try (refine hK _ rfl ?_;clear hK K)
    refine Ac.grant bg (Cn es bf bc n) g2.game.g (fun h=>h) (Rf bg bf bc n es e j hel hes12 (by rcases hend with h | h;exact .inl h.symm;exact .inr h.symm)) ?_;rintro _ _ ⟨rfl,rfl⟩;rw[set_self g2.game.g];simp;try (refine hK _ rfl ?_;clear hK K)
    obtain⟨n1,hn⟩:∃n1,Fw (Ae es) e j=n1:=⟨_,rfl⟩;rw[hn]at hn1 hn2;simp only[hn];have hs1:n1<s1.length:=by rw[hsl];exact hn1
    cases hseen:s1[n1]with
    |true =>
     (repeat refine AW.seq_k fun K hK=>?_);refine AW.rg ?_;simp[r2,hn1,hsl,hseen];try (refine hK _ rfl ?_;clear hK K)
     refine AW.yes ?_ rfl;refine AW.exit ?_;try simp
     (repeat refine AW.seq_k fun K hK=>?_);refine AW.rg ?_;simp[-Int.natCast_add,w1];try (refine hK _ rfl ?_;clear hK K)
     refine⟨M1,s1,i+1,⟨by omega,g2,g3,fun x hx=>?_⟩,by omega,rfl,rfl⟩;rw[htk]at hx;rcases List.mem_append.1 hx with hx | hx
     ·exact g4 x hx
     ·simp only[List.mem_singleton]at hx;subst hx;rw[hn,Q8 hs1,hseen]
    |false =>
     have hS1:E8 s1 n1=false:=by rw[Q8 hs1,hseen]
     have hS:E8 sn n1=false:=by
      cases hc:E8 sn n1 with
      |false=>rfl
      |true=>rw[g3.sub n1 hc]at hS1;cases hS1
     (repeat refine AW.seq_k fun K hK=>?_);refine AW.rg ?_;simp[r2,hn1,hsl,hseen];try (refine hK _ rfl ?_;clear hK K)
     refine AW.no ?_ rfl;refine AW.skip ?_;try simp
     try (refine hK _ rfl ?_;clear hK K)
     (repeat refine AW.seq_k fun K hK=>?_);refine AW.rg ?_;simp[r2,hn1,hsl];try (refine hK _ rfl ?_;clear hK K)
     rw[Fg];have V2:=g2.look n1;have hsn2:E8 (s1.set n1 true)=Eu (E8 s1) n1 true:=Je hs1;have hu2:=Sp hs1 hseen;generalize M1.set bx ⟨4,1,bools (s1.set n1 true)⟩=M2 at V2 ⊢;refine AW.seq_ex (ι:=VSt) (fun z=>[(0,.int .i64 (j:Nat)),(1,.rptr [.ptr bg 3 0 0]),(2,.rptr [.osl bx 1 0 n]),(3,.ptr c3 1 0 0),(15,.osl b 1 0 (C4 cl j).length),(6,.int .i64 (i:Nat)),(7,.int .i64 (e:Nat)),(8,.int .i64 (n1:Nat))]) (fun z=>z.M)
      (fun z=>H8 z.M n bg bf bc bx c3 es z.fl z.bs z.cl z.sn∧Inv n (Ae es) A (D6 z.fl) (C4 z.cl)∧C4 z.cl j=C4 cl j∧0<D6 z.fl n1 ∧
       Got n (Ae es) A (E8 sn) j (D6 fl) (C4 cl) (Eu (Eu (D6 z.fl) n1 (D6 z.fl n1-1)) j (D6 z.fl j+1)) (Eu (Eu (C4 z.cl) n1 (C4 z.cl n1++[e])) j ((C4 z.cl j).eraseIdx i))∧∀v,E8 sn v=true→E8 z.sn v=true) ?_ ?_
     ·have q1:=V2.game.g;have q2:=V2.game.f;have q3:=V2.cell;have q4:=V2.game.fll;have hf1:n1<fl.length:=by rw[q4];exact hn1
      unfold Cn at q1;unfold Qq3 at q3;have hsub2:∀v,E8 sn v=true→E8 (s1.set n1 true) v=true:=fun v hv=>by
       rw[hsn2];unfold Eu;split;rfl;exact g3.sub v hv
      by_cases hz:fl[n1]=0
      ·have ih:=IH (Fs (s1.set n1 true)) (by have h1:=hu2;have h2:=Ug g3 hV.snl g2.snl;omega) _ fl bs cl (s1.set n1 true) n1 (Nat.le_refl _) V2 hI hn1 (by rw[hsn2,D2]);(repeat refine AW.seq_k fun K hK=>?_);refine AW.rg ?_;simp[q1,q2,q3,hn1,q4,hz];try (refine hK _ rfl ?_;clear hK K)
       refine⟨195,_,⟨rfl,rfl⟩,?_⟩;refine Ac.whole (fun _ h=>h) ih ?_;rintro _ g ⟨ok,rfl,fl',bs',cl',sn',hV',hF,hT⟩;cases ok with
       |false =>
        obtain⟨rfl,rfl,rfl,hL,hsh⟩:=hF rfl;simp;try (refine hK _ rfl ?_;clear hK K)
        refine AW.yes ?_ rfl;refine AW.exit ?_;try simp
        (repeat refine AW.seq_k fun K hK=>?_);refine AW.rg ?_;simp[-Int.natCast_add,w1];try (refine hK _ rfl ?_;clear hK K)
        refine⟨g,sn',i+1,⟨by omega,hV',?_,fun x hx=>?_⟩,by omega,rfl,rfl⟩
        ·rw[hsn2]at hL;exact g3.step (by rw[←E5 hf1];exact hz) hL hsh
        ·rw[htk]at hx;have hm:∀v,E8 s1 v=true→E8 sn' v=true:=fun v hv=>hL.sub v (by rw[hsn2];unfold Eu;split;rfl;exact hv);rcases List.mem_append.1 hx with hx | hx
         ·exact hm _ (g4 x hx)
         ·simp only[List.mem_singleton]at hx;subst hx;rw[hn];exact hL.sub n1 (by rw[hsn2,D2])
       |true =>
        obtain⟨hG,hsub3⟩:=hT rfl;simp;try (refine hK _ rfl ?_;clear hK K)
        refine AW.no ?_ rfl;refine AW.skip ?_;rw[hsn2]at hG;have hGt:=Got.through (fun v hv=>g3.sub v hv) hj hjs hei (by rw[hn];exact hS1) (by rw[hn];exact hn2) (by rw[hn];exact hG);rw[hn]at hGt;have hjT:Eu (E8 s1) n1 true j=true:=by rw[Bm _ _ (Ne.symm hn2)];exact g3.sub j hjs
        refine⟨⟨g,fl',bs',cl',sn'⟩,⟨hV',hG.inv,hG.cover j hj hjT (Ne.symm hn2),by rw[hG.plus];omega,hGt,fun v hv=>hsub3 v (hsub2 v hv)⟩,rfl,rfl,by simp⟩
      ·have hpos:0<D6 fl n1:=by rw[←E5 hf1];omega
       (repeat refine AW.seq_k fun K hK=>?_);refine AW.rg ?_;simp[q1,q2,q3,hn1,q4,hz];try (refine hK _ rfl ?_;clear hK K)
       refine AW.no ?_ rfl;refine AW.skip ?_;have hGd:=Got.direct (S:=E8 sn) hI hj hei (by rw[hn];exact hS) (by rw[hn];exact hpos);rw[hn]at hGd;refine⟨⟨_,fl,bs,cl,s1.set n1 true⟩,⟨V2,hI,rfl,hpos,hGd,hsub2⟩,rfl,rfl,by simp⟩
     ·rintro⟨M3,fl3,bs3,cl3,s3⟩ ⟨hV3,hI3,hcj,hp3,hG3,hsub3⟩;simp only at hV3 hI3 hcj hp3 hG3 hsub3 ⊢;have q1:=hV3.game.g;have q2:=hV3.game.f;have q4:=hV3.game.fll;have hf1:n1<fl3.length:=by rw[q4];exact hn1
      have hx2:D6 fl3 n1≤2:=by have:=hI3.two n1 hn1;omega
      have hx1:=E5 hf1;have w2:IntKind.i64.wrap (((D6 fl3 n1:Nat):Int)-1)=((D6 fl3 n1-1:Nat):Int):=by
       rw[show((D6 fl3 n1:Nat):Int)-1=((D6 fl3 n1-1:Nat):Int) by omega];exact wi (by omega)
      unfold Cn at q1;(repeat refine AW.seq_k fun K hK=>?_);refine AW.rg ?_;simp[q1,q2,hn1,q4,hx1,w2];try (refine hK _ rfl ?_;clear hK K)
      rw[Ii];have V4:=hV3.setF n1 (D6 fl3 n1-1);generalize M3.set bf ⟨3,1,An (fl3.set n1 (D6 fl3 n1-1))⟩=M4 at V4 ⊢;refine AW.seq_ex (ι:=Aa × Nat) (fun _=>[(0,.int .i64 (j:Nat)),(1,.rptr [.ptr bg 3 0 0]),(2,.rptr [.osl bx 1 0 n]),(3,.ptr c3 1 0 0),(6,.int .i64 (i:Nat)),(7,.int .i64 (e:Nat)),(8,.int .i64 (n1:Nat))]) (fun z=>z.1) (fun z=>H8 z.1 n bg bf bc bx c3 es (fl3.set n1 (D6 fl3 n1-1)) (bs3.set n1 (some z.2)) (cl3.set n1 (C4 cl3 n1++[e])) s3) ?_ ?_
      ·have q5:=V4.game.g;have q6:=V4.game.c;have hhl4:=Gj V4.game;obtain⟨o4,ho4,hget4⟩:=Kj V4.game hn1;have hjh4:n1<(Gs bs3 cl3).length:=by rw[hhl4];exact hn1
       have hgel4:(Gs bs3 cl3)[n1]=Yg o4 (C4 cl3 n1):=by rw[List.getElem?_eq_getElem hjh4]at hget4;exact Option.some.inj hget4
       have nd:=V4.game.nd;have hbcn:bc≠bg:=Ne.symm nd.2.1;unfold Cn at q5;have hl3:(C4 cl3 n1).length≤2:=by have:=hI3.two n1 hn1;omega
       cases o4 with
       |none =>
        have hc0:=V4.game.nil n1 ho4;simp only[Yg]at hgel4;(repeat refine AW.seq_k fun K hK=>?_);refine AW.rdLR [69] [bg,bc] [0,1,2,3,4,5,6,7,8,9,10,11,12,13,14,15,16] Ds (by simp[q5,q6]) ?_;simp[q5,q6,hn1,hhl4,hgel4];refine⟨by unfold maxLen;omega,fun b6 h6 _=>?_⟩;have hfresh:b6 ∉ bx::c3::A4 bg bf bc bs3:=fun hm=>V4.dom hm h6;have e1:¬bc=b6:=fun h=>hfresh (by rw[←h];simp[A4]);simp[e1,hn1,hhl4];refine⟨b6,V4.setC hn1 (.inl hfresh) (by rw[Aa.set_same,hc0];rfl) (by rw[Aa.set_other _ _ (Ne.symm e1),Aa.set_same,hc0];rfl) (fun k _ hk1 hk2 _=>by rw[Aa.set_other _ _ hk2,Aa.set_other _ _ hk1]) (fun k hk=>?_)⟩
        by_cases k1:k=b6
        ·exact .inl k1
        ·refine .inr ⟨?_,fun h=>by rw[ho4]at h;cases h⟩;by_cases k2:k=bc
         ·rw[k2];simp[A4]
         ·rw[Aa.set_other _ _ k2,Aa.set_other _ _ k1]at hk;exact V4.only k hk
       |some b4 =>
        simp only[Yg]at hgel4;have q7:=V4.game.row n1 b4 ho4;have hnd4:=V4.game.ndr n1 b4 ho4;(repeat refine AW.seq_k fun K hK=>?_);refine AW.rdLR [69] [bg,bc] [0,1,2,3,4,5,6,7,8,9,10,11,12,13,14,15,16] Ds (by simp[q5,q6]) ?_;simp[q5,q6,q7,hn1,hhl4,hgel4,hnd4];refine⟨by omega,by unfold maxLen;omega,fun b6 h6 _=>?_⟩;have hf6:b6 ∉ bx::c3::A4 bg bf bc bs3∨bs3[n1]?=some (some b6):=by
         by_cases e:b6=b4
         ·exact .inr (by rw[e];exact ho4)
         ·exact .inl fun hm=>V4.dom hm (by rwa [Aa.del_other _ e]at h6)
        have e1:¬bc=b6:=by
         intro h;rcases hf6 with hf6 | hf6
         ·exact hf6 (by rw[←h];simp[A4])
         ·exact(V4.game.ndr n1 b6 hf6).2.2 h.symm
        have e2:¬bc=b4:=Ne.symm hnd4.2.2;simp[e1,e2,hn1,hhl4];refine⟨b6,V4.setC hn1 hf6 (by rw[Aa.set_same];simp) (by rw[Aa.set_other _ _ (Ne.symm e1),Aa.set_same,D5]) (fun k _ hk1 hk2 hk3=>?_) (fun k hk=>?_)⟩
        ·have:k≠b4:=fun h=>hk3 (by rw[h];exact ho4);rw[Aa.set_other _ _ hk2,Aa.set_other _ _ hk1,Aa.del_other _ this]
        ·by_cases k1:k=b6
         ·exact .inl k1
         ·by_cases k2:k=bc
          ·exact .inr ⟨by rw[k2];simp[A4],fun h=>absurd k2 (V4.game.ndr n1 k h).2.2⟩
          ·rw[Aa.set_other _ _ k2,Aa.set_other _ _ k1]at hk;by_cases k3:k=b4
           ·rw[k3,Aa.del_same]at hk;exact absurd rfl hk
           ·rw[Aa.del_other _ k3]at hk;exact .inr ⟨V4.only k hk,fun h=>by rw[ho4]at h;cases h;exact absurd rfl k3⟩
      ·rintro⟨M5,b5⟩ V5;simp only at V5 ⊢;have hcv5:C4 (cl3.set n1 (C4 cl3 n1++[e]))=Eu (C4 cl3) n1 (C4 cl3 n1++[e]):=Nn (by rw[hV3.game.cll];exact hn1);have hcj5:C4 (cl3.set n1 (C4 cl3 n1++[e])) j=C4 cl j:=by rw[hcv5,Bm _ _ (Ne.symm hn2),hcj]
       have hfr5:D6 (fl3.set n1 (D6 fl3 n1-1))=Eu (D6 fl3) n1 (D6 fl3 n1-1):=Wr hf1;have hfj5:D6 (fl3.set n1 (D6 fl3 n1-1)) j=D6 fl3 j:=by rw[hfr5,Bm _ _ (Ne.symm hn2)]
       have hfl5:(fl3.set n1 (D6 fl3 n1-1)).length=n:=V5.game.fll;have hcl5:(cl3.set n1 (C4 cl3 n1++[e])).length=n:=V5.game.cll;have hfj2:D6 fl3 j≤2:=by have:=hI3.two j hj;omega
       have hdone:∀(M:Aa) (bs':List (Option Nat)),H8 M n bg bf bc bx c3 es ((fl3.set n1 (D6 fl3 n1-1)).set j (D6 fl3 j+1)) bs' ((cl3.set n1 (C4 cl3 n1++[e])).set j ((C4 cl j).eraseIdx i)) s3 →
         Quy n bg bf bc bx c3 es A fl bs cl sn j (.bool true) M:=fun M bs' hV=>⟨true,rfl,_,bs',_,s3,hV,(fun h=>by cases h),fun _=>⟨by
        rw[Wr (by rw[hfl5];exact hj),Nn (by rw[hcl5];exact hj),hfr5,hcv5];rw[hcj]at hG3;exact hG3,hsub3⟩⟩
       generalize fl3.set n1 (D6 fl3 n1-1)=fl5 at *;generalize cl3.set n1 (C4 cl3 n1++[e])=cl5 at *;generalize bs3.set n1 (some b5)=bs5 at *;obtain⟨o5,ho5,hget5⟩:=Kj V5.game hj;cases o5 with
       |none =>
        have:=V5.game.nil j ho5;rw[hcj5]at this;rw[this]at hi;simp at hi
       |some bj =>
        simp only[Yg]at hget5;have q5:=V5.game.g;have q6:=V5.game.c;have q7:=V5.game.row j bj ho5;have hnd5:=V5.game.ndr j bj ho5;have hhl5:=Gj V5.game;have hjh5:j<(Gs bs5 cl5).length:=by rw[hhl5];exact hj
        rw[hcj5]at hget5 q7;have hgel5:(Gs bs5 cl5)[j]=.osl bj 1 0 (C4 cl j).length:=by rw[List.getElem?_eq_getElem hjh5]at hget5;exact Option.some.inj hget5
        have nd:=V5.game.nd;have hbcn:bc≠bg:=Ne.symm nd.2.1;unfold Cn at q5;(repeat refine AW.seq_k fun K hK=>?_);refine AW.rdL [bg,bc] [0,1,2,3,4,5,6,7,8,9,10,11,12,13,14,15,16,17] Ds (by simp[q5,q6]) ?_;simp[-Int.natCast_add,q5,q6,hj,hhl5,hgel5,w1];refine Ac.grant (R:=fun v x'=>v=.osl bj 1 0 ((C4 cl j).length-1)∧x'=⟨3,1,An ((C4 cl j).eraseIdx i)⟩) bj ⟨3,1,An (C4 cl j)⟩ q7 (fun h=>by rcases h with h | h;exact hnd5.1 h;exact hnd5.2.2 h)
         ((M8 bj (C4 cl j) i hi (by omega)).mono fun v m hm=>⟨_,⟨hm.1,rfl⟩,hm.2⟩) ?_
        rintro _ _ ⟨rfl,rfl⟩;have e2:¬bc=bj:=Ne.symm hnd5.2.2;simp[-Int.natCast_add,q6,e2,hj,hhl5];try (refine hK _ rfl ?_;clear hK K)
        have hle:((C4 cl j).eraseIdx i).length=(C4 cl j).length-1:=by rw[List.length_eraseIdx,if_pos hi]
        have V6:=V5.setC (l':=(C4 cl j).eraseIdx i) (M':=(M5.set bj ⟨3,1,An ((C4 cl j).eraseIdx i)⟩).set bc ⟨25,1,(Gs bs5 cl5).set j (.osl bj 1 0 ((C4 cl j).length-1))⟩) hj (.inr ho5) (by rw[Aa.set_same,hle]) (by rw[Aa.set_other _ _ (Ne.symm e2),Aa.set_same])
         (fun k _ hk1 hk2 _=>by rw[Aa.set_other _ _ hk2,Aa.set_other _ _ hk1]) (fun k hk=>by
          by_cases k1:k=bj
          ·exact .inl k1
          ·refine .inr ⟨?_,fun h=>by rw[ho5]at h;cases h;exact absurd rfl k1⟩;by_cases k2:k=bc
           ·rw[k2];simp[A4]
           ·rw[Aa.set_other _ _ k2,Aa.set_other _ _ k1]at hk;exact V5.only k hk)
        generalize(M5.set bj ⟨3,1,An ((C4 cl j).eraseIdx i)⟩).set bc ⟨25,1,(Gs bs5 cl5).set j (.osl bj 1 0 ((C4 cl j).length-1))⟩=M6 at V6 ⊢;have p1:=V6.game.g;have p2:=V6.game.f;unfold Cn at p1;have hjf:j<fl5.length:=by rw[hfl5];exact hj
        have hxj:fl5[j]=D6 fl3 j:=by rw[E5 hjf,hfj5]
        have w3:=Aq (D6 fl3 j+1) (by omega);(repeat refine AW.seq_k fun K hK=>?_);refine AW.rg ?_;simp[-Int.natCast_add,p1,p2,hj,hfl5,hxj,w3];try (refine hK _ rfl ?_;clear hK K)
        rw[Ii];have V7:=V6.setF j (D6 fl3 j+1);generalize M6.set bf ⟨3,1,An (fl5.set j (D6 fl3 j+1))⟩=M7 at V7 ⊢;(repeat refine AW.seq_k fun K hK=>?_);refine AW.rg ?_;simp[-Int.natCast_add];try (refine hK _ rfl ?_;clear hK K)
        exact AW.ret (B0 rfl V7.ones (hdone _ _ V7))
   ·refine AW.exit ?_;try simp
    have hil:i=(C4 cl j).length:=by omega
    exact⟨s1,g2,g3,fun e he=>g4 e (by rw[hil,List.take_length];exact he)⟩
  ·rintro⟨M1,s1⟩ ⟨g1,g2,g3⟩;simp only at g1 g2 g3;(repeat refine AW.seq_k fun K hK=>?_);refine AW.rg ?_;simp;try (refine hK _ rfl ?_;clear hK K)
   exact AW.ret (B0 rfl g1.ones ⟨false,rfl,fl,bs,cl,s1,g1,fun _=>⟨rfl,rfl,rfl,g2,g3⟩,fun h=>by cases h⟩)
end Go.Av
end
section
namespace Go.Av
open Go.Proofs Go.Lam
def Qxe (n bg bf bc:Nat) (es:List RE) (A:List Nat) (fl:List Nat) (bs:List (Option Nat)) (cl:List (List Nat)) (to keep:Nat) (v:AV) (M':Aa):Prop :=
 ∃ok:Bool,v=.bool ok∧∃(fl':List Nat) (bs':List (Option Nat)) (cl':List (List Nat)),C5 M' n bg bf bc es fl' bs' cl'∧E1 M' (A4 bg bf bc bs') ∧
  (ok=false→fl'=fl∧bs'=bs∧cl'=cl∧∃X:Nat→Bool,X to=true∧X keep=true∧(∀v,v<n→X v=true→v≠to→v≠keep→D6 fl v=0)∧(∀v,v<n→X v=true→(v=to∨v≠keep)→∀e∈C4 cl v,X (Fw (Ae es) e v)=true)) ∧
  (ok=true→Got n (Ae es) A (fun v=>v==to || v==keep) to (D6 fl) (C4 cl) (D6 fl') (C4 cl'))
theorem Rq (n bg bf bc:Nat) (es:List RE) (A:List Nat) (hn:n≤12) (hes:Ln n es) (hA:∀e∈A,e<es.length) (M:Aa) (fl:List Nat) (bs:List (Option Nat)) (cl:List (List Nat)) (to keep:Nat)
  (hG:C5 M n bg bf bc es fl bs cl) (ho:E1 M (A4 bg bf bc bs)) (hI:Inv n (Ae es) A (D6 fl) (C4 cl)) (ht:to<n) (hk:keep<n) :
  Aj Tryz.prog 162 [.ptr bg 3 0 0,.int .i64 (to:Nat),.int .i64 (keep:Nat)] M (Qxe n bg bf bc es A fl bs cl to keep):=by
 have q1:=hG.g;have q4:=hG.fll;have hone:=Ha hG ho;refine Ad Tryz.func162 rfl rfl 25 rfl (Nat.le_of_ble_eq_true rfl) ?_;(repeat refine AW.seq_k fun K hK=>?_);refine AW.rgR [3] ?_;simp[Ak];try (refine hK _ rfl ?_;clear hK K)
 unfold Cn at q1;(repeat refine AW.seq_k fun K hK=>?_);refine AW.rg ?_;simp[q1];try (refine hK _ rfl ?_;clear hK K)
 refine⟨by omega,Ag.intro fun bx hx=>Ag.intro fun c2 h2=>?_⟩;simp only[Ap]at h2;refine hK _ rfl ?_;clear hK K;have hrep:List.replicate n (AV.bool false)=bools (List.replicate n false):=by simp[bools]
 rw[hrep];have ones1:∀c y,M.set bx ⟨4,1,bools (List.replicate n false)⟩ c=some y→∀v∈y.l,v.cells.all AV.one=true:=by
  intro c y hy v hv;by_cases e:c=bx
  ·rw[e,Aa.set_same]at hy;cases hy;exact K1 _ v hv
  ·rw[Aa.set_other _ _ e]at hy;exact hone c y hy v hv
 have hc2:M.set bx ⟨4,1,bools (List.replicate n false)⟩ c2=none:=by rw[Aa.set_other _ _ h2.1.1];exact h2.2
 refine AW.turn [(1,.int .i64 (to:Nat)),(2,.int .i64 (keep:Nat)),(3,.rptr [.ptr bg 3 0 0]),(6,.bool false),(7,.rptr [.osl bx 1 0 n])] (M.set bx ⟨4,1,bools (List.replicate n false)⟩) (Bj.drop hc2 ones1)
  (by simp;exact .ptr c2 1 0 0 ⟨137,1,[.osl bx 1 0 n]⟩ (.osl bx 1 0 n) (Aa.set_same _ _ _) hc2 rfl rfl) ?_
 have hl0:(bools (List.replicate n false)).length=n:=by simp
 (repeat refine AW.seq_k fun K hK=>?_);refine AW.rdT [] [7] [] [] [0,1,2,3,4,5,6,7] Ds (by simp[ht,hk,hl0]) (by simp[ht,hk,hl0]) (by simp[ht,hk,hl0]) (by simp[ht,hk,hl0]) (by simp[ht,hk,hl0]) ?_;simp[ht,hk,hl0];try (refine hK _ rfl ?_;clear hK K)
 rw[Fg,Fg];have hsl:(((List.replicate n false).set to true).set keep true).length=n:=by simp
 have hS:E8 (((List.replicate n false).set to true).set keep true)=fun v=>v==to || v==keep:=by
  rw[Je (by simp;exact hk),Je (by simp;exact ht)]
  funext v
  unfold Eu;have h0:E8 (List.replicate n false) v=false:=by unfold E8;rw[List.getD_eq_getElem?_getD,List.getElem?_replicate];split<;>rfl
  by_cases e1:v=keep<;>by_cases e2:v=to<;>simp[e1,e2,h0]
 generalize((List.replicate n false).set to true).set keep true=sn at hsl hS ⊢;(repeat refine AW.seq_k fun K hK=>?_);refine AW.rg ?_;simp;try (refine hK _ rfl ?_;clear hK K)
 refine⟨rfl,by simp[AV.cells,AV.one],Ag.intro fun c3 h3=>?_⟩;simp only[Ap]at h3;refine hK _ rfl ?_;clear hK K;(repeat refine AW.seq_k fun K hK=>?_);refine AW.rg ?_;simp;try (refine hK _ rfl ?_;clear hK K)
 have hnx:∀k∈A4 bg bf bc bs,k≠bx∧k≠c3:=fun k hk=>⟨fun e=>hG.dom hk (by rw[e];exact hx),fun e=>hG.dom hk (by rw[e];exact h3.2)⟩;have hV:H8 ((M.set bx ⟨4,1,bools sn⟩).set c3 ⟨100,1,[.fn 195 [.rptr [.ptr bg 3 0 0],.rptr [.osl bx 1 0 n],.ptr c3 1 0 0]]⟩) n bg bf bc bx c3 es fl bs cl sn :=
  {game:=hG.congr fun k hk=>by rw[Aa.set_other _ _ (hnx k hk).2,Aa.set_other _ _ (hnx k hk).1]
   seen:=by rw[Aa.set_other _ _ h3.1.2,Aa.set_same]
   snl:=hsl
   cell:=Aa.set_same _ _ _
   off:=hnx
   xc:=h3.1.2
   only:=fun k hk=>by
    simp only[List.mem_cons];by_cases e1:k=c3
    ·exact .inr (.inl e1)
    ·by_cases e2:k=bx
     ·exact .inl e2
     ·rw[Aa.set_other _ _ e1,Aa.set_other _ _ e2]at hk;exact .inr (.inr (ho k hk))}
 have hc3:=hV.cell;unfold Qq3 at hc3;have ih:=Qbo n bg bf bc bx c3 es A hn hes hA (Fs sn) _ fl bs cl sn to (Nat.le_refl _) hV hI ht (by rw[hS];simp);generalize(M.set bx ⟨4,1,bools sn⟩).set c3 ⟨100,1,[.fn 195 [.rptr [.ptr bg 3 0 0],.rptr [.osl bx 1 0 n],.ptr c3 1 0 0]]⟩=M2 at hV hc3 ih ⊢;(repeat refine AW.seq_k fun K hK=>?_);refine AW.rg ?_;simp[hc3];try (refine hK _ rfl ?_;clear hK K)
 refine⟨195,_,⟨rfl,rfl⟩,?_⟩;refine Ac.whole (fun _ h=>h) ih ?_;rintro _ g ⟨ok,rfl,fl',bs',cl',sn',hV',hF,hT⟩;simp;try (refine hK _ rfl ?_;clear hK K)
 have hrec:Bj g (g.only (A4 bg bf bc bs')):=Bj.sub fun b x hb=>by
  by_cases hm:b∈A4 bg bf bc bs'
  ·rw[Bv hm]at hb;exact⟨hb,hV'.ones b x hb⟩
  ·rw[Bo hm]at hb;cases hb
 refine AW.ret ⟨[.bool ok],rfl,.bool ok,_,hrec,.same _,ok,rfl,fl',bs',cl',hV'.game.congr fun k hk=>Bv hk,fun k hk=>?_,fun h=>?_,fun h=>?_⟩
 ·rcases Decidable.em (k∈A4 bg bf bc bs')with hm|hm
  ·exact hm
  ·exact absurd (Bo hm) hk
 ·obtain⟨r1,r2,r3,hL,hsh⟩:=hF h;rw[hS]at hL;refine⟨r1,r2,r3,E8 sn',hL.sub to (by simp),hL.sub keep (by simp),fun v hv hx h1 h2=>hL.zero v hv (by simp[h1,h2]) hx,fun v hv hx h1=>?_⟩;by_cases e:v=to
  ·rw[e];exact hsh
  ·exact hL.shut v hv (by simp[e];exact h1.resolve_left e) hx
 ·have:=(hT h).1;rw[hS]at this;exact this
end Go.Av
end
section
namespace Go.Av
open Go.Proofs Go.Lam
structure GSt where
 M:Aa
 fl:List Nat
 bs:List (Option Nat)
 cl:List (List Nat)
structure Ic (n bg bf bc:Nat) (es:List RE) (A:List Nat) (M:Aa) (fl:List Nat) (bs:List (Option Nat)) (cl:List (List Nat)):Prop where
 mem:C5 M n bg bf bc es fl bs cl
 only:E1 M (A4 bg bf bc bs)
 inv:Inv n (Ae es) A (D6 fl) (C4 cl)
def Qw7 (n bg bf bc:Nat) (es:List RE) (A:List Nat) (a b:Nat) (v:AV) (M':Aa):Prop :=
 ∃(fl':List Nat) (bs':List (Option Nat)) (cl':List (List Nat)),v=.int .i64 ((D6 fl' a+D6 fl' b:Nat):Int)∧Ic n bg bf bc es A M' fl' bs' cl'∧D6 fl' a=2 ∧
  (D6 fl' b=2∨D6 fl' b=1∧∃X,C9 n (A.map (Ae es)) X∧X a=true∧X b=true)
theorem Pc (n bg bf bc:Nat) (es:List RE) (A:List Nat) (hn:n≤12) (hes:Ln n es) (hA:∀e∈A,e<es.length) (hsp:A0 n (A.map (Ae es))) (M:Aa) (fl:List Nat) (bs:List (Option Nat)) (cl:List (List Nat)) (a b:Nat)
  (hG:Ic n bg bf bc es A M fl bs cl) (ha:a<n) (hb:b<n) (hab:a≠b) :
  Aj Tryz.prog 119 [.ptr bg 3 0 0,.int .i64 (a:Nat),.int .i64 (b:Nat)] M (Qw7 n bg bf bc es A a b):=by
 refine Ad Tryz.func119 rfl rfl 50 rfl (Nat.le_of_ble_eq_true rfl) ?_;(repeat refine AW.seq_k fun K hK=>?_);refine AW.rg ?_;simp[Ak];try (refine hK _ rfl ?_;clear hK K)
 refine AW.seq_ex (ι:=GSt) (fun _=>[(0,.ptr bg 3 0 0),(1,.int .i64 (a:Nat)),(2,.int .i64 (b:Nat))]) (fun z=>z.M) (fun z=>Ic n bg bf bc es A z.M z.fl z.bs z.cl∧D6 z.fl a=2) ?_ ?_
 ·refine AW.block (AW.loopS (ι:=GSt) (fun _=>[(0,.ptr bg 3 0 0),(1,.int .i64 (a:Nat)),(2,.int .i64 (b:Nat))]) (fun z=>z.M) (fun z=>Ic n bg bf bc es A z.M z.fl z.bs z.cl) (fun z=>2-D6 z.fl a) ⟨M,fl,bs,cl⟩ hG rfl (by simp) ?_);rintro⟨M,fl,bs,cl⟩ hG;simp only at hG ⊢;have q1:=hG.mem.g;have q2:=hG.mem.f;have q4:=hG.mem.fll;have hal:a<fl.length:=by rw[q4];exact ha
  have hx:=E5 hal;have h2:=hG.inv.two a ha;unfold Cn at q1;by_cases hlt:fl[a]<2
  ·have hc:=Rq n bg bf bc es A hn hes hA M fl bs cl a a hG.mem hG.only hG.inv ha ha;have hlt':((fl[a]:Nat):Int)<2:=by omega
   (repeat refine AW.seq_k fun K hK=>?_);refine AW.rg ?_;simp[q1,q2,ha,q4,hlt];try (refine hK _ rfl ?_;clear hK K)
   refine Ac.whole (fun _ h=>h) hc ?_;rintro _ g ⟨ok,rfl,fl',bs',cl',hM,ho,hF,hT⟩;cases ok with
   |true =>
    have hg:=hT rfl;simp;try (refine hK _ rfl ?_;clear hK K)
    refine AW.yes ?_ rfl;refine AW.skip ?_;try simp
    try (refine hK _ rfl ?_;clear hK K)
    (repeat refine AW.seq ?_);refine AW.block ?_;refine AW.skip ?_;try simp
    exact⟨⟨g,fl',bs',cl'⟩,⟨hM,ho,hg.inv⟩,by simp only;rw[hg.plus];omega,rfl⟩
   |false =>
    obtain⟨r1,r2,r3,X,x1,x2,hz,hsh⟩:=hF rfl;have:=hG.inv.first hsp ha (X:=X) (fun v hv hx e he=>hsh v hv hx (Decidable.em (v=a)) e he) x1 (fun v hv hx h=>hz v hv hx h h);omega
  ·(repeat refine AW.seq_k fun K hK=>?_);refine AW.rg ?_;simp[q1,q2,ha,q4,hlt];try (refine hK _ rfl ?_;clear hK K)
   (repeat refine AW.seq ?_);refine AW.no ?_ rfl;refine AW.exit ?_;try simp
   exact⟨⟨M,fl,bs,cl⟩,⟨hG,by simp only;omega⟩,rfl⟩
 rintro⟨M,fl,bs,cl⟩ ⟨hG,h2⟩;simp only at hG h2 ⊢;refine AW.seq_ex (ι:=GSt) (fun _=>[(0,.ptr bg 3 0 0),(1,.int .i64 (a:Nat)),(2,.int .i64 (b:Nat))]) (fun z=>z.M) (fun z=>Ic n bg bf bc es A z.M z.fl z.bs z.cl∧D6 z.fl a=2∧(D6 z.fl b=2∨D6 z.fl b=1∧∃X,C9 n (A.map (Ae es)) X∧X a=true∧X b=true)) ?_ ?_
 ·refine AW.block (AW.loopS (ι:=GSt) (fun _=>[(0,.ptr bg 3 0 0),(1,.int .i64 (a:Nat)),(2,.int .i64 (b:Nat))]) (fun z=>z.M) (fun z=>Ic n bg bf bc es A z.M z.fl z.bs z.cl∧D6 z.fl a=2) (fun z=>2-D6 z.fl b) ⟨M,fl,bs,cl⟩ ⟨hG,h2⟩ rfl (by simp) ?_);rintro⟨M,fl,bs,cl⟩ ⟨hG,h2⟩;simp only at hG h2 ⊢;have q1:=hG.mem.g;have q2:=hG.mem.f;have q4:=hG.mem.fll;have hbl:b<fl.length:=by rw[q4];exact hb
  have hx:=E5 hbl;have h3:=hG.inv.two b hb;have h4:=hG.inv.two a ha;unfold Cn at q1;by_cases hlt:fl[b]<2
  ·have hc:=Rq n bg bf bc es A hn hes hA M fl bs cl b a hG.mem hG.only hG.inv hb ha;(repeat refine AW.seq_k fun K hK=>?_);refine AW.rg ?_;simp[q1,q2,hb,q4,hlt];try (refine hK _ rfl ?_;clear hK K)
   refine Ac.whole (fun _ h=>h) hc ?_;rintro _ g ⟨ok,rfl,fl',bs',cl',hM,ho,hF,hT⟩;cases ok with
   |true =>
    have hg:=hT rfl;simp;try (refine hK _ rfl ?_;clear hK K)
    refine AW.yes ?_ rfl;refine AW.skip ?_;try simp
    try (refine hK _ rfl ?_;clear hK K)
    (repeat refine AW.seq ?_);refine AW.block ?_;refine AW.skip ?_;try simp
    exact⟨⟨g,fl',bs',cl'⟩,⟨⟨hM,ho,hg.inv⟩,by simp only;rw[hg.free a ha (by simp) hab];exact h2⟩,by simp only;rw[hg.plus];omega,rfl⟩
   |false =>
    obtain⟨r1,r2,r3,X,x1,x2,hz,hsh⟩:=hF rfl;subst r1;subst r2;subst r3;have hc0:C4 cl' a=[]:=List.eq_nil_of_length_eq_zero (by omega);obtain⟨k1,k2⟩:=hG.inv.second hsp ha hb hab h2 (X:=X) (fun v hv hx e he=>by
     by_cases e1:v=a
     ·subst e1;rw[hc0]at he;cases he
     ·exact hsh v hv hx (.inr e1) e he) x2 x1 (fun v hv hx h h'=>hz v hv hx h' h) (by omega)
    simp;try (refine hK _ rfl ?_;clear hK K)
    refine AW.no ?_ rfl;refine AW.exit ?_;try simp
    exact⟨⟨g,fl',bs',cl'⟩,⟨⟨hM,ho,hG.inv⟩,h2,.inr ⟨k1,X,k2,x2,x1⟩⟩,rfl⟩
  ·(repeat refine AW.seq_k fun K hK=>?_);refine AW.rg ?_;simp[q1,q2,hb,q4,hlt];try (refine hK _ rfl ?_;clear hK K)
   (repeat refine AW.seq ?_);refine AW.no ?_ rfl;refine AW.exit ?_;try simp
   exact⟨⟨M,fl,bs,cl⟩,⟨hG,h2,.inl (by simp only;omega)⟩,rfl⟩
 rintro⟨M,fl,bs,cl⟩ ⟨hG,h2,h3⟩;simp only at hG h2 h3 ⊢;have q1:=hG.mem.g;have q2:=hG.mem.f;have q4:=hG.mem.fll;have hal:a<fl.length:=by rw[q4];exact ha
 have hbl:b<fl.length:=by rw[q4];exact hb
 have hx:=E5 hal;have hy:=E5 hbl;unfold Cn at q1;have w1:IntKind.i64.wrap ((D6 fl a+D6 fl b:Nat):Int)=((D6 fl a+D6 fl b:Nat):Int):=wi (by rcases h3 with h3 | h3;omega;have:=h3.1;omega);(repeat refine AW.seq_k fun K hK=>?_);refine AW.rdL [bg,bf] [0,1,2,3,4,5,6,7,8,9,10,11,12,13,14,15] Ds (by simp[q1,q2]) ?_;simp[-Int.natCast_add,q1,q2,ha,hb,q4,hx,hy,w1];try (refine hK _ rfl ?_;clear hK K)
 exact AW.ret (B0 rfl (Ha hG.mem hG.only) ⟨fl,bs,cl,rfl,hG,h2,h3⟩)
end Go.Av
end
section
namespace Go.Lam
section
variable {n:Nat} {E:Nat→Ed} {A:List Nat} {fr:Nat→Nat} {cv:Nat→List Nat}
def Far (n:Nat) (E:Nat→Ed) (fr:Nat→Nat) (cv:Nat→List Nat) (S:Nat→Bool) (j:Nat):Prop:=∀X,X j=true→Qd9 n E cv X→∃w,w<n∧X w=true∧S w=false∧0<fr w
theorem Far.direct {S T:Nat→Bool} {j e:Nat} (hsub:∀v,S v=true→T v=true) (hj:j<n) (he:e∈cv j) (hk:Fw E e j<n) (hT:T (Fw E e j)=false) (hf:0<fr (Fw E e j)):Far n E fr cv S j:=fun X hX hs=>by
 refine⟨Fw E e j,hk,hs j hj hX e he,?_,hf⟩;cases h:S (Fw E e j)with
 |false=>rfl
 |true=>rw[hsub _ h]at hT;cases hT
theorem Far.through {S T:Nat→Bool} {j e:Nat} (hsub:∀v,S v=true→T v=true) (hj:j<n) (he:e∈cv j) (h:Far n E fr cv T (Fw E e j)):Far n E fr cv S j:=fun X hX hs=>by
 obtain⟨w,h1,h2,h3,h4⟩:=h X (hs j hj hX e he) hs;refine⟨w,h1,h2,?_,h4⟩;cases hc:S w with
 |false=>rfl
 |true=>rw[hsub _ hc]at h3;cases h3
theorem Qhd (h:Inv n E A fr cv) {a b v:Nat} (ha:a<n) (hb:b<n) (hab:a≠b) (hv:v<n) (h3:3≤fr a+fr b) {S:Nat→Bool} (hSa:S a=true) (hSb:S b=true) (hF:Far n E fr cv S v) {X:Nat→Bool} (hX:C9 n (A.map E) X) (hXa:X a=true) (hXb:X b=true):X v=false:=by
 cases hXv:X v with
 |false=>rfl
 |true =>
  exfalso
  have e2:Tk n fr (Eh a b)≤Tk n fr X:=Qih fun v _ hv=>by
   simp only[Eh,Bool.or_eq_true,beq_iff_eq]at hv;rcases hv with rfl | rfl<;>assumption
  rw[Nc ha hb hab]at e2;have hS:=h.shut (X:=X) (by have:=hX.2;omega);obtain⟨w,w1,w2,w3,w4⟩:=hF X hXv hS;have hwa:w≠a:=fun e=>by rw[e,hSa]at w3;cases w3
  have hwb:w≠b:=fun e=>by rw[e,hSb]at w3;cases w3
  have e3:Tk n fr (Eh a b)+Tk n fr (fun v=>v==w)≤Tk n fr X:=by
   unfold Tk;rw[←Jd];refine Vd fun v hv=>?_;by_cases h1:v=w
   ·subst h1;have:Eh a b v=false:=by simp[Eh,hwa,hwb]
    simp[this,w2]
   ·by_cases h2:Eh a b v=true
    ·have:X v=true:=by
      simp only[Eh,Bool.or_eq_true,beq_iff_eq]at h2;rcases h2 with rfl | rfl<;>assumption
     simp[h2,h1,this]
    ·simp[h1,h2]
  rw[Nc ha hb hab,Ro w1]at e3;have:=h.le X;have:=hX.2;omega
theorem Qd1 (h:Inv n E A fr cv) (hs:A0 n (A.map E)) {a b v e:Nat} (ha:a<n) (hb:b<n) (hab:a≠b) (hv:v<n) (heA:e∈A) (he:(E e).1=a∧(E e).2=b) (h2:fr a=2) (h1:fr b=1) (hfv:fr v=0) {T:Nat→Bool}
  (hL:Jy n E fr cv (Eu (Eu (Eu (fun _=>false) a true) b true) v true) T) (hc:∀e∈cv v,T (Fw E e v)=true):C9 n (A.map E) T∧T a=true∧T b=true∧T v=true:=by
 have hS:∀w,Eu (Eu (Eu (fun _=>false) a true) b true) v true w=true↔w=v∨w=b∨w=a:=fun w=>by
  unfold Eu;by_cases h1:w=v
  ·simp[h1]
  ·by_cases h2:w=b
   ·simp[h2]
   ·by_cases h3:w=a<;>simp[h1,h2,h3]
 have hTa:=hL.sub a ((hS a).2 (.inr (.inr rfl)));have hTb:=hL.sub b ((hS b).2 (.inr (.inl rfl)));have hTv:=hL.sub v ((hS v).2 (.inl rfl));have hca:cv a=[]:=List.eq_nil_of_length_eq_zero (by have:=h.two a ha;omega);have hcb:∀x∈cv b,x=e:=by
  have hm:e∈(List.range n).flatMap cv:=h.perm.mem_iff.2 heA;obtain⟨u,hu,hu2⟩:=List.mem_flatMap.1 hm;have hun:=List.mem_range.1 hu;have hub:u=b:=by
   rcases h.ends u hun e hu2 with h3|h3
   ·rw[he.1]at h3;rw[←h3,hca]at hu2;cases hu2
   ·rw[he.2]at h3;exact h3.symm
  subst hub;have hl:=h.two u hb;intro x hx
  match hcu:cv u,hx,hu2 with
  |[y],hx,hu2=>simp at hx hu2;rw[hx,hu2]
  |[],hx,_=>cases hx
  |y::z::t,_,_=>rw[hcu]at hl;simp at hl;omega
 have hSh:Qd9 n E cv T:=fun u hu hTu x hx=>by
  by_cases hu2:Eu (Eu (Eu (fun _=>false) a true) b true) v true u=true
  ·rcases(hS u).1 hu2 with rfl|rfl|rfl
   ·exact hc x hx
   ·rw[hcb x hx];have:Fw E e u=a:=by unfold Fw;omega
    rw[this];exact hTa
   ·rw[hca]at hx;cases hx
  ·exact hL.shut u hu (by simpa using hu2) hTu x hx
 have:=h.second hs ha hb hab h2 hSh hTa hTb (fun u hu hTu hua hub=>by
  by_cases huv:u=v
  ·rw[huv];exact hfv
  ·refine hL.zero u hu ?_ hTu;cases hq:Eu (Eu (Eu (fun _=>false) a true) b true) v true u with
   |false=>rfl
   |true=>rcases(hS u).1 hq with h' | h' | h'<;>contradiction) (by omega)
 exact⟨this.2,hTa,hTb,hTv⟩
end
end Go.Lam
end
section
namespace Go.Av
open Go.Proofs Go.Lam
def Qon (bg bx c3 n:Nat):AV:=.fn 124 [.rptr [.ptr bg 3 0 0],.rptr [.osl bx 1 0 n],.ptr c3 1 0 0]
structure Tn (M:Aa) (n bg bf bc bx c3:Nat) (es:List RE) (fl:List Nat) (bs:List (Option Nat)) (cl:List (List Nat)) (sn:List Bool):Prop where
 game:C5 M n bg bf bc es fl bs cl
 seen:M bx=some ⟨4,1,bools sn⟩
 snl:sn.length=n
 cell:M c3=some ⟨100,1,[Qon bg bx c3 n]⟩
 off:∀k∈A4 bg bf bc bs,k≠bx∧k≠c3
 xc:bx≠c3
 only:E1 M (bx::c3::A4 bg bf bc bs)
section
variable {M:Aa} {n bg bf bc bx c3:Nat} {es:List RE} {fl:List Nat} {bs:List (Option Nat)} {cl:List (List Nat)} {sn:List Bool}
theorem Tn.look (h:Tn M n bg bf bc bx c3 es fl bs cl sn) (i:Nat):Tn (M.set bx ⟨4,1,bools (sn.set i true)⟩) n bg bf bc bx c3 es fl bs cl (sn.set i true) where
 game:=h.game.congr fun k hk=>Aa.set_other _ _ (h.off k hk).1
 seen:=Aa.set_same _ _ _
 snl:=by rw[List.length_set,h.snl]
 cell:=by rw[Aa.set_other _ _ (Ne.symm h.xc)];exact h.cell
 off:=h.off
 xc:=h.xc
 only:=h.only.set _ (by simp)
theorem Tn.ones (h:Tn M n bg bf bc bx c3 es fl bs cl sn):∀c y,M c=some y→∀v∈y.l,v.cells.all AV.one=true:=by
 intro c y hy v hv;have hc:=h.only c (by rw[hy];simp);simp only[List.mem_cons]at hc;rcases hc with rfl | rfl | hc
 ·rw[h.seen]at hy;cases hy;exact K1 _ v hv
 ·rw[h.cell]at hy;cases hy;simp only[List.mem_singleton]at hv;subst hv;rfl
 ·rcases A7.1 hc with rfl|rfl|rfl|⟨i,hi⟩
  ·rw[h.game.g]at hy;cases hy;simp only[Cn,List.mem_singleton]at hv;subst hv;rfl
  ·rw[h.game.f]at hy;cases hy;exact Cl _ v hv
  ·rw[h.game.c]at hy;cases hy;exact Ix _ _ v hv
  ·rw[h.game.row i c hi]at hy;cases hy;exact Cl _ v hv
end
def Qxf (n bg bf bc bx c3:Nat) (es:List RE) (fl:List Nat) (bs:List (Option Nat)) (cl:List (List Nat)) (sn:List Bool) (j:Nat) (v:AV) (M':Aa):Prop :=
 ∃ok:Bool,v=.bool ok∧∃(sn':List Bool),Tn M' n bg bf bc bx c3 es fl bs cl sn' ∧
  (ok=false→Jy n (Ae es) (D6 fl) (C4 cl) (E8 sn) (E8 sn')∧∀e∈C4 cl j,E8 sn' (Fw (Ae es) e j)=true) ∧
  (ok=true→Far n (Ae es) (D6 fl) (C4 cl) (E8 sn) j)
theorem Qao (n bg bf bc bx c3:Nat) (es:List RE) (A:List Nat) (hn:n≤12) (hes:Ln n es) (hA:∀e∈A,e<es.length) (fl:List Nat) (bs:List (Option Nat)) (cl:List (List Nat)) (hI:Inv n (Ae es) A (D6 fl) (C4 cl)) :
  ∀(fuel:Nat) (M:Aa) (sn:List Bool) (j:Nat),Fs sn≤fuel→Tn M n bg bf bc bx c3 es fl bs cl sn→j<n →
   Aj Tryz.prog 124 [.int .i64 (j:Nat),.rptr [.ptr bg 3 0 0],.rptr [.osl bx 1 0 n],.ptr c3 1 0 0] M (Qxf n bg bf bc bx c3 es fl bs cl sn j):=by
 have hes12:Ln 12 es:=fun i hi=>⟨(hes i hi).1,(hes i hi).2.1,by have:=(hes i hi).2.2;exact⟨by have:=this.1;omega,by have:=this.2.1;omega,this.2.2⟩⟩;intro fuel
 induction fuel using Nat.strongRecOn with
 |ind fuel IH =>
 intro M sn j hu hV hj;refine Ad Tryz.func124 rfl rfl 46 rfl (Nat.le_of_ble_eq_true rfl) ?_;(repeat refine AW.seq_k fun K hK=>?_);refine AW.rg ?_;simp[Ak];try (refine hK _ rfl ?_;clear hK K)
 have m1:=hV.game.g;have m3:=hV.game.c;have hhl:=Gj hV.game;obtain⟨o,ho,hget⟩:=Kj hV.game hj;unfold Cn at m1;have hjh:j<(Gs bs cl).length:=by rw[hhl];exact hj
 have hgel:(Gs bs cl)[j]=Yg o (C4 cl j):=by rw[List.getElem?_eq_getElem hjh]at hget;exact Option.some.inj hget
 cases o with
 |none =>
  have hc0:=hV.game.nil j ho;simp only[Yg]at hgel;have hone:=hV.ones;refine AW.seq_ex (ι:=Unit) (fun _=>[]) (fun _=>M) (fun _=>True) ?_ ?_
  ·(repeat refine AW.seq_k fun K hK=>?_);refine AW.rg ?_;simp[m1,m3,hj,hhl,hgel];try (refine hK _ rfl ?_;clear hK K)
   refine AW.block (AW.loopS (ι:=Unit) (fun _=>[(16,.int .i64 0),(17,.int .i64 0)]) (fun _=>M) (fun _=>True) (fun _=>0) () trivial rfl (by simp) ?_);intro _ _;(repeat refine AW.seq_k fun K hK=>?_);refine AW.rg ?_;simp;try (refine hK _ rfl ?_;clear hK K)
   (repeat refine AW.seq ?_);refine AW.no ?_ rfl;refine AW.exit ?_;try simp
  ·rintro _ _;(repeat refine AW.seq_k fun K hK=>?_);refine AW.rg ?_;simp;try (refine hK _ rfl ?_;clear hK K)
   exact AW.ret (B0 rfl hone ⟨false,rfl,sn,hV,fun _=>⟨Jy.refl _,fun e he=>by rw[hc0]at he;cases he⟩,fun h=>by cases h⟩)
 |some b =>
  simp only[Yg]at hgel;have hrow:=hV.game.row j b ho;have hlen2:(C4 cl j).length≤2:=by have:=hI.two j hj;omega
  refine AW.seq_ex (ι:=Aa × List Bool) (fun _=>[]) (fun z=>z.1) (fun z=>Tn z.1 n bg bf bc bx c3 es fl bs cl z.2∧Jy n (Ae es) (D6 fl) (C4 cl) (E8 sn) (E8 z.2)∧∀e∈C4 cl j,E8 z.2 (Fw (Ae es) e j)=true) ?_ ?_
  ·(repeat refine AW.seq_k fun K hK=>?_);refine AW.rg ?_;simp[m1,m3,hj,hhl,hgel];try (refine hK _ rfl ?_;clear hK K)
   refine AW.block (AW.loopS (ι:=Aa × List Bool × Nat) (fun z=>[(0,.int .i64 (j:Nat)),(1,.rptr [.ptr bg 3 0 0]),(2,.rptr [.osl bx 1 0 n]),(3,.ptr c3 1 0 0),(15,.osl b 1 0 (C4 cl j).length),(16,.int .i64 ((C4 cl j).length:Nat)),(17,.int .i64 (z.2.2:Nat))]) (fun z=>z.1)
    (fun z=>z.2.2≤(C4 cl j).length∧Tn z.1 n bg bf bc bx c3 es fl bs cl z.2.1∧Jy n (Ae es) (D6 fl) (C4 cl) (E8 sn) (E8 z.2.1)∧∀e∈(C4 cl j).take z.2.2,E8 z.2.1 (Fw (Ae es) e j)=true)
    (fun z=>(C4 cl j).length-z.2.2) (M,sn,0) ⟨by simp,hV,Jy.refl _,by simp⟩ rfl (by simp) ?_)
   rintro⟨M1,s1,i⟩ ⟨g1,g2,g3,g4⟩;simp only at g1 g2 g3 g4;(repeat refine AW.seq_k fun K hK=>?_);refine AW.rg ?_;simp;try (refine hK _ rfl ?_;clear hK K)
   (repeat refine AW.seq ?_);refine AW.cs (fun hi=>?_) (fun hi=>?_) rfl<;>(try simp at hi)
   ·refine AW.skip ?_;try simp
    try (refine hK _ rfl ?_;clear hK K)
    have w1:=Aq (i+1) (by omega);have r1:=g2.game.row j b ho;have r2:=g2.seen;have hsl:=g2.snl;obtain⟨e,he⟩:∃e,(C4 cl j)[i]=e:=⟨_,rfl⟩;have heM:e∈C4 cl j:=he ▸ List.getElem_mem hi;have hel:e<es.length:=hA e (hI.mem hj heM);have hend:=hI.ends j hj e heM;obtain⟨hn1,hn2⟩:=hI.oth_lt hj heM;have htk:=I4 hi he;(repeat refine AW.seq ?_);refine AW.block ?_;(repeat refine AW.seq_k fun K hK=>?_);refine AW.rg ?_;simp[r1,hi,he];try (refine hK _ rfl ?_;clear hK K)
    (repeat refine AW.seq_k fun K hK=>?_);refine AW.rg ?_;simp;try (refine hK _ rfl ?_;clear hK K)
    refine Ac.grant bg (Cn es bf bc n) g2.game.g (fun h=>h) (Rf bg bf bc n es e j hel hes12 (by rcases hend with h | h;exact .inl h.symm;exact .inr h.symm)) ?_;rintro _ _ ⟨rfl,rfl⟩;rw[set_self g2.game.g];simp;try (refine hK _ rfl ?_;clear hK K)
    obtain⟨n1,hn⟩:∃n1,Fw (Ae es) e j=n1:=⟨_,rfl⟩;rw[hn]at hn1 hn2;simp only[hn];have hs1:n1<s1.length:=by rw[hsl];exact hn1
    cases hseen:s1[n1]with
    |true =>
     (repeat refine AW.seq_k fun K hK=>?_);refine AW.rg ?_;simp[r2,hn1,hsl,hseen];try (refine hK _ rfl ?_;clear hK K)
     refine AW.yes ?_ rfl;refine AW.exit ?_;try simp
     (repeat refine AW.seq_k fun K hK=>?_);refine AW.rg ?_;simp[-Int.natCast_add,w1];try (refine hK _ rfl ?_;clear hK K)
     refine⟨M1,s1,i+1,⟨by omega,g2,g3,fun x hx=>?_⟩,by omega,rfl,rfl⟩;rw[htk]at hx;rcases List.mem_append.1 hx with hx | hx
     ·exact g4 x hx
     ·simp only[List.mem_singleton]at hx;subst hx;rw[hn,Q8 hs1,hseen]
    |false =>
     have hS1:E8 s1 n1=false:=by rw[Q8 hs1,hseen]
     (repeat refine AW.seq_k fun K hK=>?_);refine AW.rg ?_;simp[r2,hn1,hsl,hseen];try (refine hK _ rfl ?_;clear hK K)
     refine AW.no ?_ rfl;refine AW.skip ?_;try simp
     try (refine hK _ rfl ?_;clear hK K)
     (repeat refine AW.seq_k fun K hK=>?_);refine AW.rg ?_;simp[r2,hn1,hsl];try (refine hK _ rfl ?_;clear hK K)
     rw[Fg];have V2:=g2.look n1;have hsn2:E8 (s1.set n1 true)=Eu (E8 s1) n1 true:=Je hs1;have hu2:=Sp hs1 hseen;generalize M1.set bx ⟨4,1,bools (s1.set n1 true)⟩=M2 at V2 ⊢;have q1:=V2.game.g;have q2:=V2.game.f;have q3:=V2.cell;have q4:=V2.game.fll;have hf1:n1<fl.length:=by rw[q4];exact hn1
     unfold Cn at q1;unfold Qon at q3;have hsub2:∀v,E8 sn v=true→E8 (s1.set n1 true) v=true:=fun v hv=>by
      rw[hsn2];unfold Eu;split;rfl;exact g3.sub v hv
     by_cases hz:fl[n1]=0
     ·have ih:=IH (Fs (s1.set n1 true)) (by have h1:=hu2;have h2:=Ug g3 hV.snl g2.snl;omega) _ (s1.set n1 true) n1 (Nat.le_refl _) V2 hn1;(repeat refine AW.seq_k fun K hK=>?_);refine AW.rg ?_;simp[q1,q2,q3,hn1,q4,hz];try (refine hK _ rfl ?_;clear hK K)
      refine⟨124,_,⟨rfl,rfl⟩,?_⟩;refine Ac.whole (fun _ h=>h) ih ?_;rintro _ g ⟨ok,rfl,sn',hV',hF,hT⟩;cases ok with
      |false =>
       obtain⟨hL,hsh⟩:=hF rfl;simp;try (refine hK _ rfl ?_;clear hK K)
       refine AW.no ?_ rfl;refine AW.skip ?_;try simp
       try (refine hK _ rfl ?_;clear hK K)
       (repeat refine AW.seq_k fun K hK=>?_);refine AW.rg ?_;simp[-Int.natCast_add,w1];try (refine hK _ rfl ?_;clear hK K)
       refine⟨g,sn',i+1,⟨by omega,hV',?_,fun x hx=>?_⟩,by omega,rfl,rfl⟩
       ·rw[hsn2]at hL;exact g3.step (by rw[←E5 hf1];exact hz) hL hsh
       ·rw[htk]at hx;have hm:∀v,E8 s1 v=true→E8 sn' v=true:=fun v hv=>hL.sub v (by rw[hsn2];unfold Eu;split;rfl;exact hv);rcases List.mem_append.1 hx with hx | hx
        ·exact hm _ (g4 x hx)
        ·simp only[List.mem_singleton]at hx;subst hx;rw[hn];exact hL.sub n1 (by rw[hsn2,D2])
      |true =>
       have hG:=hT rfl;simp;try (refine hK _ rfl ?_;clear hK K)
       refine AW.yes ?_ rfl;(repeat refine AW.seq_k fun K hK=>?_);refine AW.rg ?_;simp;try (refine hK _ rfl ?_;clear hK K)
       exact AW.ret (B0 rfl hV'.ones ⟨true,rfl,sn',hV',fun h=>(by cases h),fun _=>Far.through hsub2 hj heM (by rw[hn];exact hG)⟩)
     ·have hpos:0<D6 fl n1:=by rw[←E5 hf1];omega
      have hpz:0<fl[n1]:=by omega
      (repeat refine AW.seq_k fun K hK=>?_);refine AW.rg ?_;simp[q1,q2,q3,hn1,q4,hpz];try (refine hK _ rfl ?_;clear hK K)
      refine AW.yes ?_ rfl;(repeat refine AW.seq_k fun K hK=>?_);refine AW.rg ?_;simp;try (refine hK _ rfl ?_;clear hK K)
      exact AW.ret (B0 rfl V2.ones ⟨true,rfl,_,V2,fun h=>(by cases h),fun _=>Far.direct (fun v hv=>g3.sub v hv) hj heM (by rw[hn];exact hn1) (by rw[hn];exact hS1) (by rw[hn];exact hpos)⟩)
   ·refine AW.exit ?_;try simp
    have hil:i=(C4 cl j).length:=by omega
    exact⟨s1,g2,g3,fun e he=>g4 e (by rw[hil,List.take_length];exact he)⟩
  ·rintro⟨M1,s1⟩ ⟨g1,g2,g3⟩;simp only at g1 g2 g3;(repeat refine AW.seq_k fun K hK=>?_);refine AW.rg ?_;simp;try (refine hK _ rfl ?_;clear hK K)
   exact AW.ret (B0 rfl g1.ones ⟨false,rfl,s1,g1,fun _=>⟨g2,g3⟩,fun h=>by cases h⟩)
end Go.Av
end
section
namespace Go.Av
open Go.Proofs Go.Lam
def Qw6 (n bg bf bc:Nat) (es:List RE) (A:List Nat) (e0 x:Nat) (v:AV) (M':Aa):Prop :=
 v=.bool (Gu n (A.map (Ae es)) (Ae es e0) x)∧∃(fl':List Nat) (bs':List (Option Nat)) (cl':List (List Nat)),Ic n bg bf bc es A M' fl' bs' cl'
theorem Qay (n bg bf bc:Nat) (es:List RE) (A:List Nat) (hn:n≤12) (hes:Ln n es) (hA:∀e∈A,e<es.length) (hsp:A0 n (A.map (Ae es))) (M:Aa) (fl:List Nat) (bs:List (Option Nat)) (cl:List (List Nat)) (e0 x:Nat)
  (hG:Ic n bg bf bc es A M fl bs cl) (he0:e0∈A) (hx:x<n) (hxa:x≠(Ae es e0).1) (hxb:x≠(Ae es e0).2) :
  Aj Tryz.prog 90 [.ptr bg 3 0 0,.int .i64 ((Ae es e0).1:Nat),.int .i64 ((Ae es e0).2:Nat),.int .i64 (x:Nat)] M (Qw6 n bg bf bc es A e0 x):=by
 have hL:∀e∈A.map (Ae es),Cm n e:=fun e he=>by
  obtain⟨k,hk,rfl⟩:=List.mem_map.1 he;exact(hes k (hA k hk)).2.2
 have hok:Cm n (Ae es e0):=hL _ (List.mem_map.2 ⟨e0,he0,rfl⟩);have hT0:=Hn hL hsp (List.mem_map.2 ⟨e0,he0,rfl⟩);have hW:=Ih hL hx hok;have hins:∀X:Nat→Bool,ins X (Ae es e0)=true↔X (Ae es e0).1=true∧X (Ae es e0).2=true:=fun X=>by unfold ins;simp
 simp only[hins]at hW;generalize hw:Gu n (A.map (Ae es)) (Ae es e0) x=W at hW;obtain⟨ha,hb,hab⟩:=hok;obtain⟨a,ea⟩:∃a,(Ae es e0).1=a:=⟨_,rfl⟩;obtain⟨b,eb⟩:∃b,(Ae es e0).2=b:=⟨_,rfl⟩;rw[ea,eb]at hT0 hW;rw[ea]at ha hab hxa ⊢;rw[eb]at hb hab hxb ⊢;have hgc:=Pc n bg bf bc es A hn hes hA hsp M fl bs cl a b hG ha hb hab;refine Ad Tryz.func90 rfl rfl 43 rfl (Nat.le_of_ble_eq_true rfl) ?_;(repeat refine AW.seq_k fun K hK=>?_);refine AW.rgR [4] ?_;simp[Ak];try (refine hK _ rfl ?_;clear hK K)
 (repeat refine AW.seq_k fun K hK=>?_);refine AW.rg ?_;simp;try (refine hK _ rfl ?_;clear hK K)
 refine Ac.whole (fun _ h=>h) hgc ?_;rintro _ g ⟨fl1,bs1,cl1,rfl,hG1,f1,f2⟩;have f3:D6 fl1 b=1:=by
  rcases f2 with f2|f2
  ·exact absurd hT0 (hG1.inv.four ha hb hab (by omega) _ (by simp[Eh]) (by simp[Eh]))
  ·exact f2.1
 clear f2;simp[-Int.natCast_add];try (refine hK _ rfl ?_;clear hK K)
 clear hG hgc;have q1:=hG1.mem.g;have q2:=hG1.mem.f;have q4:=hG1.mem.fll;have hone:=Ha hG1.mem hG1.only;have hxl:x<fl1.length:=by rw[q4];exact hx
 have hfx:=E5 hxl;unfold Cn at q1;have hno:∀S:Nat→Bool,S a=true→S b=true→Far n (Ae es) (D6 fl1) (C4 cl1) S x→W=false:=fun S h1 h2 h3=>by
  cases hc:W with
  |false=>rfl
  |true =>
   obtain⟨X,x1,x2,x3⟩:=hW.1 hc;rw[Qhd hG1.inv ha hb hab hx (by omega) h1 h2 h3 x1 x2.1 x2.2]at x3;cases x3
 by_cases hz:0<fl1[x]
 ·have hWf:W=false:=hno (Eh a b) (by simp[Eh]) (by simp[Eh]) (fun X hX _=>⟨x,hx,hX,by simp[Eh,hxa,hxb],by omega⟩);(repeat refine AW.seq_k fun K hK=>?_);refine AW.rg ?_;simp[-Int.natCast_add,q1,q2,hx,q4,hz];try (refine hK _ rfl ?_;clear hK K)
  refine AW.yes ?_ rfl;(repeat refine AW.seq_k fun K hK=>?_);refine AW.rg ?_;simp[-Int.natCast_add];try (refine hK _ rfl ?_;clear hK K)
  exact AW.ret (B0 rfl hone ⟨by rw[hw,hWf];rfl,fl1,bs1,cl1,hG1⟩)
 have hz0:fl1[x]=0:=by omega
 (repeat refine AW.seq_k fun K hK=>?_);refine AW.rg ?_;simp[-Int.natCast_add,q1,q2,hx,q4,hz0];try (refine hK _ rfl ?_;clear hK K)
 refine AW.no ?_ rfl;refine AW.skip ?_;try simp[-Int.natCast_add]
 try (refine hK _ rfl ?_;clear hK K)
 (repeat refine AW.seq_k fun K hK=>?_);refine AW.rg ?_;simp[-Int.natCast_add,q1,q4];try (refine hK _ rfl ?_;clear hK K)
 refine⟨by omega,Ag.intro fun bx hbx=>Ag.intro fun c2 h2=>?_⟩;simp only[Ap]at h2;refine hK _ rfl ?_;clear hK K;have hrep:List.replicate n (AV.bool false)=bools (List.replicate n false):=by simp[bools]
 rw[hrep];have ones1:∀c y,g.set bx ⟨4,1,bools (List.replicate n false)⟩ c=some y→∀v∈y.l,v.cells.all AV.one=true:=by
  intro c y hy v hv;by_cases e:c=bx
  ·rw[e,Aa.set_same]at hy;cases hy;exact K1 _ v hv
  ·rw[Aa.set_other _ _ e]at hy;exact hone c y hy v hv
 have hc2:g.set bx ⟨4,1,bools (List.replicate n false)⟩ c2=none:=by rw[Aa.set_other _ _ h2.1.1];exact h2.2
 refine AW.turn [(1,.int .i64 (a:Nat)),(2,.int .i64 (b:Nat)),(3,.int .i64 (x:Nat)),(4,.rptr [.ptr bg 3 0 0]),(8,.bool false),(9,.rptr [.osl bx 1 0 n])] (g.set bx ⟨4,1,bools (List.replicate n false)⟩) (Bj.drop hc2 ones1)
  (by simp[-Int.natCast_add];exact .ptr c2 1 0 0 ⟨137,1,[.osl bx 1 0 n]⟩ (.osl bx 1 0 n) (Aa.set_same _ _ _) hc2 rfl rfl) ?_
 have hl0:(bools (List.replicate n false)).length=n:=by simp
 (repeat refine AW.seq_k fun K hK=>?_);refine AW.rdT [] [9] [] [] [0,1,2,3,4,5,6,7,8,9,10,11] Ds (by simp[ha,hb,hx,hl0]) (by simp[ha,hb,hx,hl0]) (by simp[ha,hb,hx,hl0]) (by simp[ha,hb,hx,hl0]) (by simp[ha,hb,hx,hl0]) ?_;simp[ha,hb,hx,hl0];try (refine hK _ rfl ?_;clear hK K)
 rw[Fg,Fg,Fg];have hsl:((((List.replicate n false).set a true).set b true).set x true).length=n:=by simp
 have hS:E8 ((((List.replicate n false).set a true).set b true).set x true)=Eu (Eu (Eu (fun _=>false) a true) b true) x true:=by
  rw[Je (by simp;exact hx),Je (by simp;exact hb),Je (by simp;exact ha)]
  congr 3
  funext v
  unfold E8;rw[List.getD_eq_getElem?_getD,List.getElem?_replicate];split<;>rfl
 generalize(((List.replicate n false).set a true).set b true).set x true=sn at hsl hS ⊢;(repeat refine AW.seq_k fun K hK=>?_);refine AW.rg ?_;simp;try (refine hK _ rfl ?_;clear hK K)
 refine⟨rfl,by simp[AV.cells,AV.one],Ag.intro fun c3 h3=>?_⟩;simp only[Ap]at h3;refine hK _ rfl ?_;clear hK K;(repeat refine AW.seq_k fun K hK=>?_);refine AW.rg ?_;simp;try (refine hK _ rfl ?_;clear hK K)
 have hnx:∀k∈A4 bg bf bc bs1,k≠bx∧k≠c3:=fun k hk=>⟨fun e=>hG1.mem.dom hk (by rw[e];exact hbx),fun e=>hG1.mem.dom hk (by rw[e];exact h3.2)⟩;have hV:Tn ((g.set bx ⟨4,1,bools sn⟩).set c3 ⟨100,1,[.fn 124 [.rptr [.ptr bg 3 0 0],.rptr [.osl bx 1 0 n],.ptr c3 1 0 0]]⟩) n bg bf bc bx c3 es fl1 bs1 cl1 sn :=
  {game:=hG1.mem.congr fun k hk=>by rw[Aa.set_other _ _ (hnx k hk).2,Aa.set_other _ _ (hnx k hk).1]
   seen:=by rw[Aa.set_other _ _ h3.1.2,Aa.set_same]
   snl:=hsl
   cell:=Aa.set_same _ _ _
   off:=hnx
   xc:=h3.1.2
   only:=fun k hk=>by
    simp only[List.mem_cons];by_cases e1:k=c3
    ·exact .inr (.inl e1)
    ·by_cases e2:k=bx
     ·exact .inl e2
     ·rw[Aa.set_other _ _ e1,Aa.set_other _ _ e2]at hk;exact .inr (.inr (hG1.only k hk))}
 have hc3:=hV.cell;unfold Qon at hc3;have ih:=Qao n bg bf bc bx c3 es A hn hes hA fl1 bs1 cl1 hG1.inv (Fs sn) _ sn x (Nat.le_refl _) hV hx;generalize(g.set bx ⟨4,1,bools sn⟩).set c3 ⟨100,1,[.fn 124 [.rptr [.ptr bg 3 0 0],.rptr [.osl bx 1 0 n],.ptr c3 1 0 0]]⟩=M2 at hV hc3 ih ⊢;(repeat refine AW.seq_k fun K hK=>?_);refine AW.rg ?_;simp[hc3];try (refine hK _ rfl ?_;clear hK K)
 refine⟨124,_,⟨rfl,rfl⟩,?_⟩;refine Ac.whole (fun _ h=>h) ih ?_;rintro _ g' ⟨ok,rfl,sn',hV',hF,hT⟩;simp;try (refine hK _ rfl ?_;clear hK K)
 have hrec:Bj g' (g'.only (A4 bg bf bc bs1)):=Bj.sub fun b x hb=>by
  by_cases hm:b∈A4 bg bf bc bs1
  ·rw[Bv hm]at hb;exact⟨hb,hV'.ones b x hb⟩
  ·rw[Bo hm]at hb;cases hb
 have hres:(!ok)=W:=by
  cases ok with
  |true =>
   have:=hT rfl;rw[hS]at this;rw[hno _ ?_ ?_ this];rfl
   ·unfold Eu;simp[Ne.symm hxa,hab]
   ·unfold Eu;simp[Ne.symm hxb]
  |false =>
   obtain⟨hL',hsh⟩:=hF rfl;rw[hS]at hL';have:=Qd1 hG1.inv hsp ha hb hab hx he0 ⟨ea,eb⟩ f1 f3 (by rw[←hfx];exact hz0) hL' hsh;exact(hW.2 ⟨_,this.1,⟨this.2.1,this.2.2.1⟩,this.2.2.2⟩).symm
 refine AW.ret ⟨[.bool (!ok)],rfl,.bool (!ok),_,hrec,.same _,by rw[hw,hres],fl1,bs1,cl1,hV'.game.congr fun k hk=>Bv hk,fun k hk=>?_,hG1.inv⟩;rcases Decidable.em (k∈A4 bg bf bc bs1)with hm | hm
 ·exact hm
 ·exact absurd (Bo hm) hk
end Go.Av
end
section
namespace Go.Av
open Go.Proofs Go.Lam
section
variable {M:Aa} {n bg bf bc:Nat} {es:List RE} {fl:List Nat} {bs:List (Option Nat)} {cl:List (List Nat)}
theorem U2 (h:C5 M n bg bf bc es fl bs cl) (ho:E1 M (A4 bg bf bc bs)) {i b':Nat} {l':List Nat} (hi:i<n) (hf:b' ∉ A4 bg bf bc bs∨bs[i]?=some (some b')) {M':Aa}
  (h3:M' bc=some ⟨25,1,(Gs bs cl).set i (.osl b' 1 0 l'.length)⟩) (h4:M' b'=some ⟨3,1,An l'⟩) (h5:∀k∈A4 bg bf bc bs,k≠b'→k≠bc→bs[i]?≠some (some k)→M' k=M k)
  (h6:∀k,M' k≠none→k=b'∨k∈A4 bg bf bc bs∧(bs[i]?=some (some k)→k=b')):C5 M' n bg bf bc es fl (bs.set i (some b')) (cl.set i l')∧E1 M' (A4 bg bf bc (bs.set i (some b'))):=by
 have hib:i<bs.length:=by rw[h.bsl];exact hi
 have hb':b'≠bg∧b'≠bf∧b'≠bc:=by
  rcases hf with hf|hf
  ·simp only[A4,List.mem_cons,not_or]at hf;exact⟨hf.1,hf.2.1,hf.2.2.1⟩
  ·exact h.ndr i b' hf
 have hrow:∀j,j≠i→bs[j]?≠some (some b'):=fun j hj e=>by
  rcases hf with hf|hf
  ·exact hf (A7.2 (.inr (.inr (.inr ⟨j,e⟩))))
  ·exact hj (h.inj j i b' e hf)
 refine⟨h.setC hi hb' hrow ?_ ?_ h3 h4 ?_,?_⟩
 ·exact h5 bg (by simp[A4]) (Ne.symm hb'.1) h.nd.2.1 fun e=>(h.ndr i bg e).1 rfl
 ·exact h5 bf (by simp[A4]) (Ne.symm hb'.2.1) h.nd.2.2 fun e=>(h.ndr i bf e).2.1 rfl
 ·intro j b hj hb;exact h5 b (A7.2 (.inr (.inr (.inr ⟨j,hb⟩)))) (fun e=>hrow j hj (e ▸ hb)) (h.ndr j b hb).2.2 (fun e=>hj (h.inj j i b hb e))
 ·intro k hk;rcases h6 k hk with rfl | ⟨hk,hk2⟩
  ·exact A7.2 (.inr (.inr (.inr ⟨i,by rw[List.getElem?_set,if_pos rfl,if_pos hib]⟩)))
  ·refine A7.2 ?_;rcases A7.1 hk with hk | hk | hk | ⟨j,hj⟩
   ·exact .inl hk
   ·exact .inr (.inl hk)
   ·exact .inr (.inr (.inl hk))
   ·by_cases hij:i=j
    ·subst hij;rw[hk2 hj];exact .inr (.inr (.inr ⟨i,by rw[List.getElem?_set,if_pos rfl,if_pos hib]⟩))
    ·exact .inr (.inr (.inr ⟨j,by rw[List.getElem?_set,if_neg hij];exact hj⟩))
end
def Qvk (n bg bf bc:Nat) (es:List RE) (A:List Nat) (e:Nat) (v:AV) (M':Aa):Prop :=
 v=.bool (Lq n ((A++[e]).map (Ae es)))∧∃(fl':List Nat) (bs':List (Option Nat)) (cl':List (List Nat)),Ic n bg bf bc es (Ft n (Ae es) A e) M' fl' bs' cl'
theorem Zq (n bg bf bc:Nat) (es:List RE) (A:List Nat) (hn:n≤12) (hes:Ln n es) (hA:∀e∈A,e<es.length) (hsp:A0 n (A.map (Ae es))) (M:Aa) (fl:List Nat) (bs:List (Option Nat)) (cl:List (List Nat)) (e:Nat) (he:e<es.length)
  (hG:Ic n bg bf bc es A M fl bs cl) :
  Aj Tryz.prog 82 [.ptr bg 3 0 0,.int .i64 (e:Nat)] M (Qvk n bg bf bc es A e):=by
 obtain⟨e1,e2,e3⟩:=hes e he;have hLe:∀x∈(A++[e]).map (Ae es),Cm n x:=by
  simp only[List.mem_map,List.mem_append,List.mem_singleton];rintro _ ⟨k,hk | rfl,rfl⟩
  ·exact(hes k (hA k hk)).2.2
  ·exact e3
 have hmap:(A++[e]).map (Ae es)=A.map (Ae es)++[Ae es e]:=by simp
 have q1:=hG.mem.g;unfold Cn at q1;refine Ad Tryz.func82 rfl rfl 53 rfl (Nat.le_of_ble_eq_true rfl) ?_;(repeat refine AW.seq_k fun K hK=>?_);refine AW.rg ?_;simp[Ak];try (refine hK _ rfl ?_;clear hK K)
 (repeat refine AW.seq_k fun K hK=>?_);refine AW.rdL [bg] [0,1,2,3,4,5,6,7,8,9,10,11,12,13,14,15,16,17] Ds (by simp[q1]) ?_;simp[q1,he,Bs,e1,e2];try (refine hK _ rfl ?_;clear hK K)
 have hgc:=Pc n bg bf bc es A hn hes hA hsp M fl bs cl (Ae es e).1 (Ae es e).2 hG e3.1 e3.2.1 e3.2.2;obtain⟨a,ha⟩:∃a,(Ae es e).1=a:=⟨_,rfl⟩;obtain⟨b,hb⟩:∃b,(Ae es e).2=b:=⟨_,rfl⟩;rw[ha,hb]at hgc;simp only[ha,hb];have hE:Ae es e=(a,b):=by rw[←ha,←hb]
 have han:a<n:=ha ▸ e3.1;have hbn:b<n:=hb ▸ e3.2.1;have hab:a≠b:=by rw[←ha,←hb];exact e3.2.2
 (repeat refine AW.seq_k fun K hK=>?_);refine AW.rg ?_;simp;try (refine hK _ rfl ?_;clear hK K)
 refine Ac.whole (fun _ h=>h) hgc ?_;rintro _ g ⟨fl',bs',cl',rfl,hG',h2,h3⟩;rcases h3 with h3 | ⟨h3,X,hX,hXa,hXb⟩
 ·have hf:Lq n ((A++[e]).map (Ae es))=true:=by
   rw[Fc hLe,hmap,Mm hsp];intro X hX;cases hi:ins X (Ae es e)with
   |false=>rfl
   |true =>
    rw[hE,ins,Bool.and_eq_true]at hi;exact absurd hX (hG'.inv.four han hbn hab (by omega) X hi.1 hi.2)
  have hadd:Ft n (Ae es) A e=A++[e]:=by unfold Ft;rw[if_pos hf]
  rw[h2,h3];simp;try (refine hK _ rfl ?_;clear hK K)
  refine AW.no ?_ rfl;refine AW.skip ?_;try simp
  try (refine hK _ rfl ?_;clear hK K)
  have p1:=hG'.mem.g;have p2:=hG'.mem.f;have p4:=hG'.mem.fll;have hal:a<fl'.length:=by rw[p4];exact han
  have hx:fl'[a]=2:=by rw[E5 hal];exact h2
  have w2:IntKind.i64.wrap 1=1:=rfl;unfold Cn at p1;(repeat refine AW.seq_k fun K hK=>?_);refine AW.rg ?_;simp[p1,p2,han,p4,hx,w2];try (refine hK _ rfl ?_;clear hK K)
  rw[show(AV.int IntKind.i64 1)=.int .i64 ((1:Nat):Int) from rfl,Ii];have V4:=hG'.mem.setF a 1;have o4':E1 (g.set bf ⟨3,1,An (fl'.set a 1)⟩) (A4 bg bf bc bs'):=hG'.only.set _ (by simp[A4]);generalize g.set bf ⟨3,1,An (fl'.set a 1)⟩=M4 at V4 o4' ⊢;have hinv:∀(M:Aa) (bs'':List (Option Nat)),C5 M n bg bf bc es (fl'.set a 1) bs'' (cl'.set a (C4 cl' a++[e]))∧E1 M (A4 bg bf bc bs'')→Qvk n bg bf bc es A e (.bool true) M:=fun M bs'' h=>⟨by rw[hf],_,bs'',_,by
   rw[hadd];refine⟨h.1,h.2,?_⟩;rw[Wr hal,Nn (by rw[hG'.mem.cll];exact han)];have:=hG'.inv.lay (a:=a) (e:=e) ha e3 (by omega);rw[h2]at this;exact this⟩
  have q5:=V4.g;have q6:=V4.c;have hhl4:=Gj V4;obtain⟨o4,ho4,hget4⟩:=Kj V4 han;have hjh4:a<(Gs bs' cl').length:=by rw[hhl4];exact han
  have hgel4:(Gs bs' cl')[a]=Yg o4 (C4 cl' a):=by rw[List.getElem?_eq_getElem hjh4]at hget4;exact Option.some.inj hget4
  have nd:=V4.nd;have hbcn:bc≠bg:=Ne.symm nd.2.1;unfold Cn at q5;have hl3:(C4 cl' a).length≤2:=by have:=hG'.inv.two a han;omega
  refine AW.seq_ex (ι:=Aa × List (Option Nat)) (fun _=>[]) (fun z=>z.1) (fun z=>C5 z.1 n bg bf bc es (fl'.set a 1) z.2 (cl'.set a (C4 cl' a++[e]))∧E1 z.1 (A4 bg bf bc z.2)) ?_ ?_
  ·cases o4 with
   |none =>
    have hc0:=V4.nil a ho4;simp only[Yg]at hgel4;(repeat refine AW.seq_k fun K hK=>?_);refine AW.rdLR [50] [bg,bc] [0,1,2,3,4,5,6,7,8,9,10,11,12,13,14,15,16] Ds (by simp[q5,q6]) ?_;simp[q5,q6,han,hhl4,hgel4];refine⟨by unfold maxLen;omega,fun b6 h6 _=>?_⟩;have hfresh:b6 ∉ A4 bg bf bc bs':=fun hm=>V4.dom hm h6;have e1:¬bc=b6:=fun h=>hfresh (by rw[←h];simp[A4]);simp[e1,han,hhl4];refine⟨_,U2 V4 o4' han (.inl hfresh) (by rw[Aa.set_same,hc0];rfl) (by rw[Aa.set_other _ _ (Ne.symm e1),Aa.set_same,hc0];rfl) (fun k _ hk1 hk2 _=>by rw[Aa.set_other _ _ hk2,Aa.set_other _ _ hk1]) (fun k hk=>?_)⟩
    by_cases k1:k=b6
    ·exact .inl k1
    ·refine .inr ⟨?_,fun h=>by rw[ho4]at h;cases h⟩;by_cases k2:k=bc
     ·rw[k2];simp[A4]
     ·rw[Aa.set_other _ _ k2,Aa.set_other _ _ k1]at hk;exact o4' k hk
   |some b4 =>
    simp only[Yg]at hgel4;have q7:=V4.row a b4 ho4;have hnd4:=V4.ndr a b4 ho4;(repeat refine AW.seq_k fun K hK=>?_);refine AW.rdLR [50] [bg,bc] [0,1,2,3,4,5,6,7,8,9,10,11,12,13,14,15,16] Ds (by simp[q5,q6]) ?_;simp[q5,q6,q7,han,hhl4,hgel4,hnd4];refine⟨by omega,by unfold maxLen;omega,fun b6 h6 _=>?_⟩;have hf6:b6 ∉ A4 bg bf bc bs'∨bs'[a]?=some (some b6):=by
     by_cases e:b6=b4
     ·exact .inr (by rw[e];exact ho4)
     ·exact .inl fun hm=>V4.dom hm (by rwa [Aa.del_other _ e]at h6)
    have e1:¬bc=b6:=by
     intro h;rcases hf6 with hf6 | hf6
     ·exact hf6 (by rw[←h];simp[A4])
     ·exact(V4.ndr a b6 hf6).2.2 h.symm
    have e2:¬bc=b4:=Ne.symm hnd4.2.2;simp[e1,e2,han,hhl4];refine⟨_,U2 V4 o4' han hf6 (by rw[Aa.set_same];simp) (by rw[Aa.set_other _ _ (Ne.symm e1),Aa.set_same,D5]) (fun k _ hk1 hk2 hk3=>?_) (fun k hk=>?_)⟩
    ·have:k≠b4:=fun h=>hk3 (by rw[h];exact ho4);rw[Aa.set_other _ _ hk2,Aa.set_other _ _ hk1,Aa.del_other _ this]
    ·by_cases k1:k=b6
     ·exact .inl k1
     ·by_cases k2:k=bc
      ·exact .inr ⟨by rw[k2];simp[A4],fun h=>absurd k2 (V4.ndr a k h).2.2⟩
      ·rw[Aa.set_other _ _ k2,Aa.set_other _ _ k1]at hk;by_cases k3:k=b4
       ·rw[k3,Aa.del_same]at hk;exact absurd rfl hk
       ·rw[Aa.del_other _ k3]at hk;exact .inr ⟨o4' k hk,fun h=>by rw[ho4]at h;cases h;exact absurd rfl k3⟩
  ·rintro⟨M5,bs5⟩ h5;simp only at h5 ⊢;(repeat refine AW.seq_k fun K hK=>?_);refine AW.rg ?_;simp;try (refine hK _ rfl ?_;clear hK K)
   exact AW.ret (B0 rfl (Ha h5.1 h5.2) (hinv M5 bs5 h5))
 ·have hf:Lq n ((A++[e]).map (Ae es))=false:=by
   cases hc:Lq n ((A++[e]).map (Ae es))with
   |false=>rfl
   |true =>
    rw[Fc hLe,hmap,Mm hsp]at hc;have:=hc X hX;rw[hE,ins,hXa,hXb]at this;cases this
  have hadd:Ft n (Ae es) A e=A:=by unfold Ft;rw[hf,if_neg (by simp)]
  rw[h2,h3];simp;try (refine hK _ rfl ?_;clear hK K)
  refine AW.yes ?_ rfl;(repeat refine AW.seq_k fun K hK=>?_);refine AW.rg ?_;simp;try (refine hK _ rfl ?_;clear hK K)
  exact AW.ret (B0 rfl (Ha hG'.mem hG'.only) ⟨by rw[hf];rfl,fl',bs',cl',by rw[hadd];exact hG'⟩)
end Go.Av
end
section
namespace Go.Av
open Go.Proofs Go.Lam
structure PSt where
 M:Aa
 fl:List Nat
 bs:List (Option Nat)
 cl:List (List Nat)
 ov:AV
 ob:List Nat
structure Qc9 (n bg bf bc:Nat) (es:List RE) (A:List Nat) (z:PSt):Prop where
 game:C5 z.M n bg bf bc es z.fl z.bs z.cl
 inv:Inv n (Ae es) A (D6 z.fl) (C4 z.cl)
 lst:Ny z.M 3 1 z.ov z.ob (An A)
 off:∀b∈z.ob,b ∉ A4 bg bf bc z.bs
 only:E1 z.M (z.ob++A4 bg bf bc z.bs)
theorem Qc9.ones {n bg bf bc:Nat} {es:List RE} {A:List Nat} {z:PSt} (h:Qc9 n bg bf bc es A z):∀c y,z.M c=some y→∀v∈y.l,v.cells.all AV.one=true:=by
 intro c y hy v hv;rcases List.mem_append.1 (h.only c (by rw[hy];simp))with hc | hc
 ·rcases h.lst with⟨_,h2,_⟩|⟨b,h2,_,h3⟩
  ·rw[h2]at hc;cases hc
  ·rw[h2,List.mem_singleton]at hc;rw[hc,h3]at hy;cases hy;exact Cl _ v hv
 ·rcases A7.1 hc with rfl|rfl|rfl|⟨i,hi⟩
  ·rw[h.game.g]at hy;cases hy;simp only[Cn,List.mem_singleton]at hv;subst hv;rfl
  ·rw[h.game.f]at hy;cases hy;exact Cl _ v hv
  ·rw[h.game.c]at hy;cases hy;exact Ix _ _ v hv
  ·rw[h.game.row i c hi]at hy;cases hy;exact Cl _ v hv
def Qnw (n:Nat) (es:List RE) (A:List Nat) (v:AV) (M':Aa):Prop :=
 ∃(bg bf bc:Nat) (fl:List Nat) (bs:List (Option Nat)) (cl:List (List Nat)),v=.tup [.ptr bg 3 0 0,.sl 1 (An A)]∧Ic n bg bf bc es A M' fl bs cl
theorem Ok (n:Nat) (es:List RE) (hn:n≤12) (hes:Ln n es) (s:List Nat) (hs:∀k∈s,k<es.length) (hsl:s.length≤100) :
  Aj Tryz.prog 44 [.int .i64 (n:Nat),A1 es,.sl 1 (An s)] Aa.emp (Qnw n es (A9 n (Ae es) [] s)):=by
 have hst:=Qbl n es hn;refine Ad Tryz.func44 rfl rfl 31 rfl (Nat.le_of_ble_eq_true rfl) ?_;unfold A1 at hst ⊢;(repeat refine AW.seq_k fun K hK=>?_);refine AW.rg ?_;simp[Ak];try (refine hK _ rfl ?_;clear hK K)
 (repeat refine AW.seq_k fun K hK=>?_);refine AW.rg ?_;simp;try (refine hK _ rfl ?_;clear hK K)
 refine Ac.news hst ?_;rintro _ g ⟨bg,bf,bc,rfl,hG,ho⟩ _;simp;have hg:Aa.back Aa.emp [] g=g:=by funext k;simp only[Aa.back,Az];cases g k<;>simp
 rw[hg];try (refine hK _ rfl ?_;clear hK K)
 (repeat refine AW.seq_k fun K hK=>?_);refine AW.rg ?_;simp;try (refine hK _ rfl ?_;clear hK K)
 refine AW.seq_ex (ι:=PSt) (fun z=>[(8,.ptr bg 3 0 0),(9,z.ov)]) (fun z=>z.M) (fun z=>Qc9 n bg bf bc es (A9 n (Ae es) [] s) z) ?_ ?_
 ·(repeat refine AW.seq_k fun K hK=>?_);refine AW.rg ?_;simp;try (refine hK _ rfl ?_;clear hK K)
  have hI0:Inv n (Ae es) [] (D6 (List.replicate n 2)) (C4 (List.replicate n [])):=by
   have h1:=Inv.start n (Ae es);refine⟨fun v hv=>?_,?_,fun v hv e he=>?_,by simp⟩
   ·rw[Q4];unfold D6;rw[List.getD_eq_getElem?_getD,List.getElem?_replicate,if_pos hv];rfl
   ·have:C4 (List.replicate n [])=fun _=>[]:=funext fun i=>Q4 n i;rw[this];exact h1.perm
   ·rw[Q4]at he;cases he
  refine AW.block (AW.loopS (ι:=PSt × Nat) (fun z=>[(8,.ptr bg 3 0 0),(9,z.1.ov),(15,.sl 1 (An s)),(16,.int .i64 (s.length:Nat)),(17,.int .i64 (z.2:Nat))]) (fun z=>z.1.M)
   (fun z=>z.2≤s.length∧Qc9 n bg bf bc es (A9 n (Ae es) [] (s.take z.2)) z.1) (fun z=>s.length-z.2) (⟨g,List.replicate n 2,List.replicate n none,List.replicate n [],.nil,[]⟩,0)
   ⟨by simp,⟨hG,hI0,.inl ⟨rfl,rfl,rfl⟩,by simp,ho⟩⟩ rfl (by simp) ?_)
  rintro⟨⟨M,fl,bs,cl,ov,ob⟩,i⟩ ⟨g1,g2⟩;simp only at g1 g2;(repeat refine AW.seq_k fun K hK=>?_);refine AW.rg ?_;simp;try (refine hK _ rfl ?_;clear hK K)
  (repeat refine AW.seq ?_);refine AW.cs (fun hi=>?_) (fun hi=>?_) rfl<;>(try simp at hi)
  ·refine AW.skip ?_;try simp
   try (refine hK _ rfl ?_;clear hK K)
   have w1:=Aq (i+1) (by omega);obtain⟨e,he⟩:∃e,s[i]=e:=⟨_,rfl⟩;have hel:e<es.length:=hs e (he ▸ List.getElem_mem hi);have htk:A9 n (Ae es) [] (s.take (i+1))=Ft n (Ae es) (A9 n (Ae es) [] (s.take i)) e:=by
    rw[I4 hi he,Tt];rfl
   have hA:∀k∈A9 n (Ae es) [] (s.take i),k<es.length:=fun k hk=>by
    rcases He hk with h|h
    ·cases h
    ·exact hs k (List.mem_of_mem_take h)
   have hsp:A0 n ((A9 n (Ae es) [] (s.take i)).map (Ae es)):=Co (by simp) (hes.at fun k hk=>hs k (List.mem_of_mem_take hk)) (A0.nil n);have hAl:(A9 n (Ae es) [] (s.take i)).length≤100:=by
    have:=F6 (n:=n) (E:=Ae es) (s.take i) [];simp at this;omega
   generalize A9 n (Ae es) [] (s.take i)=A at *;have hon:Ic n bg bf bc es A (M.only (A4 bg bf bc bs)) fl bs cl:=⟨g2.game.congr fun k hk=>Bv hk,fun k hk=>by
    rcases Decidable.em (k∈A4 bg bf bc bs)with hm|hm
    ·exact hm
    ·exact absurd (Bo hm) hk,g2.inv⟩
   have hac:=Zq n bg bf bc es A hn hes hA hsp _ fl bs cl e hel hon;(repeat refine AW.seq ?_);refine AW.block ?_;(repeat refine AW.seq_k fun K hK=>?_);refine AW.rg ?_;simp[hi,he];try (refine hK _ rfl ?_;clear hK K)
   (repeat refine AW.seq_k fun K hK=>?_);refine AW.rg ?_;simp;try (refine hK _ rfl ?_;clear hK K)
   refine Ac.hand (A4 bg bf bc bs) (fun _ _ h=>h) hac ?_;rintro _ g' ⟨rfl,fl',bs',cl',hG'⟩ hnew;have hobM:∀b∈ob,M b≠none:=fun b hb=>by
    rcases g2.lst with⟨_,h2,_⟩|⟨b',h2,_,h3⟩
    ·simp only at h2;rw[h2]at hb;cases hb
    ·simp only at h2 h3;rw[h2,List.mem_singleton]at hb;rw[hb,h3];simp
   have hobN:∀b∈ob,b ∉ A4 bg bf bc bs':=fun b hb hm=>by
    rcases hnew b (hG'.mem.dom hm)with h|h
    ·exact g2.off b hb h
    ·exact hobM b hb h.1
   have hM2:∀k∈A4 bg bf bc bs',M.back (A4 bg bf bc bs) g' k=g' k:=fun k hk=>by
    unfold Aa.back;cases h:g' k with
    |some x=>rfl
    |none=>exact absurd h (hG'.mem.dom hk)
   have hM2o:∀b∈ob,M.back (A4 bg bf bc bs) g' b=M b:=fun b hb=>by
    have h:g' b=none:=by
     cases h:g' b with
     |none=>rfl
     |some x=>exact absurd (hG'.only b (by rw[h];simp)) (hobN b hb)
    unfold Aa.back;rw[h];exact if_neg (g2.off b hb)
   have hM2n:∀k,M.back (A4 bg bf bc bs) g' k≠none→k∈ob++A4 bg bf bc bs':=fun k hk=>by
    unfold Aa.back at hk;cases h:g' k with
    |some x=>exact List.mem_append_right _ (hG'.only k (by rw[h];simp))
    |none =>
     rw[h]at hk;simp only at hk;by_cases hm:k∈A4 bg bf bc bs
     ·rw[if_pos hm]at hk;exact absurd rfl hk
     ·rw[if_neg hm]at hk;rcases List.mem_append.1 (g2.only k hk)with h' | h'
      ·exact List.mem_append_left _ h'
      ·exact absurd h' hm
   have gm:=hG'.mem.congr hM2;have lm:=g2.lst.keep hM2o;generalize M.back (A4 bg bf bc bs) g'=M2 at gm lm hM2o hM2n ⊢;cases hf:Lq n ((A++[e]).map (Ae es))with
   |false =>
    have hadd:Ft n (Ae es) A e=A:=by unfold Ft;rw[hf,if_neg (by simp)]
    rw[hadd]at htk hG';simp;try (refine hK _ rfl ?_;clear hK K)
    refine AW.no ?_ rfl;refine AW.skip ?_;try simp
    try (refine hK _ rfl ?_;clear hK K)
    (repeat refine AW.seq_k fun K hK=>?_);refine AW.rg ?_;simp[-Int.natCast_add,w1];try (refine hK _ rfl ?_;clear hK K)
    exact⟨⟨M2,fl',bs',cl',ov,ob⟩,i+1,⟨by omega,by rw[htk];exact⟨gm,hG'.inv,lm,hobN,hM2n⟩⟩,by omega,rfl,rfl,rfl⟩
   |true =>
    have hadd:Ft n (Ae es) A e=A++[e]:=by unfold Ft;rw[hf,if_pos rfl]
    rw[hadd]at htk hG';simp;try (refine hK _ rfl ?_;clear hK K)
    refine AW.yes ?_ rfl;rcases lm with⟨l1,l2,l3⟩ | ⟨b0,l2,l3,l4⟩
    ·simp only at l1 l2 l3;have hA0:A=[]:=by unfold An at l1;exact List.map_eq_nil_iff.1 l1
     subst l2;subst l3;subst hA0;(repeat refine AW.seq_k fun K hK=>?_);refine AW.rgR [26] ?_;simp;try (refine hK _ rfl ?_;clear hK K)
     refine⟨by unfold maxLen;omega,Ag.intro fun b6 h6=>?_⟩;have hb6:b6 ∉ A4 bg bf bc bs':=fun hm=>gm.dom hm h6;(repeat refine AW.seq_k fun K hK=>?_);refine AW.rg ?_;simp[-Int.natCast_add,w1];try (refine hK _ rfl ?_;clear hK K)
     refine⟨⟨M2.set b6 ⟨3,1,[.int .i64 (e:Nat)]⟩,fl',bs',cl',.osl b6 1 0 1,[b6]⟩,i+1,⟨by omega,?_⟩,by omega,rfl,rfl,rfl⟩;rw[htk];exact⟨gm.congr fun k hk=>Aa.set_other _ _ (fun h=>hb6 (h ▸ hk)),hG'.inv,.inr ⟨b6,rfl,rfl,Aa.set_same _ _ _⟩,fun b hb=>by rw[List.mem_singleton]at hb;rw[hb];exact hb6,fun k hk=>by
      by_cases h:k=b6
      ·rw[h];simp
      ·simp only at hk;rw[Aa.set_other _ _ h]at hk;have:=hM2n k hk;simp only[List.nil_append]at this;exact List.mem_append_right _ this⟩
    ·simp only at l2 l3 l4;subst l2;subst l3;(repeat refine AW.seq_k fun K hK=>?_);refine AW.rgR [26] ?_;simp[l4];try (refine hK _ rfl ?_;clear hK K)
     refine⟨by omega,by unfold maxLen;omega,Ag.intro fun b6 h6=>?_⟩;have hb0:b0 ∉ A4 bg bf bc bs':=hobN b0 (by simp);have hb6:b6 ∉ A4 bg bf bc bs':=fun hm=>by
      by_cases h:b6=b0
      ·exact hb0 (h ▸ hm)
      ·rw[Aa.del_other _ h]at h6;exact gm.dom hm h6
     (repeat refine AW.seq_k fun K hK=>?_);refine AW.rg ?_;simp[-Int.natCast_add,w1];try (refine hK _ rfl ?_;clear hK K)
     refine⟨⟨(M2.del b0).set b6 ⟨3,1,An A++[.int .i64 (e:Nat)]⟩,fl',bs',cl',.osl b6 1 0 (A.length+1),[b6]⟩,i+1,⟨by omega,?_⟩,by omega,rfl,rfl,rfl⟩;rw[htk];refine⟨gm.congr fun k hk=>by simp only;rw[Aa.set_other _ _ (fun h=>hb6 (by rw[←h];exact hk)),Aa.del_other _ (fun h=>hb0 (by rw[←h];exact hk))],hG'.inv,.inr ⟨b6,rfl,by simp,by simp only;rw[Aa.set_same,D5]⟩,fun b hb=>by rw[List.mem_singleton]at hb;rw[hb];exact hb6,fun k hk=>?_⟩;by_cases h:k=b6
     ·rw[h];simp
     ·simp only at hk;rw[Aa.set_other _ _ h]at hk;by_cases h':k=b0
      ·rw[h',Aa.del_same]at hk;exact absurd rfl hk
      ·rw[Aa.del_other _ h']at hk;have:=hM2n k hk;simp only[List.singleton_append,List.mem_cons]at this;exact List.mem_append_right _ (this.resolve_left h')
  ·refine AW.exit ?_;try simp
   rw[show i=s.length by omega,List.take_length]at g2;exact⟨_,g2,rfl,rfl⟩
 rintro⟨M,fl,bs,cl,ov,ob⟩ hz;simp only;(repeat refine AW.seq_k fun K hK=>?_);refine AW.rg ?_;simp;try (refine hK _ rfl ?_;clear hK K)
 have hone:=hz.ones;have hview:=hz.lst.view (M':=M.only (A4 bg bf bc bs)) (fun b hb=>Bo (hz.off b hb));refine AW.ret ⟨[.ptr bg 3 0 0,ov],rfl,.tup [.ptr bg 3 0 0,.sl 1 (An (A9 n (Ae es) [] s))],M.only (A4 bg bf bc bs),Bj.sub fun b x hb=>?_,Bx.tupL ⟨.same _,hview,trivial⟩,bg,bf,bc,fl,bs,cl,rfl,hz.game.congr fun k hk=>Bv hk,fun k hk=>?_,hz.inv⟩
 ·by_cases hm:b∈A4 bg bf bc bs
  ·rw[Bv hm]at hb;exact⟨hb,hone b x hb⟩
  ·rw[Bo hm]at hb;cases hb
 ·rcases Decidable.em (k∈A4 bg bf bc bs)with hm|hm
  ·exact hm
  ·exact absurd (Bo hm) hk
end Go.Av
end
section
namespace Go.Av
open Go.Proofs Go.Lam
theorem Gm (n:Int) (es:List RE) (hb:Qx es):Aj Tryz.prog 13 [.int .i64 n,A1 es] Aa.emp fun v m=>v=.tup [.sl 1 (An (B3 n es)),B6 n es]∧m=Aa.emp:=by
 have hc:=Oz n es hb;refine Ad Tryz.func13 rfl rfl 24 rfl (Nat.le_of_ble_eq_true rfl) ?_;unfold A1 at hc ⊢;(repeat refine AW.seq_k fun K hK=>?_);refine AW.rg ?_;simp[Ak];try (refine hK _ rfl ?_;clear hK K)
 (repeat refine AW.seq_k fun K hK=>?_);refine AW.rg ?_;simp;try (refine hK _ rfl ?_;clear hK K)
 refine Ac.val hc ?_;by_cases hk:Cg n es=true;rotate_left
 ·have e1:B6 n es=.int .i64 1:=by unfold B6;rw[if_neg hk]
  have e2:B3 n es=[]:=by unfold B3;rw[if_neg hk]
  simp[e1];try (refine hK _ rfl ?_;clear hK K)
  (repeat refine AW.seq_k fun K hK=>?_);refine AW.rg ?_;simp;try (refine hK _ rfl ?_;clear hK K)
  refine AW.yes ?_ rfl;(repeat refine AW.seq_k fun K hK=>?_);refine AW.rg ?_;simp;try (refine hK _ rfl ?_;clear hK K)
  exact AW.ret (Ai [.sl 1 (An []),.int .i64 1] rfl ⟨.nilsl 1,.same _,trivial⟩ ⟨by rw[e2,e1];rfl,rfl⟩)
 have e1:B6 n es=.int .i64 0:=by unfold B6;rw[if_pos hk]
 have e2:B3 n es=A9 n.toNat (Ae es) [] (List.range es.length):=by unfold B3;rw[if_pos hk]
 obtain⟨⟨h1,h2,h3⟩,_⟩:=Dk hk;have hok:=G1 hk;obtain⟨N,rfl⟩:=Int.eq_ofNat_of_zero_le (show 0≤n by omega);simp only[Int.toNat_natCast]at hok e2;have hall:=Ue es h3;have hpl:=Ok N es (by omega) hok (List.range es.length) (by simp) (by simp;omega);unfold A1 at hall hpl;simp[e1];try (refine hK _ rfl ?_;clear hK K)
 (repeat refine AW.seq_k fun K hK=>?_);refine AW.rg ?_;simp;try (refine hK _ rfl ?_;clear hK K)
 refine AW.no ?_ rfl;refine AW.skip ?_;try simp
 try (refine hK _ rfl ?_;clear hK K)
 (repeat refine AW.seq_k fun K hK=>?_);refine AW.rg ?_;simp;try (refine hK _ rfl ?_;clear hK K)
 refine Ac.val hall ?_;simp;refine Ac.news hpl ?_;rintro _ g ⟨bg,bf,bc,fl,bs,cl,rfl,hG⟩ _;simp;try (refine hK _ rfl ?_;clear hK K)
 (repeat refine AW.seq_k fun K hK=>?_);refine AW.rg ?_;simp;try (refine hK _ rfl ?_;clear hK K)
 exact AW.ret (Ai [.sl 1 (An (A9 N (Ae es) [] (List.range es.length))),.int .i64 0] rfl ⟨.same _,.same _,trivial⟩ ⟨by rw[e2,e1];rfl,rfl⟩)
theorem Tw (n:Int) (es:List RE) (hb:Qx es):Aj Tryz.prog 15 [.int .i64 n,A1 es] Aa.emp fun v m=>v=.tup [Rh n es,B6 n es]∧m=Aa.emp:=by
 have hc:=Gm n es hb;refine Ad Tryz.func15 rfl rfl 27 rfl (Nat.le_of_ble_eq_true rfl) ?_;unfold A1 at hc ⊢;(repeat refine AW.seq_k fun K hK=>?_);refine AW.rg ?_;simp[Ak];try (refine hK _ rfl ?_;clear hK K)
 (repeat refine AW.seq_k fun K hK=>?_);refine AW.rg ?_;simp;try (refine hK _ rfl ?_;clear hK K)
 refine Ac.val hc ?_;by_cases hk:Cg n es=true;rotate_left
 ·have e1:B6 n es=.int .i64 1:=by unfold B6;rw[if_neg hk]
  have e2:Rh n es=.int .i64 0:=by unfold Rh;rw[if_neg hk]
  simp[e1];try (refine hK _ rfl ?_;clear hK K)
  (repeat refine AW.seq_k fun K hK=>?_);refine AW.rg ?_;simp;try (refine hK _ rfl ?_;clear hK K)
  refine AW.yes ?_ rfl;(repeat refine AW.seq_k fun K hK=>?_);refine AW.rg ?_;simp;try (refine hK _ rfl ?_;clear hK K)
  exact AW.ret (Ai [.int .i64 0,.int .i64 1] rfl ⟨.same _,.same _,trivial⟩ ⟨by rw[e2,e1];rfl,rfl⟩)
 have e1:B6 n es=.int .i64 0:=by unfold B6;rw[if_pos hk]
 have hle:=Wa hk;obtain⟨⟨h1,h2,h3⟩,_⟩:=Dk hk;have e2:Rh n es=.int .i64 (if n=1 then 0 else 2*n-3-((B3 n es).length:Int)):=by unfold Rh;rw[if_pos hk]
 generalize B3 n es=O at *;simp[e1];try (refine hK _ rfl ?_;clear hK K)
 by_cases hn:n=1
 ·(repeat refine AW.seq_k fun K hK=>?_);refine AW.rg ?_;simp[hn];try (refine hK _ rfl ?_;clear hK K)
  refine AW.yes ?_ rfl;(repeat refine AW.seq_k fun K hK=>?_);refine AW.rg ?_;simp;try (refine hK _ rfl ?_;clear hK K)
  exact AW.ret (Ai [.int .i64 0,.int .i64 0] rfl ⟨.same _,.same _,trivial⟩ ⟨by rw[e2,e1,if_pos hn];rfl,rfl⟩)
 rw[if_neg hn]at e2;(repeat refine AW.seq_k fun K hK=>?_);refine AW.rg ?_;simp[hn];try (refine hK _ rfl ?_;clear hK K)
 refine AW.no ?_ rfl;refine AW.skip ?_;try simp
 try (refine hK _ rfl ?_;clear hK K)
 have w1:IntKind.i64.wrap (2*n)=2*n:=Nf (by omega);have w2:IntKind.i64.wrap (2*n-3)=2*n-3:=Nf (by omega);have w3:IntKind.i64.wrap (2*n-3-(O.length:Int))=2*n-3-(O.length:Int):=Nf (by omega);(repeat refine AW.seq_k fun K hK=>?_);refine AW.rg ?_;simp[w1,w2,w3];try (refine hK _ rfl ?_;clear hK K)
 exact AW.ret (Ai [.int .i64 (2*n-3-(O.length:Int)),.int .i64 0] rfl ⟨.same _,.same _,trivial⟩ ⟨by rw[e2,e1];rfl,rfl⟩)
end Go.Av
end
section
namespace Go.Av
section
variable {P:Program}
def isZ (o:Oper):Bool:=match o.op with
 |.call c=>match c.callee with | .builtin .append=>true | _=>false
 |_=>false
def Qvh (P:Program) (o:Oper) (s:St) (k:AV→Aa→Prop):Prop:=match o.op with
 |.call c=>match c.callee with
  |.builtin .append=>∃x y t ti e te,c.args.toList=[x,y]∧c.argTypes.toList=[t,t]∧Ah P t=some ti∧ti.cls=.slice e∧Ah P e=some te∧0<te.size ∧
    (s.ev x=.nil∨s.ev x=.zc)∧F0 s.m te.size (s.ev y)=some []∧k .zc s.m
  |_=>False
 |_=>False
def Yf (P:Program) (cf:Dq) (o:Oper) (K:St→Prop) (s:St):Prop:=if isZ o=true then Qvh P o s fun v m'=>K ({s with m:=m'}.put o.dst v) else Er P cf o K s
def Qc5 (P:Program) (cf:Dq):List Oper→(St→Prop)→St→Prop
 |[],K,s=>K s
 |o::rest,K,s=>o.guard=none∧Yf P cf o (Qc5 P cf rest K) s
@[simp] theorem Qt2 (cf:Dq) (K:St→Prop) (s:St):Qc5 P cf [] K s=K s:=(rfl)
@[simp] theorem Qph (cf:Dq) (d:Option Tmp) (op:Op) (t:TypeId) (p:String) (a:Array Edge) (l:List Oper) (K:St→Prop) (s:St) :
  Qc5 P cf ({dst:=d,op:=op,type:=t,pos:=p,after:=a,guard:=none}::l) K s↔Yf P cf {dst:=d,op:=op,type:=t,pos:=p,after:=a,guard:=none} (Qc5 P cf l K) s:=by
 show(_∧_)↔_
 simp
@[simp] theorem Qsy (cf:Dq) (K:St→Prop) (s:St) (d:Option Tmp) (x:Operand) (ty:TypeId) (p:String) (a:Array Edge) (g:Option (Nat × Bool)):Yf P cf ⟨d,.move x,ty,p,a,g⟩ K s=Er P cf ⟨d,.move x,ty,p,a,g⟩ K s:=(rfl)
@[simp] theorem Qmu (cf:Dq) (K:St→Prop) (s:St) (d:Option Tmp) (x:Operand) (ty:TypeId) (p:String) (a:Array Edge) (g:Option (Nat × Bool)):Yf P cf ⟨d,.assign x,ty,p,a,g⟩ K s=Er P cf ⟨d,.assign x,ty,p,a,g⟩ K s:=(rfl)
@[simp] theorem Qqv (cf:Dq) (K:St→Prop) (s:St) (d:Option Tmp) (t:TypeId) (x:Operand) (lo hi mx:Option Operand) (ty:TypeId) (p:String) (a:Array Edge) (g:Option (Nat × Bool)):Yf P cf ⟨d,.slice t x lo hi mx,ty,p,a,g⟩ K s=Er P cf ⟨d,.slice t x lo hi mx,ty,p,a,g⟩ K s:=(rfl)
@[simp] theorem Qok (cf:Dq) (K:St→Prop) (s:St) (d:Option Tmp) (o:BinOp) (t t':TypeId) (x y:Operand) (ty:TypeId) (p:String) (a:Array Edge) (g:Option (Nat × Bool)):Yf P cf ⟨d,.binOp o t x y t',ty,p,a,g⟩ K s=Er P cf ⟨d,.binOp o t x y t',ty,p,a,g⟩ K s:=(rfl)
def emK (x:Option (List AV)) (k:Prop):Prop:=x=some []∧k
@[simp] theorem Qwx (k:Prop):emK (some []) k↔k:=by simp[emK]
@[congr] theorem Qst {x y:Option (List AV)} {k:Prop} (h:x=y):emK x k=emK y k:=by rw[h]
def zK (x:AV) (k:Prop):Prop:=(x=.nil∨x=.zc)∧k
@[simp] theorem Qxi (k:Prop):zK .nil k↔k:=by simp[zK]
@[simp] theorem Qx7 (k:Prop):zK .zc k↔k:=by simp[zK]
@[congr] theorem Qv0 {x y:AV} {k:Prop} (h:x=y):zK x k=zK y k:=by rw[h]
@[simp] theorem Qnx (cf:Dq) (K:St→Prop) (s:St) (d:Option Tmp) (x y:Operand) (t ty:TypeId) (p:String) (a:Array Edge) (g:Option (Nat × Bool)):Yf P cf ⟨d,.call ⟨.builtin .append,#[x,y],#[t,t]⟩,ty,p,a,g⟩ K s↔R7 (Ah P t) fun ti=>eK (Py ti.cls) fun e=>R7 (Ah P e) fun te=>0<te.size∧zK (s.ev x) (emK (F0 s.m te.size (s.ev y)) (Il K s d .zc s.m)):=by
 unfold Yf Qvh R7 eK zK emK;simp only[isZ,if_true];constructor
 ·rintro⟨x',y',t',ti,e,te,h1,h2,q1,q2,q3,q4,q5,q6,q7⟩;simp only[List.cons.injEq,and_true]at h1 h2;obtain⟨rfl,rfl⟩:=h1;obtain⟨rfl,_⟩:=h2;exact⟨ti,q1,e,Dc.2 q2,te,q3,q4,q5,q6,q7⟩
 ·rintro⟨ti,q1,e,q2,te,q3,q4,q5,q6,q7⟩;exact⟨x,y,t,ti,e,te,rfl,rfl,q1,Dc.1 q2,q3,q4,q5,q6,q7⟩
end
end Go.Av
end
section
namespace Go.Av
open Go.Proofs Go.Lam
def Vq (o:Option Nat) (l:List Nat):AV:=match o with
 |none=>.nil
 |some b=>.osl b 1 0 l.length
def lsM (o:Option Nat) (l:List Nat) (m:Aa):Aa:=match o with
 |none=>m
 |some b=>m.set b ⟨3,1,An l⟩
theorem Qhj {o:Option Nat} {l:List Nat} {m:Aa} (h:∀c y,m c=some y→∀v∈y.l,v.cells.all AV.one=true):∀c y,lsM o l m c=some y→∀v∈y.l,v.cells.all AV.one=true:=by
 intro c y hy;cases o with
 |none=>exact h c y hy
 |some b =>
  unfold lsM at hy;simp only[A3]at hy;split at hy
  ·cases hy;exact Cl _
  ·exact h c y hy
theorem Ol {b:Nat} {m:Aa} (h:m b=none):m.del b=m:=by
 funext c
 unfold Aa.del;by_cases hc:c=b
 ·rw[if_pos hc,hc,h]
 ·rw[if_neg hc]
theorem Ac.look {P:Program} {av:Nat→Prop} {f:FuncId} {args:List AV} {m:Aa} {k:AV→Aa→Prop} {v:AV} (args':List AV) (hv:Dx m Aa.emp args args') (h:Aj P f args' Aa.emp fun v' m'=>v'=v∧m'=Aa.emp) (hf:v.flat=true) (hk:k v m):Ac P av f args m k :=
 .inr ⟨args',_,Cy hv,h,fun v' _ hr=>by rw[hr.1];exact⟨hf,hk⟩⟩
theorem Qho:∀c y,Aa.emp c=some y→∀v∈y.l,v.cells.all AV.one=true:=by intro c y hy;cases hy
theorem Qgk {o:Option Nat} {l:List Nat} {M M':Aa} (h0:o=none→l=[]) (h1:∀b,o=some b→M b=some ⟨3,1,An l⟩∧M' b=none):Bx M M' (Vq o l) (.sl 1 (An l)):=by
 cases o with
 |none=>rw[h0 rfl];exact .nilsl 1
 |some b =>
  obtain⟨h2,h3⟩:=h1 b rfl;exact Ny.view (ob:=[b]) (ty:=3) (.inr ⟨b,rfl,by unfold Vq;rw[J4],h2⟩) (by simpa using h3)
def W7 (e:Nat) (l:List Nat):List Nat:=l.filter fun k=>decide (k<e)
def J0 (n:Int) (es:List RE) (e:Nat):List Nat:=W7 e (B3 n es)
def Tc (n:Nat) (es:List RE) (B:List Nat) (e k:Nat):Bool:=Lq n ((B.eraseIdx k++[e]).map (Ae es))
def Dn (n:Nat) (es:List RE) (B:List Nat) (e i:Nat):List Nat:=((List.range i).filter (Tc n es B e)).map fun k=>B.getD k 0
def Fh (n:Int) (es:List RE) (e:Nat):List Nat:=Dn n.toNat es (J0 n es e) e (J0 n es e).length++[e]
def Hl (n:Int) (es:List RE) (e:Int):Int:=if Cg n es=true then (if e<0∨(es.length:Int)≤e then 1 else if e.toNat∈B3 n es then 7 else 0) else 1
def Ip (n:Int) (es:List RE) (e:Int):AV:=.tup [.sl 1 (An (if Hl n es e=0 then Fh n es e.toNat else [])),.int .i64 (Hl n es e)]
theorem Qcl (n:Nat) (es:List RE) (B:List Nat) (e i:Nat) (hi:i<B.length):Dn n es B e (i+1)=Dn n es B e i++(if Tc n es B e i=true then [B[i]] else []):=by
 unfold Dn;rw[List.range_succ,List.filter_append,List.map_append];cases h:Tc n es B e i<;>simp[h,hi]
theorem Oi (n:Nat) (es:List RE) (B:List Nat) (e i:Nat):(Dn n es B e i).length≤i:=by
 unfold Dn;have:=List.length_filter_le (Tc n es B e) (List.range i);simp at this ⊢;omega
theorem Kz {n:Int} {es:List RE} {k:Nat} (h:k∈B3 n es):k<es.length:=by
 unfold B3 at h;split at h
 ·exact Qec h
 ·cases h
theorem Qel (O:List Nat) (e i:Nat) (hi:i<O.length):W7 e (O.take (i+1))=W7 e (O.take i)++(if O[i]<e then [O[i]] else []):=by
 unfold W7;rw[List.take_add_one,List.filter_append,List.getElem?_eq_getElem hi];by_cases h:O[i]<e<;>simp[h]
theorem Qhz (O:List Nat) (e i:Nat):(W7 e (O.take i)).length≤O.length:=by
 unfold W7;have h1:=List.length_filter_le (fun k=>decide (k<e)) (O.take i);have h2:(O.take i).length≤O.length:=by simp;omega
 omega
theorem Qdy {n:Int} {es:List RE} {e:Int} (h:¬Cg n es=true):Hl n es e=1:=by unfold Hl;rw[if_neg h]
theorem Qf0 {n:Int} {es:List RE} {e:Int} (h:Cg n es=true) (he:e<0∨(es.length:Int)≤e):Hl n es e=1:=by unfold Hl;rw[if_pos h,if_pos he]
theorem W9 {n:Int} {es:List RE} {e:Nat} (h:Cg n es=true) (he:e<es.length) (hi:e∈B3 n es):Hl n es (e:Nat)=7:=by
 unfold Hl;rw[if_pos h,if_neg (by omega),if_pos (by simpa using hi)]
theorem X9 {n:Int} {es:List RE} {e:Nat} (h:Cg n es=true) (he:e<es.length) (hi:e ∉ B3 n es):Hl n es (e:Nat)=0:=by
 unfold Hl;rw[if_pos h,if_neg (by omega),if_neg (by simpa using hi)]
theorem Qcu {n:Int} {es:List RE} {e:Int} (h:Hl n es e=1):Ip n es e=.tup [.sl 1 (An []),.int .i64 1]:=by unfold Ip;rw[h,if_neg (by decide)]
theorem Qdb {n:Int} {es:List RE} {e:Int} (h:Hl n es e=7):Ip n es e=.tup [.sl 1 (An []),.int .i64 7]:=by unfold Ip;rw[h,if_neg (by decide)]
theorem Qj3 {n:Int} {es:List RE} {e:Nat} (h:Hl n es (e:Nat)=0):Ip n es (e:Nat)=.tup [.sl 1 (An (Dn n.toNat es (J0 n es e) e (J0 n es e).length++[e])),.int .i64 0]:=by unfold Ip Fh;rw[h,if_pos rfl];simp
end Go.Av
end
section
namespace Go.Av
open Go.Proofs Go.Lam
theorem Re {m:Aa} {b:Nat} {x:Et} (h:m b=some x):m.only [b]=Aa.emp.set b x:=by
 funext c
 by_cases hc:c=b
 ·subst hc;rw[Bv (by simp),h];simp
 ·rw[Bo (by simpa using hc)];simp[Aa.set,hc,Aa.emp]
theorem Ya {m:Aa} {b:Nat} {y:Et}:m.back [b] (Aa.emp.set b y)=m.set b y:=by
 funext c
 unfold Aa.back;by_cases hc:c=b
 ·subst hc;simp
 ·simp[Aa.set,hc,Aa.emp]
theorem S4 (n:Int) (es:List RE) (e:Int) (hb:Qx es):Aj Tryz.prog 20 [.int .i64 n,A1 es,.int .i64 e] Aa.emp fun v m=>v=Ip n es e∧m=Aa.emp:=by
 have hc:=Gm n es hb;refine Ad Tryz.func20 rfl rfl 90 rfl (Nat.le_of_ble_eq_true rfl) ?_;unfold A1 at hc ⊢;(repeat refine AW.seq_k fun K hK=>?_);refine AW.rg ?_;simp[Ak];try (refine hK _ rfl ?_;clear hK K)
 (repeat refine AW.seq_k fun K hK=>?_);refine AW.rg ?_;simp;try (refine hK _ rfl ?_;clear hK K)
 refine Ac.val hc ?_;by_cases hk:Cg n es=true;rotate_left
 ·have e1:B6 n es=.int .i64 1:=by unfold B6;rw[if_neg hk]
  simp[e1];try (refine hK _ rfl ?_;clear hK K)
  (repeat refine AW.seq_k fun K hK=>?_);refine AW.rg ?_;simp;try (refine hK _ rfl ?_;clear hK K)
  refine AW.yes ?_ rfl;(repeat refine AW.seq_k fun K hK=>?_);refine AW.rg ?_;simp;try (refine hK _ rfl ?_;clear hK K)
  exact AW.ret (Ai [.sl 1 (An []),.int .i64 1] rfl ⟨.nilsl 1,.same _,trivial⟩ ⟨by rw[Qcu (Qdy hk)];rfl,rfl⟩)
 have e1:B6 n es=.int .i64 0:=by unfold B6;rw[if_pos hk]
 obtain⟨⟨h1,h2,h3⟩,_⟩:=Dk hk;have hok:=G1 hk;have hle:=Wa hk;have hlt:=fun k=>Kz (n:=n) (es:=es) (k:=k);have hCi:=fun e=>W9 (n:=n) (es:=es) (e:=e) hk;have hCo:=fun e=>X9 (n:=n) (es:=es) (e:=e) hk;have hR:=fun e=>Qj3 (n:=n) (es:=es) (e:=e);unfold J0 at hR;generalize B3 n es=O at *;obtain⟨N,rfl⟩:=Int.eq_ofNat_of_zero_le (show 0≤n by omega);simp only[Int.toNat_natCast]at hok hR;simp[e1];try (refine hK _ rfl ?_;clear hK K)
 (repeat refine AW.seq_k fun K hK=>?_);refine AW.rg ?_;simp;try (refine hK _ rfl ?_;clear hK K)
 refine AW.no ?_ rfl;refine AW.skip ?_;try simp
 try (refine hK _ rfl ?_;clear hK K)
 by_cases ho:e<0∨(es.length:Int)≤e
 ·have hz:Ip (N:Nat) es e=.tup [.sl 1 (An []),.int .i64 1]:=Qcu (Qf0 hk ho);rcases ho with ho | ho
  ·(repeat refine AW.seq_k fun K hK=>?_);refine AW.rg ?_;simp[ho];try (refine hK _ rfl ?_;clear hK K)
   refine AW.yes ?_ rfl;(repeat refine AW.seq_k fun K hK=>?_);refine AW.rg ?_;simp;try (refine hK _ rfl ?_;clear hK K)
   exact AW.ret (Ai [.sl 1 (An []),.int .i64 1] rfl ⟨.nilsl 1,.same _,trivial⟩ ⟨by rw[hz];rfl,rfl⟩)
  ·have hn:¬e<0:=by omega
   (repeat refine AW.seq_k fun K hK=>?_);refine AW.rg ?_;simp[ho,hn];try (refine hK _ rfl ?_;clear hK K)
   refine AW.yes ?_ rfl;(repeat refine AW.seq_k fun K hK=>?_);refine AW.rg ?_;simp;try (refine hK _ rfl ?_;clear hK K)
   exact AW.ret (Ai [.sl 1 (An []),.int .i64 1] rfl ⟨.nilsl 1,.same _,trivial⟩ ⟨by rw[hz];rfl,rfl⟩)
 obtain⟨E,rfl⟩:=Int.eq_ofNat_of_zero_le (show 0≤e by omega);have hE:E<es.length:=by omega
 clear ho;have hn1:¬(E:Int)<0:=by omega
 have hn2:¬es.length≤E:=by omega
 (repeat refine AW.seq_k fun K hK=>?_);refine AW.rg ?_;simp[hn1,hn2];try (refine hK _ rfl ?_;clear hK K)
 refine AW.no ?_ rfl;refine AW.skip ?_;try simp
 try (refine hK _ rfl ?_;clear hK K)
 have hct:=R3 O E (by omega);(repeat refine AW.seq_k fun K hK=>?_);refine AW.rg ?_;simp;try (refine hK _ rfl ?_;clear hK K)
 refine Ac.val hct ?_;by_cases hin:E∈O
 ·have hz:Ip (N:Nat) es (E:Nat)=.tup [.sl 1 (An []),.int .i64 7]:=Qdb (hCi E hE hin);simp[hin];try (refine hK _ rfl ?_;clear hK K)
  refine AW.yes ?_ rfl;(repeat refine AW.seq_k fun K hK=>?_);refine AW.rg ?_;simp;try (refine hK _ rfl ?_;clear hK K)
  exact AW.ret (Ai [.sl 1 (An []),.int .i64 7] rfl ⟨.nilsl 1,.same _,trivial⟩ ⟨by rw[hz];rfl,rfl⟩)
 simp[hin];try (refine hK _ rfl ?_;clear hK K)
 refine AW.no ?_ rfl;refine AW.skip ?_;try simp
 try (refine hK _ rfl ?_;clear hK K)
 have hR0:=hR E (hCo E hE hin);(repeat refine AW.seq_k fun K hK=>?_);refine AW.rg ?_;simp;try (refine hK _ rfl ?_;clear hK K)
 refine AW.seq_ex (ι:=Option Nat) (fun o=>[(0,.int .i64 (N:Nat)),(1,.sl 6 (Bw es)),(2,.int .i64 (E:Nat)),(10,Vq o (W7 E O)),(11,.nil)]) (fun o=>lsM o (W7 E O) Aa.emp)
  (fun o=>o=none→W7 E O=[]) ?_ ?_
 ·(repeat refine AW.seq_k fun K hK=>?_);refine AW.rg ?_;simp;try (refine hK _ rfl ?_;clear hK K)
  refine AW.block (AW.loopS (ι:=Option Nat × Nat) (fun z=>[(0,.int .i64 (N:Nat)),(1,.sl 6 (Bw es)),(2,.int .i64 (E:Nat)),(39,.sl 1 (An O)),(40,.int .i64 (O.length:Nat)),(41,.int .i64 (z.2:Nat)),(10,Vq z.1 (W7 E (O.take z.2))),(11,.nil)]) (fun z=>lsM z.1 (W7 E (O.take z.2)) Aa.emp)
   (fun z=>z.2≤O.length∧(z.1=none→W7 E (O.take z.2)=[])) (fun z=>O.length-z.2) (none,0) ⟨by simp,by simp[W7]⟩ rfl (by simp[Vq]) ?_)
  rintro⟨o,i⟩ ⟨g1,g0⟩;simp only at g1 g0;(repeat refine AW.seq_k fun K hK=>?_);refine AW.rg ?_;simp;try (refine hK _ rfl ?_;clear hK K)
  (repeat refine AW.seq ?_);refine AW.cs (fun hi=>?_) (fun hi=>?_) rfl<;>(try simp at hi)
  ·refine AW.skip ?_;try simp
   try (refine hK _ rfl ?_;clear hK K)
   have w1:=Aq (i+1) (by omega);have hft:=Qel O E i hi;have hfl:=Qhz O E i;generalize W7 E (O.take i)=F at *;(repeat refine AW.seq ?_);refine AW.block ?_;(repeat refine AW.seq_k fun K hK=>?_);refine AW.rg ?_;simp[hi];try (refine hK _ rfl ?_;clear hK K)
   (repeat refine AW.seq_k fun K hK=>?_);refine AW.rg ?_;simp;try (refine hK _ rfl ?_;clear hK K)
   (repeat refine AW.seq ?_);refine AW.cs (fun hx=>?_) (fun hx=>?_) rfl<;>(try simp at hx)
   ·rw[if_pos hx]at hft;cases o with
    |none =>
     have hF:=g0 rfl;subst hF;simp only[Vq,lsM];(repeat refine AW.seq_k fun K hK=>?_);refine AW.rgR [50] ?_;simp[hi];try (refine hK _ rfl ?_;clear hK K)
     refine⟨by unfold maxLen;omega,Ag.intro fun b24 _=>?_⟩;(repeat refine AW.seq_k fun K hK=>?_);refine AW.rg ?_;simp[-Int.natCast_add,w1];try (refine hK _ rfl ?_;clear hK K)
     exact⟨some b24,i+1,⟨by omega,by simp⟩,by omega,by rw[hft];rfl,by rw[hft];exact⟨rfl,rfl⟩⟩
    |some b0 =>
     simp only[Vq,lsM];(repeat refine AW.seq_k fun K hK=>?_);refine AW.rgR [50] ?_;simp[hi];try (refine hK _ rfl ?_;clear hK K)
     refine⟨by omega,by unfold maxLen;omega,Ag.intro fun b24 _=>?_⟩;(repeat refine AW.seq_k fun K hK=>?_);refine AW.rg ?_;simp[-Int.natCast_add,w1];try (refine hK _ rfl ?_;clear hK K)
     exact⟨some b24,i+1,⟨by omega,by simp⟩,by omega,by rw[hft,←D5],by rw[hft];simp[Vq]⟩
   ·rw[if_neg (Nat.not_lt.2 hx),List.append_nil]at hft;refine AW.skip ?_;try simp
    try (refine hK _ rfl ?_;clear hK K)
    (repeat refine AW.seq_k fun K hK=>?_);refine AW.rg ?_;simp[-Int.natCast_add,w1];try (refine hK _ rfl ?_;clear hK K)
    exact⟨o,i+1,⟨by omega,by rw[hft];exact g0⟩,by omega,by rw[hft],by rw[hft];exact⟨rfl,rfl⟩⟩
  ·refine AW.exit ?_;try simp
   rw[show i=O.length by omega,List.take_length]at g0 ⊢;exact⟨o,g0,rfl,rfl⟩
 rintro o ho;have hBl:(W7 E O).length≤40:=Nat.le_trans (List.length_filter_le _ _) hle;have hBm:∀k∈W7 E O,k<es.length:=fun k hk=>hlt k (List.mem_filter.1 hk).1;generalize W7 E O=B at *;clear hR hCi hCo hlt hle hin hc hct O;refine AW.toEmp [(0,.int .i64 (N:Nat)),(1,.sl 6 (Bw es)),(2,.int .i64 (E:Nat)),(10,.sl 1 (An B)),(11,.nil)] (by simp;exact Qgk ho fun b h=>by rw[h];exact⟨Aa.set_same _ _ _,rfl⟩) ?_;refine AW.seq_ex (ι:=Option Nat) (fun o=>[(2,.int .i64 (E:Nat)),(11,Vq o (Dn N es B E B.length))]) (fun o=>lsM o (Dn N es B E B.length) Aa.emp) (fun o=>o=none→Dn N es B E B.length=[]) ?_ ?_
 ·(repeat refine AW.seq_k fun K hK=>?_);refine AW.rg ?_;simp;try (refine hK _ rfl ?_;clear hK K)
  refine AW.block (AW.loopS (ι:=Option Nat × Nat) (fun z=>[(0,.int .i64 (N:Nat)),(1,.sl 6 (Bw es)),(2,.int .i64 (E:Nat)),(10,.sl 1 (An B)),(11,Vq z.1 (Dn N es B E z.2)),(53,.sl 1 (An B)),(54,.int .i64 (B.length:Nat)),(55,.int .i64 (z.2:Nat))]) (fun z=>lsM z.1 (Dn N es B E z.2) Aa.emp)
   (fun z=>z.2≤B.length∧(z.1=none→Dn N es B E z.2=[])) (fun z=>B.length-z.2) (none,0) ⟨by simp,by simp[Dn]⟩ rfl (by simp[Vq]) ?_)
  rintro⟨o,i⟩ ⟨g1,g2⟩;simp only at g1 g2;(repeat refine AW.seq_k fun K hK=>?_);refine AW.rg ?_;simp;try (refine hK _ rfl ?_;clear hK K)
  (repeat refine AW.seq ?_);refine AW.cs (fun hi=>?_) (fun hi=>?_) rfl<;>(try simp at hi)
  ·refine AW.skip ?_;try simp
   try (refine hK _ rfl ?_;clear hK K)
   have w1:=Aq (i+1) (by omega);have hsc:=Qcl N es B E i hi;have hcl:=Oi N es B E i;have hB0:B≠[]:=by rintro rfl;simp at hi
   have hcn:=Zd B (by omega) hB0;have hmem:∀k∈B.eraseIdx i++[E],k<es.length:=(fun k hk=>by
    rcases List.mem_append.1 hk with h|h
    ·exact hBm k (List.mem_of_mem_eraseIdx h)
    ·simp at h;omega)
   have hel:(B.eraseIdx i).length=B.length-1:=by rw[List.length_eraseIdx,if_pos hi]
   have hpl:=Ok N es (by omega) hok (B.eraseIdx i++[E]) hmem (by simp[hel];omega);have hfull:=Y7 (n:=N) (E:=Ae es) (s:=B.eraseIdx i++[E]) (fun k hk=>hok.at hmem k hk);have hgl:(A9 N (Ae es) [] (B.eraseIdx i++[E])).length≤40:=by
    have:=F6 (n:=N) (E:=Ae es) (B.eraseIdx i++[E]) [];simp[hel]at this;omega
   have hde:=fun b=>M8 b B i hi (by omega);obtain⟨cb,hcb⟩:∃c,Tc N es B E i=c:=⟨_,rfl⟩;rw[hcb]at hsc;unfold Tc at hcb;generalize Dn N es B E i=L at *;(repeat refine AW.seq ?_);refine AW.block ?_;(repeat refine AW.seq_k fun K hK=>?_);refine AW.rg ?_;simp[hi];try (refine hK _ rfl ?_;clear hK K)
   obtain⟨M,hM⟩:∃M,lsM o L Aa.emp=M:=⟨_,rfl⟩;rw[hM];refine AW.seq_ex (ι:=Nat) (fun b=>[(0,.int .i64 (N:Nat)),(1,.sl 6 (Bw es)),(2,.int .i64 (E:Nat)),(10,.sl 1 (An B)),(11,Vq o L),(53,.sl 1 (An B)),(54,.int .i64 (B.length:Nat)),(55,.int .i64 (i:Nat)),(15,.int .i64 (B[i]:Nat)),(16,.osl b 1 0 (B.length-1))]) (fun b=>M.set b ⟨3,1,An (B.eraseIdx i)⟩) (fun b=>M b=none) ?_ ?_
   ·(repeat refine AW.seq_k fun K hK=>?_);refine AW.rg ?_;simp[w1];try (refine hK _ rfl ?_;clear hK K)
    refine Ac.news hcn ?_;rintro _ g ⟨b,rfl,rfl⟩ hnew;have hMb:M b=none:=(hnew b (by simp)).1;have e2:M.back [] (Aa.emp.set b ⟨3,1,An B⟩)=M.set b ⟨3,1,An B⟩:=by
     funext c
     unfold Aa.back;by_cases hc:c=b
     ·subst hc;simp
     ·simp[Aa.set,hc,Aa.emp]
    rw[e2];simp[-Int.natCast_add,w1];refine Ac.hand (R:=fun v m=>v=.osl b 1 0 (B.length-1)∧m=Aa.emp.set b ⟨3,1,An (B.eraseIdx i)⟩) [b] (fun _ _ h=>h) (by rw[Re (Aa.set_same _ _ _)];exact hde b) ?_;rintro _ g ⟨rfl,rfl⟩ _;rw[Ya];simp[-Int.natCast_add];exact hMb
   rintro b hMb;refine AW.seq_ex (ι:=Aa) (fun _=>[(0,.int .i64 (N:Nat)),(1,.sl 6 (Bw es)),(2,.int .i64 (E:Nat)),(10,.sl 1 (An B)),(11,Vq o L),(53,.sl 1 (An B)),(54,.int .i64 (B.length:Nat)),(55,.int .i64 (i:Nat)),(15,.int .i64 (B[i]:Nat)),(18,.sl 1 (An (A9 N (Ae es) [] (B.eraseIdx i++[E]))))]) (fun M3=>M3) (fun M3=>∀c y,M c=some y→M3 c=some y) ?_ ?_
   ·(repeat refine AW.seq_k fun K hK=>?_);refine AW.rgR [71] ?_;simp[hel];try (refine hK _ rfl ?_;clear hK K)
    refine⟨by omega,by unfold maxLen;omega,?_⟩;rw[Ol hMb];refine Ag.intro fun b' hb'=>?_;rw[←D5];refine Ac.hand (R:=Qnw N es (A9 N (Ae es) [] (B.eraseIdx i++[E]))) [b'] (fun _ _ h=>h) (by
     rw[Re (Aa.set_same _ _ _)];exact hpl.view (Cy (l':=[.int .i64 (N:Nat),A1 es,.sl 1 (An (B.eraseIdx i++[E]))]) ⟨.same _,.same _,Ll (by simp) (by simp[hel]),trivial⟩)) ?_
    rintro _ g ⟨bg,bf,bc,fl,bs,cl,rfl,hG⟩ hnew;simp;intro c y hy;have hcb:c≠b':=by rintro rfl;rw[hb']at hy;cases hy
    have hg:g c=none:=by
     cases h:g c with
     |none=>rfl
     |some x =>
      rcases hnew c (by rw[h];simp)with h'|h'
      ·exact absurd (by simpa using h') hcb
      ·rw[Aa.set_other _ _ hcb,hy]at h';simp at h'
    unfold Aa.back;rw[hg];simp only;rw[if_neg (by simpa using hcb),Aa.set_other _ _ hcb,hy]
   rintro M3 hM3;refine AW.turn [(0,.int .i64 (N:Nat)),(1,.sl 6 (Bw es)),(2,.int .i64 (E:Nat)),(10,.sl 1 (An B)),(11,Vq o L),(53,.sl 1 (An B)),(54,.int .i64 (B.length:Nat)),(55,.int .i64 (i:Nat)),(15,.int .i64 (B[i]:Nat)),(18,.sl 1 (An (A9 N (Ae es) [] (B.eraseIdx i++[E]))))] M (Bj.sub fun c y hy=>⟨hM3 c y hy,(hM ▸ Qhj Qho) c y hy⟩) (by simp) ?_;generalize A9 N (Ae es) [] (B.eraseIdx i++[E])=G at *;rw[show(B.eraseIdx i++[E]).length=B.length by simp[hel];omega,hcb]at hfull;subst hM;cases cb with
   |false =>
    have hne:¬G.length=B.length:=fun h=>by have:=hfull.1 h;cases this
    simp at hsc;(repeat refine AW.seq_k fun K hK=>?_);refine AW.rg ?_;simp[hne];try (refine hK _ rfl ?_;clear hK K)
    refine AW.no ?_ rfl;refine AW.skip ?_;try simp
    try (refine hK _ rfl ?_;clear hK K)
    (repeat refine AW.seq_k fun K hK=>?_);refine AW.rg ?_;simp[-Int.natCast_add,w1];try (refine hK _ rfl ?_;clear hK K)
    exact⟨o,i+1,⟨by omega,by rw[hsc];exact g2⟩,by omega,by rw[hsc],by rw[hsc];exact⟨rfl,rfl⟩⟩
   |true =>
    have hne:=hfull.2 rfl;simp at hsc;(repeat refine AW.seq_k fun K hK=>?_);refine AW.rg ?_;simp[hne];try (refine hK _ rfl ?_;clear hK K)
    refine AW.yes ?_ rfl;cases o with
    |none =>
     have hL:=g2 rfl;subst hL;simp only[Vq,lsM];(repeat refine AW.seq_k fun K hK=>?_);refine AW.rgR [83] ?_;simp;try (refine hK _ rfl ?_;clear hK K)
     refine⟨by unfold maxLen;omega,Ag.intro fun b6 _=>?_⟩;(repeat refine AW.seq_k fun K hK=>?_);refine AW.rg ?_;simp[-Int.natCast_add,w1];try (refine hK _ rfl ?_;clear hK K)
     exact⟨some b6,i+1,⟨by omega,by simp⟩,by omega,by rw[hsc];rfl,by rw[hsc];exact⟨rfl,rfl⟩⟩
    |some b0 =>
     simp only[Vq,lsM];(repeat refine AW.seq_k fun K hK=>?_);refine AW.rgR [83] ?_;simp;try (refine hK _ rfl ?_;clear hK K)
     refine⟨by omega,by unfold maxLen;omega,Ag.intro fun b6 _=>?_⟩;(repeat refine AW.seq_k fun K hK=>?_);refine AW.rg ?_;simp[-Int.natCast_add,w1];try (refine hK _ rfl ?_;clear hK K)
     exact⟨some b6,i+1,⟨by omega,by simp⟩,by omega,by rw[hsc,←D5],by rw[hsc];simp[Vq]⟩
  ·refine AW.exit ?_;try simp
   rw[show i=B.length by omega]at g2 ⊢;exact⟨o,g2,rfl,rfl⟩
 rintro o ho;have hcl:=Oi N es B E B.length;generalize Dn N es B E B.length=L at *;cases o with
 |none =>
  have hL:=ho rfl;subst hL;simp only[Vq,lsM];(repeat refine AW.seq_k fun K hK=>?_);refine AW.rgR [88] ?_;simp;try (refine hK _ rfl ?_;clear hK K)
  refine⟨by unfold maxLen;omega,Ag.intro fun b6 _=>?_⟩;refine hK _ rfl ?_;clear hK K;exact AW.ret (Ai [.sl 1 (An ([]++[E])),.int .i64 0] rfl ⟨Ll (by simp;rfl) (by simp),.same _,trivial⟩ ⟨hR0.symm,rfl⟩)
 |some b0 =>
  simp only[Vq,lsM];(repeat refine AW.seq_k fun K hK=>?_);refine AW.rgR [88] ?_;simp;try (refine hK _ rfl ?_;clear hK K)
  refine⟨by omega,by unfold maxLen;omega,Ag.intro fun b6 _=>?_⟩;rw[←D5];refine hK _ rfl ?_;clear hK K;exact AW.ret (Ai [.sl 1 (An (L++[E])),.int .i64 0] rfl ⟨Ll (by simp) (by simp),.same _,trivial⟩ ⟨hR0.symm,rfl⟩)
end Go.Av
end
section
namespace Go.Av
open Go.Proofs Go.Lam
structure Lp (n bg bf bc:Nat) (es:List RE) (A l:List Nat) (z:PSt):Prop where
 game:C5 z.M n bg bf bc es z.fl z.bs z.cl
 inv:Inv n (Ae es) A (D6 z.fl) (C4 z.cl)
 lst:Ny z.M 3 1 z.ov z.ob (An l)
 off:∀b∈z.ob,b ∉ A4 bg bf bc z.bs
 only:E1 z.M (z.ob++A4 bg bf bc z.bs)
theorem Lp.ones {n bg bf bc:Nat} {es:List RE} {A l:List Nat} {z:PSt} (h:Lp n bg bf bc es A l z):∀c y,z.M c=some y→∀v∈y.l,v.cells.all AV.one=true:=by
 intro c y hy v hv;rcases List.mem_append.1 (h.only c (by rw[hy];simp))with hc | hc
 ·rcases h.lst with⟨_,h2,_⟩|⟨b,h2,_,h3⟩
  ·rw[h2]at hc;cases hc
  ·rw[h2,List.mem_singleton]at hc;rw[hc,h3]at hy;cases hy;exact Cl _ v hv
 ·rcases A7.1 hc with rfl|rfl|rfl|⟨i,hi⟩
  ·rw[h.game.g]at hy;cases hy;simp only[Cn,List.mem_singleton]at hv;subst hv;rfl
  ·rw[h.game.f]at hy;cases hy;exact Cl _ v hv
  ·rw[h.game.c]at hy;cases hy;exact Ix _ _ v hv
  ·rw[h.game.row i c hi]at hy;cases hy;exact Cl _ v hv
theorem Lp.gam {n bg bf bc:Nat} {es:List RE} {A l:List Nat} {M:Aa} {fl:List Nat} {bs:List (Option Nat)} {cl:List (List Nat)} {ov:AV} {ob:List Nat} (h:Lp n bg bf bc es A l ⟨M,fl,bs,cl,ov,ob⟩):Ic n bg bf bc es A (M.only (A4 bg bf bc bs)) fl bs cl :=
 ⟨h.game.congr fun k hk=>Bv hk,fun k hk=>by
  rcases Decidable.em (k∈A4 bg bf bc bs)with hm|hm
  ·exact hm
  ·exact absurd (Bo hm) hk,h.inv⟩
theorem Lp.back {n bg bf bc:Nat} {es:List RE} {A A' l:List Nat} {M g':Aa} {fl fl':List Nat} {bs bs':List (Option Nat)} {cl cl':List (List Nat)} {ov:AV} {ob:List Nat} (g2:Lp n bg bf bc es A l ⟨M,fl,bs,cl,ov,ob⟩)
  (hG':Ic n bg bf bc es A' g' fl' bs' cl') (hnew:∀b,g' b≠none→b∈A4 bg bf bc bs∨M b=none):Lp n bg bf bc es A' l ⟨M.back (A4 bg bf bc bs) g',fl',bs',cl',ov,ob⟩:=by
 have hobM:∀b∈ob,M b≠none:=fun b hb=>by
  rcases g2.lst with⟨_,h2,_⟩|⟨b',h2,_,h3⟩
  ·simp only at h2;rw[h2]at hb;cases hb
  ·simp only at h2 h3;rw[h2,List.mem_singleton]at hb;rw[hb,h3];simp
 have hobN:∀b∈ob,b ∉ A4 bg bf bc bs':=fun b hb hm=>by
  rcases hnew b (hG'.mem.dom hm)with h|h
  ·exact g2.off b hb h
  ·exact hobM b hb h
 have hM2:∀k∈A4 bg bf bc bs',M.back (A4 bg bf bc bs) g' k=g' k:=fun k hk=>by
  unfold Aa.back;cases h:g' k with
  |some x=>rfl
  |none=>exact absurd h (hG'.mem.dom hk)
 have hM2o:∀b∈ob,M.back (A4 bg bf bc bs) g' b=M b:=fun b hb=>by
  have h:g' b=none:=by
   cases h:g' b with
   |none=>rfl
   |some x=>exact absurd (hG'.only b (by rw[h];simp)) (hobN b hb)
  unfold Aa.back;rw[h];exact if_neg (g2.off b hb)
 refine⟨hG'.mem.congr hM2,hG'.inv,g2.lst.keep hM2o,hobN,fun k hk=>?_⟩;simp only at hk;unfold Aa.back at hk;cases h:g' k with
 |some x=>exact List.mem_append_right _ (hG'.only k (by rw[h];simp))
 |none =>
  rw[h]at hk;simp only at hk;by_cases hm:k∈A4 bg bf bc bs
  ·rw[if_pos hm]at hk;exact absurd rfl hk
  ·rw[if_neg hm]at hk;rcases List.mem_append.1 (g2.only k hk)with h' | h'
   ·exact List.mem_append_left _ h'
   ·exact absurd h' hm
theorem Lp.push0 {n bg bf bc:Nat} {es:List RE} {A:List Nat} {M:Aa} {fl:List Nat} {bs:List (Option Nat)} {cl:List (List Nat)} {ov:AV} {b6 i:Nat} (h:Lp n bg bf bc es A [] ⟨M,fl,bs,cl,ov,[]⟩) (h6:M b6=none) :
  Lp n bg bf bc es A [i] ⟨M.set b6 ⟨3,1,An [i]⟩,fl,bs,cl,.osl b6 1 0 1,[b6]⟩:=by
 have hb6:b6 ∉ A4 bg bf bc bs:=fun hm=>h.game.dom hm h6;refine⟨h.game.congr fun k hk=>Aa.set_other _ _ (fun e=>hb6 (e ▸ hk)),h.inv,.inr ⟨b6,rfl,rfl,Aa.set_same _ _ _⟩,fun b hb=>by rw[List.mem_singleton]at hb;rw[hb];exact hb6,fun k hk=>?_⟩;by_cases e:k=b6
 ·rw[e];simp
 ·simp only at hk;rw[Aa.set_other _ _ e]at hk;have:=h.only k hk;simp only[List.nil_append]at this;exact List.mem_append_right _ this
theorem Lp.push1 {n bg bf bc:Nat} {es:List RE} {A l:List Nat} {M:Aa} {fl:List Nat} {bs:List (Option Nat)} {cl:List (List Nat)} {ov:AV} {b0 b6 i:Nat} (h:Lp n bg bf bc es A l ⟨M,fl,bs,cl,ov,[b0]⟩) (h6:M.del b0 b6=none) :
  Lp n bg bf bc es A (l++[i]) ⟨(M.del b0).set b6 ⟨3,1,An l++[.int .i64 (i:Nat)]⟩,fl,bs,cl,.osl b6 1 0 (l.length+1),[b6]⟩:=by
 have hb0:b0 ∉ A4 bg bf bc bs:=h.off b0 (by simp);have hb6:b6 ∉ A4 bg bf bc bs:=fun hm=>by
  by_cases e:b6=b0
  ·exact hb0 (e ▸ hm)
  ·rw[Aa.del_other _ e]at h6;exact h.game.dom hm h6
 refine⟨h.game.congr fun k hk=>by simp only;rw[Aa.set_other _ _ (fun e=>hb6 (by rw[←e];exact hk)),Aa.del_other _ (fun e=>hb0 (by rw[←e];exact hk))],h.inv,.inr ⟨b6,rfl,by simp,by simp only;rw[Aa.set_same,D5]⟩,fun b hb=>by rw[List.mem_singleton]at hb;rw[hb];exact hb6,fun k hk=>?_⟩;by_cases e:k=b6
 ·rw[e];simp
 ·simp only at hk;rw[Aa.set_other _ _ e]at hk;by_cases e':k=b0
  ·rw[e',Aa.del_same]at hk;exact absurd rfl hk
  ·rw[Aa.del_other _ e']at hk;have:=h.only k hk;simp only[List.singleton_append,List.mem_cons]at this;exact List.mem_append_right _ (this.resolve_left e')
def Qw4 (n bg bf bc:Nat) (es:List RE) (A:List Nat) (e:Nat) (v:AV) (M':Aa):Prop :=
 v=.sl 1 (An (Gw n (A.map (Ae es)) (Ae es e)))∧∃(fl:List Nat) (bs:List (Option Nat)) (cl:List (List Nat)),Ic n bg bf bc es A M' fl bs cl
def Xg (n:Nat) (L:List Ed) (e:Ed) (i:Nat):List Nat:=(List.range i).filter (Gu n L e)
theorem Qfk (n:Nat) (L:List Ed) (e:Ed) (i:Nat):Xg n L e (i+1)=Xg n L e i++if Gu n L e i=true then [i] else []:=by
 unfold Xg;rw[List.range_succ,List.filter_append];cases h:Gu n L e i<;>simp[h]
theorem Qhu (n:Nat) (L:List Ed) (e:Ed) (i:Nat):(Xg n L e i).length≤i:=by
 have:=List.length_filter_le (Gu n L e) (List.range i);simpa[Xg]using this
theorem Wf (n bg bf bc:Nat) (es:List RE) (A:List Nat) (hn:n≤12) (hes:Ln n es) (hA:∀e∈A,e<es.length) (hsp:A0 n (A.map (Ae es))) (M:Aa) (fl:List Nat) (bs:List (Option Nat)) (cl:List (List Nat)) (e:Nat)
  (hG:Ic n bg bf bc es A M fl bs cl) (heA:e∈A) :
  Aj Tryz.prog 53 [.ptr bg 3 0 0,.int .i64 (e:Nat)] M (Qw4 n bg bf bc es A e):=by
 have he:e<es.length:=hA e heA;obtain⟨e1,e2,e3⟩:=hes e he;have hL:∀e∈A.map (Ae es),Cm n e:=fun e he=>by
  obtain⟨k,hk,rfl⟩:=List.mem_map.1 he;exact(hes k (hA k hk)).2.2
 have hT0:=Hn hL hsp (List.mem_map.2 ⟨e,heA,rfl⟩);have hwa:Gu n (A.map (Ae es)) (Ae es e) (Ae es e).1=true:=(Ih hL e3.1 e3).2 ⟨_,hT0,by simp[ins,Eh],by simp[Eh]⟩;have hwb:Gu n (A.map (Ae es)) (Ae es e) (Ae es e).2=true:=(Ih hL e3.2.1 e3).2 ⟨_,hT0,by simp[ins,Eh],by simp[Eh]⟩;have hbd:∀(M:Aa) (fl:List Nat) (bs:List (Option Nat)) (cl:List (List Nat)) (x:Nat),Ic n bg bf bc es A M fl bs cl→x<n→x≠(Ae es e).1→x≠(Ae es e).2→_:=fun M fl bs cl x h h1 h2 h3=>Qay n bg bf bc es A hn hes hA hsp M fl bs cl e x h heA h1 h2 h3
 obtain⟨a,ha⟩:∃a,(Ae es e).1=a:=⟨_,rfl⟩;obtain⟨b,hb⟩:∃b,(Ae es e).2=b:=⟨_,rfl⟩;have q1:=hG.mem.g;have q2:=hG.mem.f;have q4:=hG.mem.fll;unfold Cn at q1;refine Ad Tryz.func53 rfl rfl 54 rfl (Nat.le_of_ble_eq_true rfl) ?_;(repeat refine AW.seq_k fun K hK=>?_);refine AW.rg ?_;simp[Ak];try (refine hK _ rfl ?_;clear hK K)
 (repeat refine AW.seq_k fun K hK=>?_);refine AW.rdL [bg] [0,1,2,3,4,5,6,7,8,9,10,11,12,13,14,15,16,17] Ds (by simp[q1]) ?_;simp[q1,he,Bs,e1,e2];try (refine hK _ rfl ?_;clear hK K)
 simp only[ha,hb]at hbd hwa hwb ⊢;have han:a<n:=ha ▸ e3.1;have hbn:b<n:=hb ▸ e3.2.1;(repeat refine AW.seq_k fun K hK=>?_);refine AW.rg ?_;simp;try (refine hK _ rfl ?_;clear hK K)
 refine AW.seq_ex (ι:=PSt) (fun z=>[(7,z.ov)]) (fun z=>z.M) (fun z=>Lp n bg bf bc es A (Xg n (A.map (Ae es)) (Ae es e) n) z) ?_ ?_
 ·(repeat refine AW.seq_k fun K hK=>?_);refine AW.rg ?_;simp[q1,q4];try (refine hK _ rfl ?_;clear hK K)
  refine AW.block (AW.loopS (ι:=PSt × Nat) (fun z=>[(0,.ptr bg 3 0 0),(5,.int .i64 (a:Nat)),(6,.int .i64 (b:Nat)),(7,z.1.ov),(29,.int .i64 (n:Nat)),(30,.int .i64 (z.2:Nat))]) (fun z=>z.1.M)
   (fun z=>z.2≤n∧Lp n bg bf bc es A (Xg n (A.map (Ae es)) (Ae es e) z.2) z.1) (fun z=>n-z.2) (⟨M,fl,bs,cl,.nil,[]⟩,0)
   ⟨by simp,⟨hG.mem,hG.inv,.inl ⟨rfl,rfl,rfl⟩,by simp,hG.only⟩⟩ rfl (by simp) ?_)
  rintro⟨⟨M,fl,bs,cl,ov,ob⟩,i⟩ ⟨g1,g2⟩;simp only at g1 g2;(repeat refine AW.seq_k fun K hK=>?_);refine AW.rg ?_;simp;try (refine hK _ rfl ?_;clear hK K)
  (repeat refine AW.seq ?_);refine AW.cs (fun hi=>?_) (fun hi=>?_) rfl<;>(try simp at hi)
  ·refine AW.skip ?_;try simp
   try (refine hK _ rfl ?_;clear hK K)
   have w1:=Aq (i+1) (by omega);have hsc:=Qfk n (A.map (Ae es)) (Ae es e) i;have hcl:=Qhu n (A.map (Ae es)) (Ae es e) i;generalize Xg n (A.map (Ae es)) (Ae es e) i=l at *;(repeat refine AW.seq ?_);refine AW.block ?_;(repeat refine AW.seq_k fun K hK=>?_);refine AW.rg ?_;simp;try (refine hK _ rfl ?_;clear hK K)
   refine AW.seq_ex (ι:=PSt) (fun z=>[(0,.ptr bg 3 0 0),(5,.int .i64 (a:Nat)),(6,.int .i64 (b:Nat)),(7,z.ov),(8,.int .i64 (i:Nat)),(29,.int .i64 (n:Nat)),(30,.int .i64 (i:Nat)),(47,.bool (Gu n (A.map (Ae es)) (Ae es e) i))]) (fun z=>z.M) (fun z=>Lp n bg bf bc es A l z) ?_ ?_
   ·by_cases hia:i=a
    ·rw[hia,hwa];(repeat refine AW.seq_k fun K hK=>?_);refine AW.rg ?_;simp;try (refine hK _ rfl ?_;clear hK K)
     exact⟨_,g2,rfl,rfl⟩
    by_cases hib:i=b
    ·rw[hib,hwb];(repeat refine AW.seq_k fun K hK=>?_);refine AW.rg ?_;simp[hib ▸ hia];try (refine hK _ rfl ?_;clear hK K)
     exact⟨_,g2,rfl,rfl⟩
    (repeat refine AW.seq_k fun K hK=>?_);refine AW.rg ?_;simp[hia,hib];try (refine hK _ rfl ?_;clear hK K)
    refine Ac.hand (A4 bg bf bc bs) (fun _ _ h=>h) (hbd _ fl bs cl i g2.gam hi hia hib) ?_;rintro _ g' ⟨rfl,fl',bs',cl',hG'⟩ hnew;simp;exact⟨_,g2.back hG' (fun b h=>(hnew b h).imp id (·.1)),rfl,rfl⟩
   rintro⟨M,fl,bs,cl,ov,ob⟩ hz;simp only;cases hwi:Gu n (A.map (Ae es)) (Ae es e) i with
   |false =>
    rw[hwi]at hsc;simp at hsc;refine AW.no ?_ rfl;refine AW.skip ?_;try simp
    try (refine hK _ rfl ?_;clear hK K)
    (repeat refine AW.seq_k fun K hK=>?_);refine AW.rg ?_;simp[-Int.natCast_add,w1];try (refine hK _ rfl ?_;clear hK K)
    exact⟨_,i+1,⟨by omega,by rw[hsc];exact hz⟩,by omega,rfl,rfl,rfl⟩
   |true =>
    rw[hwi]at hsc;simp at hsc;refine AW.yes ?_ rfl;rcases hz.lst with⟨l1,l2,l3⟩ | ⟨b0,l2,l3,l4⟩
    ·simp only at l1 l2 l3;have hl0:l=[]:=by unfold An at l1;exact List.map_eq_nil_iff.1 l1
     subst l2;subst l3;subst hl0;(repeat refine AW.seq_k fun K hK=>?_);refine AW.rgR [50] ?_;simp;try (refine hK _ rfl ?_;clear hK K)
     refine⟨by unfold maxLen;omega,Ag.intro fun b6 h6=>?_⟩;(repeat refine AW.seq_k fun K hK=>?_);refine AW.rg ?_;simp[-Int.natCast_add,w1];try (refine hK _ rfl ?_;clear hK K)
     exact⟨_,i+1,⟨by omega,by rw[hsc];exact hz.push0 h6⟩,by omega,rfl,rfl,rfl⟩
    ·simp only at l2 l3 l4;subst l2;subst l3;(repeat refine AW.seq_k fun K hK=>?_);refine AW.rgR [50] ?_;simp[l4];try (refine hK _ rfl ?_;clear hK K)
     refine⟨by omega,by unfold maxLen;omega,Ag.intro fun b6 h6=>?_⟩;(repeat refine AW.seq_k fun K hK=>?_);refine AW.rg ?_;simp[-Int.natCast_add,w1];try (refine hK _ rfl ?_;clear hK K)
     have:=hz.push1 (i:=i) h6;exact⟨_,i+1,⟨by omega,by rw[hsc];exact this⟩,by omega,rfl,rfl,rfl⟩
  ·refine AW.exit ?_;try simp
   rw[show i=n by omega]at g2;exact⟨_,g2,rfl,rfl⟩
 rintro⟨M,fl,bs,cl,ov,ob⟩ hz;simp only;(repeat refine AW.seq_k fun K hK=>?_);refine AW.rg ?_;simp;try (refine hK _ rfl ?_;clear hK K)
 have hone:=hz.ones;have hview:=hz.lst.view (M':=M.only (A4 bg bf bc bs)) (fun b hb=>Bo (hz.off b hb));refine AW.ret ⟨[ov],rfl,.sl 1 (An (Gw n (A.map (Ae es)) (Ae es e))),M.only (A4 bg bf bc bs),Bj.sub fun b x hb=>?_,hview,rfl,fl,bs,cl,hz.game.congr fun k hk=>Bv hk,fun k hk=>?_,hz.inv⟩
 ·by_cases hm:b∈A4 bg bf bc bs
  ·rw[Bv hm]at hb;exact⟨hb,hone b x hb⟩
  ·rw[Bo hm]at hb;cases hb
 ·rcases Decidable.em (k∈A4 bg bf bc bs)with hm|hm
  ·exact hm
  ·exact absurd (Bo hm) hk
end Go.Av
end
section
namespace Go.Av
open Go.Proofs Go.Lam
def Fx (W:List (List Nat)):List AV:=W.map fun l=>.sl 1 (An l)
@[simp] theorem Tb (W:List (List Nat)):(Fx W).length=W.length:=by simp[Fx]
@[simp] theorem Qcr {W:List (List Nat)} {i:Nat} (h:i<(Fx W).length):(Fx W)[i]=.sl 1 (An (W[i]'(by simpa using h))):=by simp[Fx]
theorem Qu (W:List (List Nat)):∀v∈Fx W,v.cells.all AV.one=true:=by
 intro v hv;obtain⟨x,_,rfl⟩:=List.mem_map.1 hv;rfl
def Tu (a b:Nat):Int:=if a<b then -1 else if b<a then 1 else 0
def Kd:List Nat→List Nat→Int
 |[],[]=>0
 |[],_::_=>-1
 |_::_,[]=>1
 |a::l,b::m=>if a=b then Kd l m else if a<b then -1 else 1
theorem Qcy:∀(x y:List Nat),Kd x y<0↔Bq x y=true
 |[],[]=>by simp[Kd,Bq]
 |[],_::_=>by simp[Kd,Bq]
 |_::_,[]=>by simp[Kd,Bq]
 |a::l,b::m=>by
  unfold Kd Bq;by_cases h:a=b
  ·rw[if_pos h,if_pos h];exact Qcy l m
  ·rw[if_neg h,if_neg h];by_cases h2:a<b<;>simp[h2]
theorem Rw (a:Nat):Aj Tryz.prog 136 [.int .i64 (a:Nat)] Aa.emp fun v m=>v=.bool false∧m=Aa.emp:=by
 refine Ad Tryz.func136 rfl rfl 6 rfl (Nat.le_of_ble_eq_true rfl) ?_;(repeat refine AW.seq_k fun K hK=>?_);refine AW.rg ?_;simp[Ak];try (refine hK _ rfl ?_;clear hK K)
 (repeat refine AW.seq_k fun K hK=>?_);refine AW.rg ?_;simp;try (refine hK _ rfl ?_;clear hK K)
 exact AW.ret (Af rfl _ (.same _) ⟨rfl,rfl⟩)
theorem Qd2 (a b:Nat):Aj Tryz.prog 94 [.int .i64 (a:Nat),.int .i64 (b:Nat)] Aa.emp fun v m=>v=.int .i64 (Tu a b)∧m=Aa.emp:=by
 refine Ad Tryz.func94 rfl rfl 20 rfl (Nat.le_of_ble_eq_true rfl) ?_;(repeat refine AW.seq_k fun K hK=>?_);refine AW.rg ?_;simp[Ak];try (refine hK _ rfl ?_;clear hK K)
 (repeat refine AW.seq_k fun K hK=>?_);refine AW.rg ?_;simp;try (refine hK _ rfl ?_;clear hK K)
 refine Ac.val (Rw a) ?_;simp;try (refine hK _ rfl ?_;clear hK K)
 (repeat refine AW.seq_k fun K hK=>?_);refine AW.rg ?_;simp;try (refine hK _ rfl ?_;clear hK K)
 refine Ac.val (Rw b) ?_;simp;try (refine hK _ rfl ?_;clear hK K)
 (repeat refine AW.seq_k fun K hK=>?_);refine AW.rg ?_;simp;try (refine hK _ rfl ?_;clear hK K)
 refine AW.no ?_ rfl;refine AW.skip ?_;try simp
 try (refine hK _ rfl ?_;clear hK K)
 (repeat refine AW.seq_k fun K hK=>?_);refine AW.rg ?_;simp;try (refine hK _ rfl ?_;clear hK K)
 refine AW.no ?_ rfl;refine AW.skip ?_;try simp
 try (refine hK _ rfl ?_;clear hK K)
 by_cases h1:a<b
 ·(repeat refine AW.seq_k fun K hK=>?_);refine AW.rg ?_;simp[h1];try (refine hK _ rfl ?_;clear hK K)
  refine AW.yes ?_ rfl;(repeat refine AW.seq_k fun K hK=>?_);refine AW.rg ?_;simp;try (refine hK _ rfl ?_;clear hK K)
  exact AW.ret (Af rfl _ (.same _) ⟨by unfold Tu;rw[if_pos h1];rfl,rfl⟩)
 have h1':b≤a:=by omega
 (repeat refine AW.seq_k fun K hK=>?_);refine AW.rg ?_;simp[h1];try (refine hK _ rfl ?_;clear hK K)
 refine AW.no ?_ rfl;refine AW.skip ?_;try simp
 try (refine hK _ rfl ?_;clear hK K)
 by_cases h2:b<a
 ·(repeat refine AW.seq_k fun K hK=>?_);refine AW.rg ?_;simp[h2];try (refine hK _ rfl ?_;clear hK K)
  refine AW.yes ?_ rfl;(repeat refine AW.seq_k fun K hK=>?_);refine AW.rg ?_;simp;try (refine hK _ rfl ?_;clear hK K)
  exact AW.ret (Af rfl _ (.same _) ⟨by unfold Tu;rw[if_neg h1,if_pos h2];rfl,rfl⟩)
 (repeat refine AW.seq_k fun K hK=>?_);refine AW.rg ?_;simp[h2];try (refine hK _ rfl ?_;clear hK K)
 refine AW.no ?_ rfl;refine AW.skip ?_;try simp
 try (refine hK _ rfl ?_;clear hK K)
 (repeat refine AW.seq_k fun K hK=>?_);refine AW.rg ?_;simp;try (refine hK _ rfl ?_;clear hK K)
 exact AW.ret (Af rfl _ (.same _) ⟨by unfold Tu;rw[if_neg h1,if_neg h2];rfl,rfl⟩)
theorem T2 (x y:List Nat) (hx:x.length<2^40) (hy:y.length<2^40):Aj Tryz.prog 58 [.sl 1 (An x),.sl 1 (An y)] Aa.emp fun v m=>v=.int .i64 (Kd x y)∧m=Aa.emp:=by
 refine Ad Tryz.func58 rfl rfl 36 rfl (Nat.le_of_ble_eq_true rfl) ?_;(repeat refine AW.seq_k fun K hK=>?_);refine AW.rg ?_;simp[Ak];try (refine hK _ rfl ?_;clear hK K)
 refine AW.seq_ex (ι:=Unit) (fun _=>[(0,.sl 1 (An x)),(1,.sl 1 (An y))]) (fun _=>Aa.emp) (fun _=>x.length≤y.length∧Kd x y=Kd [] (y.drop x.length)) ?_ ?_
 ·(repeat refine AW.seq_k fun K hK=>?_);refine AW.rg ?_;simp;try (refine hK _ rfl ?_;clear hK K)
  refine AW.block (AW.loopS (ι:=Nat) (fun i=>[(0,.sl 1 (An x)),(1,.sl 1 (An y)),(9,.sl 1 (An x)),(10,.int .i64 (x.length:Nat)),(11,.int .i64 (i:Nat))]) (fun i=>Aa.emp)
   (fun i=>i≤x.length∧i≤y.length∧Kd x y=Kd (x.drop i) (y.drop i)) (fun i=>x.length-i) 0 ⟨by simp,by simp,by simp⟩ rfl (by simp) ?_)
  rintro i ⟨g1,g2,g3⟩;(repeat refine AW.seq_k fun K hK=>?_);refine AW.rg ?_;simp;try (refine hK _ rfl ?_;clear hK K)
  (repeat refine AW.seq ?_);refine AW.cs (fun hi=>?_) (fun hi=>?_) rfl<;>(try simp at hi)
  ·refine AW.skip ?_;try simp
   try (refine hK _ rfl ?_;clear hK K)
   have w1:=Aq (i+1) (by omega);have hdx:x.drop i=x[i]::x.drop (i+1):=List.drop_eq_getElem_cons hi;rw[hdx]at g3;(repeat refine AW.seq ?_);refine AW.block ?_;(repeat refine AW.seq_k fun K hK=>?_);refine AW.rg ?_;simp[hi];try (refine hK _ rfl ?_;clear hK K)
   (repeat refine AW.seq_k fun K hK=>?_);refine AW.rg ?_;simp;try (refine hK _ rfl ?_;clear hK K)
   (repeat refine AW.seq ?_);refine AW.cs (fun hy2=>?_) (fun hy2=>?_) rfl<;>(try simp at hy2)
   ·rw[List.drop_of_length_le hy2]at g3;(repeat refine AW.seq_k fun K hK=>?_);refine AW.rg ?_;simp;try (refine hK _ rfl ?_;clear hK K)
    exact AW.ret (Af rfl _ (.same _) ⟨by rw[g3];rfl,rfl⟩)
   ·refine AW.skip ?_;try simp
    try (refine hK _ rfl ?_;clear hK K)
    have hdy:y.drop i=y[i]::y.drop (i+1):=List.drop_eq_getElem_cons hy2;rw[hdy]at g3;have hcm:=Qd2 x[i] y[i];obtain⟨a,ha⟩:∃a,x[i]=a:=⟨_,rfl⟩;obtain⟨b,hb⟩:∃b,y[i]=b:=⟨_,rfl⟩;rw[ha,hb]at g3 hcm;simp only[ha];(repeat refine AW.seq_k fun K hK=>?_);refine AW.rg ?_;simp[hy2,hb];try (refine hK _ rfl ?_;clear hK K)
    (repeat refine AW.seq_k fun K hK=>?_);refine AW.rg ?_;simp;try (refine hK _ rfl ?_;clear hK K)
    refine Ac.val hcm ?_;simp;try (refine hK _ rfl ?_;clear hK K)
    by_cases hab:a=b
    ·have hc0:Tu a b=0:=by unfold Tu;rw[if_neg (by omega),if_neg (by omega)]
     have g3':Kd x y=Kd (x.drop (i+1)) (y.drop (i+1)):=by rw[g3,Kd,if_pos hab]
     (repeat refine AW.seq_k fun K hK=>?_);refine AW.rg ?_;simp[hc0];try (refine hK _ rfl ?_;clear hK K)
     refine AW.no ?_ rfl;refine AW.skip ?_;try simp
     try (refine hK _ rfl ?_;clear hK K)
     (repeat refine AW.seq_k fun K hK=>?_);refine AW.rg ?_;simp[-Int.natCast_add,w1];try (refine hK _ rfl ?_;clear hK K)
     exact⟨⟨by omega,by omega,g3'⟩,by omega⟩
    ·have hcv:Tu a b=Kd x y:=by
      rw[g3,Kd,if_neg hab];unfold Tu;by_cases h1:a<b
      ·rw[if_pos h1,if_pos h1]
      ·rw[if_neg h1,if_neg h1,if_pos (by omega)]
     have hc0:¬Tu a b=0:=by
      unfold Tu;by_cases h1:a<b
      ·rw[if_pos h1];decide
      ·rw[if_neg h1,if_pos (by omega)];decide
     (repeat refine AW.seq_k fun K hK=>?_);refine AW.rg ?_;simp[hc0];try (refine hK _ rfl ?_;clear hK K)
     refine AW.yes ?_ rfl;(repeat refine AW.seq_k fun K hK=>?_);refine AW.rg ?_;simp;try (refine hK _ rfl ?_;clear hK K)
     exact AW.ret (Af rfl _ (.same _) ⟨by rw[←hcv];rfl,rfl⟩)
  ·refine AW.exit ?_;try simp
   have:i=x.length:=by omega
   subst this;rw[List.drop_length]at g3;exact⟨g2,g3⟩
 ·rintro _ ⟨h1,h2⟩;(repeat refine AW.seq_k fun K hK=>?_);refine AW.rg ?_;simp;try (refine hK _ rfl ?_;clear hK K)
  (repeat refine AW.seq ?_);refine AW.cs (fun h3=>?_) (fun h3=>?_) rfl<;>(try simp at h3)
  ·(repeat refine AW.seq_k fun K hK=>?_);refine AW.rg ?_;simp;try (refine hK _ rfl ?_;clear hK K)
   have hd:∃c t,y.drop x.length=c::t:=⟨_,_,List.drop_eq_getElem_cons h3⟩;obtain⟨c,t,hd⟩:=hd;rw[hd]at h2;exact AW.ret (Af rfl _ (.same _) ⟨by rw[h2];rfl,rfl⟩)
  ·refine AW.skip ?_;try simp
   try (refine hK _ rfl ?_;clear hK K)
   (repeat refine AW.seq_k fun K hK=>?_);refine AW.rg ?_;simp;try (refine hK _ rfl ?_;clear hK K)
   rw[List.drop_of_length_le h3]at h2;exact AW.ret (Af rfl _ (.same _) ⟨by rw[h2];rfl,rfl⟩)
def Fl (W:List (List Nat)):Prop:=W.Pairwise fun x y=>Bq y x=false
theorem Qj {a b c:List Nat} (h1:Bq b a=false) (h2:Bq c b=false):Bq c a=false:=by
 cases h:Bq c a with
 |false=>rfl
 |true =>
  rcases Gz a b with e|e|e
  ·subst e;rw[h]at h2;cases h2
  ·rw[Fm h e]at h2;cases h2
  ·rw[e]at h1;cases h1
theorem V0 {a b:List Nat} (h:Bq a b=true):Bq b a=false:=by
 cases h':Bq b a with
 |false=>rfl
 |true=>have:=Fm h h';rw[Hq]at this;cases this
theorem Qcb {p1 p2:List (List Nat)} {x:List Nat} (hs:Fl (p1++p2)) (h1:∀y∈p1.getLast?,Bq x y=false) (h2:∀y∈p2,Bq x y=true):Fl (p1++x::p2):=by
 unfold Fl at *;rw[List.pairwise_append]at hs ⊢;obtain⟨s1,s2,s3⟩:=hs;refine⟨s1,List.pairwise_cons.2 ⟨fun y hy=>V0 (h2 y hy),s2⟩,fun y hy z hz=>?_⟩;rcases List.mem_cons.1 hz with rfl | hz
 ·rcases List.eq_nil_or_concat p1 with rfl|⟨p,l,rfl⟩
  ·cases hy
  ·have hl:=h1 l (by simp);rw[List.concat_eq_append]at s1 hy;rcases List.mem_append.1 hy with hy | hy
   ·have:=(List.pairwise_append.1 s1).2.2 y hy l (by simp);exact Qj this hl
   ·simp at hy;subst hy;exact hl
 ·exact s3 y hy z hz
theorem Qgd (p1:List (List Nat)) (y x:List Nat) (r:List (List Nat)):((Fx (p1++y::x::r)).set (p1.length+1) (.sl 1 (An y))).set p1.length (.sl 1 (An x))=Fx (p1++x::y::r):=by
 unfold Fx;simp[List.set_append]
theorem Qat (b:Nat) (W:List (List Nat)) (hl:W.length≤12) (hw:∀x∈W,x.length<2^40):Aj Tryz.prog 126 [.osl b 1 0 W.length,.int .i64 0,.int .i64 (W.length:Nat),.fn 58 []] (Aa.emp.set b ⟨25,1,Fx W⟩) fun v m=>∃W',W'.Perm W∧Fl W'∧v=.tup []∧m=Aa.emp.set b ⟨25,1,Fx W'⟩:=by
 have hone:∀(W:List (List Nat)) c y,Aa.emp.set b ⟨25,1,Fx W⟩ c=some y→∀v∈y.l,v.cells.all AV.one=true:=by
  intro W c y hy v hv;simp only[A3,Az]at hy;split at hy
  ·cases hy;exact Qu _ v hv
  ·cases hy
 refine Ad Tryz.func126 rfl rfl 53 rfl (Nat.le_of_ble_eq_true rfl) ?_;have w0:IntKind.i64.wrap 1=1:=rfl;(repeat refine AW.seq_k fun K hK=>?_);refine AW.rg ?_;simp[Ak,w0];try (refine hK _ rfl ?_;clear hK K)
 cases W with
 |nil =>
  refine AW.block (AW.loopS (ι:=Unit) (fun _=>[(2,.int .i64 0),(8,.int .i64 1)]) (fun _=>Aa.emp.set b ⟨25,1,Fx []⟩) (fun _=>True) (fun _=>0) () trivial rfl (by simp) ?_);intro _ _;(repeat refine AW.seq_k fun K hK=>?_);refine AW.rg ?_;simp;try (refine hK _ rfl ?_;clear hK K)
  (repeat refine AW.seq ?_);refine AW.no ?_ rfl;refine AW.exit ?_;try simp
  refine So rfl (hone []) ?_;simp[Fl,oneOrTup]
 |cons x0 t0 =>
  obtain⟨W,hW⟩:∃W,x0::t0=W:=⟨_,rfl⟩;rw[hW]at hl hw ⊢;refine AW.block (AW.loopS (ι:=List (List Nat) × List (List Nat)) (fun z=>[(0,.osl b 1 0 W.length),(1,.int .i64 0),(2,.int .i64 (W.length:Nat)),(3,.fn 58 []),(8,.int .i64 (z.1.length:Nat))]) (fun z=>Aa.emp.set b ⟨25,1,Fx (z.1++z.2)⟩)
   (fun z=>z.1≠[]∧(z.1++z.2).Perm W∧Fl z.1) (fun z=>z.2.length) ([x0],t0) ⟨by simp,by rw[←hW];exact .refl _,by simp[Fl]⟩ (by rw[←hW];rfl) (by simp) ?_)
  rintro⟨pre,post⟩ ⟨g1,g2,g3⟩;simp only at g1 g2 g3;have hlen:=g2.length_eq;rw[List.length_append]at hlen;(repeat refine AW.seq_k fun K hK=>?_);refine AW.rg ?_;simp;try (refine hK _ rfl ?_;clear hK K)
  (repeat refine AW.seq ?_);refine AW.cs (fun hi=>?_) (fun hi=>?_) rfl<;>(try simp at hi)
  ·refine AW.skip ?_;try simp
   try (refine hK _ rfl ?_;clear hK K)
   cases post with
   |nil=>simp at hlen;omega
   |cons x post =>
   simp only[List.length_cons]at hlen;have hxw:x.length<2^40:=hw x (g2.mem_iff.1 (by simp));(repeat refine AW.seq ?_);refine AW.block ?_;(repeat refine AW.seq_k fun K hK=>?_);refine AW.rg ?_;simp;try (refine hK _ rfl ?_;clear hK K)
   have w1:=Aq (pre.length+1) (by omega);refine AW.block (AW.loopS (ι:=List (List Nat) × List (List Nat)) (fun z=>[(0,.osl b 1 0 W.length),(1,.int .i64 0),(2,.int .i64 (W.length:Nat)),(3,.fn 58 []),(8,.int .i64 (pre.length:Nat)),(9,.int .i64 (z.1.length:Nat))]) (fun z=>Aa.emp.set b ⟨25,1,Fx (z.1++x::z.2++post)⟩)
    (fun z=>z.1++z.2=pre∧∀y∈z.2,Bq x y=true) (fun z=>z.1.length) (pre,[]) ⟨by simp,by simp⟩ (by simp) (by simp) ?_)
   rintro⟨p1,p2⟩ ⟨k1,k2⟩;simp only at k1 k2;have hL:(p1++x::p2++post).length=W.length:=by rw[←k1]at hlen;simp at hlen ⊢;omega
   have hfin:(∀y∈p1.getLast?,Bq x y=false)→((p1++x::p2)≠[]∧((p1++x::p2)++post).Perm W∧Fl (p1++x::p2))∧(p1++x::p2).length=pre.length+1:=fun h=>by
    refine⟨⟨by simp,?_,Qcb (by rw[k1];exact g3) h k2⟩,by rw[←k1];simp;omega⟩;refine List.Perm.trans ?_ g2;rw[←k1];simp only[List.append_assoc,List.cons_append];exact List.Perm.append_left _ (List.perm_middle (l₁:=p2) (l₂:=post)).symm
   rcases List.eq_nil_or_concat p1 with rfl|⟨p,y,rfl⟩
   ·obtain⟨f1,f2⟩:=hfin (by simp);simp only[List.nil_append]at f1 f2 ⊢;generalize hLv:Fx (x::p2++post)=Lv;(repeat refine AW.seq_k fun K hK=>?_);refine AW.rdL [b] [0,1,2,3,4,5,6,7,8,9,10,11,12,13,14,15,16] Ds (by simp) ?_;simp;try (refine hK _ rfl ?_;clear hK K)
    refine AW.no ?_ rfl;refine AW.exit ?_;try simp
    (repeat refine AW.seq_k fun K hK=>?_);refine AW.rg ?_;simp[-Int.natCast_add,w1];try (refine hK _ rfl ?_;clear hK K)
    refine⟨x::p2,post,f1,by simp,by rw[←hLv],by rw[f2]⟩
   ·rw[List.concat_eq_append]at *;have hyw:y.length<2^40:=hw y (g2.mem_iff.1 (by rw[←k1];simp));have hcm:=T2 x y hxw hyw;have hcl:=Qcy x y;have e1:(p++[y])++x::p2++post=p++y::x::(p2++post):=by simp
    have hpl:(p++[y]).length=p.length+1:=by simp
    simp only[hpl]at hL ⊢;rw[e1]at hL ⊢;have hsw:=Qgd p y x (p2++post);have hx1:∀h:p.length+1<(Fx (p++y::x::(p2++post))).length,(Fx (p++y::x::(p2++post)))[p.length+1]=.sl 1 (An x):=fun h=>by
     rw[Qcr];congr 2;simp[List.getElem_append]
    have hx2:∀h:p.length<(Fx (p++y::x::(p2++post))).length,(Fx (p++y::x::(p2++post)))[p.length]=.sl 1 (An y):=fun h=>by
     rw[Qcr];congr 2;simp[List.getElem_append]
    have hLl:(Fx (p++y::x::(p2++post))).length=W.length:=by rw[Tb,hL]
    have hpW:p.length+1<W.length:=by rw[←hL];simp
    have hpW2:p.length<W.length:=by omega
    have w2:IntKind.i64.wrap (((p.length+1:Nat):Int)-1)=(p.length:Int):=by rw[Nf (by omega)];omega
    generalize hLv:Fx (p++y::x::(p2++post))=Lv at hx1 hx2 hLl hsw ⊢;(repeat refine AW.seq_k fun K hK=>?_);refine AW.rdL [b] [0,1,2,3,4,5,6,7,8,9,10,11,12,13,14,15,16] Ds (by simp[-Int.natCast_add]) ?_;simp[-Int.natCast_add,w2,hpW,hpW2,hLl,hx1,hx2];refine⟨58,_,⟨rfl,rfl⟩,?_⟩;refine Ac.val hcm ?_;simp[-Int.natCast_add];try (refine hK _ rfl ?_;clear hK K)
    cases hbf:Bq x y with
    |false =>
     have hlt:¬Kd x y<0:=fun h=>by rw[hcl.1 h]at hbf;cases hbf
     obtain⟨f1,f2⟩:=hfin (by simp[hbf]);(repeat refine AW.seq ?_);refine AW.no ?_ (by simp[-Int.natCast_add];omega);refine AW.exit ?_;try simp[-Int.natCast_add]
     (repeat refine AW.seq_k fun K hK=>?_);refine AW.rg ?_;simp[-Int.natCast_add,w1];try (refine hK _ rfl ?_;clear hK K)
     refine⟨_,post,f1,by simp,?_,by rw[f2]⟩;rw[←hLv];simp
    |true =>
     have hlt:=hcl.2 hbf;have hk:∀z∈y::p2,Bq x z=true:=fun z hz=>by
      rcases List.mem_cons.1 hz with rfl|hz
      ·exact hbf
      ·exact k2 z hz
     refine AW.yes ?_ (by simp[-Int.natCast_add];omega);refine AW.skip ?_;try simp[-Int.natCast_add]
     try (refine hK _ rfl ?_;clear hK K)
     (repeat refine AW.seq ?_);refine AW.block ?_;(repeat refine AW.seq_k fun K hK=>?_);refine AW.rdL [b] [0,1,2,3,4,5,6,7,8,9,10,11,12,13,14,15,16,17] Ds (by simp[-Int.natCast_add]) ?_;simp[-Int.natCast_add,w2,hpW,hpW2,hLl,hx1,hx2];rw[hsw];(repeat refine AW.seq_k fun K hK=>?_);refine AW.rg ?_;simp[-Int.natCast_add,w2];try (refine hK _ rfl ?_;clear hK K)
     refine⟨p,y::p2,⟨by rw[←k1];simp,fun z hz=>?_⟩,by omega,by simp,rfl⟩;exact hk z hz
  ·refine AW.exit ?_;try simp
   have:post=[]:=List.eq_nil_of_length_eq_zero (by omega);subst this;rw[List.append_nil]at g2 ⊢;exact So rfl (hone pre) ⟨pre,g2,g3,rfl,rfl⟩
set_option maxRecDepth 100000 in
theorem Qbj (x:Nat) (hx:x<256):Aj Tryz.prog 135 [.int .u64 x] Aa.emp fun v m=>(∃y:Int,v=.int .i64 y)∧m=Aa.emp:=by
 refine Ad Tryz.func135 rfl rfl 25 rfl (Nat.le_of_ble_eq_true rfl) ?_;have h1:¬((4294967296:Int)≤(x:Int)):=by omega
 have h2:¬((65536:Int)≤(x:Int)):=by omega
 have h3:¬((256:Int)≤(x:Int)):=by omega
 (repeat refine AW.seq_k fun K hK=>?_);refine AW.rg ?_;simp[Ak];try (refine hK _ rfl ?_;clear hK K)
 (repeat refine AW.seq_k fun K hK=>?_);refine AW.rg ?_;simp[h1];try (refine hK _ rfl ?_;clear hK K)
 refine AW.no ?_ rfl;refine AW.skip ?_;try simp
 try (refine hK _ rfl ?_;clear hK K)
 (repeat refine AW.seq_k fun K hK=>?_);refine AW.rg ?_;simp[h2];try (refine hK _ rfl ?_;clear hK K)
 refine AW.no ?_ rfl;refine AW.skip ?_;try simp
 try (refine hK _ rfl ?_;clear hK K)
 (repeat refine AW.seq_k fun K hK=>?_);refine AW.rg ?_;simp[h3];try (refine hK _ rfl ?_;clear hK K)
 refine AW.no ?_ rfl;refine AW.skip ?_;try simp
 try (refine hK _ rfl ?_;clear hK K)
 have hm:x % 256=x:=Nat.mod_eq_of_lt hx;(repeat refine AW.seq_k fun K hK=>?_);refine AW.rg ?_;simp[hm];try (refine hK _ rfl ?_;clear hK K)
 refine Uz (by kernel_rfl) hx fun t t1 t2=>?_;simp;try (refine hK _ rfl ?_;clear hK K)
 exact AW.ret (Af rfl _ (.same _) ⟨⟨_,rfl⟩,rfl⟩)
theorem Qe9 (x:Nat) (hx:x<256):Aj Tryz.prog 93 [.int .u64 x] Aa.emp fun v m=>(∃y:Int,v=.int .i64 y)∧m=Aa.emp:=by
 refine Ad Tryz.func93 rfl rfl 8 rfl (Nat.le_of_ble_eq_true rfl) ?_;(repeat refine AW.seq_k fun K hK=>?_);refine AW.rg ?_;simp[Ak];try (refine hK _ rfl ?_;clear hK K)
 (repeat refine AW.seq_k fun K hK=>?_);refine AW.no ?_ rfl;refine AW.skip ?_;try simp
 try (refine hK _ rfl ?_;clear hK K)
 (repeat refine AW.seq_k fun K hK=>?_);refine AW.rg ?_;simp;try (refine hK _ rfl ?_;clear hK K)
 refine Ac.pure (Qbj x hx) ?_;rintro _ ⟨y,rfl⟩;simp;try (refine hK _ rfl ?_;clear hK K)
 exact AW.ret (Af rfl _ (.same _) ⟨⟨y,rfl⟩,rfl⟩)
theorem Qg6 (b:Nat) (W:List (List Nat)) (hl:W.length≤12) (hw:∀x∈W,x.length<2^40) (y:Int):Aj Tryz.prog 92 [.osl b 1 0 W.length,.int .i64 0,.int .i64 (W.length:Nat),.int .i64 y,.fn 58 []] (Aa.emp.set b ⟨25,1,Fx W⟩) fun v m=>∃W',W'.Perm W∧Fl W'∧v=.tup []∧m=Aa.emp.set b ⟨25,1,Fx W'⟩:=by
 have hc:=Qat b W hl hw;have hone:∀(W:List (List Nat)) c y,Aa.emp.set b ⟨25,1,Fx W⟩ c=some y→∀v∈y.l,v.cells.all AV.one=true:=by
  intro W c y hy v hv;simp only[A3,Az]at hy;split at hy
  ·cases hy;exact Qu _ v hv
  ·cases hy
 refine Ad Tryz.func92 rfl rfl 148 rfl (Nat.le_of_ble_eq_true rfl) ?_;have w0:IntKind.i64.wrap (W.length:Int)=(W.length:Int):=wi (by omega);have w1:(W.length:Int)≤12:=by omega
 (repeat refine AW.seq_k fun K hK=>?_);refine AW.rg ?_;simp[Ak];try (refine hK _ rfl ?_;clear hK K)
 (repeat refine AW.seq_k fun K hK=>?_);refine AW.rg ?_;simp;try (refine hK _ rfl ?_;clear hK K)
 refine AW.block (AW.loopS (ι:=Unit) (fun _=>[(0,.osl b 1 0 W.length),(1,.int .i64 0),(2,.int .i64 (W.length:Nat)),(3,.int .i64 y),(4,.fn 58 [])]) (fun _=>Aa.emp.set b ⟨25,1,Fx W⟩) (fun _=>True) (fun _=>0) () trivial rfl (by simp) ?_);intro _ _;(repeat refine AW.seq ?_);refine AW.block ?_;(repeat refine AW.seq_k fun K hK=>?_);refine AW.rg ?_;simp[w0];try (refine hK _ rfl ?_;clear hK K)
 (repeat refine AW.seq_k fun K hK=>?_);refine AW.rg ?_;simp[w1];try (refine hK _ rfl ?_;clear hK K)
 refine AW.yes ?_ rfl;(repeat refine AW.seq_k fun K hK=>?_);refine AW.rg ?_;simp;try (refine hK _ rfl ?_;clear hK K)
 refine Ac.whole (fun _ h=>h) hc ?_;rintro _ g ⟨W',p1,p2,rfl,rfl⟩;simp;try (refine hK _ rfl ?_;clear hK K)
 exact AW.ret (B0 rfl (hone W') ⟨W',p1,p2,rfl,rfl⟩)
theorem Qeu (b:Nat) (W:List (List Nat)) (hl:W.length≤12) (hw:∀x∈W,x.length<2^40):Aj Tryz.prog 57 [.osl b 1 0 W.length,.fn 58 []] (Aa.emp.set b ⟨25,1,Fx W⟩) fun v m=>∃W',W'.Perm W∧Fl W'∧v=.tup []∧m=Aa.emp.set b ⟨25,1,Fx W'⟩:=by
 have hc:=Qg6 b W hl hw;have hone:∀(W:List (List Nat)) c y,Aa.emp.set b ⟨25,1,Fx W⟩ c=some y→∀v∈y.l,v.cells.all AV.one=true:=by
  intro W c y hy v hv;simp only[A3,Az]at hy;split at hy
  ·cases hy;exact Qu _ v hv
  ·cases hy
 have hsl:=Qe9 W.length (by omega);have hmod:W.length % 18446744073709551616=W.length:=Nat.mod_eq_of_lt (by omega);refine Ad Tryz.func57 rfl rfl 14 rfl (Nat.le_of_ble_eq_true rfl) ?_;(repeat refine AW.seq_k fun K hK=>?_);refine AW.rg ?_;simp[Ak];try (refine hK _ rfl ?_;clear hK K)
 (repeat refine AW.seq_k fun K hK=>?_);refine AW.rg ?_;simp[hmod];try (refine hK _ rfl ?_;clear hK K)
 refine Ac.pure hsl ?_;rintro _ ⟨y,rfl⟩;simp;refine Ac.whole (fun _ h=>h) (hc y) ?_;rintro _ g ⟨W',p1,p2,rfl,rfl⟩;simp;exact So rfl (hone W') ⟨W',p1,p2,rfl,rfl⟩
theorem Y9 (x y:List Nat) (hx:x.length<2^40) (hy:y.length<2^40):Aj Tryz.prog 56 [.sl 1 (An x),.sl 1 (An y)] Aa.emp fun v m=>v=.bool (decide (x=y))∧m=Aa.emp:=by
 refine Ad Tryz.func56 rfl rfl 26 rfl (Nat.le_of_ble_eq_true rfl) ?_;(repeat refine AW.seq_k fun K hK=>?_);refine AW.rg ?_;simp[Ak];try (refine hK _ rfl ?_;clear hK K)
 by_cases hl:x.length=y.length;rotate_left
 ·have hne:¬x=y:=fun h=>hl (by rw[h]);(repeat refine AW.seq_k fun K hK=>?_);refine AW.rg ?_;simp[hl];try (refine hK _ rfl ?_;clear hK K)
  refine AW.yes ?_ rfl;(repeat refine AW.seq_k fun K hK=>?_);refine AW.rg ?_;simp;try (refine hK _ rfl ?_;clear hK K)
  exact AW.ret (Af rfl _ (.same _) ⟨by simp[hne,oneOrTup],rfl⟩)
 (repeat refine AW.seq_k fun K hK=>?_);refine AW.rg ?_;simp[hl];try (refine hK _ rfl ?_;clear hK K)
 refine AW.no ?_ rfl;refine AW.skip ?_;try simp
 try (refine hK _ rfl ?_;clear hK K)
 refine AW.seq_ex (ι:=Unit) (fun _=>[]) (fun _=>Aa.emp) (fun _=>x=y) ?_ ?_
 ·(repeat refine AW.seq_k fun K hK=>?_);refine AW.rg ?_;simp;try (refine hK _ rfl ?_;clear hK K)
  refine AW.block (AW.loopS (ι:=Nat) (fun i=>[(0,.sl 1 (An x)),(1,.sl 1 (An y)),(12,.int .i64 (x.length:Nat)),(13,.int .i64 (i:Nat))]) (fun i=>Aa.emp)
   (fun i=>i≤x.length∧x.take i=y.take i) (fun i=>x.length-i) 0 ⟨by simp,by simp⟩ rfl (by simp) ?_)
  rintro i ⟨g1,g2⟩;(repeat refine AW.seq_k fun K hK=>?_);refine AW.rg ?_;simp;try (refine hK _ rfl ?_;clear hK K)
  (repeat refine AW.seq ?_);refine AW.cs (fun hi=>?_) (fun hi=>?_) rfl<;>(try simp at hi)
  ·refine AW.skip ?_;try simp
   try (refine hK _ rfl ?_;clear hK K)
   have w1:=Aq (i+1) (by omega);have hi2:i<y.length:=by omega
   (repeat refine AW.seq ?_);refine AW.block ?_;(repeat refine AW.seq_k fun K hK=>?_);refine AW.rg ?_;simp;try (refine hK _ rfl ?_;clear hK K)
   (repeat refine AW.seq_k fun K hK=>?_);refine AW.rd [0,1,2,3,4,5,6,7,8] Ds ?_;simp[hi,hi2];try (refine hK _ rfl ?_;clear hK K)
   by_cases he:x[i]=y[i]
   ·refine AW.no ?_ (by simp[he]);refine AW.skip ?_;try simp
    try (refine hK _ rfl ?_;clear hK K)
    (repeat refine AW.seq_k fun K hK=>?_);refine AW.rg ?_;simp[-Int.natCast_add,w1];try (refine hK _ rfl ?_;clear hK K)
    refine⟨⟨by omega,?_⟩,by omega⟩;rw[I4 hi he,I4 hi2 rfl,g2]
   ·refine AW.yes ?_ (by simp[he]);(repeat refine AW.seq_k fun K hK=>?_);refine AW.rg ?_;simp;try (refine hK _ rfl ?_;clear hK K)
    have hne:¬x=y:=fun h=>he (by simp[h]);exact AW.ret (Af rfl _ (.same _) ⟨by simp[hne,oneOrTup],rfl⟩)
  ·refine AW.exit ?_;try simp
   have:i=x.length:=by omega
   subst this;rw[List.take_length,hl,List.take_length]at g2;exact g2
 ·rintro _ h;(repeat refine AW.seq_k fun K hK=>?_);refine AW.rg ?_;simp;try (refine hK _ rfl ?_;clear hK K)
  exact AW.ret (Af rfl _ (.same _) ⟨by simp[h,oneOrTup],rfl⟩)
theorem Qik (x y:List Nat) (hx:x.length<2^40) (hy:y.length<2^40):Aj Tryz.prog 55 [.sl 1 (An x),.rptr [.sl 1 (An y)]] Aa.emp fun v m=>v=.bool (decide (x=y))∧m=Aa.emp:=by
 have hc:=Y9 x y hx hy;refine Ad Tryz.func55 rfl rfl 7 rfl (Nat.le_of_ble_eq_true rfl) ?_;(repeat refine AW.seq_k fun K hK=>?_);refine AW.rg ?_;simp[Ak];try (refine hK _ rfl ?_;clear hK K)
 (repeat refine AW.seq_k fun K hK=>?_);refine AW.rg ?_;simp;try (refine hK _ rfl ?_;clear hK K)
 refine Ac.val hc ?_;simp;try (refine hK _ rfl ?_;clear hK K)
 exact AW.ret (Af rfl _ (.same _) ⟨rfl,rfl⟩)
theorem Wl (W:List (List Nat)) (y:List Nat) (hl:W.length<2^40) (hw:∀x∈W,x.length<2^40) (hy:y.length<2^40):Aj Tryz.prog 91 [.sl 1 (Fx W),.fn 55 [.rptr [.sl 1 (An y)]]] Aa.emp fun v m=>(∃t:Int,v=.int .i64 t∧(0≤t↔y∈W))∧m=Aa.emp:=by
 refine Ad Tryz.func91 rfl rfl 19 rfl (Nat.le_of_ble_eq_true rfl) ?_;(repeat refine AW.seq_k fun K hK=>?_);refine AW.rg ?_;simp[Ak];try (refine hK _ rfl ?_;clear hK K)
 refine AW.seq_ex (ι:=Unit) (fun _=>[]) (fun _=>Aa.emp) (fun _=>y ∉ W) ?_ ?_
 ·(repeat refine AW.seq_k fun K hK=>?_);refine AW.rg ?_;simp;try (refine hK _ rfl ?_;clear hK K)
  refine AW.block (AW.loopS (ι:=Nat) (fun i=>[(0,.sl 1 (Fx W)),(1,.fn 55 [.rptr [.sl 1 (An y)]]),(7,.int .i64 (W.length:Nat)),(8,.int .i64 (i:Nat))]) (fun i=>Aa.emp)
   (fun i=>i≤W.length∧∀k,(h:k<W.length)→k<i→W[k]≠y) (fun i=>W.length-i) 0 ⟨by simp,by omega⟩ rfl (by simp) ?_)
  rintro i ⟨g1,g2⟩;(repeat refine AW.seq_k fun K hK=>?_);refine AW.rg ?_;simp;try (refine hK _ rfl ?_;clear hK K)
  (repeat refine AW.seq ?_);refine AW.cs (fun hi=>?_) (fun hi=>?_) rfl<;>(try simp at hi)
  ·refine AW.skip ?_;try simp
   try (refine hK _ rfl ?_;clear hK K)
   have w1:=Aq (i+1) (by omega);have hc:=Qik W[i] y (hw _ (List.getElem_mem hi)) hy;(repeat refine AW.seq ?_);refine AW.block ?_;(repeat refine AW.seq_k fun K hK=>?_);refine AW.rg ?_;simp;try (refine hK _ rfl ?_;clear hK K)
   (repeat refine AW.seq_k fun K hK=>?_);refine AW.rg ?_;simp[hi];try (refine hK _ rfl ?_;clear hK K)
   refine⟨55,_,⟨rfl,rfl⟩,?_⟩;refine Ac.val hc ?_;simp;try (refine hK _ rfl ?_;clear hK K)
   (repeat refine AW.seq ?_);refine AW.cs (fun he=>?_) (fun he=>?_) rfl<;>(try simp at he)
   ·(repeat refine AW.seq_k fun K hK=>?_);refine AW.rg ?_;simp;try (refine hK _ rfl ?_;clear hK K)
    exact AW.ret (Af rfl _ (.same _) ⟨⟨i,rfl,⟨fun _=>(by rw[←he];exact List.getElem_mem hi),fun _=>(by omega)⟩⟩,rfl⟩)
   ·refine AW.skip ?_;try simp
    try (refine hK _ rfl ?_;clear hK K)
    (repeat refine AW.seq_k fun K hK=>?_);refine AW.rg ?_;simp[-Int.natCast_add,w1];try (refine hK _ rfl ?_;clear hK K)
    refine⟨⟨by omega,fun k h hk=>?_⟩,by omega⟩;rcases Nat.lt_or_ge k i with h1 | h1
    ·exact g2 k h h1
    ·have:k=i:=by omega
     subst this;exact he
  ·refine AW.exit ?_;try simp
   intro hm;obtain⟨k,hk,rfl⟩:=List.mem_iff_getElem.1 hm;exact g2 k hk (by omega) rfl
 ·rintro _ h;(repeat refine AW.seq_k fun K hK=>?_);refine AW.rg ?_;simp;try (refine hK _ rfl ?_;clear hK K)
  exact AW.ret (Af rfl _ (.same _) ⟨⟨-1,rfl,⟨fun h=>(by omega),fun h'=>absurd h' h⟩⟩,rfl⟩)
theorem Qh (W:List (List Nat)) (y:List Nat) (hl:W.length<2^40) (hw:∀x∈W,x.length<2^40) (hy:y.length<2^40):Aj Tryz.prog 54 [.sl 1 (Fx W),.fn 55 [.rptr [.sl 1 (An y)]]] Aa.emp fun v m=>v=.bool (decide (y∈W))∧m=Aa.emp:=by
 have hc:=Wl W y hl hw hy;refine Ad Tryz.func54 rfl rfl 9 rfl (Nat.le_of_ble_eq_true rfl) ?_;(repeat refine AW.seq_k fun K hK=>?_);refine AW.rg ?_;simp[Ak];try (refine hK _ rfl ?_;clear hK K)
 (repeat refine AW.seq_k fun K hK=>?_);refine AW.rg ?_;simp;try (refine hK _ rfl ?_;clear hK K)
 refine Ac.pure hc ?_;rintro _ ⟨t,rfl,ht⟩;simp;try (refine hK _ rfl ?_;clear hK K)
 exact AW.ret (Af rfl _ (.same _) ⟨by show AV.bool (decide (0≤t))=_;rw[decide_eq_decide.2 ht],rfl⟩)
end Go.Av
end
section
namespace Go.Av
open Go.Proofs Go.Lam
structure Hg (n bg bf bc:Nat) (es:List RE) (A:List Nat) (X:Aa) (z:GSt):Prop where
 game:C5 z.M n bg bf bc es z.fl z.bs z.cl
 inv:Inv n (Ae es) A (D6 z.fl) (C4 z.cl)
 ext:∀k x,X k=some x→z.M k=some x
 off:∀k,X k≠none→k ∉ A4 bg bf bc z.bs
 only:∀k,z.M k≠none→X k≠none∨k∈A4 bg bf bc z.bs
section
variable {n bg bf bc:Nat} {es:List RE} {A:List Nat} {X M g':Aa} {fl fl':List Nat} {bs bs':List (Option Nat)} {cl cl':List (List Nat)}
theorem Hg.of (h:Ic n bg bf bc es A M fl bs cl):Hg n bg bf bc es A Aa.emp ⟨M,fl,bs,cl⟩ :=
 ⟨h.mem,h.inv,fun k x hx=>(by cases hx),fun k hk=>absurd rfl hk,fun k hk=>.inr (h.only k hk)⟩
theorem Hg.gam (h:Hg n bg bf bc es A X ⟨M,fl,bs,cl⟩):Ic n bg bf bc es A (M.only (A4 bg bf bc bs)) fl bs cl :=
 ⟨h.game.congr fun k hk=>Bv hk,fun k hk=>by
  rcases Decidable.em (k∈A4 bg bf bc bs)with hm|hm
  ·exact hm
  ·exact absurd (Bo hm) hk,h.inv⟩
theorem Hg.back (h:Hg n bg bf bc es A X ⟨M,fl,bs,cl⟩) (hG':Ic n bg bf bc es A g' fl' bs' cl') (hnew:∀b,g' b≠none→b∈A4 bg bf bc bs∨M b=none):Hg n bg bf bc es A X ⟨M.back (A4 bg bf bc bs) g',fl',bs',cl'⟩:=by
 have hN:∀k,X k≠none→k ∉ A4 bg bf bc bs':=fun k hk hm=>by
  rcases hnew k (hG'.mem.dom hm)with h'|h'
  ·exact h.off k hk h'
  ·cases hx:X k with
   |none=>exact hk hx
   |some x=>have:=h.ext k x hx;simp only at this;rw[h']at this;cases this
 refine⟨hG'.mem.congr fun k hk=>?_,hG'.inv,fun k x hx=>?_,hN,fun k hk=>?_⟩
 ·simp only[Aa.back];cases h:g' k with
  |some x=>rfl
  |none=>exact absurd h (hG'.mem.dom hk)
 ·have h1:g' k=none:=by
   cases h':g' k with
   |none=>rfl
   |some y=>exact absurd (hG'.only k (by rw[h'];simp)) (hN k (by rw[hx];simp))
  simp only[Aa.back];rw[h1];simp only;rw[if_neg (h.off k (by rw[hx];simp))];exact h.ext k x hx
 ·simp only[Aa.back]at hk;cases h':g' k with
  |some x=>exact .inr (hG'.only k (by rw[h'];simp))
  |none =>
   rw[h']at hk;simp only at hk;by_cases hm:k∈A4 bg bf bc bs
   ·rw[if_pos hm]at hk;exact absurd rfl hk
   ·rw[if_neg hm]at hk;exact .inl ((h.only k hk).resolve_right hm)
theorem Hg.set (h:Hg n bg bf bc es A X ⟨M,fl,bs,cl⟩) {b:Nat} (y:Et) (hb:X b≠none∨M b=none):Hg n bg bf bc es A (X.set b y) ⟨M.set b y,fl,bs,cl⟩:=by
 have hbg:b ∉ A4 bg bf bc bs:=fun hm=>by
  rcases hb with hb|hb
  ·exact h.off b hb hm
  ·exact h.game.dom hm hb
 refine⟨h.game.congr fun k hk=>Aa.set_other _ _ (fun e=>hbg (e ▸ hk)),h.inv,fun k x hx=>?_,fun k hk=>?_,fun k hk=>?_⟩
 ·by_cases e:k=b
  ·subst e;simp only;rw[Aa.set_same]at hx ⊢;exact hx
  ·simp only;rw[Aa.set_other _ _ e]at hx ⊢;exact h.ext k x hx
 ·by_cases e:k=b
  ·rw[e];exact hbg
  ·rw[Aa.set_other _ _ e]at hk;exact h.off k hk
 ·by_cases e:k=b
  ·rw[e,Aa.set_same];simp
  ·simp only at hk;rw[Aa.set_other _ _ e]at hk ⊢;exact h.only k hk
theorem Hg.del (h:Hg n bg bf bc es A X ⟨M,fl,bs,cl⟩) {b:Nat} (hb:X b≠none):Hg n bg bf bc es A (X.del b) ⟨M.del b,fl,bs,cl⟩:=by
 have hbg:b ∉ A4 bg bf bc bs:=h.off b hb;refine⟨h.game.congr fun k hk=>Aa.del_other _ (fun e=>hbg (e ▸ hk)),h.inv,fun k x hx=>?_,fun k hk=>?_,fun k hk=>?_⟩
 ·by_cases e:k=b
  ·subst e;rw[Aa.del_same]at hx;cases hx
  ·simp only;rw[Aa.del_other _ e]at hx ⊢;exact h.ext k x hx
 ·by_cases e:k=b
  ·rw[e];exact hbg
  ·rw[Aa.del_other _ e]at hk;exact h.off k hk
 ·by_cases e:k=b
  ·rw[e]at hk;simp only at hk;rw[Aa.del_same]at hk;exact absurd rfl hk
  ·simp only at hk;rw[Aa.del_other _ e]at hk ⊢;exact h.only k hk
theorem Hg.ones (h:Hg n bg bf bc es A X ⟨M,fl,bs,cl⟩) (hX:∀c y,X c=some y→∀v∈y.l,v.cells.all AV.one=true):∀c y,M c=some y→∀v∈y.l,v.cells.all AV.one=true:=by
 intro c y hy v hv;rcases h.only c (by simp only;rw[hy];simp)with hc | hc
 ·cases hx:X c with
  |none=>exact absurd hx hc
  |some x =>
   have:=h.ext c x hx;simp only at this;rw[hy]at this;cases this;exact hX c y hx v hv
 ·rcases A7.1 hc with rfl|rfl|rfl|⟨i,hi⟩
  ·have:=h.game.g;simp only at this;rw[this]at hy;cases hy;simp only[Cn,List.mem_singleton]at hv;subst hv;rfl
  ·have:=h.game.f;simp only at this;rw[this]at hy;cases hy;exact Cl _ v hv
  ·have:=h.game.c;simp only at this;rw[this]at hy;cases hy;exact Ix _ _ v hv
  ·have:=h.game.row i c hi;simp only at this;rw[this]at hy;cases hy;exact Cl _ v hv
end
def Z6 (o:Option Nat) (W:List (List Nat)):AV:=match o with
 |none=>.nil
 |some b=>.osl b 1 0 W.length
def Qr (b0:Nat) (al:List Bool) (o:Option Nat) (W:List (List Nat)):Aa:=match o with
 |none=>Aa.emp.set b0 ⟨72,12,[.agg (bools al)]⟩
 |some b=>(Aa.emp.set b0 ⟨72,12,[.agg (bools al)]⟩).set b ⟨25,1,Fx W⟩
theorem Qhx {b0:Nat} {al:List Bool} {o:Option Nat} {W:List (List Nat)}:∀c y,Qr b0 al o W c=some y→∀v∈y.l,v.cells.all AV.one=true:=by
 have h1:∀c y,(Aa.emp.set b0 ⟨72,12,[.agg (bools al)]⟩) c=some y→∀v∈y.l,v.cells.all AV.one=true:=by
  intro c y hy v hv;simp only[A3,Az]at hy;split at hy
  ·cases hy;simp only[List.mem_singleton]at hv;subst hv;unfold bools AV.cells;simp only[List.all_map,List.all_eq_true];intro x _;rfl
  ·cases hy
 intro c y hy;cases o with
 |none=>exact h1 c y hy
 |some b =>
  unfold Qr at hy;simp only[A3 (m:=Aa.set _ _ _)]at hy;by_cases e:c=b
  ·rw[if_pos e]at hy;cases hy;exact Qu _
  ·rw[if_neg e]at hy;exact h1 c y hy
def C8 (n:Nat) (L:List Ed):List Bool:=(List.range 12).map fun j=>decide (j<n)&&Bt L j
@[simp] theorem Tm (n:Nat) (L:List Ed):(C8 n L).length=12:=by simp[C8]
theorem L7 (n:Nat) (L:List Ed) {j:Nat} (h:j<(C8 n L).length):(C8 n L)[j]=(decide (j<n)&&Bt L j):=by simp[C8]
theorem Xy (n:Nat) (L:List Ed) (a b:Nat):((C8 n L).set a false).set b false=C8 n (L++[(a,b)]):=by
 refine List.ext_getElem (by simp) fun j h1 h2=>?_;rw[List.getElem_set,List.getElem_set,L7,L7];have:Bt (L++[(a,b)]) j=(Bt L j&&!(a==j || b==j)):=by simp[Bt]
 rw[this];by_cases e1:b=j
 ·simp[e1]
 ·by_cases e2:a=j
  ·simp[e2]
  ·have f1:(a==j)=false:=by simpa using e2
   have f2:(b==j)=false:=by simpa using e1
   rw[if_neg e1,if_neg e2,f1,f2];simp
def H3 (j:Nat):List Bool:=(List.range 12).map fun k=>decide (k<j)
theorem Hk {l:List Bool} {j:Nat} (v:Bool) (h:j<12) (hl:l.length=12):Bu 12 1 (.agg (bools l)) (.bool v) j=.agg (bools (l.set j v)):=by
 unfold Bu;rw[if_neg (by omega)];show AV.agg ((bools l).take j++[.bool v]++(bools l).drop (j+1))=_
 rw[←Fg,List.set_eq_take_append_cons_drop,if_pos (by simp[hl];exact h)];simp
@[simp] theorem Qjt (j:Nat):(H3 j).length=12:=by simp[H3]
theorem Qe1 {j:Nat} (h:j<12):(H3 j).set j true=H3 (j+1):=by
 refine List.ext_getElem (by simp) fun k h1 h2=>?_;rw[List.getElem_set];have g1:∀(i:Nat) (h:k<(H3 i).length),(H3 i)[k]=decide (k<i):=fun i h=>by simp[H3]
 rw[g1,g1];by_cases e:j=k
 ·simp[e]
 ·rw[if_neg e];refine decide_eq_decide.2 ⟨fun h=>by omega,fun h=>?_⟩;rcases Nat.lt_or_ge k j with h' | h'
  ·exact h'
  ·exact absurd (by omega) e
theorem Qez (n:Nat):H3 n=C8 n []:=by unfold H3 C8 Bt;simp
def Sa (n:Int) (es:List RE):List (List Nat):=if Cg n es=true then P3 n.toNat ((B3 n es).map (Ae es)) else []
def fC (n:Nat) (L:List Ed) (i:Nat):List (List Nat):=(L.take i).foldl (fun o e=>Mu o (Gw n L e)) []
theorem Qfq (n:Nat) (L:List Ed) (e:Ed):(Gw n L e).length≤n:=by
 have:=List.length_filter_le (Gu n L e) (List.range n);simpa[Gw]using this
theorem Qg5 (n:Nat) (L:List Ed) (i:Nat):∀x∈fC n L i,x.length≤n:=fun x hx=>by
 rcases((Jg (Gw n L) (L.take i) [] (by simp)).2 x).1 hx with h|h
 ·cases h
 ·obtain⟨e,_,rfl⟩:=List.mem_map.1 h;exact Qfq n L e
theorem Yv (f:Ed→List Nat):∀(s:List Ed) (o:List (List Nat)),(s.foldl (fun o e=>Mu o (f e)) o).length≤o.length+s.length
 |[],o=>by simp
 |a::s,o=>by
  have h1:=Yv f s (Mu o (f a));have h2:(Mu o (f a)).length≤o.length+1:=by unfold Mu;split<;>simp
  simp only[List.foldl_cons,List.length_cons];omega
theorem Qga (n:Nat) (L:List Ed) (i:Nat):(fC n L i).length≤i:=by
 have h1:=Yv (Gw n L) (L.take i) [];unfold fC;simp at h1;omega
theorem Qc7 {b0:Nat} {al al':List Bool} {o:Option Nat} {W:List (List Nat)} (h:∀b,o=some b→b≠b0):(Qr b0 al o W).set b0 ⟨72,12,[.agg (bools al')]⟩=Qr b0 al' o W:=by
 cases o with
 |none=>funext c;simp only[Qr,A3];split<;>rfl
 |some b =>
  have:=h b rfl
  funext c
  simp only[Qr,A3];by_cases e:c=b0
  ·rw[if_pos e,if_neg (fun e'=>this (e'.symm.trans e)),if_pos e]
  ·rw[if_neg e,if_neg e,if_neg e]
theorem Vi {b0 b:Nat} {al:List Bool} {W:List (List Nat)}:(Qr b0 al none []).set b ⟨25,1,Fx W⟩=Qr b0 al (some b) W:=rfl
theorem Uj {b0 b b':Nat} {al:List Bool} {W W':List (List Nat)} (h:b≠b0):((Qr b0 al (some b) W).del b).set b' ⟨25,1,Fx W'⟩=Qr b0 al (some b') W':=by
 funext c
 simp only[Qr,A3,Aa.del];by_cases e:c=b'
 ·rw[if_pos e,if_pos e]
 ·rw[if_neg e,if_neg e];by_cases e2:c=b
  ·rw[if_pos e2,if_neg (fun e'=>h (e2.symm.trans e'))];rfl
  ·rw[if_neg e2,if_neg e2]
theorem I1 {b0 b:Nat} {al:List Bool} {W:List (List Nat)}:Qr b0 al (some b) W b=some ⟨25,1,Fx W⟩:=by simp[Qr]
theorem Xq {b0:Nat} {al:List Bool} {o:Option Nat} {W:List (List Nat)} (h:∀b,o=some b→b≠b0):Qr b0 al o W b0=some ⟨72,12,[.agg (bools al)]⟩:=by
 cases o with
 |none=>simp[Qr]
 |some b=>have:=h b rfl;simp[Qr,Ne.symm this]
theorem Zg (W:List (List Nat)) (x:List Nat):Fx W++[.sl 1 (An x)]=Fx (W++[x]):=by simp[Fx]
theorem X5 {o:Option Nat} {W:List (List Nat)} {M M':Aa} (h0:o=none→W=[]) (h1:∀b,o=some b→M b=some ⟨25,1,Fx W⟩∧M' b=none):Bx M M' (Z6 o W) (.sl 1 (Fx W)):=by
 cases o with
 |none=>rw[h0 rfl];exact .nilsl 1
 |some b =>
  obtain⟨h2,h3⟩:=h1 b rfl;exact Ny.view (ob:=[b]) (ty:=25) (.inr ⟨b,rfl,by unfold Z6;rw[Tb],h2⟩) (by simpa using h3)
def rC (n:Nat) (L:List Ed) (k i:Nat):List (List Nat):=fC n L k++((List.range i).filter (Bt L)).map Ev
theorem Qk7 (n:Nat) (L:List Ed) (k i:Nat):rC n L k (i+1)=rC n L k i++if Bt L i=true then [[i]] else []:=by
 unfold rC;rw[List.range_succ,List.filter_append,List.map_append,List.append_assoc];cases h:Bt L i<;>simp[h,Ev]
theorem Qn7 (n:Nat) (L:List Ed) (k i:Nat):(rC n L k i).length≤k+i:=by
 have h1:=Qga n L k;have h2:=List.length_filter_le (Bt L) (List.range i);unfold rC;simp at h2 ⊢;omega
theorem Qkp {n:Nat} {L:List Ed} (hn:1≤n):Ib n L≠[]:=by
 unfold Ib;intro h;obtain⟨h1,h2⟩:=List.append_eq_nil_iff.1 h;cases L with
 |nil =>
  have:0∈(List.range n).filter (Bt []):=by simp[Bt];omega
  rw[List.map_eq_nil_iff.1 h2]at this;cases this
 |cons e L =>
  have:=((Jg (Gw n (e::L)) (e::L) [] (by simp)).2 (Gw n (e::L) e)).2 (.inr (by simp));rw[h1]at this;cases this
theorem Qa0 (n:Int) (es:List RE) (hb:Qx es) (h8:Cg n es=true→n≤8):Aj Tryz.prog 22 [.int .i64 n,A1 es] Aa.emp fun v m=>v=.tup [.sl 1 (Fx (Sa n es)),B6 n es]∧m=Aa.emp:=by
 have hc:=Oz n es hb;refine Ad Tryz.func22 rfl rfl 83 rfl (Nat.le_of_ble_eq_true rfl) ?_;unfold A1 at hc ⊢;(repeat refine AW.seq_k fun K hK=>?_);refine AW.rg ?_;simp[Ak];try (refine hK _ rfl ?_;clear hK K)
 (repeat refine AW.seq_k fun K hK=>?_);refine AW.rg ?_;simp;try (refine hK _ rfl ?_;clear hK K)
 refine Ac.val hc ?_;by_cases hk:Cg n es=true;rotate_left
 ·have e1:B6 n es=.int .i64 1:=by unfold B6;rw[if_neg hk]
  have e2:Sa n es=[]:=by unfold Sa;rw[if_neg hk]
  simp[e1];try (refine hK _ rfl ?_;clear hK K)
  (repeat refine AW.seq_k fun K hK=>?_);refine AW.rg ?_;simp;try (refine hK _ rfl ?_;clear hK K)
  refine AW.yes ?_ rfl;(repeat refine AW.seq_k fun K hK=>?_);refine AW.rg ?_;simp;try (refine hK _ rfl ?_;clear hK K)
  exact AW.ret (Ai [.sl 1 (Fx []),.int .i64 1] rfl ⟨.nilsl 1,.same _,trivial⟩ ⟨by rw[e2,e1];rfl,rfl⟩)
 have e1:B6 n es=.int .i64 0:=by unfold B6;rw[if_pos hk]
 have h8':=h8 hk;have eA:B3 n es=A9 n.toNat (Ae es) [] (List.range es.length):=by unfold B3;rw[if_pos hk]
 have e2:Sa n es=P3 n.toNat ((B3 n es).map (Ae es)):=by unfold Sa;rw[if_pos hk]
 obtain⟨⟨h1,h2,h3⟩,_⟩:=Dk hk;have hok:=G1 hk;have hle:=Wa hk;have hlt:=fun k=>Kz (n:=n) (es:=es) (k:=k);obtain⟨N,rfl⟩:=Int.eq_ofNat_of_zero_le (show 0≤n by omega);simp only[Int.toNat_natCast]at hok eA e2;have hsp:A0 N ((B3 (N:Nat) es).map (Ae es)):=by rw[eA];exact Co (by simp) (hok.at fun k hk=>by simpa using hk) (A0.nil N)
 have hall:=Ue es h3;have hpl:=Ok N es (by omega) hok (List.range es.length) (by simp) (by simp;omega);rw[←eA]at hpl;clear eA;generalize B3 (N:Nat) es=A at *;have hL:∀e∈A.map (Ae es),Cm N e:=fun e he=>by
  obtain⟨k,hk,rfl⟩:=List.mem_map.1 he;exact(hok k (hlt k hk)).2.2
 unfold A1 at hall hpl;simp[e1];try (refine hK _ rfl ?_;clear hK K)
 (repeat refine AW.seq_k fun K hK=>?_);refine AW.rg ?_;simp;try (refine hK _ rfl ?_;clear hK K)
 refine AW.no ?_ rfl;refine AW.skip ?_;try simp
 try (refine hK _ rfl ?_;clear hK K)
 (repeat refine AW.seq_k fun K hK=>?_);refine AW.rg ?_;simp;try (refine hK _ rfl ?_;clear hK K)
 refine Ac.val hall ?_;simp;refine Ac.news hpl ?_;rintro _ g ⟨bg,bf,bc,fl,bs,cl,rfl,hG⟩ _;have hg:Aa.back Aa.emp [] g=g:=by funext k;simp only[Aa.back,Az];cases g k<;>simp
 rw[hg];simp;try (refine hK _ rfl ?_;clear hK K)
 (repeat refine AW.seq_k fun K hK=>?_);refine AW.rg ?_;simp;try (refine hK _ rfl ?_;clear hK K)
 (repeat refine AW.seq_k fun K hK=>?_);refine AW.rg ?_;simp;try (refine hK _ rfl ?_;clear hK K)
 refine Ag.intro fun b0 hb0=>?_;refine hK _ rfl ?_;clear hK K;have X1:Hg N bg bf bc es A (Qr b0 (H3 0) none []) ⟨g.set b0 ⟨72,12,[.agg (bools (H3 0))]⟩,fl,bs,cl⟩:=(Hg.of hG).set _ (.inr hb0);refine AW.seq_ex (ι:=Aa) (fun M=>[(0,.int .i64 (N:Nat)),(1,.sl 6 (Bw es)),(7,.ptr bg 3 0 0),(8,.sl 1 (An A)),(10,.ptr b0 12 0 0),(9,.nil)]) (fun M=>M) (fun M=>Hg N bg bf bc es A (Qr b0 (C8 N []) none []) ⟨M,fl,bs,cl⟩) ?_ ?_
 ·(repeat refine AW.seq_k fun K hK=>?_);refine AW.rg ?_;simp;try (refine hK _ rfl ?_;clear hK K)
  refine AW.block (AW.loopS (ι:=Aa × Nat) (fun z=>[(0,.int .i64 (N:Nat)),(1,.sl 6 (Bw es)),(7,.ptr bg 3 0 0),(8,.sl 1 (An A)),(10,.ptr b0 12 0 0),(9,.nil),(30,.int .i64 (N:Nat)),(31,.int .i64 (z.2:Nat))]) (fun z=>z.1)
   (fun z=>z.2≤N∧Hg N bg bf bc es A (Qr b0 (H3 z.2) none []) ⟨z.1,fl,bs,cl⟩) (fun z=>N-z.2) (_,0) ⟨by simp,X1⟩ rfl (by simp) ?_)
  rintro⟨M,i⟩ ⟨g1,g2⟩;simp only at g1 g2;have p0:M b0=some ⟨72,12,[.agg (bools (H3 i))]⟩:=g2.ext b0 _ (by simp[Qr]);have hi12:i<8→i<12:=fun h=>by omega
  (repeat refine AW.seq_k fun K hK=>?_);refine AW.rg ?_;simp;try (refine hK _ rfl ?_;clear hK K)
  (repeat refine AW.seq ?_);refine AW.cs (fun hi=>?_) (fun hi=>?_) rfl<;>(try simp at hi)
  ·refine AW.skip ?_;try simp
   try (refine hK _ rfl ?_;clear hK K)
   have w1:=Aq (i+1) (by omega);have hi12:i<12:=by omega
   (repeat refine AW.seq ?_);refine AW.block ?_;(repeat refine AW.seq_k fun K hK=>?_);refine AW.rg ?_;simp;try (refine hK _ rfl ?_;clear hK K)
   have hi11:i≤11:=by omega
   have hi12':(i:Int)<12:=by omega
   (repeat refine AW.seq_k fun K hK=>?_);refine AW.rg ?_;simp[p0,hi12,hi11,hi12'];try (refine hK _ rfl ?_;clear hK K)
   rw[Hk _ hi12 (by simp),Qe1 hi12];(repeat refine AW.seq_k fun K hK=>?_);refine AW.rg ?_;simp[-Int.natCast_add,w1];try (refine hK _ rfl ?_;clear hK K)
   have g3:=g2.set (b:=b0) ⟨72,12,[.agg (bools (H3 (i+1)))]⟩ (.inl (by simp[Qr]));rw[Qc7 (by simp)]at g3;exact⟨_,i+1,⟨by omega,g3⟩,by omega,rfl,rfl⟩
  ·refine AW.exit ?_;try simp
   have:i=N:=by omega
   subst this;rw[Qez]at g2;exact g2
 rintro M hM;have hcl:∀(M:Aa) (fl:List Nat) (bs:List (Option Nat)) (cl:List (List Nat)) (e:Nat),Ic N bg bf bc es A M fl bs cl→e∈A→_:=fun M fl bs cl e h1 h2=>Wf N bg bf bc es A (by omega) hok hlt hsp M fl bs cl e h1 h2;refine AW.seq_ex (ι:=GSt × Option Nat) (fun z=>[(0,.int .i64 (N:Nat)),(1,.sl 6 (Bw es)),(7,.ptr bg 3 0 0),(8,.sl 1 (An A)),(10,.ptr b0 12 0 0),(9,Z6 z.2 (fC N (A.map (Ae es)) A.length))]) (fun z=>z.1.M)
  (fun z=>Hg N bg bf bc es A (Qr b0 (C8 N (A.map (Ae es))) z.2 (fC N (A.map (Ae es)) A.length)) z.1∧(∀b,z.2=some b→b≠b0)∧(z.2=none→fC N (A.map (Ae es)) A.length=[])) ?_ ?_
 ·(repeat refine AW.seq_k fun K hK=>?_);refine AW.rg ?_;simp;try (refine hK _ rfl ?_;clear hK K)
  refine AW.block (AW.loopS (ι:=GSt × Option Nat × Nat) (fun z=>[(0,.int .i64 (N:Nat)),(1,.sl 6 (Bw es)),(7,.ptr bg 3 0 0),(8,.sl 1 (An A)),(10,.ptr b0 12 0 0),(9,Z6 z.2.1 (fC N (A.map (Ae es)) z.2.2)),(37,.sl 1 (An A)),(38,.int .i64 (A.length:Nat)),(39,.int .i64 (z.2.2:Nat))]) (fun z=>z.1.M)
   (fun z=>z.2.2≤A.length∧Hg N bg bf bc es A (Qr b0 (C8 N ((A.map (Ae es)).take z.2.2)) z.2.1 (fC N (A.map (Ae es)) z.2.2)) z.1∧(∀b,z.2.1=some b→b≠b0)∧(z.2.1=none→fC N (A.map (Ae es)) z.2.2=[]))
   (fun z=>A.length-z.2.2) (⟨M,fl,bs,cl⟩,none,0) ⟨by simp,hM,by simp,by simp[fC]⟩ rfl (by simp[Z6]) ?_)
  clear hM X1 hG hb0;rintro⟨⟨M,fl,bs,cl⟩,o,i⟩ ⟨g1,g2,g3,g4⟩;simp only at g1 g2 g3 g4;(repeat refine AW.seq_k fun K hK=>?_);refine AW.rg ?_;simp;try (refine hK _ rfl ?_;clear hK K)
  (repeat refine AW.seq ?_);refine AW.cs (fun hi=>?_) (fun hi=>?_) rfl<;>(try simp at hi)
  ·refine AW.skip ?_;try simp
   try (refine hK _ rfl ?_;clear hK K)
   have w1:=Aq (i+1) (by omega);obtain⟨e,he⟩:∃e,A[i]=e:=⟨_,rfl⟩;have heA:e∈A:=he ▸ List.getElem_mem hi;have hel:e<es.length:=hlt e heA;obtain⟨q1,q2,q3⟩:=hok e hel;have htk:(A.map (Ae es)).take (i+1)=(A.map (Ae es)).take i++[Ae es e]:=by
    rw[List.take_add_one,List.getElem?_map,List.getElem?_eq_getElem hi,he];rfl
   have hfo:fC N (A.map (Ae es)) (i+1)=Mu (fC N (A.map (Ae es)) i) (Gw N (A.map (Ae es)) (Ae es e)):=by unfold fC;rw[htk,List.foldl_append];rfl
   have hcle:=fun M fl bs cl h=>hcl M fl bs cl e h heA;have hcll:(Gw N (A.map (Ae es)) (Ae es e)).length≤8:=by
    have:=List.length_filter_le (Gu N (A.map (Ae es)) (Ae es e)) (List.range N);unfold Gw;simp at this;omega
   have hWm:=Qg5 N (A.map (Ae es)) i;have hWl:=Qga N (A.map (Ae es)) i;generalize hW:fC N (A.map (Ae es)) i=W at *;have halp:=Xy N ((A.map (Ae es)).take i) (Ae es e).1 (Ae es e).2;rw[show((Ae es e).1,(Ae es e).2)=Ae es e from rfl,←htk]at halp;have p0:M b0=some ⟨72,12,[.agg (bools (C8 N ((A.map (Ae es)).take i)))]⟩:=g2.ext b0 _ (Xq g3);have hall:=Tm N ((A.map (Ae es)).take i);generalize C8 N ((A.map (Ae es)).take i)=al at *;obtain⟨a,ha⟩:∃a,(Ae es e).1=a:=⟨_,rfl⟩;obtain⟨b,hb⟩:∃b,(Ae es e).2=b:=⟨_,rfl⟩
   rw[ha]at q1 halp;rw[hb]at q2 halp;have ha8:a<12:=by have:=q3.1;omega
   have hb8:b<12:=by have:=q3.2.1;omega
   have ha8':(a:Int)<12:=by omega
   have hb8':(b:Int)<12:=by omega
   have ha8'':a≤11:=by omega
   have hb8'':b≤11:=by omega
   (repeat refine AW.seq ?_);refine AW.block ?_;(repeat refine AW.seq_k fun K hK=>?_);refine AW.rg ?_;simp[hi,he];try (refine hK _ rfl ?_;clear hK K)
   refine AW.seq_ex (ι:=Unit) (fun _=>[(0,.int .i64 (N:Nat)),(1,.sl 6 (Bw es)),(7,.ptr bg 3 0 0),(8,.sl 1 (An A)),(10,.ptr b0 12 0 0),(9,Z6 o W),(37,.sl 1 (An A)),(38,.int .i64 (A.length:Nat)),(39,.int .i64 (i:Nat)),(13,.int .i64 (e:Nat))]) (fun _=>M.set b0 ⟨72,12,[.agg (bools (C8 N ((A.map (Ae es)).take (i+1))))]⟩) (fun _=>True) ?_ ?_
   ·refine AW.rd2 9 11 [0,1,2,3,4,5,6,7,8,9,10,11,12,13] [0,1,2,3,4,5,6,7,8,10,11,9,12,13] Ds ?_ ?_
    ·simp[hel,Bs,q1,q2,p0,ha8,hb8,ha8',hb8',ha8'',hb8''];rw[Hk _ ha8 hall,Hk _ hb8 (by simp[hall]),halp]
    ·simp[hel,Bs,q1,q2,p0,ha8,hb8,ha8',hb8',ha8'',hb8''];rw[Hk _ ha8 hall,Hk _ hb8 (by simp[hall]),halp]
   rintro _ _;have g5:=g2.set (b:=b0) ⟨72,12,[.agg (bools (C8 N ((A.map (Ae es)).take (i+1))))]⟩ (.inl (by rw[Xq g3];simp));rw[Qc7 g3]at g5;generalize hal2:C8 N ((A.map (Ae es)).take (i+1))=al2 at *;generalize M.set b0 ⟨72,12,[.agg (bools al2)]⟩=M2 at g5 ⊢;(repeat refine AW.seq_k fun K hK=>?_);refine AW.rg ?_;simp;try (refine hK _ rfl ?_;clear hK K)
   refine Ac.hand (A4 bg bf bc bs) (fun _ _ h=>h) (hcle _ fl bs cl g5.gam) ?_;rintro _ g' ⟨rfl,fl',bs',cl',hG'⟩ hnew;have g6:=g5.back hG' (fun b h=>(hnew b h).imp id (·.1));generalize M2.back (A4 bg bf bc bs) g'=M3 at g6 ⊢;generalize Gw N (A.map (Ae es)) (Ae es e)=c at *;simp;refine Ag.intro fun b4 hb4=>?_;refine hK _ rfl ?_;clear hK K;refine AW.turn [(0,.int .i64 (N:Nat)),(1,.sl 6 (Bw es)),(7,.ptr bg 3 0 0),(8,.sl 1 (An A)),(10,.ptr b0 12 0 0),(9,Z6 o W),(37,.sl 1 (An A)),(38,.int .i64 (A.length:Nat)),(39,.int .i64 (i:Nat)),(14,.rptr [.sl 1 (An c)])] M3 (Bj.drop hb4 (g6.ones Qhx))
    (by simp;exact .ptr b4 1 0 0 ⟨25,1,[.sl 1 (An c)]⟩ (.sl 1 (An c)) (Aa.set_same _ _ _) hb4 rfl rfl) ?_
   (repeat refine AW.seq_k fun K hK=>?_);refine AW.rg ?_;simp;try (refine hK _ rfl ?_;clear hK K)
   refine Ac.look [.sl 1 (Fx W),.fn 55 [.rptr [.sl 1 (An c)]]] ⟨X5 g4 fun b hb=>⟨g6.ext b _ (by rw[hb];exact I1),rfl⟩,.same _,trivial⟩ (Qh W c (by omega) (fun x hx=>by have:=hWm x hx;omega) (by omega)) rfl ?_;simp;try (refine hK _ rfl ?_;clear hK K)
   unfold Mu at hfo;by_cases hcW:c∈W
   ·rw[if_pos hcW]at hfo;refine AW.no ?_ (by simp[hcW]);refine AW.skip ?_;try simp
    try (refine hK _ rfl ?_;clear hK K)
    (repeat refine AW.seq_k fun K hK=>?_);refine AW.rg ?_;simp[-Int.natCast_add,w1];try (refine hK _ rfl ?_;clear hK K)
    exact⟨⟨M3,fl',bs',cl'⟩,o,i+1,⟨by omega,by rw[hfo,hal2];exact g6,g3,by rw[hfo];exact g4⟩,by omega,rfl,by rw[hfo];exact⟨rfl,rfl⟩⟩
   ·rw[if_neg hcW]at hfo;refine AW.yes ?_ (by simp[hcW]);cases o with
    |none =>
     have hW0:=g4 rfl;subst hW0;simp only[Z6];(repeat refine AW.seq_k fun K hK=>?_);refine AW.rgR [64] ?_;simp;try (refine hK _ rfl ?_;clear hK K)
     refine⟨by unfold maxLen;omega,Ag.intro fun b6 h6=>?_⟩;have hb60:b6≠b0:=fun e=>by
      have:=g6.ext b0 _ (Xq g3);rw[←e]at this;simp only at this;rw[h6]at this;cases this
     have g7:=g6.set (b:=b6) ⟨25,1,Fx [c]⟩ (.inr h6);rw[Vi]at g7;(repeat refine AW.seq_k fun K hK=>?_);refine AW.rg ?_;simp[-Int.natCast_add,w1];try (refine hK _ rfl ?_;clear hK K)
     exact⟨⟨_,fl',bs',cl'⟩,some b6,i+1,⟨by omega,by rw[hfo,hal2];exact g7,fun b hb=>by cases hb;exact hb60,by simp⟩,by omega,rfl,by rw[hfo];exact⟨rfl,rfl⟩⟩
    |some b1 =>
     have hb1:=g3 b1 rfl;have p1:M3 b1=some ⟨25,1,Fx W⟩:=g6.ext b1 _ I1;simp only[Z6];(repeat refine AW.seq_k fun K hK=>?_);refine AW.rgR [64] ?_;simp[p1];try (refine hK _ rfl ?_;clear hK K)
     refine⟨by omega,by unfold maxLen;omega,Ag.intro fun b6 h6=>?_⟩;have hb60:b6≠b0:=fun e=>by
      have:=g6.ext b0 _ (Xq g3);rw[←e]at this;simp only at this;rw[Aa.del_other _ (by rw[e];exact Ne.symm hb1),this]at h6;cases h6
     have g7:=(g6.del (b:=b1) (by rw[I1];simp)).set (b:=b6) ⟨25,1,Fx (W++[c])⟩ (.inr h6);rw[Uj hb1]at g7;rw[Zg];(repeat refine AW.seq_k fun K hK=>?_);refine AW.rg ?_;simp[-Int.natCast_add,w1];try (refine hK _ rfl ?_;clear hK K)
     exact⟨⟨_,fl',bs',cl'⟩,some b6,i+1,⟨by omega,by rw[hfo,hal2];exact g7,fun b hb=>by cases hb;exact hb60,by simp⟩,by omega,rfl,by rw[hfo];exact⟨by simp[Z6],rfl⟩⟩
  ·refine AW.exit ?_;try simp
   have:i=A.length:=by omega
   subst this;rw[List.take_of_length_le (by simp)]at g2;exact⟨_,o,⟨g2,g3,g4⟩,rfl,rfl⟩
 clear hM X1 hG hb0;rintro⟨⟨M,fl,bs,cl⟩,o⟩ ⟨g2,g3,g4⟩;simp only at g2 g3 g4 ⊢;have hr0:rC N (A.map (Ae es)) A.length 0=fC N (A.map (Ae es)) A.length:=by simp[rC]
 have hrN:rC N (A.map (Ae es)) A.length N=Ib N (A.map (Ae es)):=by unfold rC fC Ib;rw[List.take_of_length_le (by simp)]
 rw[←hr0]at g2 g4 ⊢;refine AW.seq_ex (ι:=Aa × Option Nat) (fun z=>[(9,Z6 z.2 (Ib N (A.map (Ae es))))]) (fun z=>z.1)
  (fun z=>Hg N bg bf bc es A (Qr b0 (C8 N (A.map (Ae es))) z.2 (Ib N (A.map (Ae es)))) ⟨z.1,fl,bs,cl⟩∧(z.2=none→Ib N (A.map (Ae es))=[])) ?_ ?_
 ·(repeat refine AW.seq_k fun K hK=>?_);refine AW.rg ?_;simp;try (refine hK _ rfl ?_;clear hK K)
  refine AW.block (AW.loopS (ι:=Aa × Option Nat × Nat) (fun z=>[(0,.int .i64 (N:Nat)),(1,.sl 6 (Bw es)),(7,.ptr bg 3 0 0),(8,.sl 1 (An A)),(10,.ptr b0 12 0 0),(9,Z6 z.2.1 (rC N (A.map (Ae es)) A.length z.2.2)),(67,.int .i64 (N:Nat)),(68,.int .i64 (z.2.2:Nat))]) (fun z=>z.1)
   (fun z=>z.2.2≤N∧Hg N bg bf bc es A (Qr b0 (C8 N (A.map (Ae es))) z.2.1 (rC N (A.map (Ae es)) A.length z.2.2)) ⟨z.1,fl,bs,cl⟩∧(∀b,z.2.1=some b→b≠b0)∧(z.2.1=none→rC N (A.map (Ae es)) A.length z.2.2=[]))
   (fun z=>N-z.2.2) (M,o,0) ⟨by simp,g2,g3,g4⟩ rfl (by simp) ?_)
  clear g2 g3 g4;rintro⟨M,o,i⟩ ⟨g1,g2,g3,g4⟩;simp only at g1 g2 g3 g4;(repeat refine AW.seq_k fun K hK=>?_);refine AW.rg ?_;simp;try (refine hK _ rfl ?_;clear hK K)
  (repeat refine AW.seq ?_);refine AW.cs (fun hi=>?_) (fun hi=>?_) rfl<;>(try simp at hi)
  ·refine AW.skip ?_;try simp
   try (refine hK _ rfl ?_;clear hK K)
   have w1:=Aq (i+1) (by omega);have hfo:=Qk7 N (A.map (Ae es)) A.length i;have hWl:=Qn7 N (A.map (Ae es)) A.length i;generalize rC N (A.map (Ae es)) A.length i=W at *;have p0:M b0=some ⟨72,12,[.agg (bools (C8 N (A.map (Ae es))))]⟩:=g2.ext b0 _ (Xq g3);have hi12:i<12:=by omega
   have hi11:i≤11:=by omega
   have hi12':(i:Int)<12:=by omega
   have hal:∀h:i<(C8 N (A.map (Ae es))).length,(C8 N (A.map (Ae es)))[i]=Bt (A.map (Ae es)) i:=fun h=>by rw[L7];simp[hi]
   (repeat refine AW.seq ?_);refine AW.block ?_;(repeat refine AW.seq_k fun K hK=>?_);refine AW.rg ?_;simp;try (refine hK _ rfl ?_;clear hK K)
   (repeat refine AW.seq_k fun K hK=>?_);refine AW.rg ?_;simp[p0,hi12,hi11,hi12',hal];try (refine hK _ rfl ?_;clear hK K)
   cases hab:Bt (A.map (Ae es)) i with
   |false =>
    rw[hab]at hfo;simp at hfo;refine AW.no ?_ rfl;refine AW.skip ?_;try simp
    try (refine hK _ rfl ?_;clear hK K)
    (repeat refine AW.seq_k fun K hK=>?_);refine AW.rg ?_;simp[-Int.natCast_add,w1];try (refine hK _ rfl ?_;clear hK K)
    exact⟨M,o,i+1,⟨by omega,by rw[hfo];exact g2,g3,by rw[hfo];exact g4⟩,by omega,rfl,by rw[hfo];exact⟨rfl,rfl⟩⟩
   |true =>
    rw[hab]at hfo;simp at hfo;refine AW.yes ?_ rfl;have e77:[AV.sl 1 [AV.int .i64 (i:Nat)]]=Fx [[i]]:=rfl;cases o with
    |none =>
     have hW0:=g4 rfl;subst hW0;simp only[Z6];(repeat refine AW.seq_k fun K hK=>?_);refine AW.rgR [76,77] ?_;simp;refine⟨by unfold maxLen;omega,Ag.intro fun b6 h6=>?_⟩;have hb60:b6≠b0:=fun e=>by rw[e,p0]at h6;cases h6
     have g7:=g2.set (b:=b6) ⟨25,1,Fx [[i]]⟩ (.inr h6);rw[Vi]at g7;(repeat refine AW.seq_k fun K hK=>?_);refine AW.rg ?_;simp[-Int.natCast_add,w1];try (refine hK _ rfl ?_;clear hK K)
     exact⟨_,some b6,i+1,⟨by omega,by rw[hfo];exact g7,fun b hb=>by cases hb;exact hb60,by simp⟩,by omega,rfl,by rw[hfo];exact⟨rfl,rfl⟩⟩
    |some b1 =>
     have hb1:=g3 b1 rfl;have p1:M b1=some ⟨25,1,Fx W⟩:=g2.ext b1 _ I1;simp only[Z6];(repeat refine AW.seq_k fun K hK=>?_);refine AW.rgR [76,77] ?_;simp[p1];refine⟨by omega,by unfold maxLen;omega,Ag.intro fun b6 h6=>?_⟩;have hb60:b6≠b0:=fun e=>by rw[e,Aa.del_other _ (Ne.symm hb1),p0]at h6;cases h6
     have g7:=(g2.del (b:=b1) (by rw[I1];simp)).set (b:=b6) ⟨25,1,Fx (W++[[i]])⟩ (.inr h6);rw[Uj hb1]at g7;rw[show AV.sl 1 [AV.int .i64 (i:Nat)]=.sl 1 (An [i]) from rfl,Zg];(repeat refine AW.seq_k fun K hK=>?_);refine AW.rg ?_;simp[-Int.natCast_add,w1];try (refine hK _ rfl ?_;clear hK K)
     exact⟨_,some b6,i+1,⟨by omega,by rw[hfo];exact g7,fun b hb=>by cases hb;exact hb60,by simp⟩,by omega,rfl,by rw[hfo];exact⟨by simp[Z6],rfl⟩⟩
  ·refine AW.exit ?_;try simp
   have:i=N:=by omega
   subst this;rw[hrN]at g2 g4 ⊢;exact⟨M,o,⟨g2,g4⟩,rfl,rfl⟩
 clear g2 g3 g4;rintro⟨M,o⟩ ⟨g2,g4⟩;simp only at g2 g4 ⊢;have hrc:=Qg8 hL hsp (by omega);have hrl:∀x∈Ib N (A.map (Ae es)),x.length<2^40:=fun x hx=>by
  unfold Ib at hx;rcases List.mem_append.1 hx with hx | hx
  ·have:=Qg5 N (A.map (Ae es)) (A.map (Ae es)).length x (by unfold fC;rw[List.take_length];exact hx);omega
  ·obtain⟨j,_,rfl⟩:=List.mem_map.1 hx;simp[Ev]
 have hfin:=fun W' h1 h2=>Ye (W:=W') hL hsp h1 h2;have hne:=Qkp (n:=N) (L:=A.map (Ae es)) (by omega);cases o with
 |none=>exact absurd (g4 rfl) hne
 |some b =>
  have p1:M b=some ⟨25,1,Fx (Ib N (A.map (Ae es)))⟩:=g2.ext b _ I1;have hst:=Qeu b (Ib N (A.map (Ae es))) hrc hrl;simp only[Z6];generalize Ib N (A.map (Ae es))=W at *;(repeat refine AW.seq_k fun K hK=>?_);refine AW.rg ?_;simp;try (refine hK _ rfl ?_;clear hK K)
  refine Ac.hand (R:=fun v m=>∃W',W'.Perm W∧Fl W'∧v=.tup []∧m=Aa.emp.set b ⟨25,1,Fx W'⟩) [b] (fun _ _ h=>h) (by rw[Re p1];exact hst) ?_;rintro _ g ⟨W',p1,p2,rfl,rfl⟩ _;rw[Ya];have hW':=hfin W' p1 p2;simp;try (refine hK _ rfl ?_;clear hK K)
  (repeat refine AW.seq_k fun K hK=>?_);refine AW.rg ?_;simp;try (refine hK _ rfl ?_;clear hK K)
  have hl2:W'.length=W.length:=p1.length_eq;have hv:Bx (M.set b ⟨25,1,Fx W'⟩) Aa.emp (.osl b 1 0 W.length) (.sl 1 (Fx W')):=by
   rw[←hl2];exact X5 (o:=some b) (W:=W') (by simp) (fun b' h=>by cases h;exact⟨Aa.set_same _ _ _,rfl⟩)
  exact AW.ret (Ai [.sl 1 (Fx W'),.int .i64 0] rfl ⟨hv,.same _,trivial⟩ ⟨by rw[e2,e1,←hW'];rfl,rfl⟩)
end Go.Av
end
section
namespace Go.Av
open Go.Proofs Go.Lam
theorem X6 (x:List Nat):∀W:List (List Nat),(Ma W x).length=W.length+1
 |[]=>rfl
 |y::W=>by
  unfold Ma;split
  ·simp
  ·simp[X6 x W]
def Few (W:List (List Nat)) (k:Nat):Prop:=W.length≤k∧∀x∈W,x.length≤12
theorem Few.ins {W:List (List Nat)} {k:Nat} (h:Few W k) {x:List Nat} (hx:x.length≤12):Few (Ma W x) (k+1):=⟨by rw[X6];have:=h.1;omega,fun y hy=>by
 rcases Ke.1 hy with rfl|hy
 ·exact hx
 ·exact h.2 y hy⟩
end Go.Av
end
section
namespace Go.Av
open Go.Proofs
def Qfe (e:Int) (r:RR) (Z:Option Rat):Prop :=
 match Z with
 |some q=>e=0∧r=Be q∧B4 q
 |none=>e=2
theorem Qfe.step {e:Int} {a:RR} {Z:Option Rat} (h:Qfe e a Z) {op:Rat→Option Rat} (hop:∀q z,op q=some z→B4 z):Qfe (C2 e a (op a.q)).1 (C2 e a (op a.q)).2 (Z.bind op):=by
 cases Z with
 |none =>
  have:e=2:=h;rw[Ky (by omega)];exact h
 |some q =>
  obtain⟨h1,rfl,h3⟩:e=0∧a=Be q∧B4 q:=h;rw[Gt];show Qfe _ _ (op q)
  cases ho:op q with
  |none=>rw[Oj h1];rfl
  |some z=>rw[Lg h1];exact⟨rfl,rfl,hop q z ho⟩
theorem Qfe.ok {e:Int} {a:RR} {Z:Option Rat} (h:Qfe e a Z) (he:e=0):a.ok=true:=by
 cases Z with
 |none=>have:e=2:=h;omega
 |some q=>obtain⟨_,rfl,h3⟩:e=0∧a=Be q∧B4 q:=h;exact Ex h3
set_option maxHeartbeats 1000000
end Go.Av
end
section
namespace Go.Av
open Go.Proofs
theorem R4 (z:Int):Aj Tryz.prog 86 [Au z] Aa.emp fun v m=>v=.bool (decide (z=0))∧m=Aa.emp:=by
 have h:=Io (decide (z<0)) (Ao z.natAbs);have e:decide ((Ao z.natAbs).length=0)=decide (z=0):=by
  have h1:Ao z.natAbs=[]↔z.natAbs=0:=Ca;have h2:(Ao z.natAbs).length=0↔z=0:=by rw[List.length_eq_zero_iff,h1];omega
  simp[h2]
 rw[e]at h;exact h
theorem Qdz {x y:Int}:Ie x y=0↔x=y:=by unfold Ie;split<;>(try split)<;>omega
theorem Qaf (x y:Int):Ie x y=-1∨Ie x y=0∨Ie x y=1:=by unfold Ie;split<;>(try split)<;>simp
theorem Qpj {x y u v:Int} (hy:0<y) (hv:0<v) (h:x.fdiv y≠u.fdiv v):x*v≠u*y:=by
 intro e;apply h;rw[Int.fdiv_eq_ediv_of_nonneg _ (by omega),Int.fdiv_eq_ediv_of_nonneg _ (by omega)];have h1:(x*v) / (y*v)=x / y:=Int.mul_ediv_mul_of_pos_left _ _ hv;have h2:(u*y) / (v*y)=u / v:=Int.mul_ediv_mul_of_pos_left _ _ hy;rw[←h1,←h2,e,Int.mul_comm v y]
theorem Qn1 {x y u v:Int} (h:x.fdiv y=u.fdiv v):x*v=u*y↔x.fmod y*v=u.fmod v*y:=by
 have h1:x=y*x.fdiv y+x.fmod y:=by rw[Int.mul_fdiv_add_fmod]
 have h2:u=v*u.fdiv v+u.fmod v:=by rw[Int.mul_fdiv_add_fmod]
 generalize x.fmod y=r1 at *;generalize u.fmod v=r2 at *;rw[←h]at h2;generalize x.fdiv y=q at *;subst h1 h2;rw[Int.add_mul,Int.add_mul,show v*q*y=y*q*v by rw[Int.mul_comm v q,Int.mul_assoc,Int.mul_comm v y,←Int.mul_assoc,Int.mul_comm q y]];omega
theorem Rc {x y:Int} (hy:0<y):0≤x.fmod y∧x.fmod y<y:=⟨Int.fmod_nonneg_of_pos _ hy,Int.fmod_lt_of_pos _ hy⟩
def Cb (z:Int):Et:=⟨42,2,[.agg [.bool (decide (z<0)),Am (Ao z.natAbs)]]⟩
structure Qki where
 x:Int
 y:Int
 u:Int
 v:Int
 s:Int
def Qvm (a b:Rat) (t:Qki):Prop:=0<t.y∧0<t.v∧t.x.natAbs<Bf∧t.y.natAbs<Bf∧t.u.natAbs<Bf∧t.v.natAbs<Bf∧(a=b↔t.x*t.v=t.u*t.y)∧(t.s=1∨t.s=-1)
theorem Qfx (n:Nat):Cb (n:Nat)=⟨42,2,[.agg [.bool false,Am (Ao n)]]⟩:=by
 unfold Cb;have:decide ((n:Int)<0)=false:=by simp
 rw[this];rfl
def Ik (b5 b6 b7 b8:Nat) (t:Qki):Aa:=(((Aa.emp.set b5 (Cb t.x)).set b6 (Cb t.y)).set b7 (Cb t.u)).set b8 (Cb t.v)
theorem Qdc {r:Int} (h:0≤r) (h0:r≠0):0<r:=by omega
theorem Qk0 {r y:Int} (h:0≤r) (h0:r<y):r.natAbs<y.natAbs:=by omega
theorem Qn4 {s c:Int} (h:s=1∨s=-1) (hc:¬c=0):¬s*c=0:=by
 rcases h with h|h<;>subst h<;>omega
theorem Qdw {s c:Int} (h:s=1∨s=-1) (hc:c=-1∨c=0∨c=1):s*c=-1∨s*c=0∨s*c=1:=by
 rcases h with h|h<;>subst h<;>omega
theorem Qgb {s c:Int} (h:s=1∨s=-1) (hc:c=-1∨c=0∨c=1):IntKind.i64.wrap (s*c)=s*c:=by
 rcases h with h|h<;>rcases hc with h'|h'|h'<;>subst h h'<;>rfl
theorem Qjn {s:Int} (h:s=1∨s=-1):IntKind.i64.wrap (-s)=-s∧(-s=1∨-s=-1)∧¬-s=0∧¬s=0:=by
 rcases h with h|h<;>subst h<;>exact⟨rfl,by decide,by decide,by decide⟩
def Qpq (a b:Rat) (v:AV):Prop:=∃c:Int,v=.int .i64 c∧(c=0↔a=b)∧(c=-1∨c=0∨c=1)
set_option maxHeartbeats 1000000
theorem T5 (a b:Rat) (ha:B4 a) (hb:B4 b):Aj Tryz.prog 188 [Jx a,Jx b] Aa.emp fun v m=>Qpq a b v∧m=Aa.emp:=by
 have key:∀t:Qki,Qvm a b t→∃q1 r1 q2 r2,q1=t.x.fdiv t.y∧r1=t.x.fmod t.y∧q2=t.u.fdiv t.v∧r2=t.u.fmod t.v:=fun t _=>⟨_,_,_,_,rfl,rfl,rfl,rfl⟩;have hab:a=b↔a.num*b.den=b.num*a.den:=Rat.eq_iff_mul_eq_mul;have d1:0<(a.den:Int):=by have:=a.den_pos;omega
 have d2:0<(b.den:Int):=by have:=b.den_pos;omega
 unfold Jx;refine Ad Tryz.func188 rfl rfl 73 rfl (Nat.le_of_ble_eq_true rfl) ?_;(repeat refine AW.seq_k fun K hK=>?_);refine AW.rgR [2,3] ?_;simp[Ak];try (refine hK _ rfl ?_;clear hK K)
 (repeat refine AW.seq_k fun K hK=>?_);refine AW.rdT [] [2,3,18,20,22,24] [] [] [0,1,2,3,4,5,6,7,8,9,10,11,12,13,14,15] Ds (by simp) (by simp) (by simp) (by simp) (by simp) ?_;simp;try (refine hK _ rfl ?_;clear hK K)
 refine Ag.intro fun b5 hb5=>?_;simp only[Ap,Az,and_true]at hb5;refine Ag.intro fun b6 hb6=>?_;simp only[Ap,Az,and_true]at hb6;refine Ag.intro fun b7 hb7=>?_;simp only[Ap,Az,and_true]at hb7;refine Ag.intro fun b8 hb8=>?_;simp only[Ap,Az,and_true]at hb8;simp[hb5,hb6,hb7,hb8];refine hK _ rfl ?_;clear hK K;(repeat refine AW.seq_k fun K hK=>?_);refine AW.rg ?_;simp;try (refine hK _ rfl ?_;clear hK K)
 refine AW.block (AW.loopS (ι:=Qki) (fun t=>[(5,.ptr b5 2 0 0),(6,.ptr b6 2 0 0),(7,.ptr b7 2 0 0),(8,.ptr b8 2 0 0),(9,.int .i64 t.s)]) (fun t=>Ik b5 b6 b7 b8 t) (fun t=>Qvm a b t) (fun t=>t.y.natAbs) ⟨a.num,(a.den:Nat),b.num,(b.den:Nat),1⟩ ⟨d1,d2,ha.1,H7 ha,hb.1,H7 hb,hab,.inl rfl⟩ ?_ (by simp) ?_)
 ·unfold Ik;simp only[Qfx];unfold Cb
  funext c
  simp only[A3,Az]
  (repeat' split)<;>simp_all
 rintro⟨x,y,u,v,s⟩ ⟨i1,i2,i3,i4,i5,i6,i7,i8⟩;simp only at i1 i2 i3 i4 i5 i6 i7 i8;have c1:=G2 x y i3 i4 (by omega);have c2:=G2 u v i5 i6 (by omega);have e1:=Qy (y:=y) i3 (by omega);have e2:=Qy (y:=v) i5 (by omega);have e3:=Q7 (x:=x) i4 (by omega);have e4:=Q7 (x:=u) i6 (by omega);have c3:=Qeq (x.fdiv y) (u.fdiv v) e1 e2;have c4:=R4 (x.fmod y);have c5:=R4 (u.fmod v);have f1:=Rc (x:=x) i1;have f2:=Rc (x:=u) i2;have p1:=Qpj (x:=x) (u:=u) i1 i2;have p2:=Qn1 (x:=x) (y:=y) (u:=u) (v:=v)
 generalize x.fdiv y=q1 at *;generalize u.fdiv v=q2 at *;generalize x.fmod y=r1 at *;generalize u.fmod v=r2 at *;unfold Ik Cb;unfold Au at *;simp only;(repeat refine AW.seq ?_);refine AW.block ?_;(repeat refine AW.seq_k fun K hK=>?_);refine AW.rg ?_;simp[hb5,hb6,hb7,hb8];try (refine hK _ rfl ?_;clear hK K)
 refine Ac.val c1 ?_;simp[hb5,hb6,hb7,hb8];refine Ag.intro fun b10 hb10=>?_;simp only[Ap,Az,and_true]at hb10;refine Ag.intro fun b11 hb11=>?_;simp only[Ap,Az,and_true]at hb11;simp[hb5,hb6,hb7,hb8,hb10,hb11,Rk hb11.1.2];refine hK _ rfl ?_;clear hK K;(repeat refine AW.seq_k fun K hK=>?_);refine AW.rg ?_;simp[hb5,hb6,hb7,hb8,hb10,hb11];try (refine hK _ rfl ?_;clear hK K)
 refine Ac.val c2 ?_;simp[hb5,hb6,hb7,hb8,hb10,hb11];refine Ag.intro fun b13 hb13=>?_;simp only[Ap,Az,and_true]at hb13;refine Ag.intro fun b14 hb14=>?_;simp only[Ap,Az,and_true]at hb14;simp[hb5,hb6,hb7,hb8,hb10,hb11,hb13,hb14,Rk hb14.1.2];refine hK _ rfl ?_;clear hK K;refine AW.seq_ex (ι:=Unit) (fun _=>[(5,.ptr b5 2 0 0),(6,.ptr b6 2 0 0),(7,.ptr b7 2 0 0),(8,.ptr b8 2 0 0),(9,.int .i64 s),(11,.ptr b11 2 0 0),(14,.ptr b14 2 0 0)]) (fun _=>((((Ik b5 b6 b7 b8 ⟨x,y,u,v,s⟩).set b10 (Cb q1)).set b11 (Cb r1)).set b13 (Cb q2)).set b14 (Cb r2)) (fun _=>q1=q2) ?_ ?_
 ·(repeat refine AW.seq_k fun K hK=>?_);refine AW.rg ?_;simp[hb5,hb6,hb7,hb8,hb10,hb11,hb13,hb14];try (refine hK _ rfl ?_;clear hK K)
  refine Ac.val c3 ?_;simp[hb5,hb6,hb7,hb8,hb10,hb11,hb13,hb14];refine hK _ rfl ?_;clear hK K;have hc1:Ie q1 q2=0↔q1=q2:=Qdz;have hc2:=Qaf q1 q2;generalize Ie q1 q2=cc at *;(repeat refine AW.seq_k fun K hK=>?_);refine AW.rg ?_;simp;try (refine hK _ rfl ?_;clear hK K)
  (repeat refine AW.seq ?_);refine AW.cs (fun hc=>?_) (fun hc=>?_) rfl<;>(try simp at hc)
  ·(repeat refine AW.seq_k fun K hK=>?_);refine AW.rg ?_;simp;try (refine hK _ rfl ?_;clear hK K)
   have hw:IntKind.i64.wrap (s*cc)=s*cc:=Qgb i8 hc2;refine AW.ret (Ai (vs:=[.int .i64 (s*cc)]) [.int .i64 (s*cc)] (by simp[hw]) (by simp) ⟨⟨s*cc,rfl,?_,?_⟩,rfl⟩)
   ·have:a≠b:=fun h=>(p1 (fun h2=>hc (hc1.2 h2))) (i7.1 h);exact⟨fun h0=>absurd h0 (Qn4 i8 hc),fun h=>absurd h this⟩
   ·exact Qdw i8 hc2
  ·refine AW.skip ?_;try simp
   refine⟨hc1.1 hc,?_⟩;rfl
 rintro _ hq;subst hq;have p2:=p2 rfl;obtain⟨t1,ht1⟩:∃t,t=decide (r1=0):=⟨_,rfl⟩;obtain⟨t2,ht2⟩:∃t,t=decide (r2=0):=⟨_,rfl⟩;rw[←ht1]at c4;rw[←ht2]at c5;have hne:(t1=true∨t2=true)→(a=b↔t1=true∧t2=true):=by
  intro h;rw[i7,p2,ht1,ht2]at *;simp only[decide_eq_true_eq]at h ⊢;constructor
  ·intro e;rcases h with h | h
   ·rw[h,Int.zero_mul]at e;refine⟨h,?_⟩;rcases Int.mul_eq_zero.1 e.symm with h' | h'
    ·exact h'
    ·omega
   ·rw[h,Int.zero_mul]at e;refine⟨?_,h⟩;rcases Int.mul_eq_zero.1 e with h' | h'
    ·exact h'
    ·omega
  ·rintro⟨h1,h2⟩;rw[h1,h2];simp
 have hsn:=Qjn i8;refine AW.seq_ex (ι:=Unit) (fun _=>[(5,.ptr b5 2 0 0),(6,.ptr b6 2 0 0),(7,.ptr b7 2 0 0),(8,.ptr b8 2 0 0),(9,.int .i64 s),(11,.ptr b11 2 0 0),(14,.ptr b14 2 0 0)]) (fun _=>((((Ik b5 b6 b7 b8 ⟨x,y,u,v,s⟩).set b10 (Cb q1)).set b11 (Cb r1)).set b13 (Cb q1)).set b14 (Cb r2)) (fun _=>t1=false∧t2=false) ?_ ?_
 ·(repeat refine AW.seq ?_);refine AW.block ?_;refine AW.seq_ex (ι:=Unit) (fun _=>[(5,.ptr b5 2 0 0),(6,.ptr b6 2 0 0),(7,.ptr b7 2 0 0),(8,.ptr b8 2 0 0),(9,.int .i64 s),(11,.ptr b11 2 0 0),(14,.ptr b14 2 0 0),(53,.bool (t1&&t2))]) (fun _=>((((Ik b5 b6 b7 b8 ⟨x,y,u,v,s⟩).set b10 (Cb q1)).set b11 (Cb r1)).set b13 (Cb q1)).set b14 (Cb r2)) (fun _=>True) ?_ ?_
  ·cases t1
   ·(repeat refine AW.seq_k fun K hK=>?_);refine AW.rg ?_;simp[Cb,Ik,hb5,hb6,hb7,hb8,hb10,hb11,hb13,hb14];try (refine hK _ rfl ?_;clear hK K)
    refine Ac.val c4 ?_;simp[hb5,hb6,hb7,hb8,hb10,hb11,hb13,hb14]
   ·(repeat refine AW.seq_k fun K hK=>?_);refine AW.rg ?_;simp[Cb,Ik,hb5,hb6,hb7,hb8,hb10,hb11,hb13,hb14];try (refine hK _ rfl ?_;clear hK K)
    refine Ac.val c4 ?_;simp[hb5,hb6,hb7,hb8,hb10,hb11,hb13,hb14];refine Ac.val c5 ?_;simp[hb5,hb6,hb7,hb8,hb10,hb11,hb13,hb14]
  rintro _ -;cases h12:(t1&&t2)
  ·refine AW.no ?_ rfl;refine AW.seq_ex (ι:=Unit) (fun _=>[(5,.ptr b5 2 0 0),(6,.ptr b6 2 0 0),(7,.ptr b7 2 0 0),(8,.ptr b8 2 0 0),(9,.int .i64 s),(11,.ptr b11 2 0 0),(14,.ptr b14 2 0 0),(60,.bool t1)]) (fun _=>((((Ik b5 b6 b7 b8 ⟨x,y,u,v,s⟩).set b10 (Cb q1)).set b11 (Cb r1)).set b13 (Cb q1)).set b14 (Cb r2)) (fun _=>True) ?_ ?_
   ·(repeat refine AW.seq_k fun K hK=>?_);refine AW.rg ?_;simp[Cb,Ik,hb5,hb6,hb7,hb8,hb10,hb11,hb13,hb14];try (refine hK _ rfl ?_;clear hK K)
    refine Ac.val c4 ?_;simp[hb5,hb6,hb7,hb8,hb10,hb11,hb13,hb14]
   rintro _ -;cases t1
   ·refine AW.no ?_ rfl;refine AW.seq_ex (ι:=Unit) (fun _=>[(5,.ptr b5 2 0 0),(6,.ptr b6 2 0 0),(7,.ptr b7 2 0 0),(8,.ptr b8 2 0 0),(9,.int .i64 s),(11,.ptr b11 2 0 0),(14,.ptr b14 2 0 0),(65,.bool t2)]) (fun _=>((((Ik b5 b6 b7 b8 ⟨x,y,u,v,s⟩).set b10 (Cb q1)).set b11 (Cb r1)).set b13 (Cb q1)).set b14 (Cb r2)) (fun _=>True) ?_ ?_
    ·(repeat refine AW.seq_k fun K hK=>?_);refine AW.rg ?_;simp[Cb,Ik,hb5,hb6,hb7,hb8,hb10,hb11,hb13,hb14];try (refine hK _ rfl ?_;clear hK K)
     refine Ac.val c5 ?_;simp[hb5,hb6,hb7,hb8,hb10,hb11,hb13,hb14]
    rintro _ -;cases t2
    ·refine AW.no ?_ rfl;refine AW.skip ?_;try simp
    ·refine AW.yes ?_ rfl;(repeat refine AW.seq_k fun K hK=>?_);refine AW.rg ?_;simp;try (refine hK _ rfl ?_;clear hK K)
     refine AW.ret (Ai (vs:=[.int .i64 s]) [.int .i64 s] (by simp) (by simp) ⟨⟨s,rfl,⟨fun h=>absurd h hsn.2.2.2,fun h=>?_⟩,?_⟩,rfl⟩)
     ·have:=(hne (.inr rfl)).1 h;simp at this
     ·rcases i8 with h|h<;>simp[h]
   ·refine AW.yes ?_ rfl;(repeat refine AW.seq_k fun K hK=>?_);refine AW.rg ?_;simp[hsn.1];try (refine hK _ rfl ?_;clear hK K)
    refine AW.ret (Ai (vs:=[.int .i64 (-s)]) [.int .i64 (-s)] (by simp) (by simp) ⟨⟨-s,rfl,⟨fun h=>absurd h hsn.2.2.1,fun h=>?_⟩,?_⟩,rfl⟩)
    ·have:=(hne (.inl rfl)).1 h;rw[this.2]at h12;simp at h12
    ·rcases hsn.2.1 with h|h<;>simp[h]
  ·refine AW.yes ?_ rfl;(repeat refine AW.seq_k fun K hK=>?_);refine AW.rg ?_;simp;try (refine hK _ rfl ?_;clear hK K)
   have hb:t1=true∧t2=true:=by simpa using h12
   refine AW.ret (Ai (vs:=[.int .i64 0]) [.int .i64 0] (by simp) (by simp) ⟨⟨0,rfl,⟨fun _=>(hne (.inl hb.1)).2 hb,fun _=>rfl⟩,.inr (.inl rfl)⟩,rfl⟩)
 rintro _ ⟨z1,z2⟩;rw[ht1]at z1;rw[ht2]at z2;have z1:r1≠0:=by simpa using z1
 have z2:r2≠0:=by simpa using z2
 clear ht1 ht2 hne c1 c2 c3 c4 c5;(repeat refine AW.seq_k fun K hK=>?_);refine AW.rdT [(6,b6),(11,b11),(8,b8),(14,b14),(5,b5),(7,b7)] [] [] [b6,b11,b8,b14] [0,1,2,3,4,5,6,7] Ds (by simp[Cb,Ik,hb5,hb6,hb7,hb8,hb10,hb11,hb13,hb14]) (by simp[Cb,Ik,hb5,hb6,hb7,hb8,hb10,hb11,hb13,hb14]) (by simp[Cb,Ik,hb5,hb6,hb7,hb8,hb10,hb11,hb13,hb14]) (by simp[Cb,Ik,hb5,hb6,hb7,hb8,hb10,hb11,hb13,hb14]) (by simp[Cb,Ik,hb5,hb6,hb7,hb8,hb10,hb11,hb13,hb14]) ?_;simp[Cb,Ik,hb5,hb6,hb7,hb8,hb10,hb11,hb13,hb14]
 try (refine hK _ rfl ?_;clear hK K)
 refine AW.turn [(5,.ptr b5 2 0 0),(6,.ptr b6 2 0 0),(7,.ptr b7 2 0 0),(8,.ptr b8 2 0 0),(9,.int .i64 s)] (Ik b5 b6 b7 b8 ⟨y,r1,v,r2,s⟩) (Bj.sub fun k z hz=>?_) (by simp) ?_
 ·unfold Ik Cb at hz;simp only[A3,Az]at hz;by_cases k8:k=b8
  ·subst k8;rw[if_pos rfl]at hz;cases hz;exact⟨by simp[hb5,hb6,hb7,hb8,hb10,hb11,hb13,hb14],by simp⟩
  rw[if_neg k8]at hz;by_cases k7:k=b7
  ·subst k7;rw[if_pos rfl]at hz;cases hz;exact⟨by simp[hb5,hb6,hb7,hb8,hb10,hb11,hb13,hb14],by simp⟩
  rw[if_neg k7]at hz;by_cases k6:k=b6
  ·subst k6;rw[if_pos rfl]at hz;cases hz;exact⟨by simp[hb5,hb6,hb7,hb8,hb10,hb11,hb13,hb14],by simp⟩
  rw[if_neg k6]at hz;by_cases k5:k=b5
  ·subst k5;rw[if_pos rfl]at hz;cases hz;exact⟨by simp[hb5,hb6,hb7,hb8,hb10,hb11,hb13,hb14],by simp⟩
  rw[if_neg k5]at hz;cases hz
 (repeat refine AW.seq_k fun K hK=>?_);refine AW.rg ?_;simp[hsn.1];try (refine hK _ rfl ?_;clear hK K)
 refine⟨⟨y,r1,v,r2,-s⟩,⟨Qdc f1.1 z1,Qdc f2.1 z2,i4,e3,i6,e4,?_,hsn.2.1⟩,Qk0 f1.1 f1.2,rfl,rfl⟩;rw[i7,p2];simp only;rw[Int.mul_comm y r2,Int.mul_comm v r1];exact eq_comm
theorem Qd6 (a b:RR) (ha:a.Lb) (hb:b.Lb) (oa:a.ok=true) (ob:b.ok=true):Aj Tryz.prog 151 [a.av,b.av] Aa.emp fun v m=>(∃c:Int,v=.tup [.int .i64 c,.int .i64 0]∧(c=0↔a.q=b.q))∧m=Aa.emp:=by
 have hal:=R8 a b ha hb;rw[oa,ob]at hal;have hc:=T5 a.q b.q (Ek ha oa).1 (Ek hb ob).1;rw[←Pk ha oa,←Pk hb ob]at hc;unfold RR.av at *;refine Ad Tryz.func151 rfl rfl 14 rfl (Nat.le_of_ble_eq_true rfl) ?_;(repeat refine AW.seq_k fun K hK=>?_);refine AW.rgR [2,3] ?_;simp[Ak];try (refine hK _ rfl ?_;clear hK K)
 (repeat refine AW.seq_k fun K hK=>?_);refine AW.rgR [8] ?_;simp;try (refine hK _ rfl ?_;clear hK K)
 refine Ac.val hal ?_;simp;refine hK _ rfl ?_;clear hK K;refine AW.no ?_ rfl;refine AW.skip ?_;try simp
 refine hK _ rfl ?_;clear hK K;(repeat refine AW.seq_k fun K hK=>?_);refine AW.rg ?_;simp;try (refine hK _ rfl ?_;clear hK K)
 refine Ac.pure hc ?_;rintro _ ⟨c,rfl,h1,h2⟩;simp;refine hK _ rfl ?_;clear hK K;exact AW.ret (Ai (vs:=[.int .i64 c,.int .i64 0]) [.int .i64 c,.int .i64 0] (by simp) (by simp) ⟨⟨c,rfl,h1⟩,rfl⟩)
def symm (M:List (List Rat)) (n:Nat):Prop:=∀i,i<n→∀k,k<i→Ju M i k=Ju M k i
end Go.Av
end
section
namespace Go.Av
open Go.Proofs
def Zl (e:Int) (v:List RR) (Z:Option (List Rat)):Prop :=
 match Z with
 |some q=>e=0∧v=q.map Be∧Gc q
 |none=>e=2
theorem Zl.to {e:Int} {v:List RR} {Z Z':Option (List Rat)} (h:Zl e v Z) (hZ:Z'=Z):Zl e v Z':=hZ ▸ h
theorem Zl.ok {e:Int} {v:List RR} {Z:Option (List Rat)} (h:Zl e v Z) (he:e=0) {k:Nat} (hk:k<v.length):(rr v k).ok=true:=by
 cases Z with
 |none=>have:e=2:=h;omega
 |some q =>
  obtain⟨_,rfl,m3⟩:e=0∧v=q.map Be∧Gc q:=h;have hkq:k<q.length:=by simpa using hk
  rw[Jn hkq];refine Ex (m3 _ ?_);unfold Dy;rw[List.getD_eq_getElem?_getD,List.getElem?_eq_getElem hkq];exact List.getElem_mem hkq
theorem Gc.at {r:List Rat} (h:Gc r) {k:Nat} (hk:k<r.length):B4 (Dy r k):=by
 unfold Dy;rw[List.getD_eq_getElem?_getD,List.getElem?_eq_getElem hk];exact h _ (List.getElem_mem hk)
end Go.Av
end
section
namespace Go.Av
open Go.Proofs
structure Fi (M:Aa) (c B:Nat) (bs:List Nat) (rows:List (List RR)) (x:AV) (by_:Nat) (fs:List AV) (ov:AV) (ob:List Nat) (ws:List AV):Prop where
 red:Dl (M.only (c::B::bs)) c B bs rows x .nil [] []
 by':M by_=some ⟨51,1,fs⟩
 lst:Ny M 44 4 ov ob ws
 nby:by_ ∉ c::B::bs
 nob:∀b∈ob,b ∉ c::B::bs∧b≠by_
section
variable {M:Aa} {c B:Nat} {bs:List Nat} {rows:List (List RR)} {x:AV} {by_:Nat} {fs:List AV} {ov:AV} {ob:List Nat} {ws:List AV}
theorem Fi.cell (h:Fi M c B bs rows x by_ fs ov ob ws):M c=some ⟨118,1,[x]⟩:=by
 have:=h.red.cell;rwa [Bv (by simp)]at this
theorem Fi.top (h:Fi M c B bs rows x by_ fs ov ob ws):M B=some ⟨51,1,Gh bs rows⟩:=by
 have:=h.red.mat.top;rwa [Bv (by simp)]at this
theorem Fi.row (h:Fi M c B bs rows x by_ fs ov ob ws) {i:Nat} (hi:i<rows.length):M (nb bs i)=some ⟨44,4,Ct (Al rows i)⟩:=by
 have:=h.red.mat.row i hi
 rwa [Bv (by simp[Ew (show i<bs.length by rw[h.red.mat.len];exact hi)])]at this
theorem Fi.back (h:Fi M c B bs rows x by_ fs ov ob ws) {g:Aa} {rows':List (List RR)} {x':AV} (hg:Dl g c B bs rows' x' .nil [] []):Fi (M.back (c::B::bs) g) c B bs rows' x' by_ fs ov ob ws:=by
 have ho:∀b,b ∉ c::B::bs→g b=none:=fun b hb=>by
  cases hx:g b with
  |none=>rfl
  |some y=>have:=hg.only b (by rw[hx];simp);exact absurd (by simpa using this) hb
 have e:(M.back (c::B::bs) g).only (c::B::bs)=g:=by
  funext b
  by_cases hb:b∈c::B::bs
  ·rw[Bv hb,Qcz hb]
  ·rw[Bo hb,ho b hb]
 exact⟨by rw[e];exact hg,by rw[Hd (ho _ h.nby) h.nby];exact h.by',h.lst.keep fun b hb=>Hd (ho b (h.nob b hb).1) (h.nob b hb).1,h.nby,h.nob⟩
theorem Jc {m:Aa} {l:List Nat} {b:Nat} (hb:b ∉ l) (y:Et):(m.set b y).only l=m.only l:=by
 funext k
 by_cases hk:k∈l
 ·rw[Bv hk,Bv hk];simp only[A3];rw[if_neg (by rintro rfl;exact hb hk)]
 ·rw[Bo hk,Bo hk]
theorem Fi.push0 (h:Fi M c B bs rows x by_ fs .nil [] []) {b:Nat} (hb:M b=none) (v:AV):Fi (M.set b ⟨44,4,[v]⟩) c B bs rows x by_ fs (.osl b 4 0 1) [b] [v]:=by
 have h1:b ∉ c::B::bs:=by
  intro hm;have:(M.only (c::B::bs)) b=none:=by rw[Bv hm];exact hb
  obtain⟨f1,f2,f3,_⟩:=h.red.fresh this;simp[f1,f2,f3]at hm
 have h2:b≠by_:=by rintro rfl;rw[h.by']at hb;cases hb
 exact⟨by rw[Jc h1];exact h.red,by simp only[A3];rw[if_neg (Ne.symm h2)];exact h.by',.inr ⟨b,rfl,rfl,by simp⟩,h.nby,fun a ha=>by simp at ha;subst ha;exact⟨h1,h2⟩⟩
theorem Fi.push1 {b0:Nat} (h:Fi M c B bs rows x by_ fs (.osl b0 4 0 ws.length) [b0] ws) {b:Nat} (hb:(M.del b0) b=none) (v:AV):Fi ((M.del b0).set b ⟨44,4,ws++[v]⟩) c B bs rows x by_ fs (.osl b 4 0 (ws.length+1)) [b] (ws++[v]):=by
 obtain⟨k1,k2⟩:=h.nob b0 (by simp);have hh:Fi (M.del b0) c B bs rows x by_ fs .nil [] []:=by
  have hdel:∀a,a≠b0→(M.del b0) a=M a:=fun a ha=>if_neg ha;have e:(M.del b0).only (c::B::bs)=M.only (c::B::bs):=by
   funext a
   by_cases ha:a∈c::B::bs
   ·rw[Bv ha,Bv ha,hdel a (by rintro rfl;exact k1 ha)]
   ·rw[Bo ha,Bo ha]
  exact⟨by rw[e];exact h.red,by rw[hdel by_ (Ne.symm k2)];exact h.by',.inl ⟨rfl,rfl,rfl⟩,h.nby,by simp⟩
 have h1:b ∉ c::B::bs:=by
  intro hm;have:((M.del b0).only (c::B::bs)) b=none:=by rw[Bv hm];exact hb
  obtain⟨f1,f2,f3,_⟩:=hh.red.fresh this;simp[f1,f2,f3]at hm
 have h2:b≠by_:=by rintro rfl;rw[hh.by']at hb;cases hb
 exact⟨by rw[Jc h1];exact hh.red,by simp only[A3];rw[if_neg (Ne.symm h2)];exact hh.by',.inr ⟨b,rfl,by simp,by simp⟩,h.nby,fun a ha=>by simp at ha;subst ha;exact⟨h1,h2⟩⟩
theorem Dl.as_only {M:Aa} {c B:Nat} {bs:List Nat} {rows:List (List RR)} {x:AV} (h:Dl M c B bs rows x .nil [] []):Dl (M.only (c::B::bs)) c B bs rows x .nil [] []:=by
 rw[Qeo (h.only.sub fun b hb=>by simpa using hb)];exact h
theorem Fi.start {x:AV} {by_:Nat} {fs:List AV} (h:Dl M c B bs rows x .nil [] []) (hb:M by_=none):Fi (M.set by_ ⟨51,1,fs⟩) c B bs rows x by_ fs .nil [] []:=by
 obtain⟨f1,f2,f3,_⟩:=h.fresh hb;have hn:by_ ∉ c::B::bs:=by simp[f1,f2,f3]
 exact⟨by rw[Jc hn];exact h.as_only,by simp,.inl ⟨rfl,rfl,rfl⟩,hn,by simp⟩
theorem Fi.store (h:Fi M c B bs rows x by_ fs ov ob ws) {e:Int} (hx:Ge x e) {bv n j:Nat} {form:List RR} (hb:M bv=none) (hl:form.length=n) (h1:∀v∈fs,v.cells.all AV.one=true) (h2:∀b y,M b=some y→∀v∈y.l,v.cells.all AV.one=true) (hj:j<fs.length) :
  Bj ((M.set bv ⟨44,4,Ct form⟩).set by_ ⟨51,1,fs.set j (.osl bv 4 0 n)⟩) (M.set by_ ⟨51,1,fs.set j (A6 form)⟩):=by
 have hne:by_≠bv:=by rintro rfl;rw[h.by']at hb;cases hb
 refine⟨fun b y hy=>?_⟩;simp only[A3]at hy;by_cases hby:b=by_
 ·rw[if_pos hby]at hy;cases hy;refine⟨⟨51,1,fs.set j (.osl bv 4 0 n)⟩,by simp[hby],rfl,rfl,by simp,fun k v v' q1 q2=>?_⟩;simp only[List.getElem?_set]at q1 q2;by_cases hk:j=k
  ·subst hk;rw[if_pos rfl,if_pos hj]at q1 q2;cases q1;cases q2;refine⟨Yj (e:=44) (r:=form) (by simp[Ne.symm hne]) ?_ hl,rfl⟩;simp only[A3];rw[if_neg (Ne.symm hne)];exact hb
  ·rw[if_neg hk]at q1 q2;rw[q1]at q2;cases q2;exact⟨.same _,h1 v (List.mem_of_getElem? q1)⟩
 ·rw[if_neg hby]at hy;have hbv:b≠bv:=by rintro rfl;rw[hb]at hy;cases hy
  refine⟨y,?_,rfl,rfl,rfl,fun k v v' q1 q2=>?_⟩
  ·simp only[A3];rw[if_neg hby,if_neg hbv];exact hy
  ·rw[q1]at q2;cases q2;exact⟨.same _,h2 b y hy v (List.mem_of_getElem? q1)⟩
end
end Go.Av
end
section
namespace Go.Av
open Go.Proofs
def Iq (M:Aa):Prop:=∀b y,M b=some y→∀v∈y.l,v.cells.all AV.one=true
theorem Iq.set {M:Aa} (h:Iq M) (b:Nat) {y:Et} (hy:∀v∈y.l,v.cells.all AV.one=true):Iq (M.set b y):=by
 intro c z hz;simp only[A3]at hz;split at hz
 ·cases hz;exact hy
 ·exact h c z hz
theorem Iq.del {M:Aa} (h:Iq M) (b:Nat):Iq (M.del b):=by
 intro c z hz;unfold Aa.del at hz;split at hz
 ·cases hz
 ·exact h c z hz
theorem Qcj {q:Rat} (h:B4 q):(Be q).l1.length<2^40∧(Be q).l2.length<2^40:=by
 have h1:=Bc h.1;have h2:=Bc h.2;exact⟨Nat.lt_of_le_of_lt h1 (by omega),Nat.lt_of_le_of_lt h2 (by omega)⟩
theorem Qdt {m g:Aa} {l:List Nat} (h1:∀b y,m b=some y→∀v∈y.l,v.cells.all AV.one=true) (h2:∀b y,g b=some y→∀v∈y.l,v.cells.all AV.one=true):∀b y,m.back l g b=some y→∀v∈y.l,v.cells.all AV.one=true:=by
 intro b y hy;unfold Aa.back at hy;cases hg:g b with
 |some z=>rw[hg]at hy;exact h2 b y (hg.trans hy)
 |none =>
  rw[hg]at hy;simp only at hy;split at hy
  ·cases hy
  ·exact h1 b y hy
set_option maxHeartbeats 2000000
end Go.Av
end
section
namespace Go.Av
open Go.Proofs
def Qgg (p:Prop) (v:AV):Prop:=∃t:Bool,v=.bool t∧(t=true↔p)
theorem V8 {a b:List Nat} (h:a.length=b.length) (he:∀k,k<a.length→nth a k=nth b k):a=b:=by
 refine List.ext_getElem h fun k h1 h2=>?_;have:=he k h1;unfold nth at this
 rwa [List.getD_eq_getElem?_getD,List.getD_eq_getElem?_getD,List.getElem?_eq_getElem h1,List.getElem?_eq_getElem h2]at this
theorem Se (n1 n2:Bool) (l1 l2:List Nat) (h1:l1.length<2^40):Aj Tryz.prog 71 [.agg [.bool n1,Am l1],.agg [.bool n2,Am l2]] Aa.emp fun v m=>Qgg (n1=n2∧l1=l2) v∧m=Aa.emp:=by
 by_cases hn:n1=n2
 ·subst hn;by_cases hl:l1.length=l2.length
  ·refine Ad Tryz.func71 rfl rfl 38 rfl (Nat.le_of_ble_eq_true rfl) ?_;(repeat refine AW.seq_k fun K hK=>?_);refine AW.rgR [2,3] ?_;simp[Ak];try (refine hK _ rfl ?_;clear hK K)
   (repeat refine AW.seq_k fun K hK=>?_);refine AW.rg ?_;simp[hl];try (refine hK _ rfl ?_;clear hK K)
   refine AW.no ?_ (by simp);refine AW.skip ?_;try simp
   refine hK _ rfl ?_;clear hK K;refine AW.seq_ex (ι:=Unit) (fun _=>[]) (fun _=>Aa.emp) (fun _=>l1=l2) ?_ ?_
   ·(repeat refine AW.seq_k fun K hK=>?_);refine AW.rg ?_;simp;try (refine hK _ rfl ?_;clear hK K)
    refine AW.block (AW.loopS (ι:=Nat) (fun i=>[(2,.rptr [.bool n1,Am l1]),(3,.rptr [.bool n1,Am l2]),(5,.int .i64 (i:Nat))]) (fun _=>Aa.emp) (fun i=>i≤l1.length∧∀k,k<i→nth l1 k=nth l2 k) (fun i=>l1.length-i) 0 ⟨by simp,by simp⟩ rfl (by simp) ?_);rintro i ⟨g1,g2⟩;(repeat refine AW.seq_k fun K hK=>?_);refine AW.rg ?_;simp;try (refine hK _ rfl ?_;clear hK K)
    (repeat refine AW.seq ?_);refine AW.cs (fun hi=>?_) (fun hi=>?_) rfl<;>(try simp at hi)
    ·refine AW.skip ?_;try simp
     refine hK _ rfl ?_;clear hK K;have hi2:i<l2.length:=by omega
     have w1:=Aq (i+1) (by omega);refine AW.seq_ex (ι:=Unit) (fun _=>[(2,.rptr [.bool n1,Am l1]),(3,.rptr [.bool n1,Am l2]),(5,.int .i64 (i:Nat))]) (fun _=>Aa.emp) (fun _=>nth l1 i=nth l2 i) ?_ ?_
     ·(repeat refine AW.seq ?_);refine AW.block ?_;(repeat refine AW.seq_k fun K hK=>?_);refine AW.rd [0,1,2,3,4,5,6,7,8,9,10] Ds ?_;simp[hi,hi2];try (refine hK _ rfl ?_;clear hK K)
      by_cases h0:nth l1 i=nth l2 i
      ·refine AW.no ?_ (by simp[h0]);exact AW.skip ⟨(),h0,by simp⟩
      ·refine AW.yes ?_ (by simp[h0]);(repeat refine AW.seq_k fun K hK=>?_);refine AW.rg ?_;simp;try (refine hK _ rfl ?_;clear hK K)
       exact AW.ret (Ai (vs:=[.bool false]) [.bool false] (by simp) (by simp) ⟨⟨false,rfl,by simp;intro h;exact h0 (by rw[h])⟩,rfl⟩)
     rintro _ h0;(repeat refine AW.seq_k fun K hK=>?_);refine AW.rg ?_;simp[-Int.natCast_add,w1];try (refine hK _ rfl ?_;clear hK K)
     refine⟨⟨hi,fun k hk=>?_⟩,by omega⟩;rcases Nat.lt_succ_iff_lt_or_eq.1 hk with h | rfl
     ·exact g2 k h
     ·exact h0
    ·refine AW.exit ?_;try simp
     exact V8 hl fun k hk=>g2 k (by omega)
   rintro _ rfl;(repeat refine AW.seq_k fun K hK=>?_);refine AW.rg ?_;simp;try (refine hK _ rfl ?_;clear hK K)
   exact AW.ret (Ai (vs:=[.bool true]) [.bool true] (by simp) (by simp) ⟨⟨true,rfl,by simp⟩,rfl⟩)
  ·refine Ad Tryz.func71 rfl rfl 38 rfl (Nat.le_of_ble_eq_true rfl) ?_;(repeat refine AW.seq_k fun K hK=>?_);refine AW.rgR [2,3] ?_;simp[Ak];try (refine hK _ rfl ?_;clear hK K)
   (repeat refine AW.seq_k fun K hK=>?_);refine AW.rg ?_;simp[hl];try (refine hK _ rfl ?_;clear hK K)
   refine AW.yes ?_ (by simp);(repeat refine AW.seq_k fun K hK=>?_);refine AW.rg ?_;simp;try (refine hK _ rfl ?_;clear hK K)
   exact AW.ret (Ai (vs:=[.bool false]) [.bool false] (by simp) (by simp) ⟨⟨false,rfl,by simp;intro h;exact hl (by rw[h])⟩,rfl⟩)
 ·refine Ad Tryz.func71 rfl rfl 38 rfl (Nat.le_of_ble_eq_true rfl) ?_;(repeat refine AW.seq_k fun K hK=>?_);refine AW.rgR [2,3] ?_;simp[Ak];try (refine hK _ rfl ?_;clear hK K)
  (repeat refine AW.seq_k fun K hK=>?_);refine AW.rg ?_;simp[hn];try (refine hK _ rfl ?_;clear hK K)
  refine AW.yes ?_ (by simp);(repeat refine AW.seq_k fun K hK=>?_);refine AW.rg ?_;simp;try (refine hK _ rfl ?_;clear hK K)
  exact AW.ret (Ai (vs:=[.bool false]) [.bool false] (by simp) (by simp) ⟨⟨false,rfl,by simp[hn]⟩,rfl⟩)
def Qoq (a:RR):Prop:=a.l1.length<2^40∧a.l2.length<2^40
theorem Qfg (a b:RR) (h:Qoq a):Aj Tryz.prog 33 [a.av,b.av] Aa.emp fun v m=>Qgg (a=b) v∧m=Aa.emp:=by
 have i1:=Se a.n1 b.n1 a.l1 b.l1 h.1;have i2:=Se a.n2 b.n2 a.l2 b.l2 h.2;have hab:a=b↔(a.n1=b.n1∧a.l1=b.l1)∧(a.n2=b.n2∧a.l2=b.l2):=by
  obtain⟨x1,x2,x3,x4⟩:=a;obtain⟨y1,y2,y3,y4⟩:=b;simp only[RR.mk.injEq,and_assoc]
 unfold RR.av;refine Ad Tryz.func33 rfl rfl 17 rfl (Nat.le_of_ble_eq_true rfl) ?_;(repeat refine AW.seq_k fun K hK=>?_);refine AW.rgR [2,3] ?_;simp[Ak];try (refine hK _ rfl ?_;clear hK K)
 (repeat refine AW.seq_k fun K hK=>?_);refine AW.rg ?_;simp;try (refine hK _ rfl ?_;clear hK K)
 refine Ac.pure i1 ?_;rintro _ ⟨t1,rfl,h1⟩;simp;cases t1
 ·simp;refine hK _ rfl ?_;clear hK K;exact AW.ret (Ai (vs:=[.bool false]) [.bool false] (by simp) (by simp) ⟨⟨false,rfl,by simp only[Bool.false_eq_true,false_iff];intro h;have:=h1.2 (hab.1 h).1;cases this⟩,rfl⟩)
 ·simp;refine Ac.pure i2 ?_;rintro _ ⟨t2,rfl,h2⟩;simp;refine hK _ rfl ?_;clear hK K;exact AW.ret (Ai (vs:=[.bool t2]) [.bool t2] (by simp) (by simp) ⟨⟨t2,rfl,by rw[h2,hab];exact⟨fun h=>⟨h1.1 rfl,h⟩,fun h=>h.2⟩⟩,rfl⟩)
end Go.Av
end
section
namespace Go.Av
open Go.Proofs
theorem Qj7 (X:List (List Rat)):Wz (Cs X)=X:=by
 unfold Wz Cs;rw[List.map_map]
 conv=>rhs;rw[←List.map_id X]
 refine List.map_congr_left fun r _=>?_;show(r.map Be).map RR.q=r
 rw[List.map_map]
 conv=>rhs;rw[←List.map_id r]
 exact List.map_congr_left fun q _=>Gt q
theorem Qiv {n w:Nat} {X:List (List Rat)} (h:De n w X) (hw:(Al X 0).length=w) (h1:n≤64) (h2:w≤64):chk (Cs X)=0:=by
 refine Qio ?_ ?_
 ·rintro(h'|⟨k,hk,h'⟩)
  ·rw[Bi,h.2.2]at h';omega
  ·rw[Bi,h.2.2]at hk;rw[Ch,List.length_map,(h.row hk).2]at h';omega
 ·intro k hk;rw[Bi,h.2.2]at hk;rw[Ch,Ch,List.length_map,List.length_map,(h.row hk).2,hw];refine⟨rfl,fun j hj=>?_⟩;have hjl:j<(Al X k).length:=by rw[(h.row hk).2];exact hj
  rw[Jn hjl];exact Ex ((h.row hk).1.at hjl)
set_option maxHeartbeats 1000000
end Go.Av
end
section
namespace Go.Av
open Go.Proofs
def Qfj (M:Aa) (B:Nat) (bs:List Nat) (X:List (List Rat)):Prop:=Ea M B bs (Cs X)∧Dr M (B::bs)
theorem Qfj.ones {M:Aa} {B:Nat} {bs:List Nat} {X:List (List Rat)} (h:Qfj M B bs X):Iq M:=h.1.ones (l:=[]) h.2 (by simp)
theorem Qfj.setRow {M:Aa} {B:Nat} {bs:List Nat} {X:List (List Rat)} (h:Qfj M B bs X) {i:Nat} (hi:i<X.length) {r:List Rat} (hr:r.length=(Al X i).length):Qfj (M.set (nb bs i) ⟨44,4,Ct (r.map Be)⟩) B bs (X.set i r):=by
 refine⟨?_,h.2.set ?_ _⟩
 ·rw[Mw];exact h.1.setRow (by rw[Bi];exact hi) _ (by rw[Ch,List.length_map,List.length_map,hr])
 ·exact List.mem_cons_of_mem _ (Ew (by rw[h.1.len,Bi];exact hi))
set_option maxHeartbeats 1000000
end Go.Av
end
section
namespace Go.Av
open Go.Proofs
theorem Ea.snoc {M':Aa} {B:Nat} {bs:List Nat} {rows:List (List RR)} {b:Nat} {r:List RR} (hl:bs.length=rows.length) (htop:M' B=some ⟨51,1,Gh bs rows++[.osl b 4 0 r.length]⟩) (hrow:∀i,i<rows.length→M' (nb bs i)=some ⟨44,4,Ct (Al rows i)⟩) (hb:M' b=some ⟨44,4,Ct r⟩) (hnd:bs.Nodup) (hbb:b ∉ bs) (hB:B ∉ bs) (hBb:B≠b):Ea M' B (bs++[b]) (rows++[r]):=by
 refine⟨by rw[Uw hl];exact htop,by simp[hl],fun i hi=>?_,?_,?_⟩
 ·have hi':i<rows.length+1:=by simpa using hi
  rw[Qdo bs b i (by rw[hl];exact hi'),Uh rows r i hi',hl];by_cases hlt:i<rows.length
  ·rw[if_pos hlt,if_pos hlt];exact hrow i hlt
  ·rw[if_neg hlt,if_neg hlt];exact hb
 ·rw[List.nodup_append];exact⟨hnd,by simp,fun x hx y hy=>by simp at hy;subst hy;exact fun e=>hbb (e ▸ hx)⟩
 ·simp only[List.mem_append,List.mem_singleton,not_or];exact⟨hB,hBb⟩
end Go.Av
end
section
namespace Go.Av
open Go.Proofs
structure Mk (M:Aa) (B:Nat) (bs:List Nat) (X:List (List Rat)) (pv:AV) (pb ps:List Nat):Prop where
 mat:Ea M B bs (Cs X)
 piv:Wd M pv pb ps
 npb:∀b∈pb,b ∉ B::bs
 ones:Iq M
section
variable {M:Aa} {B:Nat} {bs:List Nat} {X:List (List Rat)} {pv:AV} {pb ps:List Nat}
theorem Mk.back (h:Mk M B bs X pv pb ps) {g:Aa} {X':List (List Rat)} (hg:Qfj g B bs X'):Mk (M.back (B::bs) g) B bs X' pv pb ps :=
 ⟨hg.1.back _,h.piv.keep fun b hb=>Hd (hg.2.none (h.npb b hb)) (h.npb b hb),h.npb,Qdt h.ones hg.ones⟩
theorem Mk.swap (h:Mk M B bs X pv pb ps) {i r:Nat} (hi:i<X.length) (hr:r<X.length) :
  Mk (M.set B ⟨51,1,((Gh bs (Cs X)).set i (.osl (nb bs r) 4 0 (Al (Cs X) r).length)).set r (.osl (nb bs i) 4 0 (Al (Cs X) i).length)⟩) B (Fe bs i r) (Di X i r) pv pb ps:=by
 have hiE:i<(Cs X).length:=by rw[Bi];exact hi
 have hrE:r<(Cs X).length:=by rw[Bi];exact hr
 have hb:∀b,b∈Fe bs i r↔b∈bs:=fun b=>K2 (by rw[h.mat.len];exact hiE) (by rw[h.mat.len];exact hrE) b;refine⟨by rw[Yn];exact h.mat.swap hiE hrE,h.piv.keep fun b hb'=>?_,fun b hb'=>?_,Iq.set h.ones B fun v hv=>?_⟩
 ·simp only[A3];rw[if_neg (by rintro rfl;exact h.npb _ hb' (by simp))]
 ·have:=h.npb b hb';simpa[hb]using this
 ·rcases List.mem_or_eq_of_mem_set hv with hv|rfl
  ·rcases List.mem_or_eq_of_mem_set hv with hv|rfl
   ·exact U5 bs (Cs X) v hv
   ·rfl
  ·rfl
theorem Mk.fresh (h:Mk M B bs X pv pb ps) {b:Nat} (hb:M b=none):b ∉ B::bs:=by
 intro hm;rcases List.mem_cons.1 hm with rfl | hm
 ·rw[h.mat.top]at hb;cases hb
 ·obtain⟨k,hk,e⟩:=List.mem_iff_getElem.1 hm;rw[←Ij hk]at e;have:=h.mat.row k (by rw[←h.mat.len];exact hk);rw[e,hb]at this;cases this
theorem Mk.push0 (h:Mk M B bs X .nil [] []) {b:Nat} (hb:M b=none) (j:Nat):Mk (M.set b ⟨3,1,[.int .i64 (j:Nat)]⟩) B bs X (.osl b 1 0 1) [b] [j]:=by
 have hn:=h.fresh hb;have h1:b≠B:=fun e=>hn (by simp[e]);have h2:b ∉ bs:=fun e=>hn (by simp[e]);exact⟨h.mat.other h1 h2 _,.inr ⟨b,rfl,rfl,by simp[An]⟩,fun a ha=>by simp at ha;subst ha;exact hn,h.ones.set b fun v hv=>by simp at hv;subst hv;rfl⟩
theorem Mk.push1 {b0:Nat} (h:Mk M B bs X (.osl b0 1 0 ps.length) [b0] ps) {b:Nat} (hb:(M.del b0) b=none) (j:Nat):Mk ((M.del b0).set b ⟨3,1,An ps++[.int .i64 (j:Nat)]⟩) B bs X (.osl b 1 0 (ps.length+1)) [b] (ps++[j]):=by
 have h0:=h.npb b0 (by simp);have hh:Mk (M.del b0) B bs X .nil [] []:=by
  have hdel:∀a,a≠b0→(M.del b0) a=M a:=fun a ha=>if_neg ha;refine⟨⟨by rw[hdel B (by rintro rfl;exact h0 (by simp))];exact h.mat.top,h.mat.len,fun i hi=>?_,h.mat.nd,h.mat.nB⟩,.inl ⟨rfl,rfl,rfl⟩,by simp,h.ones.del b0⟩;rw[hdel _ (fun e=>h0 (e ▸ List.mem_cons_of_mem _ (Ew (by rw[h.mat.len];exact hi))))];exact h.mat.row i hi
 have hn:=hh.fresh hb;have h1:b≠B:=fun e=>hn (by simp[e]);have h2:b ∉ bs:=fun e=>hn (by simp[e]);refine⟨hh.mat.other h1 h2 _,.inr ⟨b,rfl,by simp,by simp[D5]⟩,fun a ha=>by simp at ha;subst ha;exact hn,hh.ones.set b fun v hv=>?_⟩;rcases List.mem_append.1 hv with hv | hv
 ·exact Cl ps v hv
 ·simp at hv;subst hv;rfl
end
set_option maxHeartbeats 1000000
end Go.Av
end
section
namespace Go.Av
open Go.Proofs
structure Ga (M:Aa) (ty:TypeId) (z:Nat) (ov:AV) (ob:List Nat) (l:List AV):Prop where
 lst:Ny M ty z ov ob l
 only:Dr M ob
section
variable {M:Aa} {ov:AV} {ty:TypeId} {z:Nat} {ob:List Nat} {l:List AV}
theorem Ga.start (ty:TypeId) (z:Nat):Ga Aa.emp ty z .nil [] []:=⟨.inl ⟨rfl,rfl,rfl⟩,fun _ h=>absurd rfl h⟩
theorem Ga.ones (h:Ga M ty z ov ob l) (hl:∀v∈l,v.cells.all AV.one=true):Iq M:=by
 intro b y hy;have hb:=h.only b (by rw[hy];simp);rcases h.lst with⟨_,h1,_⟩ | ⟨b',h1,_,h3⟩
 ·rw[h1]at hb;cases hb
 ·rw[h1]at hb;simp at hb;subst hb;rw[h3]at hy;cases hy;exact hl
theorem Ga.push0 (h:Ga M ty z .nil [] []) (b:Nat) (v:AV):Ga (M.set b ⟨ty,z,[v]⟩) ty z (.osl b z 0 1) [b] [v] :=
 ⟨.inr ⟨b,rfl,rfl,by simp⟩,(h.only.sub fun a ha=>by cases ha).set (by simp) _⟩
theorem Ga.push1 {b0:Nat} (h:Ga M ty z (.osl b0 z 0 l.length) [b0] l) (b:Nat) (v:AV):Ga ((M.del b0).set b ⟨ty,z,l++[v]⟩) ty z (.osl b z 0 (l.length+1)) [b] (l++[v]):=by
 refine⟨.inr ⟨b,rfl,by simp,by simp⟩,Dr.set (l:=[b]) (fun a ha=>?_) (by simp) _⟩;by_cases h1:a=b0
 ·subst h1;exact absurd (if_pos rfl) ha
 ·have e:(M.del b0) a=M a:=if_neg h1;rw[e]at ha;have:=h.only a ha;simp at this;exact absurd this h1
end
structure P6 where
 M:Aa
 ov:AV
 ob:List Nat
theorem Qca (X:List (List Rat)):∀v∈(Cs X).map A6,v.cells.all AV.one=true:=by
 intro v hv;obtain⟨r,_,rfl⟩:=List.mem_map.1 hv;rfl
end Go.Av
end
section
namespace Go.Av
open Go.Proofs Go.Lam
theorem Qa (n:Int) (h1:-9223372036854775808≤n) (h2:n<9223372036854775808):Aj Tryz.prog 104 [.int .i64 n] Aa.emp fun v m=>v=(Be (Ql n)).av∧m=Aa.emp:=by
 have ho:=Qc1 n 1 h1 h2 (by omega) (by omega) (by omega);have e:Rat.divInt n 1=Ql n:=rfl;rw[e,Fk]at ho;generalize Ql n=q at *;rw[Ia];unfold Jx at *;refine Ad Tryz.func104 rfl rfl 11 rfl (Nat.le_of_ble_eq_true rfl) ?_;(repeat refine AW.seq_k fun K hK=>?_);refine AW.rg ?_;simp[Ak];try (refine hK _ rfl ?_;clear hK K)
 refine Ag.intro fun b2 hb2=>?_;refine hK _ rfl ?_;clear hK K;(repeat refine AW.seq_k fun K hK=>?_);refine AW.rg ?_;simp;try (refine hK _ rfl ?_;clear hK K)
 refine Ac.val ho ?_;simp;refine Ag.intro fun b3 hb3=>?_;simp only[Ap,Az,and_true]at hb3;try simp[hb3]
 refine hK _ rfl ?_;clear hK K;(repeat refine AW.seq_k fun K hK=>?_);refine AW.rg ?_;simp[hb3];try (refine hK _ rfl ?_;clear hK K)
 exact AW.ret (Ai (vs:=[.agg [.bool (decide (q.num<0)),Am (Ao q.num.natAbs),.bool false,Am (Ao q.den)]]) [.agg [.bool (decide (q.num<0)),Am (Ao q.num.natAbs),.bool false,Am (Ao q.den)]] (by simp[hb3]) (by simp) ⟨rfl,rfl⟩)
theorem H4 (n:Int) (h1:-9223372036854775808≤n) (h2:n<9223372036854775808):Aj Tryz.prog 28 [.int .i64 n] Aa.emp fun v m=>v=(Be (Ql n)).av∧m=Aa.emp:=by
 have ho:=Qgt n 1 h1 h2 (by omega) (by omega) (by omega);have e:Rat.divInt n 1=Ql n:=rfl;rw[e,Fk]at ho;generalize Ql n=q at *;rw[Ia];unfold Jx at *;refine Ad Tryz.func28 rfl rfl 11 rfl (Nat.le_of_ble_eq_true rfl) ?_;(repeat refine AW.seq_k fun K hK=>?_);refine AW.rg ?_;simp[Ak];try (refine hK _ rfl ?_;clear hK K)
 refine Ag.intro fun b2 hb2=>?_;refine hK _ rfl ?_;clear hK K;(repeat refine AW.seq_k fun K hK=>?_);refine AW.rg ?_;simp;try (refine hK _ rfl ?_;clear hK K)
 refine Ac.val ho ?_;simp;refine Ag.intro fun b3 hb3=>?_;simp only[Ap,Az,and_true]at hb3;try simp[hb3]
 refine hK _ rfl ?_;clear hK K;(repeat refine AW.seq_k fun K hK=>?_);refine AW.rg ?_;simp[hb3];try (refine hK _ rfl ?_;clear hK K)
 exact AW.ret (Ai (vs:=[.agg [.bool (decide (q.num<0)),Am (Ao q.num.natAbs),.bool false,Am (Ao q.den)]]) [.agg [.bool (decide (q.num<0)),Am (Ao q.num.natAbs),.bool false,Am (Ao q.den)]] (by simp[hb3]) (by simp) ⟨rfl,rfl⟩)
theorem V3 (a b:RR) (ha:a.Lb) (hb:b.Lb) (oa:a.ok=true) (ob:b.ok=true):Aj Tryz.prog 105 [a.av,b.av] Aa.emp fun v m=>v=.bool (decide (a.q≠b.q))∧m=Aa.emp:=by
 have hc:=Qd6 a b ha hb oa ob;refine Ad Tryz.func105 rfl rfl 15 rfl (Nat.le_of_ble_eq_true rfl) ?_;unfold RR.av at *;(repeat refine AW.seq_k fun K hK=>?_);refine AW.rgR [2,3] ?_;simp[Ak];try (refine hK _ rfl ?_;clear hK K)
 (repeat refine AW.seq_k fun K hK=>?_);refine AW.rg ?_;simp;try (refine hK _ rfl ?_;clear hK K)
 refine Ac.pure hc ?_;rintro _ ⟨c,rfl,hc0⟩;simp;try (refine hK _ rfl ?_;clear hK K)
 (repeat refine AW.seq_k fun K hK=>?_);refine AW.rg ?_;simp;try (refine hK _ rfl ?_;clear hK K)
 exact AW.ret (Af rfl _ (.same _) ⟨by simp[oneOrTup,hc0],rfl⟩)
end Go.Av
end
section
namespace Go.Av
open Go.Proofs Go.Lam
def zR:AV:=.agg [.bool false,.nil,.bool false,.nil]
def zrI (n i:Nat):List AV:=Ct (List.replicate i (Be 0))++List.replicate (n-i) zR
@[simp] theorem Qcf {n i:Nat} (h:i≤n):(zrI n i).length=n:=by simp[zrI,Ct];omega
theorem Qkq {n i:Nat} (h:i<n):(zrI n i).set i (Be 0).av=zrI n (i+1):=by
 unfold zrI;rw[List.set_append_right _ _ (by simp[Ct])];have e:n-i=(n-(i+1))+1:=by omega
 rw[e,List.replicate_succ,show i-(Ct (List.replicate i (Be 0))).length=0 by simp[Ct]];simp only[List.set_cons_zero];simp[Ct,List.replicate_succ']
theorem Pt (n:Nat) (hn:n<2^30):Aj Tryz.prog 102 [.int .i64 (n:Nat)] Aa.emp fun v M=>∃b,v=.osl b 4 0 n∧M=Aa.emp.set b ⟨44,4,Ct (List.replicate n (Be 0))⟩:=by
 have hw:=Qa 0 (by omega) (by omega);rw[It]at hw;refine Ad Tryz.func102 rfl rfl 17 rfl (Nat.le_of_ble_eq_true rfl) ?_;(repeat refine AW.seq_k fun K hK=>?_);refine AW.rg ?_;simp[Ak];try (refine hK _ rfl ?_;clear hK K)
 (repeat refine AW.seq_k fun K hK=>?_);refine AW.rg ?_;simp[-Int.natCast_mul];try (refine hK _ rfl ?_;clear hK K)
 refine⟨by omega,Ag.intro fun b hb=>?_⟩;refine hK _ rfl ?_;clear hK K;have hz:List.replicate n (AV.agg [.bool false,.nil,.bool false,.nil])=zrI n 0:=by simp[zrI,Ct,zR]
 rw[hz];have hzn:zrI n n=Ct (List.replicate n (Be 0)):=by simp[zrI]
 refine AW.seq_ex (ι:=Unit) (fun _=>[(3,.osl b 4 0 n)]) (fun _=>Aa.emp.set b ⟨44,4,zrI n n⟩) (fun _=>True) ?_ ?_
 ·(repeat refine AW.seq_k fun K hK=>?_);refine AW.rg ?_;simp;try (refine hK _ rfl ?_;clear hK K)
  refine AW.block (AW.loopS (ι:=Nat) (fun i=>[(3,.osl b 4 0 n),(7,.int .i64 (n:Nat)),(8,.int .i64 (i:Nat))]) (fun i=>Aa.emp.set b ⟨44,4,zrI n i⟩)
   (fun i=>i≤n) (fun i=>n-i) 0 (by simp) rfl (by simp) ?_)
  intro i g1;(repeat refine AW.seq_k fun K hK=>?_);refine AW.rg ?_;simp;try (refine hK _ rfl ?_;clear hK K)
  (repeat refine AW.seq ?_);refine AW.cs (fun hi=>?_) (fun hi=>?_) rfl<;>(try simp at hi)
  ·refine AW.skip ?_;try simp
   try (refine hK _ rfl ?_;clear hK K)
   have w1:=Aq (i+1) (by omega);have hzl:(zrI n i).length=n:=Qcf g1;(repeat refine AW.seq ?_);refine AW.block ?_;(repeat refine AW.seq_k fun K hK=>?_);refine AW.rg ?_;simp;try (refine hK _ rfl ?_;clear hK K)
   (repeat refine AW.seq_k fun K hK=>?_);refine AW.rg ?_;simp;try (refine hK _ rfl ?_;clear hK K)
   refine Ac.val hw ?_;simp[hi,hzl];rw[Qkq hi];(repeat refine AW.seq_k fun K hK=>?_);refine AW.rg ?_;simp[-Int.natCast_add,w1];try (refine hK _ rfl ?_;clear hK K)
   exact⟨i+1,by omega,by omega,rfl,rfl⟩
  ·refine AW.exit ?_;try simp
   rw[show i=n by omega]
 rintro _ _;rw[hzn];(repeat refine AW.seq_k fun K hK=>?_);refine AW.rg ?_;simp;try (refine hK _ rfl ?_;clear hK K)
 refine AW.ret (B0 rfl (fun c y hy v hv=>?_) ⟨b,rfl,rfl⟩);by_cases e:c=b
 ·rw[e]at hy;simp at hy;cases hy;exact O8 _ v hv
 ·simp[Aa.set,e,Aa.emp]at hy
end Go.Av
end
section
namespace Go.Av
open Go.Proofs Go.Lam
def Iy (n:Int) (es:List RE) (p:List RR):Bool:=Cg n es&&decide ((p.length:Int)=2*n)&&p.all RR.ok
def Iu (n:Int) (es:List RE) (p:List RR):AV:=.int .i64 (if Iy n es p=true then 0 else 1)
theorem Ys (n:Int) (es:List RE) (p:List RR) (hb:Qx es) (hp:∀x∈p,x.Lb):Aj Tryz.prog 67 [.int .i64 n,A1 es,A6 p] Aa.emp fun v m=>v=Iu n es p∧m=Aa.emp:=by
 have hc:=Oz n es hb;refine Ad Tryz.func67 rfl rfl 31 rfl (Nat.le_of_ble_eq_true rfl) ?_;unfold A1 A6 at *;(repeat refine AW.seq_k fun K hK=>?_);refine AW.rg ?_;simp[Ak];try (refine hK _ rfl ?_;clear hK K)
 (repeat refine AW.seq_k fun K hK=>?_);refine AW.rg ?_;simp;try (refine hK _ rfl ?_;clear hK K)
 refine Ac.val hc ?_;by_cases hk:Cg n es=true;rotate_left
 ·have e1:B6 n es=.int .i64 1:=by unfold B6;rw[if_neg hk]
  have e2:Iu n es p=.int .i64 1:=by unfold Iu Iy;rw[Bool.not_eq_true]at hk;rw[hk];rfl
  simp[e1];try (refine hK _ rfl ?_;clear hK K)
  (repeat refine AW.seq_k fun K hK=>?_);refine AW.rg ?_;simp;try (refine hK _ rfl ?_;clear hK K)
  refine AW.yes ?_ rfl;(repeat refine AW.seq_k fun K hK=>?_);refine AW.rg ?_;simp;try (refine hK _ rfl ?_;clear hK K)
  exact AW.ret (Af rfl _ (.same _) ⟨by rw[e2];rfl,rfl⟩)
 have e1:B6 n es=.int .i64 0:=by unfold B6;rw[if_pos hk]
 obtain⟨⟨h1,h2,h3⟩,_⟩:=Dk hk;simp[e1];try (refine hK _ rfl ?_;clear hK K)
 (repeat refine AW.seq_k fun K hK=>?_);refine AW.rg ?_;simp;try (refine hK _ rfl ?_;clear hK K)
 refine AW.no ?_ rfl;refine AW.skip ?_;try simp
 try (refine hK _ rfl ?_;clear hK K)
 have w2:IntKind.i64.wrap (2*n)=2*n:=Nf (by omega);by_cases hlen:(p.length:Int)=2*n;rotate_left
 ·have e2:Iu n es p=.int .i64 1:=by unfold Iu Iy;rw[decide_eq_false hlen];simp
  (repeat refine AW.seq_k fun K hK=>?_);refine AW.rg ?_;simp[w2,hlen];try (refine hK _ rfl ?_;clear hK K)
  refine AW.yes ?_ rfl;(repeat refine AW.seq_k fun K hK=>?_);refine AW.rg ?_;simp;try (refine hK _ rfl ?_;clear hK K)
  exact AW.ret (Af rfl _ (.same _) ⟨by rw[e2];rfl,rfl⟩)
 (repeat refine AW.seq_k fun K hK=>?_);refine AW.rg ?_;simp[w2,hlen];try (refine hK _ rfl ?_;clear hK K)
 refine AW.no ?_ (by simp[hlen]);refine AW.skip ?_;try simp
 try (refine hK _ rfl ?_;clear hK K)
 refine AW.seq_ex (ι:=Unit) (fun _=>[]) (fun _=>Aa.emp) (fun _=>p.all RR.ok=true) ?_ ?_
 ·(repeat refine AW.seq_k fun K hK=>?_);refine AW.rg ?_;simp;try (refine hK _ rfl ?_;clear hK K)
  refine AW.block (AW.loopS (ι:=Nat) (fun i=>[(21,.sl 4 (Ct p)),(22,.int .i64 (p.length:Nat)),(23,.int .i64 (i:Nat))]) (fun i=>Aa.emp)
   (fun i=>i≤p.length∧(p.take i).all RR.ok=true) (fun i=>p.length-i) 0 ⟨by simp,by simp⟩ rfl (by simp) ?_)
  rintro i ⟨g1,g2⟩;(repeat refine AW.seq_k fun K hK=>?_);refine AW.rg ?_;simp;try (refine hK _ rfl ?_;clear hK K)
  (repeat refine AW.seq ?_);refine AW.cs (fun hi=>?_) (fun hi=>?_) rfl<;>(try simp at hi)
  ·refine AW.skip ?_;try simp
   try (refine hK _ rfl ?_;clear hK K)
   have w1:=Aq (i+1) (by omega);have hxm:rr p i∈p:=by rw[Lx hi];exact List.getElem_mem hi
   have hv:=Fb (rr p i) (hp _ hxm);have hst:(p.take (i+1)).all RR.ok=(rr p i).ok:=by
    rw[List.take_add_one,List.getElem?_eq_getElem hi,List.all_append,g2,Lx hi];simp
   unfold RR.av at hv;(repeat refine AW.seq ?_);refine AW.block ?_;(repeat refine AW.seq_k fun K hK=>?_);refine AW.rg ?_;simp[hi];try (refine hK _ rfl ?_;clear hK K)
   refine Ag.intro fun b6 hb6=>?_;refine hK _ rfl ?_;clear hK K;refine AW.toEmp [(9,.rptr [.bool (rr p i).n1,Am (rr p i).l1,.bool (rr p i).n2,Am (rr p i).l2]),(21,.sl 4 (Ct p)),(22,.int .i64 (p.length:Nat)),(23,.int .i64 (i:Nat))] (by simp;exact K9 rfl) ?_;(repeat refine AW.seq_k fun K hK=>?_);refine AW.rg ?_;simp;try (refine hK _ rfl ?_;clear hK K)
   refine Ac.val hv ?_;simp;try (refine hK _ rfl ?_;clear hK K)
   cases hok:(rr p i).ok with
   |false =>
    have e2:Iu n es p=.int .i64 1:=by
     have:p.all RR.ok=false:=List.all_eq_false.2 ⟨rr p i,hxm,by rw[hok];simp⟩;unfold Iu Iy;rw[this];simp
    refine AW.yes ?_ rfl;(repeat refine AW.seq_k fun K hK=>?_);refine AW.rg ?_;simp;try (refine hK _ rfl ?_;clear hK K)
    exact AW.ret (Af rfl _ (.same _) ⟨by rw[e2];rfl,rfl⟩)
   |true =>
    refine AW.no ?_ rfl;refine AW.skip ?_;try simp
    try (refine hK _ rfl ?_;clear hK K)
    (repeat refine AW.seq_k fun K hK=>?_);refine AW.rg ?_;simp[-Int.natCast_add,w1];try (refine hK _ rfl ?_;clear hK K)
    exact⟨⟨by omega,by rw[hok]at hst;simpa using hst⟩,by omega⟩
  ·refine AW.exit ?_;try simp
   have:i=p.length:=by omega
   subst this;rw[List.take_length]at g2;simpa using g2
 ·rintro _ h;have e2:Iu n es p=.int .i64 0:=by unfold Iu Iy;rw[hk,decide_eq_true hlen,h];rfl
  (repeat refine AW.seq_k fun K hK=>?_);refine AW.rg ?_;simp;try (refine hK _ rfl ?_;clear hK K)
  exact AW.ret (Af rfl _ (.same _) ⟨by rw[e2];rfl,rfl⟩)
end Go.Av
end
section
namespace Go.Av
open Go.Proofs Go.Lam
def uI (a b s:Nat):Nat:=2*(if s<2 then a else b)+s % 2
def vI (a b s:Nat):Nat:=2*(if s<2 then b else a)+s % 2
def eqS (n:Nat) (p:List Rat) (a b:Nat):Nat→Option (List Rat)
 |0=>some (List.replicate (2*n) 0)
 |s+1=>(eqS n p a b s).bind fun r=>(Dj (Dy p (uI a b s)) (Dy p (vI a b s))).map fun d=>r.set (uI a b s) d
def Wy (n:Nat) (E:Nat→Ed) (p:List Rat):Nat→Option (List (List Rat))
 |0=>some []
 |k+1=>(Wy n E p k).bind fun M=>(eqS n p (E k).1 (E k).2 4).map fun r=>M++[r]
def Yp (n:Nat) (p:List Rat):Option Nat:=(List.range n).find? fun i=>decide (1≤i)&&(decide (Dy p (2*i)≠Dy p 0) || decide (Dy p (2*i+1)≠Dy p 1))
def Sf (n:Nat) (p:List Rat):Option (List (List Rat)) :=
 let z:=List.replicate (2*n) (0:Rat)
 match Yp n p with
 |none=>some [z.set 0 1,z.set 1 1]
 |some i=>(Dj (Dy p 1) (Dy p (2*i+1))).bind fun d1=>(Dj (Dy p (2*i)) (Dy p 0)).map fun d2=>[z.set 0 1,z.set 1 1,(z.set (2*i) d1).set (2*i+1) d2]
def Fq (n:Nat) (r:List Rat):Prop:=r.length=2*n∧∀q∈r,B4 q
theorem Fq.set {n:Nat} {r:List Rat} (h:Fq n r) (i:Nat) {d:Rat} (hd:B4 d):Fq n (r.set i d):=⟨by rw[List.length_set];exact h.1,fun q hq=>by
 rcases List.mem_or_eq_of_mem_set hq with h1|h1
 ·exact h.2 q h1
 ·rw[h1];exact hd⟩
theorem Fq.zero (n:Nat):Fq n (List.replicate (2*n) 0):=⟨by simp,fun q hq=>by rw[List.eq_of_mem_replicate hq];exact Uq⟩
theorem Nb {n:Nat} {p:List Rat} {a b:Nat}:∀{s:Nat} {r:List Rat},eqS n p a b s=some r→Fq n r
 |0,r,h=>by cases h;exact Fq.zero n
 |s+1,r,h=>by
  rw[eqS]at h;obtain⟨r',h1,h2⟩:=Option.bind_eq_some_iff.1 h;obtain⟨d,h3,rfl⟩:=Option.map_eq_some_iff.1 h2;exact(Nb h1).set _ (Xo h3)
theorem Nw {n:Nat} {E:Nat→Ed} {p:List Rat}:∀{k:Nat} {M:List (List Rat)},Wy n E p k=some M→M.length=k∧∀r∈M,Fq n r
 |0,M,h=>by cases h;simp
 |k+1,M,h=>by
  rw[Wy]at h;obtain⟨M',h1,h2⟩:=Option.bind_eq_some_iff.1 h;obtain⟨r,h3,rfl⟩:=Option.map_eq_some_iff.1 h2;obtain⟨h4,h5⟩:=Nw h1;refine⟨by simp[h4],fun x hx=>?_⟩;rcases List.mem_append.1 hx with hx | hx
  ·exact h5 x hx
  ·simp at hx;subst hx;exact Nb h3
theorem Qij {n:Nat} {p:List Rat} {a b s t:Nat} (h:eqS n p a b s=none) (hst:s≤t):eqS n p a b t=none:=by
 induction t with
 |zero=>rw[show s=0 by omega]at h;exact h
 |succ t ih =>
  rcases Nat.lt_or_ge t s with h1|h1
  ·rw[show t+1=s by omega];exact h
  ·rw[eqS,ih h1];rfl
theorem Qid {n:Nat} {E:Nat→Ed} {p:List Rat} {k t:Nat} (h:Wy n E p k=none) (hst:k≤t):Wy n E p t=none:=by
 induction t with
 |zero=>rw[show k=0 by omega]at h;exact h
 |succ t ih =>
  rcases Nat.lt_or_ge t k with h1|h1
  ·rw[show t+1=k by omega];exact h
  ·rw[Wy,ih h1];rfl
end Go.Av
end
section
namespace Go.Av
section
variable {P:Program}
def isB (o:Oper):Bool:=match o.op with
 |.build _ _=>true
 |_=>false
def Qkj (P:Program) (o:Oper) (s:St) (k:AV→Aa→Prop):Prop:=match o.op with
 |.build t parts=>∃ti n e te zs,Ah P t=some ti∧ti.cls=.array n e∧Ah P e=some te∧te.size=1∧ti.zero=.agg zs∧zs.length=n∧parts.toList.map (·.1)=List.range n ∧
   (∀p∈parts.toList,∃kd m,s.ev p.2=.int kd m)∧k (.agg (parts.toList.map fun p=>s.ev p.2)) s.m
 |_=>False
theorem Yz (n:Nat):∀(parts:List (Nat × Value)) (vs:Array Value),(∀p∈parts,p.1<n∧p.2.cells=#[p.2])→vs.size=n →
  ∃vs',Instr.fill (fun i=>some (i*1,1)) vs parts=some vs'∧vs'.size=n∧∀i:Nat,vs'[i]?=match parts.reverse.find? (fun p=>p.1==i)with | some p=>some p.2 | none=>vs[i]?
 |[],vs,_,hs=>⟨vs,rfl,hs,fun i=>rfl⟩
 |(i,v)::rest,vs,h,hs=>by
  obtain⟨h1,h2⟩:=h (i,v) (by simp);simp only at h1 h2;obtain⟨vs',e1,e2,e3⟩:=Yz n rest (vs.setIfInBounds i v) (fun p hp=>h p (by simp[hp])) (by simpa using hs);refine⟨vs',?_,e2,fun j=>?_⟩
  ·unfold Instr.fill;simp only[Nat.mul_one,h2];rw[if_neg (by simp;omega)];simpa using e1
  ·rw[e3 j,List.reverse_cons,List.find?_append];cases hf:rest.reverse.find? (fun p=>p.1==j)with
   |some p=>simp
   |none =>
    simp only[Option.none_or,List.find?_cons,List.find?_nil];by_cases hij:i=j
    ·subst hij;have hi:i<vs.size:=by rw[hs];exact h1
     simp[hi]
    ·have:(i==j)=false:=by simpa using hij
     rw[this];simp[Array.getElem?_setIfInBounds,hij]
theorem Qah {F G:Nat→Prop} {w0 w:World} {s:St} {a:Act} (hrel:Dw F G w0 s a w) {o:Oper} (hok:Fy s.n o=true) {K:St→Prop} (h:Qkj P o s fun v m'=>K ({s with m:=m'}.put o.dst v)) (Q:Exit→Act→World→Prop):o.wp P a w (Ez F G w0 s.n K) Q:=by
 have hd:L1 s.n o.dst=true:=by unfold Fy at hok;rw[Bool.and_eq_true]at hok;exact hok.1
 have hall:∀x∈o.op.operands.toList,Fz s.n x=true:=by unfold Fy at hok;rw[Bool.and_eq_true]at hok;exact List.all_eq_true.1 hok.2
 unfold Qkj at h;split at h
 ·rename_i t parts ho
  rw[ho]at hall;obtain⟨ti,n,e,te,zs,ht,hc,hte,hz1,hzz,hzl,hidx,hone,hk⟩:=h;obtain⟨inf,d,z,hi,hdd,hz,g1,g2,g3,g4,g5⟩:=(Eb ht).get;obtain⟨ie,de,ze,hie,hde,hze,k1,k2,k3,k4,k5⟩:=(Eb hte).get;rw[←g3]at hc;cases d<;>simp only[C7,reduceCtorEq,J6.array.injEq]at hc
  obtain⟨rfl,rfl⟩:=hc;have hzs:z.cells.size=zs.length:=by
   have hzc:VR w F (.agg zs) z:=by rw[←hzz,←g4];exact Hv w F z
   exact(hzc.cells (by simp)).1
  have hpl:∀p∈parts.toList,∃kd m,s.ev p.2=.int kd m∧a.eval p.2=.int kd m:=fun p hp=>by
   have h1:=hrel.ev (hall p.2 (by
    have e0:(Op.build t parts).operands.toList=parts.toList.map (·.2):=by simp[Op.operands]
    rw[e0];exact List.mem_map.2 ⟨p,hp,rfl⟩))
   obtain⟨kd,m,h2⟩:=hone p hp;rw[h2]at h1;cases hv:a.eval p.2<;>rw[hv]at h1<;>cases h1
   exact⟨_,_,h2,rfl⟩
  have hlt:∀p∈parts.toList,p.1<zs.length:=fun p hp=>by
   have:p.1∈parts.toList.map (·.1):=List.mem_map.2 ⟨p,hp,rfl⟩;rw[hidx,List.mem_range]at this;omega
  have hsz:parts.toList.length=zs.length:=by
   have:=congrArg List.length hidx;rw[List.length_map,List.length_range]at this;omega
  obtain⟨vs',f1,f2,f3⟩:=Yz zs.length (parts.toList.map fun p=>(p.1,a.eval p.2)) z.cells (fun q hq=>by
   obtain⟨p,hp,rfl⟩:=List.mem_map.1 hq;obtain⟨kd,m,_,h3⟩:=hpl p hp;exact⟨hlt p hp,by simp only[h3];rfl⟩) hzs
  have hval:∀j (hj:j<parts.toList.length),vs'[j]?=some (a.eval (parts.toList[j]).2):=fun j hj=>by
   rw[f3 j];have hj1:(parts.toList[j]).1=j:=by
    have:(parts.toList.map (·.1))[j]?=some j:=by rw[hidx];rw[List.getElem?_range (by omega)]
    rw[List.getElem?_map,List.getElem?_eq_getElem hj,Option.map_some]at this;exact Option.some.inj this
   have huniq:∀i (hi:i<parts.toList.length),(parts.toList[i]).1=j→i=j:=fun i hi e=>by
    have:(parts.toList.map (·.1))[i]?=some i:=by rw[hidx];rw[List.getElem?_range (by omega)]
    rw[List.getElem?_map,List.getElem?_eq_getElem hi,Option.map_some]at this;have:=Option.some.inj this;omega
   cases hf:(parts.toList.map fun p=>(p.1,a.eval p.2)).reverse.find? (fun p=>p.1==j)with
   |none =>
    have:=List.find?_eq_none.1 hf (j,a.eval (parts.toList[j]).2) (by
     rw[List.mem_reverse,List.mem_map];exact⟨parts.toList[j],List.getElem_mem hj,by rw[hj1]⟩)
    simp at this
   |some q =>
    have h1:=List.mem_of_find?_eq_some hf;have h2:=List.find?_some hf;rw[List.mem_reverse,List.mem_map]at h1;obtain⟨p,hp,rfl⟩:=h1;obtain⟨i,hi',rfl⟩:=List.mem_iff_getElem.1 hp;have:=huniq i hi' (by simpa using h2);subst this;rfl
  refine Df (cv:=.agg vs') ?_ ⟨_,hk,H2 _ _ _,hrel.put hd (.agg _ _ (by rw[f2,List.length_map,hsz]) fun j u v hu hv=>?_)⟩
  ·have hzv:(zeroValue t).run P w=.ok z w:=by simp[zeroValue,typeInfo,hi,hz]
   unfold execOp;rw[ho];simp[Instr.build,hzv,run_underlying hdd,E2 hie,k1,hz1];simp only[Nat.mul_one]at f1;rw[f1];simp
  ·rw[List.getElem?_map]at hu;obtain⟨p,hp,rfl⟩:=Option.map_eq_some_iff.1 hu;obtain⟨hj,rfl⟩:=List.getElem?_eq_some_iff.1 hp;rw[hval j hj]at hv;cases hv;obtain⟨kd,m,h2,h3⟩:=hpl _ (List.getElem_mem hj);rw[h2,h3];exact .int kd m
 ·exact h.elim
def Mz (P:Program) (cf:Dq) (o:Oper) (K:St→Prop) (s:St):Prop:=if isB o=true then Qkj P o s fun v m'=>K ({s with m:=m'}.put o.dst v) else Er P cf o K s
def Lz (P:Program) (cf:Dq):List Oper→(St→Prop)→St→Prop
 |[],K,s=>K s
 |o::rest,K,s=>o.guard=none∧Mz P cf o (Lz P cf rest K) s
theorem Qa9 {F G:Nat→Prop} {w0 w:World} {s:St} {a:Act} (hrel:Dw F G w0 s a w) {cf:Dq} (hav:∀b,cf.av b→b<w.heap.size) {o:Oper} (hok:Fy s.n o=true) {K:St→Prop} (h:Mz P cf o K s) (Q:Exit→Act→World→Prop):o.wp P a w (Ez F G w0 s.n K) Q:=by
 unfold Mz at h;split at h
 ·exact Qah hrel hok h Q
 ·exact La hrel hav hok h Q
theorem Pz {F G:Nat→Prop} {w0:World} {cf:Dq} (hcf:∀b,¬cf.av b) {ops:Array Oper} {K:St→Prop} {QQ:Exit→Act→World→Prop} (n:Nat) (hQ:∀a w,Ez F G w0 n K a w→QQ .normal a w) :
  ∀(l:List Oper) (s:St) (a:Act) (w:World),s.n=n→(∀o∈l,(Fy n o&&H0 ops n o)=true)→Dw F G w0 s a w→Lz P cf l K s→wpList P ops QQ l a w
 |[],s,a,w,hn,_,hr,hk=>hQ a w ⟨s,hk,hn,hr⟩
 |o::rest,s,a,w,hn,hok,hr,hk=>by
  have ho:=hok o (by simp);rw[Bool.and_eq_true]at ho;have hrest:∀o∈rest,(Fy n o&&H0 ops n o)=true:=fun x hx=>hok x (by simp[hx]);have hmono:∀{s:St} {a:Act} {w:World},s.n=n→Ez F G w0 s.n (Lz P cf rest K) a w→wpList P ops QQ rest a w:=by
   rintro s a w hn ⟨s',h1,h2,h3⟩;exact Pz hcf n hQ rest s' a w (h2.trans hn) hrest h3 h1
  have hop:Dw F G w0 s a w→Mz P cf o (Lz P cf rest K) s→o.wp P a w (wpList P ops QQ rest) QQ:=by
   intro hr hk;have:=Qa9 hr (fun b hb=>(hcf b hb).elim) (by rw[hn];exact ho.1) hk QQ;unfold Oper.wp at this ⊢
   revert this
   generalize(execOp a.eval o).run P w=res;intro this;have hm:∀a w,Ez F G w0 s.n (Lz P cf rest K) a w→wpList P ops QQ rest a w:=fun a w h=>hmono hn h;unfold Oper.upon at this ⊢;split at this<;>first
    |exact hm _ _ this
    |(refine Calls.mono this ?_;intro e w' h;cases e<;>first | exact hm _ _ h | exact h)
    |(refine Rows.mono this ?_;intro e w' h;exact hm _ _ h)
    |exact this
    |exact this.elim
  unfold wpList;unfold Lz at hk;rw[if_pos (by simp[Region.wanted,hk.1])];exact .inl (hop hr hk.2)
theorem AW.rgB {Q:Exit→St→Prop} {s:St} {id:Nat} {ops:Array Oper} (ro:List Nat) (h:Lz P (Dq.txt (roL ro)) ops.toList (Q .normal) s) (hok:Bp s.n ops=true:=by kernel_rfl):AW P (.region id ops false) Q s:=by
 intro F G w0 a w hr;refine wp_region_list (Pz (F:=F) (G:=G) (w0:=w0) (cf:=Dq.txt (roL ro)) (fun _ h=>h) s.n (K:=Q .normal) (fun a w h=>h) ops.toList s a w rfl (fun o ho=>?_) hr h);unfold Bp at hok;exact List.all_eq_true.1 hok o ho
@[simp] theorem Qtc (cf:Dq) (K:St→Prop) (s:St):Lz P cf [] K s=K s:=(rfl)
@[simp] theorem Qo6 (cf:Dq) (d:Option Tmp) (op:Op) (t:TypeId) (p:String) (a:Array Edge) (l:List Oper) (K:St→Prop) (s:St) :
  Lz P cf ({dst:=d,op:=op,type:=t,pos:=p,after:=a,guard:=none}::l) K s↔Mz P cf {dst:=d,op:=op,type:=t,pos:=p,after:=a,guard:=none} (Lz P cf l K) s:=by
 show(_∧_)↔_
 simp
@[simp] theorem Qtf (cf:Dq) (K:St→Prop) (s:St) (d:Option Tmp) (x:Operand) (ty:TypeId) (p:String) (a:Array Edge) (g:Option (Nat × Bool)):Mz P cf ⟨d,.move x,ty,p,a,g⟩ K s=Er P cf ⟨d,.move x,ty,p,a,g⟩ K s:=(rfl)
@[simp] theorem Qml (cf:Dq) (K:St→Prop) (s:St) (d:Option Tmp) (x:Operand) (ty:TypeId) (p:String) (a:Array Edge) (g:Option (Nat × Bool)):Mz P cf ⟨d,.assign x,ty,p,a,g⟩ K s=Er P cf ⟨d,.assign x,ty,p,a,g⟩ K s:=(rfl)
@[simp] theorem Qqn (cf:Dq) (K:St→Prop) (s:St) (d:Option Tmp) (o:BinOp) (t t':TypeId) (x y:Operand) (ty:TypeId) (p:String) (a:Array Edge) (g:Option (Nat × Bool)):Mz P cf ⟨d,.binOp o t x y t',ty,p,a,g⟩ K s=Er P cf ⟨d,.binOp o t x y t',ty,p,a,g⟩ K s:=(rfl)
@[simp] theorem Qsd (cf:Dq) (K:St→Prop) (s:St) (d:Option Tmp) (t:TypeId) (x:Operand) (ty:TypeId) (p:String) (a:Array Edge) (g:Option (Nat × Bool)):Mz P cf ⟨d,.load t x,ty,p,a,g⟩ K s=Er P cf ⟨d,.load t x,ty,p,a,g⟩ K s:=(rfl)
@[simp] theorem Qhy (cf:Dq) (K:St→Prop) (s:St) (d:Option Tmp) (t:TypeId) (x:Operand) (i:Nat) (ty:TypeId) (p:String) (a:Array Edge) (g:Option (Nat × Bool)):Mz P cf ⟨d,.fieldAddr t x i,ty,p,a,g⟩ K s=Er P cf ⟨d,.fieldAddr t x i,ty,p,a,g⟩ K s:=(rfl)
@[simp] theorem Qf2 (cf:Dq) (K:St→Prop) (s:St) (d:Option Tmp) (t:TypeId) (n:Nat) (ps:Array (Nat × Operand)) (ty:TypeId) (p:String) (a:Array Edge) (g:Option (Nat × Bool)):Mz P cf ⟨d,.buildSlice t n ps,ty,p,a,g⟩ K s=Er P cf ⟨d,.buildSlice t n ps,ty,p,a,g⟩ K s:=(rfl)
@[simp] theorem Qt5 (cf:Dq) (K:St→Prop) (s:St) (d:Option Tmp) (c:Call) (ty:TypeId) (p:String) (a:Array Edge) (g:Option (Nat × Bool)):Mz P cf ⟨d,.call c,ty,p,a,g⟩ K s=Er P cf ⟨d,.call c,ty,p,a,g⟩ K s:=(rfl)
@[simp] theorem Qos (cf:Dq) (K:St→Prop) (s:St) (d:Option Tmp) (t ty:TypeId) (parts:Array (Nat × Operand)) (p:String) (a:Array Edge) (g:Option (Nat × Bool)):Mz P cf ⟨d,.build t parts,ty,p,a,g⟩ K s↔∃ti n e te zs,Ah P t=some ti∧ti.cls=.array n e∧Ah P e=some te∧te.size=1∧ti.zero=.agg zs∧zs.length=n∧parts.toList.map (·.1)=List.range n ∧
   (∀p∈parts.toList,∃kd m,s.ev p.2=.int kd m)∧Il K s d (.agg (parts.toList.map fun p=>s.ev p.2)) s.m:=by
 unfold Mz Qkj;simp only[isB,if_true];exact Iff.rfl
end
end Go.Av
end
section
namespace Go.Av
open Go.Proofs Go.Lam
def eqB (w:Nat) (M:List (List Rat)):List AV:=(Cs M).map A6++List.replicate (w-M.length) .nil
def eqR (n:Nat) (es:List RE) (p:List Rat) (v:AV) (m:Aa):Prop:=match Wy n (Ae es) p es.length with
 |some M=>∃B,v=.tup [.osl B 1 0 es.length,.int .i64 0]∧m=Aa.emp.set B ⟨51,1,(Cs M).map A6⟩
 |none=>v=.tup [A8 [],.int .i64 2]∧m=Aa.emp
theorem Sl (N:Nat) (es:List RE) (p:List Rat) (hN:1≤N) (hN12:N≤12) (hok:Ln N es) (h3:es.length≤40) (hp:Fq N p):Aj Tryz.prog 68 [.int .i64 (N:Nat),A1 es,A6 (p.map Be)] Aa.emp (eqR N es p):=by
 have hzr:=Pt (2*N) (by omega);have w0:=Aq (2*N) (by omega);refine Ad Tryz.func68 rfl rfl 89 rfl (Nat.le_of_ble_eq_true rfl) ?_;unfold A1 A6 at *;(repeat refine AW.seq_k fun K hK=>?_);refine AW.rg ?_;simp[Ak];try (refine hK _ rfl ?_;clear hK K)
 (repeat refine AW.seq_k fun K hK=>?_);refine AW.rg ?_;simp;try (refine hK _ rfl ?_;clear hK K)
 refine⟨by omega,Ag.intro fun B hB=>?_⟩;refine hK _ rfl ?_;clear hK K;have hB0:List.replicate es.length AV.nil=eqB es.length []:=by simp[eqB,Cs]
 rw[hB0];refine AW.seq_ex (ι:=List (List Rat)) (fun M=>[(8,.osl B 1 0 es.length)]) (fun M=>Aa.emp.set B ⟨51,1,eqB es.length M⟩) (fun M=>Wy N (Ae es) p es.length=some M) ?_ ?_
 ·(repeat refine AW.seq_k fun K hK=>?_);refine AW.rg ?_;simp;try (refine hK _ rfl ?_;clear hK K)
  refine AW.block (AW.loopS (ι:=List (List Rat) × Nat) (fun z=>[(0,.int .i64 (N:Nat)),(1,.sl 6 (Bw es)),(2,.sl 4 (Ct (p.map Be))),(8,.osl B 1 0 es.length),(20,.sl 6 (Bw es)),(21,.int .i64 (es.length:Nat)),(22,.int .i64 (z.2:Nat))]) (fun z=>Aa.emp.set B ⟨51,1,eqB es.length z.1⟩)
   (fun z=>z.2≤es.length∧Wy N (Ae es) p z.2=some z.1) (fun z=>es.length-z.2) ([],0) ⟨by simp,rfl⟩ rfl (by simp) ?_)
  rintro⟨M,i⟩ ⟨g1,g2⟩;simp only at g1 g2;obtain⟨gl,gg⟩:=Nw g2;(repeat refine AW.seq_k fun K hK=>?_);refine AW.rg ?_;simp;try (refine hK _ rfl ?_;clear hK K)
  (repeat refine AW.seq ?_);refine AW.cs (fun hi=>?_) (fun hi=>?_) rfl<;>(try simp at hi)
  ·refine AW.skip ?_;try simp
   try (refine hK _ rfl ?_;clear hK K)
   have w1:=Aq (i+1) (by omega);obtain⟨e1,e2,e3⟩:=hok i hi;obtain⟨a,ha⟩:∃a,(Ae es i).1=a:=⟨_,rfl⟩;obtain⟨b,hb⟩:∃b,(Ae es i).2=b:=⟨_,rfl⟩;have hsc:Wy N (Ae es) p (i+1)=(eqS N p a b 4).map fun r=>M++[r]:=by rw[Wy,g2,ha,hb];rfl
   rw[ha]at e1;rw[hb]at e2;have han:a<N:=ha ▸ e3.1;have hbn:b<N:=hb ▸ e3.2.1;(repeat refine AW.seq ?_);refine AW.block ?_;(repeat refine AW.seq_k fun K hK=>?_);refine AW.rg ?_;simp[hi,Bs,e1,e2];try (refine hK _ rfl ?_;clear hK K)
   refine Ag.intro fun b10 hb10=>?_;refine hK _ rfl ?_;clear hK K;have ones0:∀c y,Aa.emp.set B ⟨51,1,eqB es.length M⟩ c=some y→∀v∈y.l,v.cells.all AV.one=true:=by
    intro c y hy v hv;by_cases e:c=B
    ·rw[e,Aa.set_same]at hy;cases hy;unfold eqB at hv;rcases List.mem_append.1 hv with hv | hv
     ·obtain⟨x,_,rfl⟩:=List.mem_map.1 hv;rfl
     ·rw[List.eq_of_mem_replicate hv];rfl
    ·rw[Aa.set_other _ _ e]at hy;cases hy
   generalize hM0:Aa.emp.set B ⟨51,1,eqB es.length M⟩=M0 at *;refine AW.turn [(0,.int .i64 (N:Nat)),(1,.sl 6 (Bw es)),(2,.sl 4 (Ct (p.map Be))),(8,.osl B 1 0 es.length),(9,.int .i64 (i:Nat)),(10,.rptr [.int .i64 (a:Nat),.int .i64 (b:Nat),.bool (Ck es i).sq.n1,Am (Ck es i).sq.l1,.bool (Ck es i).sq.n2,Am (Ck es i).sq.l2]),(20,.sl 6 (Bw es)),(21,.int .i64 (es.length:Nat)),(22,.int .i64 (i:Nat))] M0 (Bj.drop hb10 ones0)
    (by simp;exact .ptr b10 6 0 0 ⟨46,6,[.agg [.int .i64 (a:Nat),.int .i64 (b:Nat),.bool (Ck es i).sq.n1,Am (Ck es i).sq.l1,.bool (Ck es i).sq.n2,Am (Ck es i).sq.l2]]⟩ (.agg [.int .i64 (a:Nat),.int .i64 (b:Nat),.bool (Ck es i).sq.n1,Am (Ck es i).sq.l1,.bool (Ck es i).sq.n2,Am (Ck es i).sq.l2]) (Aa.set_same _ _ _) hb10 rfl rfl) ?_
   (repeat refine AW.seq_k fun K hK=>?_);refine AW.rg ?_;simp[-Int.natCast_mul,w0];try (refine hK _ rfl ?_;clear hK K)
   refine Ac.make (R:=fun b v x=>v=.osl b 4 0 (2*N)∧x=⟨44,4,Ct (List.replicate (2*N) (Be 0))⟩) (hzr.mono fun v m ⟨b,h1,h2⟩=>⟨b,_,⟨h1,rfl⟩,h2⟩) ?_;rintro br _ _ ⟨rfl,rfl⟩ hbr _;simp[-Int.natCast_mul];try (refine hK _ rfl ?_;clear hK K)
   have hz0:Ct (List.replicate (2*N) (Be 0))=Ct ((List.replicate (2*N) (0:Rat)).map Be):=by simp
   rw[hz0];have wa:=Aq (2*a) (by omega);have wb:=Aq (2*b) (by omega);refine AW.seq_ex (ι:=List Rat) (fun _=>[(0,.int .i64 (N:Nat)),(1,.sl 6 (Bw es)),(2,.sl 4 (Ct (p.map Be))),(8,.osl B 1 0 es.length),(9,.int .i64 (i:Nat)),(11,.osl br 4 0 (2*N)),(20,.sl 6 (Bw es)),(21,.int .i64 (es.length:Nat)),(22,.int .i64 (i:Nat))]) (fun r=>M0.set br ⟨44,4,Ct (r.map Be)⟩) (fun r=>eqS N p a b 4=some r) ?_ ?_
   ·(repeat refine AW.seq_k fun K hK=>?_);refine AW.rgB [44] ?_;simp[-Int.natCast_mul,wa,wb];refine⟨2,3,⟨rfl,rfl⟩,_,ti3,rfl,rfl,rfl,2,3,⟨rfl,rfl⟩,_,ti3,rfl,rfl,rfl,?_⟩;try (refine hK _ rfl ?_;clear hK K)
    refine AW.block (AW.loopS (ι:=List Rat × Nat) (fun z=>[(0,.int .i64 (N:Nat)),(1,.sl 6 (Bw es)),(2,.sl 4 (Ct (p.map Be))),(8,.osl B 1 0 es.length),(9,.int .i64 (i:Nat)),(11,.osl br 4 0 (2*N)),(20,.sl 6 (Bw es)),(21,.int .i64 (es.length:Nat)),(22,.int .i64 (i:Nat)),(44,.sl 2 [.agg [.int .i64 ((2*a:Nat):Int),.int .i64 ((2*b:Nat):Int)],.agg [.int .i64 ((2*b:Nat):Int),.int .i64 ((2*a:Nat):Int)]]),(45,.int .i64 2),(46,.int .i64 (z.2:Nat))]) (fun z=>M0.set br ⟨44,4,Ct (z.1.map Be)⟩) (fun z=>z.2≤2∧eqS N p a b (2*z.2)=some z.1) (fun z=>2-z.2)
     (List.replicate (2*N) 0,0) ⟨by simp,rfl⟩ (by simp) (by simp[-Int.natCast_mul]) ?_)
    rintro⟨r,t⟩ ⟨k1,k2⟩;simp only at k1 k2;(repeat refine AW.seq_k fun K hK=>?_);refine AW.rg ?_;simp[-Int.natCast_mul];try (refine hK _ rfl ?_;clear hK K)
    (repeat refine AW.seq ?_);refine AW.cs (fun ht=>?_) (fun ht=>?_) rfl<;>(try simp at ht)
    ·refine AW.skip ?_;try simp[-Int.natCast_mul]
     try (refine hK _ rfl ?_;clear hK K)
     have wt:=Aq (t+1) (by omega);obtain⟨u,hu⟩:∃u,(if t<1 then 2*a else 2*b)=u:=⟨_,rfl⟩;obtain⟨v,hv⟩:∃v,(if t<1 then 2*b else 2*a)=v:=⟨_,rfl⟩;have hpr:∀h:t<[AV.agg [.int .i64 ((2*a:Nat):Int),.int .i64 ((2*b:Nat):Int)],AV.agg [.int .i64 ((2*b:Nat):Int),.int .i64 ((2*a:Nat):Int)]].length,[AV.agg [.int .i64 ((2*a:Nat):Int),.int .i64 ((2*b:Nat):Int)],AV.agg [.int .i64 ((2*b:Nat):Int),.int .i64 ((2*a:Nat):Int)]][t]=.agg [.int .i64 (u:Nat),.int .i64 (v:Nat)]:=fun h=>by
      rcases(by omega:t=0∨t=1)with rfl|rfl
      ·rw[←hu,←hv];rfl
      ·rw[←hu,←hv];rfl
     generalize hprs:[AV.agg [.int .i64 ((2*a:Nat):Int),.int .i64 ((2*b:Nat):Int)],AV.agg [.int .i64 ((2*b:Nat):Int),.int .i64 ((2*a:Nat):Int)]]=PRS at hpr ⊢;have hprl:PRS.length=2:=by rw[←hprs];rfl
     (repeat refine AW.seq ?_);refine AW.block ?_;(repeat refine AW.seq_k fun K hK=>?_);refine AW.rg ?_;simp[ht,hprl,hpr,J6.agg];try (refine hK _ rfl ?_;clear hK K)
     refine Ag.intro fun b13 hb13=>?_;refine hK _ rfl ?_;clear hK K;have ones1:∀c y,M0.set br ⟨44,4,Ct (r.map Be)⟩ c=some y→∀v∈y.l,v.cells.all AV.one=true:=by
      intro c y hy v hv;by_cases e:c=br
      ·rw[e,Aa.set_same]at hy;cases hy;exact O8 _ v hv
      ·rw[Aa.set_other _ _ e]at hy;exact ones0 c y hy v hv
     refine AW.turn [(0,.int .i64 (N:Nat)),(1,.sl 6 (Bw es)),(2,.sl 4 (Ct (p.map Be))),(8,.osl B 1 0 es.length),(9,.int .i64 (i:Nat)),(11,.osl br 4 0 (2*N)),(20,.sl 6 (Bw es)),(21,.int .i64 (es.length:Nat)),(22,.int .i64 (i:Nat)),(13,.rptr [.int .i64 (u:Nat),.int .i64 (v:Nat)]),(44,.sl 2 PRS),(45,.int .i64 2),(46,.int .i64 (t:Nat))] (M0.set br ⟨44,4,Ct (r.map Be)⟩) (Bj.drop hb13 ones1)
      (by simp;exact .ptr b13 2 0 0 ⟨121,2,[.agg [.int .i64 (u:Nat),.int .i64 (v:Nat)]]⟩ (.agg [.int .i64 (u:Nat),.int .i64 (v:Nat)]) (Aa.set_same _ _ _) hb13 rfl rfl) ?_
     (repeat refine AW.seq_k fun K hK=>?_);refine AW.rg ?_;simp;try (refine hK _ rfl ?_;clear hK K)
     refine AW.block (AW.loopS (ι:=List Rat × Nat) (fun z=>[(0,.int .i64 (N:Nat)),(1,.sl 6 (Bw es)),(2,.sl 4 (Ct (p.map Be))),(8,.osl B 1 0 es.length),(9,.int .i64 (i:Nat)),(11,.osl br 4 0 (2*N)),(20,.sl 6 (Bw es)),(21,.int .i64 (es.length:Nat)),(22,.int .i64 (i:Nat)),(13,.rptr [.int .i64 (u:Nat),.int .i64 (v:Nat)]),(44,.sl 2 PRS),(45,.int .i64 2),(46,.int .i64 (t:Nat)),(50,.int .i64 (z.2:Nat))]) (fun z=>M0.set br ⟨44,4,Ct (z.1.map Be)⟩) (fun z=>z.2≤2∧eqS N p a b (2*t+z.2)=some z.1) (fun z=>2-z.2)
      (r,0) ⟨by simp,k2⟩ rfl (by simp) ?_)
     rintro⟨r,k⟩ ⟨j1,j2⟩;simp only at j1 j2;(repeat refine AW.seq_k fun K hK=>?_);refine AW.rg ?_;simp;try (refine hK _ rfl ?_;clear hK K)
     (repeat refine AW.seq ?_);refine AW.cs (fun hk=>?_) (fun hk=>?_) rfl<;>(try simp at hk)
     ·refine AW.skip ?_;try simp
      try (refine hK _ rfl ?_;clear hK K)
      have wk:=Aq (k+1) (by omega);have hul:u+k<2*N:=by rw[←hu];split<;>omega
      have hvl:v+k<2*N:=by rw[←hv];split<;>omega
      have wu:=Aq (u+k) (by omega);have wv:=Aq (v+k) (by omega);have hpl:p.length=2*N:=hp.1;have hg:∀i,i<2*N→B4 (Dy p i):=fun i hi=>by
       unfold Dy;rw[List.getD_eq_getElem?_getD,List.getElem?_eq_getElem (by omega)];exact hp.2 _ (List.getElem_mem _)
      have hsu:=Ld (Dy p (u+k)) (Dy p (v+k)) (hg _ hul) (hg _ hvl);have hrr:∀i,i<2*N→rr (p.map Be) i=Be (Dy p i):=fun i hi=>by
       rw[Lx (by simp;omega)];unfold Dy;simp[hpl,hi]
      (repeat refine AW.seq ?_);refine AW.block ?_;(repeat refine AW.seq_k fun K hK=>?_);refine AW.rg ?_;simp;try (refine hK _ rfl ?_;clear hK K)
      (repeat refine AW.seq_k fun K hK=>?_);refine AW.rd [0,1,2,3,4,5,6,7,8,9,10,11,12,13,14,15,16,17,18,19,20] Ds ?_;simp[-Int.natCast_mul,-Int.natCast_add,wu,wv,hul,hvl,hpl,hrr];cases hd:Dj (Dy p (u+k)) (Dy p (v+k))with
      |none =>
       rw[hd,←Ia,←Ia,Fk]at hsu;unfold RR.av Cp at hsu;refine Ac.val hsu ?_;simp[-Int.natCast_add];refine Ag.intro fun b15 hb15=>?_;refine hK _ rfl ?_;clear hK K;(repeat refine AW.seq_k fun K hK=>?_);refine AW.rg ?_;simp[-Int.natCast_add];try (refine hK _ rfl ?_;clear hK K)
       refine AW.yes ?_ rfl;(repeat refine AW.seq_k fun K hK=>?_);refine AW.rg ?_;simp[-Int.natCast_add];try (refine hK _ rfl ?_;clear hK K)
       have hno:eqR N es p (.tup [A8 [],.int .i64 2]) Aa.emp:=by
        have hui:uI a b (2*t+k)=u+k:=by unfold uI;rw[←hu];split<;>split<;>omega
        have hvi:vI a b (2*t+k)=v+k:=by unfold vI;rw[←hv];split<;>split<;>omega
        have hs1:eqS N p a b (2*t+k+1)=none:=by rw[eqS,j2,hui,hvi,Option.bind_some,hd];rfl
        have hs4:=Qij (t:=4) hs1 (by omega);have hm:=Qid (t:=es.length) (show Wy N (Ae es) p (i+1)=none by rw[hsc,hs4];rfl) (by omega);unfold eqR;rw[hm];exact⟨rfl,rfl⟩
       exact AW.ret (Ai [A8 [],.int .i64 2] rfl ⟨.nilsl 1,.same _,trivial⟩ hno)
      |some d =>
       rw[hd,←Ia,←Ia,Fk,←Ia]at hsu;unfold RR.av at hsu;refine Ac.val hsu ?_;simp[-Int.natCast_add];refine Ag.intro fun b15 hb15=>?_;refine hK _ rfl ?_;clear hK K;have hui:uI a b (2*t+k)=u+k:=by unfold uI;rw[←hu];split<;>split<;>omega
       have hvi:vI a b (2*t+k)=v+k:=by unfold vI;rw[←hv];split<;>split<;>omega
       have hst:eqS N p a b (2*t+(k+1))=some (r.set (u+k) d):=by
        rw[show 2*t+(k+1)=(2*t+k)+1 by omega,eqS,j2,hui,hvi,Option.bind_some,hd];rfl
       have ones2:∀c y,M0.set br ⟨44,4,Ct (r.map Be)⟩ c=some y→∀v∈y.l,v.cells.all AV.one=true:=by
        intro c y hy v hv;by_cases e:c=br
        ·rw[e,Aa.set_same]at hy;cases hy;exact O8 _ v hv
        ·rw[Aa.set_other _ _ e]at hy;exact ones0 c y hy v hv
       have hrl:(Ct (r.map Be)).length=2*N:=by simp[Ct];exact(Nb j2).1
       refine AW.turn [(0,.int .i64 (N:Nat)),(1,.sl 6 (Bw es)),(2,.sl 4 (Ct (p.map Be))),(8,.osl B 1 0 es.length),(9,.int .i64 (i:Nat)),(11,.osl br 4 0 (2*N)),(20,.sl 6 (Bw es)),(21,.int .i64 (es.length:Nat)),(22,.int .i64 (i:Nat)),(13,.rptr [.int .i64 (u:Nat),.int .i64 (v:Nat)]),(14,.int .i64 (k:Nat)),(15,.rptr [.bool (Be d).n1,Am (Be d).l1,.bool (Be d).n2,Am (Be d).l2]),(16,.int .i64 0),(44,.sl 2 PRS),(45,.int .i64 2),(46,.int .i64 (t:Nat)),(50,.int .i64 (k:Nat))] (M0.set br ⟨44,4,Ct (r.map Be)⟩) (Bj.drop hb15 ones2)
        (by simp[-Int.natCast_add];exact K9 hb15) ?_
       (repeat refine AW.seq_k fun K hK=>?_);refine AW.rg ?_;simp;try (refine hK _ rfl ?_;clear hK K)
       refine AW.no ?_ rfl;refine AW.skip ?_;try simp
       try (refine hK _ rfl ?_;clear hK K)
       (repeat refine AW.seq_k fun K hK=>?_);refine AW.rg ?_;simp[-Int.natCast_mul,-Int.natCast_add,wu,hul,hrl];try (refine hK _ rfl ?_;clear hK K)
       have hset:(Ct (r.map Be)).set (u+k) (.agg [.bool (Be d).n1,Am (Be d).l1,.bool (Be d).n2,Am (Be d).l2])=Ct ((r.set (u+k) d).map Be):=by
        unfold Ct;rw[List.map_set,List.map_set];rfl
       rw[hset];(repeat refine AW.seq_k fun K hK=>?_);refine AW.rg ?_;simp[-Int.natCast_add,wk];try (refine hK _ rfl ?_;clear hK K)
       exact⟨r.set (u+k) d,k+1,⟨by omega,hst⟩,by omega,by rw[List.map_set],rfl⟩
     ·refine AW.exit ?_;try simp
      have:k=2:=by omega
      subst this;(repeat refine AW.seq_k fun K hK=>?_);refine AW.rg ?_;simp[-Int.natCast_add,wt];try (refine hK _ rfl ?_;clear hK K)
      exact⟨r,t+1,⟨by omega,by rw[show 2*(t+1)=2*t+2 by omega];exact j2⟩,by omega,rfl,rfl⟩
    ·refine AW.exit ?_;try simp[-Int.natCast_mul]
     have:t=2:=by omega
     subst this;exact⟨r,k2,rfl⟩
   rintro r hr;have hrl:(Ct (r.map Be)).length=2*N:=by simp[Ct];exact(Nb hr).1
   have hsr:Wy N (Ae es) p (i+1)=some (M++[r]):=by rw[hsc,hr];rfl
   have hbl:(eqB es.length M).length=es.length:=by simp[eqB,Cs,gl];omega
   have hpush:(eqB es.length M).set i (.sl 4 (Ct (r.map Be)))=eqB es.length (M++[r]):=by
    unfold eqB;rw[List.set_append_right _ _ (by simp[Cs,gl]),show i-((Cs M).map A6).length=0 by simp[Cs,gl],show es.length-M.length=(es.length-(M.length+1))+1 by omega,List.replicate_succ,List.set_cons_zero];simp[Cs,A6]
   refine AW.turn [(0,.int .i64 (N:Nat)),(1,.sl 6 (Bw es)),(2,.sl 4 (Ct (p.map Be))),(8,.osl B 1 0 es.length),(9,.int .i64 (i:Nat)),(11,.sl 4 (Ct (r.map Be))),(20,.sl 6 (Bw es)),(21,.int .i64 (es.length:Nat)),(22,.int .i64 (i:Nat))] M0 (Bj.drop hbr ones0) ?_ ?_
   ·simp;refine .osl br 4 0 (2*N) _ (Ct (r.map Be)) (Aa.set_same _ _ _) hbr rfl hrl (by simp[hrl]) (fun k v v' h1 h2=>?_);rw[Nat.zero_add]at h1;rw[h1]at h2;cases h2;exact .same _
   subst hM0;(repeat refine AW.seq_k fun K hK=>?_);refine AW.rg ?_;simp[hi,hbl];try (refine hK _ rfl ?_;clear hK K)
   rw[hpush];(repeat refine AW.seq_k fun K hK=>?_);refine AW.rg ?_;simp[-Int.natCast_add,w1];try (refine hK _ rfl ?_;clear hK K)
   exact⟨_,i+1,⟨by omega,hsr⟩,by omega,rfl,rfl⟩
  ·refine AW.exit ?_;try simp
   have:i=es.length:=by omega
   subst this;exact⟨M,g2,rfl⟩
 rintro M hM;obtain⟨gl,gg⟩:=Nw hM;(repeat refine AW.seq_k fun K hK=>?_);refine AW.rg ?_;simp;try (refine hK _ rfl ?_;clear hK K)
 have e0:eqB es.length M=(Cs M).map A6:=by unfold eqB;rw[gl];simp
 rw[e0];refine AW.ret (B0 rfl (Iq.set (M:=Aa.emp) (fun c y hy=>by cases hy) B (Qca M)) ?_);unfold eqR;rw[hM];exact⟨B,rfl,rfl⟩
end Go.Av
end
section
namespace Go.Av
open Go.Proofs Go.Lam
noncomputable def L5 (m:List (List RR)):AV:=match (Wt m).1,(Wt m).2 with
 |0,v::_=>.tup [A6 (v.map Be),.bool true,.int .i64 0]
 |e,_=>.tup [A6 [],.bool false,.int .i64 e]
theorem Qaz (m:List (List RR)) (hm:Z4 m):Aj Tryz.prog 70 [A8 m] Aa.emp fun v mm=>v=L5 m∧mm=Aa.emp:=by
 have hk:=Ws m hm;unfold L5;generalize Wt m=K0 at *;obtain⟨e,V⟩:=K0;simp only at *;refine Ad Tryz.func70 rfl rfl 23 rfl (Nat.le_of_ble_eq_true rfl) ?_;unfold A8 at hk ⊢;(repeat refine AW.seq_k fun K hK=>?_);refine AW.rg ?_;simp[Ak];try (refine hK _ rfl ?_;clear hK K)
 (repeat refine AW.seq_k fun K hK=>?_);refine AW.rg ?_;simp;try (refine hK _ rfl ?_;clear hK K)
 refine Ac.val hk ?_;simp;try (refine hK _ rfl ?_;clear hK K)
 by_cases he:e=0
 ·subst he;cases V with
  |nil =>
   (repeat refine AW.seq_k fun K hK=>?_);refine AW.rg ?_;simp[Cs];try (refine hK _ rfl ?_;clear hK K)
   refine AW.yes ?_ (by simp[Cs]);(repeat refine AW.seq_k fun K hK=>?_);refine AW.rg ?_;simp;try (refine hK _ rfl ?_;clear hK K)
   exact AW.ret (Ai [A6 [],.bool false,.int .i64 0] rfl ⟨.nilsl 4,.same _,.same _,trivial⟩ ⟨rfl,rfl⟩)
  |cons v t =>
   (repeat refine AW.seq_k fun K hK=>?_);refine AW.rg ?_;simp[-Int.natCast_add,Cs];try (refine hK _ rfl ?_;clear hK K)
   refine AW.no ?_ (by simp[-Int.natCast_add,Cs]);refine AW.skip ?_;try simp[-Int.natCast_add]
   try (refine hK _ rfl ?_;clear hK K)
   (repeat refine AW.seq_k fun K hK=>?_);refine AW.rg ?_;simp[-Int.natCast_add,Cs];try (refine hK _ rfl ?_;clear hK K)
   exact AW.ret (Ai [A6 (v.map Be),.bool true,.int .i64 0] rfl ⟨.same _,.same _,.same _,trivial⟩ ⟨rfl,rfl⟩)
 ·(repeat refine AW.seq_k fun K hK=>?_);refine AW.rg ?_;simp[he];try (refine hK _ rfl ?_;clear hK K)
  refine AW.yes ?_ (by simp[he]);(repeat refine AW.seq_k fun K hK=>?_);refine AW.rg ?_;simp;try (refine hK _ rfl ?_;clear hK K)
  exact AW.ret (Ai [A6 [],.bool false,.int .i64 e] rfl ⟨.nilsl 4,.same _,.same _,trivial⟩ ⟨by cases V<;>(split<;>first | rfl | contradiction | simp_all),rfl⟩)
end Go.Av
end
section
namespace Go.Av
open Go.Proofs Go.Lam
def Tv (n:Nat) (p:List Rat):AV:=match Sf n p with
 |some M=>.tup [A8 (Cs M),.int .i64 0]
 |none=>.tup [A8 [],.int .i64 2]
def T1 (p:List Rat) (k:Nat):Prop:=Dy p (2*k)=Dy p 0∧Dy p (2*k+1)=Dy p 1
theorem Qfi {n:Nat} {p:List Rat} (h:∀k,1≤k→k<n→T1 p k):Yp n p=none:=by
 unfold Yp;rw[List.find?_range_eq_none];intro k hk;by_cases h1:1≤k
 ·obtain⟨a,b⟩:=h k h1 hk;simp[a,b]
 ·simp[h1]
theorem Qej {n i:Nat} {p:List Rat} (h1:1≤i) (hi:i<n) (hd:¬T1 p i) (h:∀k,1≤k→k<i→T1 p k):Yp n p=some i:=by
 unfold Yp;rw[List.find?_range_eq_some];refine⟨?_,List.mem_range.2 hi,fun k hk=>?_⟩
 ·unfold T1 at hd;by_cases a:Dy p (2*i)=Dy p 0
  ·have b:¬Dy p (2*i+1)=Dy p 1:=fun b=>hd ⟨a,b⟩;simp[h1,b]
  ·simp[h1,a]
 ·by_cases g:1≤k
  ·obtain⟨a,b⟩:=h k g hk;simp[a,b]
  ·simp[g]
def V9 (o:Option Rat):RR:=match o with | some d=>Be d | none=>⟨false,[],false,[]⟩
def Qfc (o:Option Rat):Int:=match o with | some _=>0 | none=>2
theorem Qh8 (o:Option Rat):Fk o=.tup [(V9 o).av,.int .i64 (Qfc o)]:=by cases o<;>rfl
theorem Od {n i:Nat} {p:List Rat} (h:Yp n p=some i):Sf n p=(Dj (Dy p 1) (Dy p (2*i+1))).bind fun d1=>(Dj (Dy p (2*i)) (Dy p 0)).map fun d2=>[(List.replicate (2*n) (0:Rat)).set 0 1,(List.replicate (2*n) (0:Rat)).set 1 1,((List.replicate (2*n) (0:Rat)).set (2*i) d1).set (2*i+1) d2]:=by
 unfold Sf;rw[h]
theorem D3 {M M':Aa} {b n z:Nat} {l:List AV} {e:TypeId} (h:M b=some ⟨e,z,l⟩) (h':M' b=none) (hl:l.length=n):Bx M M' (.osl b z 0 n) (.sl z l) :=
 .osl b z 0 n _ l h h' rfl hl (by simp[hl]) (fun k v v' h1 h2=>by rw[Nat.zero_add]at h1;rw[h1]at h2;cases h2;exact .same _)
theorem Qet (N:Nat) (p:List Rat) (hN:1≤N) (hN12:N≤12) (hp:Fq N p):Aj Tryz.prog 69 [.int .i64 (N:Nat),A6 (p.map Be)] Aa.emp fun v m=>v=Tv N p∧m=Aa.emp:=by
 have hzr:=Pt (2*N) (by omega);have hw1:=Qa 1 (by omega) (by omega);rw[Ir]at hw1;have w0:=Aq (2*N) (by omega);have hpl:p.length=2*N:=hp.1;have hg:∀i,i<2*N→B4 (Dy p i):=fun i hi=>by
  unfold Dy;rw[List.getD_eq_getElem?_getD,List.getElem?_eq_getElem (by omega)];exact hp.2 _ (List.getElem_mem _)
 have hrr:∀i,i<2*N→rr (p.map Be) i=Be (Dy p i):=fun i hi=>by
  rw[Lx (by simp;omega)];unfold Dy;simp[hpl,hi]
 have hdf:∀i j,i<2*N→j<2*N→Aj Tryz.prog 105 [(Be (Dy p i)).av,(Be (Dy p j)).av] Aa.emp fun v m=>v=.bool (decide (Dy p i≠Dy p j))∧m=Aa.emp:=fun i j hi hj=>by
  have:=V3 (Be (Dy p i)) (Be (Dy p j)) (F2 _) (F2 _) (Ex (hg i hi)) (Ex (hg j hj));rw[Gt,Gt]at this;exact this
 refine Ad Tryz.func69 rfl rfl 99 rfl (Nat.le_of_ble_eq_true rfl) ?_;unfold A6 at *;(repeat refine AW.seq_k fun K hK=>?_);refine AW.rg ?_;simp[Ak];try (refine hK _ rfl ?_;clear hK K)
 (repeat refine AW.seq_k fun K hK=>?_);refine AW.rg ?_;simp[-Int.natCast_mul,w0];try (refine hK _ rfl ?_;clear hK K)
 refine Ac.make (R:=fun b v x=>v=.osl b 4 0 (2*N)∧x=⟨44,4,Ct (List.replicate (2*N) (Be 0))⟩) (hzr.mono fun v m ⟨b,h1,h2⟩=>⟨b,_,⟨h1,rfl⟩,h2⟩) ?_;rintro b0 _ _ ⟨rfl,rfl⟩ hb0 _;simp[-Int.natCast_mul,w0];refine Ac.make (R:=fun b v x=>v=.osl b 4 0 (2*N)∧x=⟨44,4,Ct (List.replicate (2*N) (Be 0))⟩) (hzr.mono fun v m ⟨b,h1,h2⟩=>⟨b,_,⟨h1,rfl⟩,h2⟩) ?_;rintro b1 _ _ ⟨rfl,rfl⟩ hb1 _;simp[-Int.natCast_mul];refine Ag.intro fun B hB=>?_;try (refine hK _ rfl ?_;clear hK K)
 have hz0:Ct (List.replicate (2*N) (Be 0))=Ct ((List.replicate (2*N) (0:Rat)).map Be):=by simp
 have hzl:(Ct (List.replicate (2*N) (Be 0))).length=2*N:=by simp[Ct]
 generalize hz:Ct (List.replicate (2*N) (Be 0))=Z at *;have n10:b1≠b0:=fun h=>by simp[h]at hb1
 have nB0:B≠b0:=fun h=>by simp[h]at hB
 have nB1:B≠b1:=fun h=>by simp[h]at hB
 have hN2:0<2*N:=by omega
 have hN3:1<2*N:=by omega
 (repeat refine AW.seq_k fun K hK=>?_);refine AW.rdA B [0,1,2,3,4,5,6,7,8,9,10,11] Ds (by simp[-Int.natCast_mul,hzl,hN2,hN3,n10,nB0,nB1]) ?_;simp[-Int.natCast_mul,hzl,hN2,hN3,n10,nB0,nB1];try (refine hK _ rfl ?_;clear hK K)
 refine Ac.val hw1 ?_;simp[-Int.natCast_mul];refine Ac.val hw1 ?_;simp[-Int.natCast_mul,hzl,hN2,hN3,n10,nB0,nB1,Ne.symm nB0,Ne.symm nB1];try (refine hK _ rfl ?_;clear hK K)
 have hr0:Z.set 0 (Be 1).av=Ct (((List.replicate (2*N) (0:Rat)).set 0 1).map Be):=by rw[hz0,List.map_set];exact Le _ _ _
 have hr1:Z.set 1 (Be 1).av=Ct (((List.replicate (2*N) (0:Rat)).set 1 1).map Be):=by rw[hz0,List.map_set];exact Le _ _ _
 rw[hr0,hr1];have hl0:(Ct (((List.replicate (2*N) (0:Rat)).set 0 1).map Be)).length=2*N:=by simp[Ct]
 have hl1:(Ct (((List.replicate (2*N) (0:Rat)).set 1 1).map Be)).length=2*N:=by simp[Ct]
 have hem:∀l,(Cs [(List.replicate (2*N) (0:Rat)).set 0 1,(List.replicate (2*N) (0:Rat)).set 1 1,l]).map A6=[.sl 4 (Ct (((List.replicate (2*N) (0:Rat)).set 0 1).map Be)),.sl 4 (Ct (((List.replicate (2*N) (0:Rat)).set 1 1).map Be)),.sl 4 (Ct (l.map Be))]:=fun _=>rfl;have hem2:(Cs [(List.replicate (2*N) (0:Rat)).set 0 1,(List.replicate (2*N) (0:Rat)).set 1 1]).map A6=[.sl 4 (Ct (((List.replicate (2*N) (0:Rat)).set 0 1).map Be)),.sl 4 (Ct (((List.replicate (2*N) (0:Rat)).set 1 1).map Be))]:=rfl;have hpN:Yp N p=none→Tv N p=.tup [.sl 1 [.sl 4 (Ct (((List.replicate (2*N) (0:Rat)).set 0 1).map Be)),.sl 4 (Ct (((List.replicate (2*N) (0:Rat)).set 1 1).map Be))],.int .i64 0]:=fun h=>by
  unfold Tv Sf A8;rw[h];rfl
 generalize Ct (((List.replicate (2*N) (0:Rat)).set 0 1).map Be)=R0 at *;generalize Ct (((List.replicate (2*N) (0:Rat)).set 1 1).map Be)=R1 at *;generalize hM0:Aa.emp.set B ⟨51,1,[.sl 4 R0,.sl 4 R1]⟩=M0;have hM0B:M0 B=some ⟨51,1,[.sl 4 R0,.sl 4 R1]⟩:=by rw[←hM0];exact Aa.set_same _ _ _
 have hM0n:∀c,c≠B→M0 c=none:=fun c h=>by rw[←hM0];exact Aa.set_other _ _ h
 have ones0:Iq M0:=by
  rw[←hM0];exact Iq.set (M:=Aa.emp) (fun c y hy=>by cases hy) B (by simp[AV.cells,AV.one])
 refine AW.turn [(0,.int .i64 (N:Nat)),(1,.sl 4 (Ct (p.map Be))),(6,.osl B 1 0 2)] M0 ⟨fun c x' hx'=>?_⟩ (by simp[-Int.natCast_mul]) ?_
 ·by_cases hc:c=B
  ·subst hc;rw[hM0B]at hx';cases hx';refine⟨⟨51,1,[.osl b0 4 0 (2*N),.osl b1 4 0 (2*N)]⟩,by simp[nB0,nB1],rfl,rfl,rfl,fun k v v' h1 h2=>?_⟩
   match k with
   |0 =>
    cases h1;cases h2;exact⟨D3 (by simp[Ne.symm n10];rfl) (hM0n _ (Ne.symm nB0)) hl0,rfl⟩
   |1 =>
    cases h1;cases h2;exact⟨D3 (by simp;rfl) (hM0n _ (Ne.symm nB1)) hl1,rfl⟩
   |k+2=>cases h1
  ·rw[hM0n c hc]at hx';cases hx'
 refine AW.seq_ex (ι:=Unit) (fun _=>[(6,.osl B 1 0 2)]) (fun _=>M0) (fun _=>Yp N p=none) ?_ ?_
 ·(repeat refine AW.seq_k fun K hK=>?_);refine AW.rg ?_;simp;try (refine hK _ rfl ?_;clear hK K)
  refine AW.block (AW.loopS (ι:=Nat) (fun i=>[(0,.int .i64 (N:Nat)),(1,.sl 4 (Ct (p.map Be))),(6,.osl B 1 0 2),(7,.int .i64 ((2*i:Nat):Int))]) (fun _=>M0) (fun i=>1≤i∧i≤N∧∀k,1≤k→k<i→T1 p k) (fun i=>N-i) 1 ⟨by omega,by omega,fun k h1 h2=>by omega⟩ rfl (by simp) ?_);rintro i ⟨g1,g2,g3⟩;(repeat refine AW.seq_k fun K hK=>?_);refine AW.rg ?_;simp[-Int.natCast_mul,w0];try (refine hK _ rfl ?_;clear hK K)
  (repeat refine AW.seq ?_);refine AW.cs (fun hi=>?_) (fun hi=>?_) rfl<;>(try simp at hi)
  ·refine AW.skip ?_;try simp[-Int.natCast_mul]
   try (refine hK _ rfl ?_;clear hK K)
   have hi':i<N:=by omega
   have a0:2*i<2*N:=by omega
   have a1:2*i+1<2*N:=by omega
   have w2:=Aq (2*i+1) (by omega);have w3:=Aq (2*i+2) (by omega);have d0:=hdf (2*i) 0 a0 hN2;have d1:=hdf (2*i+1) 1 a1 hN3;unfold RR.av at d0 d1;have hr0:=hrr _ a0;have hr1:=hrr _ a1;have hr2:=hrr 0 hN2;have hr3:=hrr 1 hN3;obtain⟨T,hT⟩:∃T:Bool,(T=true↔T1 p i):=⟨(decide (Dy p (2*i)=Dy p 0)&&decide (Dy p (2*i+1)=Dy p 1)),by simp[T1]⟩;(repeat refine AW.seq ?_);refine AW.block ?_;refine AW.seq_k fun K hK=>?_;refine AW.seq_ex (ι:=Unit) (fun _=>[(0,.int .i64 (N:Nat)),(1,.sl 4 (Ct (p.map Be))),(6,.osl B 1 0 2),(7,.int .i64 ((2*i:Nat):Int)),(54,.bool T)]) (fun _=>M0) (fun _=>True) ?_ ?_
   ·refine AW.rd [0,1,2,3,4,5,6,7,8,9,10,11,12,13,14,15,16,17,18,19,20] Ds ?_;simp[-Int.natCast_mul,hpl,a0,hN2,hr0,hr2];refine Ac.val d0 ?_;by_cases e0:Dy p (2*i)=Dy p 0
    ·simp[-Int.natCast_add,-Int.natCast_mul,e0,w2,hpl,a1,hN3,hr1,hr3];refine Ac.val d1 ?_;simp[-Int.natCast_add,-Int.natCast_mul];rw[Bool.eq_iff_iff,hT];simp[T1,e0]
    ·simp[-Int.natCast_mul,e0];rw[←Bool.not_eq_true,hT];simp[T1,e0]
   rintro _ _;cases T with
   |true =>
    have hs:=hT.1 rfl;refine AW.yes ?_ rfl;refine AW.exit ?_;try simp[-Int.natCast_mul]
    (repeat refine AW.seq_k fun K hK=>?_);refine AW.rg ?_;simp[-Int.natCast_add,-Int.natCast_mul,w3];try (refine hK _ rfl ?_;clear hK K)
    exact⟨i+1,⟨by omega,by omega,fun k h1 h2=>by
     rcases Nat.lt_or_ge k i with h|h
     ·exact g3 k h1 h
     ·rw[show k=i by omega];exact hs⟩,by omega,rfl⟩
   |false =>
    have hns:¬T1 p i:=fun h=>by have:=hT.2 h;cases this
    have hpj:=Qej g1 hi' hns g3;have s1:=Ld (Dy p 1) (Dy p (2*i+1)) (hg _ hN3) (hg _ a1);have s2:=Ld (Dy p (2*i)) (Dy p 0) (hg _ a0) (hg _ hN2);rw[Qh8,←Ia,←Ia]at s1 s2;unfold RR.av at s1 s2;refine AW.no ?_ rfl;refine AW.skip ?_;try simp[-Int.natCast_mul]
    try (refine hK _ rfl ?_;clear hK K)
    (repeat refine AW.seq_k fun K hK=>?_);refine AW.rg ?_;simp[-Int.natCast_mul,w0];try (refine hK _ rfl ?_;clear hK K)
    refine Ac.make (R:=fun b v x=>v=.osl b 4 0 (2*N)∧x=⟨44,4,Z⟩) (hzr.mono fun v m ⟨b,h1,h2⟩=>⟨b,_,⟨h1,rfl⟩,h2⟩) ?_;rintro br _ _ ⟨rfl,rfl⟩ hbr _;simp[-Int.natCast_mul];try (refine hK _ rfl ?_;clear hK K)
    (repeat refine AW.seq_k fun K hK=>?_);refine AW.rg ?_;simp[-Int.natCast_mul];try (refine hK _ rfl ?_;clear hK K)
    (repeat refine AW.seq_k fun K hK=>?_);refine AW.rd [0,1,2,3,4,5,6,7,8,9,10,11,12,13,14,15,16] Ds ?_;simp[-Int.natCast_add,-Int.natCast_mul,hpl,w2,a1,hN3,hr1,hr3];try (refine hK _ rfl ?_;clear hK K)
    refine Ac.val s1 ?_;simp[-Int.natCast_add,-Int.natCast_mul,hzl,a0];try (refine hK _ rfl ?_;clear hK K)
    (repeat refine AW.seq_k fun K hK=>?_);refine AW.rd [0,1,2,3,4,5,6,7,8,9,10,11,12,13,14,15,16] Ds ?_;simp[-Int.natCast_add,-Int.natCast_mul,hpl,w2,a0,hN2,hr0,hr2];try (refine hK _ rfl ?_;clear hK K)
    refine Ac.val s2 ?_;simp[-Int.natCast_add,-Int.natCast_mul,hzl,a1];try (refine hK _ rfl ?_;clear hK K)
    cases h1:Dj (Dy p 1) (Dy p (2*i+1))with
    |none =>
     have hno:Tv N p=.tup [A8 [],.int .i64 2]:=by unfold Tv;rw[Od hpj,h1];rfl
     (repeat refine AW.seq_k fun K hK=>?_);refine AW.rg ?_;simp[-Int.natCast_add,-Int.natCast_mul,Qfc];try (refine hK _ rfl ?_;clear hK K)
     refine AW.yes ?_ rfl;(repeat refine AW.seq_k fun K hK=>?_);refine AW.rg ?_;simp[-Int.natCast_add,-Int.natCast_mul];try (refine hK _ rfl ?_;clear hK K)
     exact AW.ret (Ai [A8 [],.int .i64 2] rfl ⟨.nilsl 1,.same _,trivial⟩ ⟨by rw[hno];rfl,rfl⟩)
    |some x1 =>
     cases h2:Dj (Dy p (2*i)) (Dy p 0)with
     |none =>
      have hno:Tv N p=.tup [A8 [],.int .i64 2]:=by unfold Tv;rw[Od hpj,h1,h2];rfl
      (repeat refine AW.seq_k fun K hK=>?_);refine AW.rg ?_;simp[-Int.natCast_add,-Int.natCast_mul,Qfc];try (refine hK _ rfl ?_;clear hK K)
      refine AW.no ?_ rfl;refine AW.skip ?_;try simp[-Int.natCast_add,-Int.natCast_mul]
      try (refine hK _ rfl ?_;clear hK K)
      (repeat refine AW.seq_k fun K hK=>?_);refine AW.rg ?_;simp[-Int.natCast_add,-Int.natCast_mul,Qfc];try (refine hK _ rfl ?_;clear hK K)
      refine AW.yes ?_ rfl;(repeat refine AW.seq_k fun K hK=>?_);refine AW.rg ?_;simp[-Int.natCast_add,-Int.natCast_mul];try (refine hK _ rfl ?_;clear hK K)
      exact AW.ret (Ai [A8 [],.int .i64 2] rfl ⟨.nilsl 1,.same _,trivial⟩ ⟨by rw[hno];rfl,rfl⟩)
     |some x2 =>
      (repeat refine AW.seq_k fun K hK=>?_);refine AW.rg ?_;simp[-Int.natCast_add,-Int.natCast_mul,Qfc];try (refine hK _ rfl ?_;clear hK K)
      refine AW.no ?_ rfl;refine AW.skip ?_;try simp[-Int.natCast_add,-Int.natCast_mul]
      try (refine hK _ rfl ?_;clear hK K)
      (repeat refine AW.seq_k fun K hK=>?_);refine AW.rg ?_;simp[-Int.natCast_add,-Int.natCast_mul,Qfc];try (refine hK _ rfl ?_;clear hK K)
      refine AW.no ?_ rfl;refine AW.skip ?_;try simp[-Int.natCast_add,-Int.natCast_mul]
      try (refine hK _ rfl ?_;clear hK K)
      have hrow:(Z.set (2*i) (.agg [.bool (V9 (some x1)).n1,Am (V9 (some x1)).l1,.bool (V9 (some x1)).n2,Am (V9 (some x1)).l2])).set (2*i+1) (.agg [.bool (V9 (some x2)).n1,Am (V9 (some x2)).l1,.bool (V9 (some x2)).n2,Am (V9 (some x2)).l2])=Ct ((((List.replicate (2*N) (0:Rat)).set (2*i) x1).set (2*i+1) x2).map Be):=by
       rw[hz0,List.map_set,List.map_set];exact(congrArg (fun l=>List.set l (2*i+1) (Be x2).av) (Le _ _ (Be x1))).trans (Le _ _ (Be x2))
      have hyes:Tv N p=.tup [.sl 1 [.sl 4 R0,.sl 4 R1,.sl 4 (Ct ((((List.replicate (2*N) (0:Rat)).set (2*i) x1).set (2*i+1) x2).map Be))],.int .i64 0]:=by
       unfold Tv;rw[Od hpj,h1,h2];unfold A8;simp only[Option.bind_some,Option.map_some];rw[hem]
      rw[hrow];have hrl:(Ct ((((List.replicate (2*N) (0:Rat)).set (2*i) x1).set (2*i+1) x2).map Be)).length=2*N:=by simp[Ct]
      generalize Ct ((((List.replicate (2*N) (0:Rat)).set (2*i) x1).set (2*i+1) x2).map Be)=RW at *;refine AW.turn [(6,.osl B 1 0 2),(8,.sl 4 RW)] M0 (Bj.drop hbr ones0) (by simp[-Int.natCast_add,-Int.natCast_mul];exact D3 (Aa.set_same _ _ _) hbr hrl) ?_;(repeat refine AW.seq_k fun K hK=>?_);refine AW.rgR [96] ?_;simp[-Int.natCast_mul,hM0B];try (refine hK _ rfl ?_;clear hK K)
      refine⟨by unfold maxLen;omega,Ag.intro fun b' hb'=>?_⟩;refine hK _ rfl ?_;clear hK K;exact AW.ret (Ai [.sl 1 [.sl 4 R0,.sl 4 R1,.sl 4 RW],.int .i64 0] rfl ⟨D3 (Aa.set_same _ _ _) rfl rfl,.same _,trivial⟩ ⟨by rw[hyes];rfl,rfl⟩)
  ·refine AW.exit ?_;try simp[-Int.natCast_mul]
   have:i=N:=by omega
   subst this;exact Qfi g3
 ·rintro _ hj;(repeat refine AW.seq_k fun K hK=>?_);refine AW.rg ?_;simp;try (refine hK _ rfl ?_;clear hK K)
  have hV:Bx M0 Aa.emp (.osl B 1 0 2) (.sl 1 [.sl 4 R0,.sl 4 R1]):=D3 hM0B rfl rfl;exact AW.ret (Ai [.sl 1 [.sl 4 R0,.sl 4 R1],.int .i64 0] rfl ⟨hV,.same _,trivial⟩ ⟨by rw[hpN hj];rfl,rfl⟩)
end Go.Av
end
section
namespace Go.Av
open Go.Proofs Go.Lam
theorem Qaj {a b:Rat} (ha:B4 a):Aj Tryz.prog 33 [(Be a).av,(Be b).av] Aa.emp fun v m=>v=.bool (decide (a=b))∧m=Aa.emp:=by
 refine(Qfg (Be a) (Be b) (Qcj ha)).mono ?_;rintro v m ⟨⟨t,rfl,ht⟩,h2⟩;refine⟨?_,h2⟩;have e:Be a=Be b↔a=b:=⟨fun h=>by rw[←Gt a,h,Gt],fun h=>by rw[h]⟩;rw[e]at ht;cases t<;>simp_all
end Go.Av
end
section
namespace Go.Av
open Go.Proofs Go.Lam
noncomputable def Y6 (n:Int) (es:List RE) (p:List RR):AV :=
 if Iy n es p=true then
  match (Wy n.toNat (Ae es) (p.map RR.q) es.length).bind fun M=>(Sf n.toNat (p.map RR.q)).bind fun P=>some (M++P)with
  |some M=>L5 (Cs M)
  |none=>.tup [A6 [],.bool false,.int .i64 2]
 else .tup [A6 [],.bool false,.int .i64 1]
theorem Qhr {n:Int} {es:List RE} {p:List RR} (h:¬Iy n es p=true):Y6 n es p=.tup [A6 [],.bool false,.int .i64 1]:=by unfold Y6;rw[if_neg h]
theorem Qdr {n:Int} {es:List RE} {p:List RR} (h:Iy n es p=true):Y6 n es p=match (Wy n.toNat (Ae es) (p.map RR.q) es.length).bind fun M=>(Sf n.toNat (p.map RR.q)).bind fun P=>some (M++P)with
  |some M=>L5 (Cs M)
  |none=>.tup [A6 [],.bool false,.int .i64 2]:=by unfold Y6;rw[if_pos h]
theorem Qbs (m:List (List RR)):∃a b c,L5 m=.tup [a,b,c]:=by
 unfold L5;split<;>exact⟨_,_,_,rfl⟩
theorem Qiq (n:Int) (es:List RE) (p:List RR):∃a b c,Y6 n es p=.tup [a,b,c]:=by
 unfold Y6;split
 ·split
  ·exact Qbs _
  ·exact⟨_,_,_,rfl⟩
 ·exact⟨_,_,_,rfl⟩
theorem Qa6 {n:Int} {es:List RE} {p:List RR} (hp:∀x∈p,x.Lb) (h:Iy n es p=true):∃N:Nat,n=(N:Nat)∧1≤N∧N≤12∧Ln (N:Int).toNat es∧es.length≤40∧Fq N (p.map RR.q)∧p=(p.map RR.q).map Be:=by
 unfold Iy at h;simp only[Bool.and_eq_true,decide_eq_true_eq,List.all_eq_true]at h;obtain⟨⟨hk,h2⟩,h3⟩:=h;obtain⟨⟨q1,q2,q3⟩,_⟩:=Dk hk;obtain⟨N,rfl⟩:=Int.eq_ofNat_of_zero_le (show 0≤n by omega);refine⟨N,rfl,by omega,by omega,G1 hk,q3,⟨by simp;omega,fun q hq=>?_⟩,?_⟩
 ·obtain⟨x,hx,rfl⟩:=List.mem_map.1 hq;exact(Ek (hp x hx) (h3 x hx)).1
 ·rw[List.map_map]
  conv=>lhs;rw[←List.map_id p]
  exact List.map_congr_left fun x hx=>(Ek (hp x hx) (h3 x hx)).2
theorem Qgu {n:Nat} {p:List Rat} {P:List (List Rat)} (h:Sf n p=some P):1≤P.length∧P.length≤3:=by
 unfold Sf at h;split at h
 ·cases h;simp
 ·obtain⟨d1,_,h2⟩:=Option.bind_eq_some_iff.1 h;obtain⟨d2,_,rfl⟩:=Option.map_eq_some_iff.1 h2;simp
theorem Vy (n:Int) (es:List RE) (p:List RR) (hb:Qx es) (hp:∀x∈p,x.Lb) (hpl:p.length<2^63):Aj Tryz.prog 32 [.int .i64 n,A1 es,A6 p] Aa.emp fun v m=>v=Y6 n es p∧m=Aa.emp:=by
 have hc:=Ys n es p hb hp;by_cases hpl:Iy n es p=true;rotate_left
 ·have e1:Iu n es p=.int .i64 1:=by unfold Iu;rw[if_neg hpl]
  have hz:=Qhr hpl;rw[e1]at hc;refine Ad Tryz.func32 rfl rfl 46 rfl (Nat.le_of_ble_eq_true rfl) ?_;unfold A1 A6 at *;(repeat refine AW.seq_k fun K hK=>?_);refine AW.rg ?_;simp[Ak];try (refine hK _ rfl ?_;clear hK K)
  (repeat refine AW.seq_k fun K hK=>?_);refine AW.rg ?_;simp;try (refine hK _ rfl ?_;clear hK K)
  refine Ac.val hc ?_;simp;try (refine hK _ rfl ?_;clear hK K)
  (repeat refine AW.seq_k fun K hK=>?_);refine AW.rg ?_;simp;try (refine hK _ rfl ?_;clear hK K)
  refine AW.yes ?_ rfl;(repeat refine AW.seq_k fun K hK=>?_);refine AW.rg ?_;simp;try (refine hK _ rfl ?_;clear hK K)
  exact AW.ret (Ai [A6 [],.bool false,.int .i64 1] rfl ⟨.nilsl 4,.same _,.same _,trivial⟩ ⟨by rw[hz];rfl,rfl⟩)
 have e1:Iu n es p=.int .i64 0:=by unfold Iu;rw[if_pos hpl]
 rw[e1]at hc;obtain⟨N,rfl,N1,N2,hok,h3,hrow,hpe⟩:=Qa6 hp hpl;have hS:=Qdr hpl;simp only[Int.toNat_natCast]at hok hS;have heq:=Sl N es (p.map RR.q) N1 N2 hok h3 hrow;have hpi:=Qet N (p.map RR.q) N1 N2 hrow;generalize p.map RR.q=q at *;subst hpe;unfold eqR at heq;refine Ad Tryz.func32 rfl rfl 46 rfl (Nat.le_of_ble_eq_true rfl) ?_;unfold A1 A6 at hc;unfold A1 A6;(repeat refine AW.seq_k fun K hK=>?_);refine AW.rg ?_;simp[Ak];try (refine hK _ rfl ?_;clear hK K)
 (repeat refine AW.seq_k fun K hK=>?_);refine AW.rg ?_;simp;try (refine hK _ rfl ?_;clear hK K)
 refine Ac.val hc ?_;simp;try (refine hK _ rfl ?_;clear hK K)
 (repeat refine AW.seq_k fun K hK=>?_);refine AW.rg ?_;simp;try (refine hK _ rfl ?_;clear hK K)
 refine AW.no ?_ rfl;refine AW.skip ?_;try simp
 try (refine hK _ rfl ?_;clear hK K)
 cases hE:Wy N (Ae es) q es.length with
 |none =>
  rw[hE]at heq hS;simp only[Option.bind_none]at hS;unfold A8 at heq;(repeat refine AW.seq_k fun K hK=>?_);refine AW.rg ?_;simp;try (refine hK _ rfl ?_;clear hK K)
  refine Ac.val heq ?_;simp;try (refine hK _ rfl ?_;clear hK K)
  (repeat refine AW.seq_k fun K hK=>?_);refine AW.rg ?_;simp;try (refine hK _ rfl ?_;clear hK K)
  refine AW.yes ?_ rfl;(repeat refine AW.seq_k fun K hK=>?_);refine AW.rg ?_;simp;try (refine hK _ rfl ?_;clear hK K)
  exact AW.ret (Ai [A6 [],.bool false,.int .i64 2] rfl ⟨.nilsl 4,.same _,.same _,trivial⟩ ⟨by rw[hS];rfl,rfl⟩)
 |some M =>
  rw[hE]at heq hS;simp only[Option.bind_some]at hS;obtain⟨gl,gg⟩:=Nw hE;have hMl:((Cs M).map A6).length=es.length:=by simp[Cs,gl]
  (repeat refine AW.seq_k fun K hK=>?_);refine AW.rg ?_;simp;try (refine hK _ rfl ?_;clear hK K)
  refine Ac.whole (fun _ h=>h) heq ?_;rintro _ X ⟨B,rfl,rfl⟩;simp;try (refine hK _ rfl ?_;clear hK K)
  (repeat refine AW.seq_k fun K hK=>?_);refine AW.rg ?_;simp;try (refine hK _ rfl ?_;clear hK K)
  refine AW.no ?_ rfl;refine AW.skip ?_;try simp
  try (refine hK _ rfl ?_;clear hK K)
  unfold Tv at hpi;cases hP:Sf N q with
  |none =>
   rw[hP]at hpi hS;simp only at hpi;simp only[Option.bind_none]at hS;unfold A8 at hpi;(repeat refine AW.seq_k fun K hK=>?_);refine AW.rg ?_;simp;try (refine hK _ rfl ?_;clear hK K)
   refine Ac.val hpi ?_;simp;try (refine hK _ rfl ?_;clear hK K)
   (repeat refine AW.seq_k fun K hK=>?_);refine AW.rg ?_;simp;try (refine hK _ rfl ?_;clear hK K)
   refine AW.yes ?_ rfl;(repeat refine AW.seq_k fun K hK=>?_);refine AW.rg ?_;simp;try (refine hK _ rfl ?_;clear hK K)
   exact AW.ret (Ai [A6 [],.bool false,.int .i64 2] rfl ⟨.nilsl 4,.same _,.same _,trivial⟩ ⟨by rw[hS];rfl,rfl⟩)
  |some P =>
   rw[hP]at hpi hS;simp only at hpi;simp only[Option.bind_some]at hS;have hPl:=Qgu hP;have hPl2:((Cs P).map A6).length≤3:=by simpa[Cs]using hPl.2
   have hPl1:1≤((Cs P).map A6).length:=by simpa[Cs]using hPl.1
   have hone:∀x∈(Cs P).map A6,x.cells.length=1∧∀y∈x.cells,y.one=true:=fun x hx=>by
    obtain⟨y,_,rfl⟩:=List.mem_map.1 hx;exact⟨rfl,by simp[A6,AV.cells,AV.one]⟩
   have hfi:=Qaz (Cs (M++P)) (Wo _);rw[←hS]at hfi;have happ:A8 (Cs (M++P))=.sl 1 ((Cs M).map A6++(Cs P).map A6):=by unfold A8 Cs;rw[List.map_append,List.map_append]
   rw[happ]at hfi;obtain⟨r1,r2,r3,hr⟩:=Qiq N es (q.map Be);rw[hr]at hfi ⊢;unfold A8 at hpi;generalize(Cs M).map A6=LM at *;generalize(Cs P).map A6=LP at *;(repeat refine AW.seq_k fun K hK=>?_);refine AW.rg ?_;simp;try (refine hK _ rfl ?_;clear hK K)
   refine Ac.val hpi ?_;simp;try (refine hK _ rfl ?_;clear hK K)
   (repeat refine AW.seq_k fun K hK=>?_);refine AW.rg ?_;simp;try (refine hK _ rfl ?_;clear hK K)
   refine AW.no ?_ rfl;refine AW.skip ?_;try simp
   try (refine hK _ rfl ?_;clear hK K)
   (repeat refine AW.seq_k fun K hK=>?_);refine AW.rg ?_;simp[hone];try (refine hK _ rfl ?_;clear hK K)
   (repeat refine⟨by first | omega | exact hone | (unfold maxLen;omega),?_⟩);refine Ag.intro fun b' hb'=>?_;refine Ac.whole (fun _ h=>h) (Aj.view (args':=[.sl 1 (LM++LP)]) ⟨rfl,fun j u u' h1 h2=>?_⟩ hfi) ?_
   ·match j with
    |0=>cases h1;cases h2;exact D3 (Aa.set_same _ _ _) rfl (by simp[hMl])
    |k+1=>cases h1
   rintro _ _ ⟨rfl,rfl⟩;simp;try (refine hK _ rfl ?_;clear hK K)
   exact AW.ret (Ai [r1,r2,r3] rfl ⟨.same _,.same _,.same _,trivial⟩ ⟨rfl,rfl⟩)
end Go.Av
end
section
namespace Go.Av
open Go.Proofs Go.Lam
def eI (l:List Nat) (k:Nat):List RE:=(List.range k).map fun j=>⟨(l.getD (2*j) 0:Nat),(l.getD (2*j+1) 0:Nat),Be 1⟩
def Q5 (l:List Nat):List RE:=eI l (l.length / 2)
theorem Qkt (l:List Nat) (k:Nat):eI l (k+1)=eI l k++[⟨(l.getD (2*k) 0:Nat),(l.getD (2*k+1) 0:Nat),Be 1⟩]:=by
 unfold eI;rw[List.range_succ,List.map_append];rfl
theorem S0 (l:List Nat) (hl:l.length≤100):Aj Tryz.prog 47 [.sl 1 (An l)] Aa.emp fun v m=>v=A1 (Q5 l)∧m=Aa.emp:=by
 have hw:=H4 1 (by omega) (by omega);rw[Ir]at hw;unfold RR.av at hw;refine Ad Tryz.func47 rfl rfl 27 rfl (Nat.le_of_ble_eq_true rfl) ?_;(repeat refine AW.seq_k fun K hK=>?_);refine AW.rg ?_;simp[Ak];try (refine hK _ rfl ?_;clear hK K)
 (repeat refine AW.seq_k fun K hK=>?_);refine AW.rg ?_;simp;try (refine hK _ rfl ?_;clear hK K)
 refine AW.seq_ex (ι:=P6) (fun z=>[(3,z.ov)]) (fun z=>z.M) (fun z=>Ga z.M 46 6 z.ov z.ob (Bw (Q5 l))) ?_ ?_
 ·(repeat refine AW.seq_k fun K hK=>?_);refine AW.rg ?_;simp;try (refine hK _ rfl ?_;clear hK K)
  refine AW.block (AW.loopS (ι:=Nat × P6) (fun z=>[(0,.sl 1 (An l)),(3,z.2.ov),(4,.int .i64 ((2*z.1:Nat):Int))]) (fun z=>z.2.M) (fun z=>2*z.1≤l.length∧Ga z.2.M 46 6 z.2.ov z.2.ob (Bw (eI l z.1))) (fun z=>l.length-z.1) (0,⟨Aa.emp,.nil,[]⟩) ⟨by simp,Ga.start _ _⟩ rfl (by simp) ?_);rintro⟨i,M,ov,ob⟩ ⟨g1,g2⟩;simp only at g1 g2;simp only;have w1:=Aq (2*i+1) (by omega);have w2:=Aq (2*i+2) (by omega);(repeat refine AW.seq_k fun K hK=>?_);refine AW.rg ?_;simp[-Int.natCast_add,-Int.natCast_mul,w1];try (refine hK _ rfl ?_;clear hK K)
  (repeat refine AW.seq ?_);refine AW.cs (fun hi=>?_) (fun hi=>?_) rfl<;>(try simp at hi)
  ·refine AW.skip ?_;try simp[-Int.natCast_add,-Int.natCast_mul]
   try (refine hK _ rfl ?_;clear hK K)
   have h0:2*i<l.length:=by omega
   have e0:l.getD (2*i) 0=l[2*i]:=by rw[List.getD_eq_getElem?_getD,List.getElem?_eq_getElem h0];rfl
   have e1:l.getD (2*i+1) 0=l[2*i+1]:=by rw[List.getD_eq_getElem?_getD,List.getElem?_eq_getElem hi];rfl
   have hst:Bw (eI l (i+1))=Bw (eI l i)++[.agg [.int .i64 (l[2*i]:Nat),.int .i64 (l[2*i+1]:Nat),.bool (Be 1).n1,Am (Be 1).l1,.bool (Be 1).n2,Am (Be 1).l2]]:=by
    rw[Qkt,e0,e1];unfold Bw;rw[List.map_append];rfl
   have hfin:∀s:P6,Ga s.M 46 6 s.ov s.ob (Bw (eI l i)++[.agg [.int .i64 (l[2*i]:Nat),.int .i64 (l[2*i+1]:Nat),.bool (Be 1).n1,Am (Be 1).l1,.bool (Be 1).n2,Am (Be 1).l2]])→Ga s.M 46 6 s.ov s.ob (Bw (eI l (i+1))):=fun s h=>by rw[hst];exact h
   have hll:(Bw (eI l i)).length≤100:=by simp[eI];omega
   generalize Bw (eI l i)=LL at *;(repeat refine AW.seq ?_);refine AW.block ?_;rcases g2.lst with⟨z1,z2,z3⟩ | ⟨b0,z2,z3,z4⟩
   ·subst z1 z2 z3;refine AW.rdR [24] [0,1,2,3,4,5,6,7,8,9,10,11,12,13,14] Ds ?_;simp[-Int.natCast_add,-Int.natCast_mul,h0,hi,w1];refine Ac.val hw ?_;simp[-Int.natCast_add,-Int.natCast_mul];refine⟨by unfold maxLen;omega,Ag.intro fun b hb=>?_⟩;(repeat refine AW.seq_k fun K hK=>?_);refine AW.rg ?_;simp[-Int.natCast_add,-Int.natCast_mul,w2];try (refine hK _ rfl ?_;clear hK K)
    exact⟨i+1,⟨_,_,[b]⟩,⟨by omega,hfin _ (g2.push0 b _)⟩,by omega,rfl,rfl,rfl⟩
   ·subst z2 z3;refine AW.rdR [24] [0,1,2,3,4,5,6,7,8,9,10,11,12,13,14] Ds ?_;simp[-Int.natCast_add,-Int.natCast_mul,h0,hi,w1,z4];refine Ac.val hw ?_;simp[-Int.natCast_add,-Int.natCast_mul,z4];refine⟨by omega,by unfold maxLen;omega,Ag.intro fun b hb=>?_⟩;(repeat refine AW.seq_k fun K hK=>?_);refine AW.rg ?_;simp[-Int.natCast_add,-Int.natCast_mul,w2];try (refine hK _ rfl ?_;clear hK K)
    exact⟨i+1,⟨_,_,[b]⟩,⟨by omega,hfin _ (g2.push1 b _)⟩,by omega,rfl,rfl,rfl⟩
  ·refine AW.exit ?_;try simp[-Int.natCast_add,-Int.natCast_mul]
   have:i=l.length / 2:=by omega
   exact⟨⟨M,ov,ob⟩,by unfold Q5;rw[←this];exact g2,by simp⟩
 rintro⟨M,ov,ob⟩ g1;(repeat refine AW.seq_k fun K hK=>?_);refine AW.rg ?_;simp;try (refine hK _ rfl ?_;clear hK K)
 have hv:=g1.lst.view (M':=Aa.emp) (fun _ _=>rfl);exact AW.ret (Ai [A1 (Q5 l)] rfl ⟨hv,trivial⟩ ⟨rfl,rfl⟩)
end Go.Av
end
section
namespace Go.Av
open Go.Proofs Go.Lam
def l4:List Nat:=[0,1,1,2,2,3,3,0]
def l6:List Nat:=[0,1,1,2,2,3,3,0,0,2,1,3]
def exP:List Rat:=[0,0,1,0,1,1,0,1]
def exM:List (List Rat):=((Wy 4 (Ae (Q5 l4)) exP 4).bind fun M=>(Sf 4 exP).bind fun P=>some (M++P)).getD []
def exZ:List (List Rat) × List Nat:=(Gd exM).getD ([],[])
theorem Wv:Cg 4 (Q5 l4)=true:=by decide +kernel
theorem Qky:B3 4 (Q5 l4)=[0,1,2,3]:=by decide +kernel
theorem Qka:Rh 4 (Q5 l4)=.int .i64 1:=by unfold Rh;rw[if_pos Wv,Qky];rfl
theorem Zh:B6 4 (Q5 l4)=.int .i64 0:=by unfold B6;rw[if_pos Wv]
theorem Qll:(Sa 4 (Q5 l4)).length=4:=by decide +kernel
theorem Qkf:∃l,Ip 4 (Q5 l6) 5=.tup [.sl 1 (An l),.int .i64 0]∧l.length=6:=by
 have h:Hl 4 (Q5 l6) 5=0:=by decide +kernel
 refine⟨_,by unfold Ip;rw[h],?_⟩;decide +kernel
theorem Qxd:((Wy 4 (Ae (Q5 l4)) exP 4).bind fun M=>(Sf 4 exP).bind fun P=>some (M++P))=some exM:=by decide +kernel
theorem Qgw:De 7 8 exM:=⟨by unfold D4 B4;decide +kernel,by unfold Jz;decide +kernel,by decide +kernel⟩
theorem Qqd:Gd exM=some exZ:=by decide +kernel
theorem Qpl:∃v V,Lm exZ.1 exZ.2 8 8=v::V∧v.length=8∧Dy v 4=1:=by
 have h:(match Lm exZ.1 exZ.2 8 8 with | v::_=>decide (v.length=8∧Dy v 4=1) | []=>false)=true:=by decide +kernel
 cases hk:Lm exZ.1 exZ.2 8 8 with
 |nil=>rw[hk]at h;cases h
 |cons v V=>rw[hk]at h;simp only[decide_eq_true_eq]at h;exact⟨v,V,rfl,h.1,h.2⟩
theorem Qqj:(exP.map Be).all RR.ok=true:=by decide +kernel
theorem Qq5:∃v:List Rat,Y6 4 (Q5 l4) (exP.map Be)=.tup [A6 (v.map Be),.bool true,.int .i64 0]∧v.length=8∧Dy v 4=1:=by
 obtain⟨v,V,h1,h2,h3⟩:=Qpl;refine⟨v,?_,h2,h3⟩;have hp:Iy 4 (Q5 l4) (exP.map Be)=true:=by unfold Iy;rw[Wv,Qqj];rfl
 have hq:(exP.map Be).map RR.q=exP:=by
  rw[List.map_map]
  conv=>rhs;rw[←List.map_id exP]
  exact List.map_congr_left fun q _=>Gt q
 rw[Qdr hp,hq];have e4:(Q5 l4).length=4:=by decide +kernel
 have hc:=Qiv Qgw (by decide +kernel) (by omega) (by omega);have hw:(Al (Cs exM) 0).length=8:=by rw[Ch,List.length_map];decide +kernel
 have hr:H9 (Cs exM)=(0,exZ.1,exZ.2):=by
  unfold H9;rw[if_neg (by simp[hc]),Qj7,Qqd]
 have hR:Wt (Cs exM)=(0,v::V):=by
  unfold Wt;rw[hr,if_neg (by simp),hw,h1]
 rw[e4,show(4:Int).toNat=4 from rfl,Qxd];simp only;unfold L5;rw[hR];rfl
theorem Ac.eat {P:Program} {av:Nat→Prop} {f:FuncId} {args:List AV} {M:Aa} {k:AV→Aa→Prop} {v:AV} {args':List AV} (h:Aj P f args' Aa.emp fun v' m'=>v'=v∧m'=Aa.emp) (hv:Dx M Aa.emp args args') (hk:k v Aa.emp) (hav:∀b,¬av b:=by exact fun _ h=>h):Ac P av f args M k :=
 Ac.whole hav (Aj.view (Cy hv) h) (by rintro _ _ ⟨rfl,rfl⟩;exact hk)
theorem Wm:Aj Tryz.prog 17 [] Aa.emp fun v m=>v=.bool true∧m=Aa.emp:=by
 have hlb:∀l,Qx (Q5 l):=fun l x hx=>by
  unfold Q5 eI at hx;obtain⟨j,_,rfl⟩:=List.mem_map.1 hx;exact F2 _
 have hln:True:=trivial;have he4:=S0 l4 (by decide);have he6:=S0 l6 (by decide);have hfr:=Tw 4 (Q5 l4) (hlb _);have hcl:=Qa0 4 (Q5 l4) (hlb _) (fun _=>by omega);have hmo:=Vy 4 (Q5 l4) (exP.map Be) (hlb _) (fun x hx=>by obtain⟨q,_,rfl⟩:=List.mem_map.1 hx;exact F2 _) (by decide);have hci:=S4 4 (Q5 l6) 5 (hlb _);obtain⟨cl,c1,c2⟩:=Qkf;obtain⟨v,m1,m2,m3⟩:=Qq5;have hcn:=Qll;have hv4:B4 (Dy v 4):=by rw[m3];exact Qg1
 have hs:=Qaj (a:=Dy v 4) (b:=1) hv4;rw[decide_eq_true m3]at hs;rw[Qka,Zh]at hfr;rw[Zh]at hcl;rw[m1]at hmo;rw[c1]at hci;have hw0:=H4 0 (by omega) (by omega);have hw1:=H4 1 (by omega) (by omega);rw[It]at hw0;rw[Ir]at hw1;have hrow:A6 (exP.map Be)=.sl 4 [(Be 0).av,(Be 0).av,(Be 1).av,(Be 0).av,(Be 1).av,(Be 1).av,(Be 0).av,(Be 1).av]:=rfl;rw[hrow]at hmo;have hi4:AV.sl 1 (An l4)=.sl 1 [.int .i64 0,.int .i64 1,.int .i64 1,.int .i64 2,.int .i64 2,.int .i64 3,.int .i64 3,.int .i64 0]:=rfl
 have hi6:AV.sl 1 (An l6)=.sl 1 [.int .i64 0,.int .i64 1,.int .i64 1,.int .i64 2,.int .i64 2,.int .i64 3,.int .i64 3,.int .i64 0,.int .i64 0,.int .i64 2,.int .i64 1,.int .i64 3]:=rfl;rw[hi4]at he4;rw[hi6]at he6;generalize Q5 l4=E4 at *;generalize Q5 l6=E6 at *;generalize Sa 4 E4=CS at *;generalize(Be 0)=Q0 at *;generalize hQ1:(Be 1)=Q1 at *;refine Ad Tryz.func17 rfl rfl 89 rfl (Nat.le_of_ble_eq_true rfl) ?_;(repeat refine AW.seq_k fun K hK=>?_);refine AW.rg ?_;simp[Ak];try (refine hK _ rfl ?_;clear hK K)
 (repeat refine AW.seq_k fun K hK=>?_);refine AW.rg ?_;simp;try (refine hK _ rfl ?_;clear hK K)
 refine Ag.intro fun b1 hb1=>?_;refine Ac.eat he4 ⟨D3 (Aa.set_same _ _ _) rfl rfl,trivial⟩ ?_;simp;try (refine hK _ rfl ?_;clear hK K)
 unfold A1 at *;(repeat refine AW.seq_k fun K hK=>?_);refine AW.rg ?_;simp;try (refine hK _ rfl ?_;clear hK K)
 refine Ac.val hfr ?_;simp;try (refine hK _ rfl ?_;clear hK K)
 (repeat refine AW.seq_k fun K hK=>?_);refine AW.rg ?_;simp;try (refine hK _ rfl ?_;clear hK K)
 refine Ac.val hcl ?_;simp;try (refine hK _ rfl ?_;clear hK K)
 (repeat refine AW.seq_k fun K hK=>?_);refine AW.rg ?_;simp;try (refine hK _ rfl ?_;clear hK K)
 refine Ac.val hw0 ?_;simp;refine Ac.val hw0 ?_;simp;refine Ac.val hw1 ?_;simp;refine Ac.val hw0 ?_;simp;refine Ac.val hw1 ?_;simp;refine Ac.val hw1 ?_;simp;refine Ac.val hw0 ?_;simp;refine Ac.val hw1 ?_;simp;refine Ag.intro fun b2 hb2=>?_;try (refine hK _ rfl ?_;clear hK K)
 (repeat refine AW.seq_k fun K hK=>?_);refine AW.rg ?_;simp;try (refine hK _ rfl ?_;clear hK K)
 refine Ac.eat hmo ⟨.same _,.same _,D3 (Aa.set_same _ _ _) rfl rfl,trivial⟩ ?_;simp;try (refine hK _ rfl ?_;clear hK K)
 (repeat refine AW.seq_k fun K hK=>?_);refine AW.rg ?_;simp;try (refine hK _ rfl ?_;clear hK K)
 refine Ag.intro fun b3 hb3=>?_;refine Ac.eat he6 ⟨D3 (Aa.set_same _ _ _) rfl rfl,trivial⟩ ?_;simp;refine Ac.val hci ?_;simp;try (refine hK _ rfl ?_;clear hK K)
 have hcl4:(Fx CS).length=4:=by unfold Fx;simpa using hcn
 have hr4:rr (v.map Be) 4=Be (Dy v 4):=by rw[Lx (by simp[m2])];unfold Dy;simp[m2]
 generalize Be (Dy v 4)=q4 at *;unfold RR.av at hs hw1;unfold A6;(repeat refine AW.seq_k fun K hK=>?_);refine AW.rd [0,1,2,3,4,5,6,7,8,9,10,11,12,13,14,15,16,17,18,19,20,21,22,23,24,25,26,27,28,29,30,31,32,33,34,35,36,37,38,39,40,41,42,43] Ds ?_;simp[hcl4,m2,c2,hr4];try (refine hK _ rfl ?_;clear hK K)
 refine Ac.val hw1 ?_;simp[hcl4,m2,c2,hr4];refine Ac.val hs ?_;simp[hcl4,m2,c2,hr4];try (refine hK _ rfl ?_;clear hK K)
 exact AW.ret (Af rfl _ (.same _) ⟨rfl,rfl⟩)
end Go.Av
end
section
namespace Go.Av
open Go.Proofs Go.Lam
theorem Ob {n:Int} {es:List RE} (hk:Cg n es=true):(∀e∈(B3 n es).map (Ae es),Cm n.toNat e)∧A0 n.toNat ((B3 n es).map (Ae es)):=by
 have hok:=G1 hk;have eA:B3 n es=A9 n.toNat (Ae es) [] (List.range es.length):=by unfold B3;rw[if_pos hk]
 refine⟨fun e he=>?_,?_⟩
 ·obtain⟨k,h1,rfl⟩:=List.mem_map.1 he;exact(hok k (Kz h1)).2.2
 ·rw[eA];exact Co (by simp) (hok.at fun k hk=>by simpa using hk) (A0.nil _)
end Go.Av
end
section
namespace Go.Av
open Go.Proofs Go.Lam
theorem Vo (a:Int):∃r:Nat,r<65536∧Gn .and .i64 a 65535=(r:Int):=by
 have h:(BitVec.ofInt 64 a &&& BitVec.ofInt 64 65535).toNat<65536:=by
  rw[BitVec.toNat_and];have:=Nat.and_le_right (n:=(BitVec.ofInt 64 a).toNat) (m:=(BitVec.ofInt 64 65535).toNat);have e:(BitVec.ofInt 64 65535).toNat=65535:=by decide
  omega
 refine⟨(BitVec.ofInt 64 a &&& BitVec.ofInt 64 65535).toNat,h,?_⟩;show IntKind.i64.wrap (((BitVec.ofInt 64 a &&& BitVec.ofInt 64 65535).toNat:Nat):Int)=_
 exact wi (by omega)
theorem Qx.snoc {o:List RE} (h:Qx o) {x:RE} (hx:x.sq.Lb):Qx (o++[x]):=fun y hy=>by
 rcases List.mem_append.1 hy with h1|h1
 ·exact h y h1
 ·simp at h1;subst h1;exact hx
theorem Qgx {N:Nat} (h2:2≤N) (h8:N≤8):Cg (N:Nat) []=true:=by
 unfold Cg;simp;omega
theorem se0 (a b c d e f v:AV) (hv:v.cells=[v]):Bu 6 1 (.agg [a,b,c,d,e,f]) v 0=.agg [v,b,c,d,e,f]:=by simp only[Bu,hv];rfl
theorem se1 (a b c d e f v:AV) (hv:v.cells=[v]):Bu 6 1 (.agg [a,b,c,d,e,f]) v 1=.agg [a,v,c,d,e,f]:=by simp only[Bu,hv];rfl
theorem se2 (a b c d e f p q r s:AV):Bu 6 4 (.agg [a,b,c,d,e,f]) (.agg [p,q,r,s]) 2=.agg [a,b,p,q,r,s]:=by simp[Bu,AV.cells]
def Qra (N:Nat) (v:AV):Prop:=∃es,v=A1 es∧Cg (N:Nat) es=true∧Qx es∧es.length≤24
theorem Qch (N:Nat) (l:List RE) (h2:2≤N) (h8:N≤8) (hl:l.length<2^63):Aj Tryz.prog 25 [.int .i64 (N:Nat),A1 l] Aa.emp fun v m=>Qra N v∧m=Aa.emp:=by
 have hw:=H4 1 (by omega) (by omega);rw[Ir]at hw;unfold RR.av at hw;have hN0:¬N=0:=by omega
 refine Ad Tryz.func25 rfl rfl 50 rfl (Nat.le_of_ble_eq_true rfl) ?_;unfold A1;(repeat refine AW.seq_k fun K hK=>?_);refine AW.rg ?_;simp[Ak];try (refine hK _ rfl ?_;clear hK K)
 (repeat refine AW.seq_k fun K hK=>?_);refine AW.rg ?_;simp;try (refine hK _ rfl ?_;clear hK K)
 refine AW.turn [(0,.int .i64 (N:Nat)),(1,.sl 6 (Bw l)),(5,.sl 6 (Bw []))] Aa.emp (Bj.refl _ (by intro b x hx;cases hx)) (by simp;exact .nilsl 6) ?_;refine AW.seq_ex (ι:=List RE) (fun o=>[(5,.sl 6 (Bw o))]) (fun _=>Aa.emp) (fun o=>Cg (N:Nat) o=true∧Qx o∧o.length≤24) ?_ ?_
 ·(repeat refine AW.seq_k fun K hK=>?_);refine AW.rg ?_;simp;try (refine hK _ rfl ?_;clear hK K)
  refine AW.block (AW.loopS (ι:=List RE × Nat) (fun z=>[(0,.int .i64 (N:Nat)),(1,.sl 6 (Bw l)),(5,.sl 6 (Bw z.1)),(6,.int .i64 (z.2:Nat))]) (fun _=>Aa.emp) (fun z=>z.2≤l.length∧Cg (N:Nat) z.1=true∧Qx z.1∧z.1.length≤24) (fun z=>l.length-z.2) ([],0) ⟨by simp,Qgx h2 h8,fun x hx=>(by cases hx),by simp⟩ rfl (by simp) ?_);rintro⟨o,i⟩ ⟨g1,g2,g3,g4⟩;simp only at g1 g2 g3 g4;simp only;by_cases hi:i<l.length
  ·by_cases ho:o.length<24
   ·have ho':(o.length:Int)<24:=by omega
    (repeat refine AW.seq_k fun K hK=>?_);refine AW.rg ?_;simp[hi,ho'];try (refine hK _ rfl ?_;clear hK K)
    refine AW.yes ?_ rfl;refine AW.skip ?_;try simp
    try (refine hK _ rfl ?_;clear hK K)
    have w1:=Aq (i+1) (by omega);obtain⟨ra,ra1,ra2⟩:=Vo (Ck l i).a;obtain⟨rb,rb1,rb2⟩:=Vo (Ck l i).b;(repeat refine AW.seq ?_);refine AW.block ?_;(repeat refine AW.seq_k fun K hK=>?_);refine AW.rg ?_;simp[hi,Bs];try (refine hK _ rfl ?_;clear hK K)
    refine Ag.intro fun b7 hb7=>?_;try (refine hK _ rfl ?_;clear hK K)
    (repeat refine AW.seq_k fun K hK=>?_);refine AW.rg ?_;simp[-Int.natCast_emod,Bs,ra2,hN0,se0];try (refine hK _ rfl ?_;clear hK K)
    try (refine hK _ rfl ?_;clear hK K)
    (repeat refine AW.seq_k fun K hK=>?_);refine AW.rg ?_;simp[-Int.natCast_emod,Bs,rb2,hN0,se1];try (refine hK _ rfl ?_;clear hK K)
    try (refine hK _ rfl ?_;clear hK K)
    (repeat refine AW.seq_k fun K hK=>?_);refine AW.rg ?_;simp[-Int.natCast_emod];try (refine hK _ rfl ?_;clear hK K)
    refine Ac.val hw ?_;simp[-Int.natCast_emod,se2];try (refine hK _ rfl ?_;clear hK K)
    refine AW.toEmp [(0,.int .i64 (N:Nat)),(1,.sl 6 (Bw l)),(5,.sl 6 (Bw o)),(6,.int .i64 (i:Nat)),(7,.rptr [.int .i64 ((ra % N:Nat):Int),.int .i64 ((rb % N:Nat):Int),.bool (Be 1).n1,Am (Be 1).l1,.bool (Be 1).n2,Am (Be 1).l2])] (by simp[-Int.natCast_emod];exact .ptr b7 6 0 0 _ (.agg _) (Aa.set_same _ _ _) rfl rfl rfl) ?_;refine AW.seq_k fun K hK=>?_;refine AW.rdV [42] [1,3,4,0,2,5,6] Ds ?_;simp[-Int.natCast_emod];have ee:∀x∈Bw o,x.cells.length=6∧∀y∈x.cells,y.one=true:=fun x hx=>by
     obtain⟨e,_,rfl⟩:=List.mem_map.1 hx;exact⟨e.av_len,List.all_eq_true.1 e.av_ones⟩
    refine Ag.intro fun b _=>⟨ee,by omega,by unfold maxLen;omega,Ag.intro fun b' _=>⟨by omega,by unfold maxLen;omega,Ag.intro fun b'' hb''=>?_⟩⟩;refine hK _ rfl ?_;clear hK K;obtain⟨X,hX⟩:∃X:RE,X=⟨(ra % N:Nat),(rb % N:Nat),Be 1⟩:=⟨_,rfl⟩;have hXa:X.av=.agg [.int .i64 ((ra % N:Nat):Int),.int .i64 ((rb % N:Nat):Int),.bool (Be 1).n1,Am (Be 1).l1,.bool (Be 1).n2,Am (Be 1).l2]:=by rw[hX];rfl
    have hsn:Bw o++[X.av]=Bw (o++[X]):=by simp[Bw]
    rw[←hXa];refine AW.toEmp [(0,.int .i64 (N:Nat)),(1,.sl 6 (Bw l)),(5,.sl 6 (Bw o)),(6,.int .i64 (i:Nat)),(8,.sl 6 (Bw (o++[X])))] (by simp[-Int.natCast_emod];rw[←hsn];exact D3 (Aa.set_same _ _ _) rfl (by simp)) ?_;have hl':Qx (o++[X]):=g3.snoc (by rw[hX];exact F2 _);have hck:=Qb1 (N:Nat) (o++[X]) hl';unfold A1 B6 at hck;cases hc:Cg (N:Nat) (o++[X])with
    |true =>
     rw[hc]at hck;(repeat refine AW.seq_k fun K hK=>?_);refine AW.rg ?_;simp;try (refine hK _ rfl ?_;clear hK K)
     refine Ac.val hck ?_;simp;try (refine hK _ rfl ?_;clear hK K)
     refine AW.yes ?_ rfl;(repeat refine AW.seq_k fun K hK=>?_);refine AW.rg ?_;simp;try (refine hK _ rfl ?_;clear hK K)
     (repeat refine AW.seq_k fun K hK=>?_);refine AW.rg ?_;simp[-Int.natCast_add,w1];try (refine hK _ rfl ?_;clear hK K)
     exact⟨o++[X],i+1,⟨by omega,hc,hl',by simp;omega⟩,by omega,rfl,rfl⟩
    |false =>
     rw[hc]at hck;(repeat refine AW.seq_k fun K hK=>?_);refine AW.rg ?_;simp;try (refine hK _ rfl ?_;clear hK K)
     refine Ac.val hck ?_;simp;try (refine hK _ rfl ?_;clear hK K)
     refine AW.no ?_ rfl;refine AW.skip ?_;try simp
     try (refine hK _ rfl ?_;clear hK K)
     (repeat refine AW.seq_k fun K hK=>?_);refine AW.rg ?_;simp[-Int.natCast_add,w1];try (refine hK _ rfl ?_;clear hK K)
     exact⟨o,i+1,⟨by omega,g2,g3,g4⟩,by omega,rfl,rfl⟩
   ·have ho':¬(o.length:Int)<24:=by omega
    (repeat refine AW.seq_k fun K hK=>?_);refine AW.rg ?_;simp[hi,ho'];try (refine hK _ rfl ?_;clear hK K)
    refine AW.no ?_ rfl;refine AW.exit ?_;try simp
    exact⟨o,⟨g2,g3,g4⟩,rfl⟩
  ·(repeat refine AW.seq_k fun K hK=>?_);refine AW.rg ?_;simp[hi];try (refine hK _ rfl ?_;clear hK K)
   refine AW.no ?_ rfl;refine AW.exit ?_;try simp
   exact⟨o,⟨g2,g3,g4⟩,rfl⟩
 ·rintro o ⟨g2,g3,g4⟩;(repeat refine AW.seq_k fun K hK=>?_);refine AW.rg ?_;simp;try (refine hK _ rfl ?_;clear hK K)
  exact AW.ret (Ai [A1 o] rfl ⟨.same _,trivial⟩ ⟨⟨o,rfl,g2,g3,g4⟩,rfl⟩)
end Go.Av
end
section
namespace Go.Av
open Go.Proofs Go.Lam
def okB (n:Int) (x:RE):Prop:=0≤x.a∧x.a<n∧0≤x.b∧x.b<n∧x.a≠x.b∧x.sq.ok=true∧0<Db x.sq
def Qf1 (y x:RE):Prop:=Bn x y=false
theorem Qfo {x y:RE} (h:Qf1 x y):Qf1 y x:=by
 unfold Qf1 Bn at *;simp only[Bool.or_eq_false_iff,Bool.and_eq_false_iff,beq_eq_false_iff_ne]at *;omega
theorem Qdq {n:Int} {es:List RE}:Cg n es=true↔(1≤n∧n≤12∧es.length≤40)∧(∀x∈es,okB n x)∧es.Pairwise Qf1:=by
 constructor
 ·intro h;obtain⟨h1,h2⟩:=Dk h;refine⟨h1,fun x hx=>?_,List.pairwise_iff_getElem.2 fun i j hi hj hij=>?_⟩
  ·obtain⟨i,hi,rfl⟩:=List.getElem_of_mem hx;obtain⟨q1,q2,q3,q4,q5,q6,q7,_⟩:=N9 (h2 i hi);rw[Ey hi]at *;exact⟨q1,q2,q3,q4,q5,q6,q7⟩
  ·obtain⟨_,_,_,_,_,_,_,q8⟩:=N9 (h2 j hj);rw[Ey hj]at q8;have:=List.any_eq_false.1 q8 es[i] (List.mem_take_iff_getElem.2 ⟨i,by omega,rfl⟩);simpa[Qf1]using this
 ·rintro⟨⟨h1,h2,h3⟩,h4,h5⟩;unfold Cg;have:(List.range es.length).all (Nq n es)=true:=List.all_eq_true.2 fun i hi=>by
   have hi:=List.mem_range.1 hi;unfold Nq;obtain⟨q1,q2,q3,q4,q5,q6,q7⟩:=h4 _ (List.getElem_mem hi);refine Sk ?_;rw[Ey hi];refine⟨q1,q2,q3,q4,q5,q6,q7,List.any_eq_false.2 fun y hy=>?_⟩;obtain⟨j,hj,rfl⟩:=List.mem_take_iff_getElem.1 hy;have:=List.pairwise_iff_getElem.1 h5 j i (by omega) hi (by omega);simpa[Qf1]using this
  rw[this];simp[h1,h2,h3]
theorem Xn {n:Int} {es:List RE} (h:Cg n es=true) {s:List Nat} (hs:∀i∈s,i<es.length) (hn:s.Nodup) (hl:s.length≤40):Cg n (s.map (Ck es))=true:=by
 obtain⟨⟨h1,h2,_⟩,h4,h5⟩:=Qdq.1 h;refine Qdq.2 ⟨⟨h1,h2,by simpa using hl⟩,fun x hx=>?_,?_⟩
 ·obtain⟨i,hi,rfl⟩:=List.mem_map.1 hx;rw[Ey (hs i hi)];exact h4 _ (List.getElem_mem _)
 ·rw[List.pairwise_map];refine List.Pairwise.imp_of_mem (fun {i j} hi hj hij=>?_) hn;have h6:=List.pairwise_iff_getElem.1 h5;rw[Ey (hs i hi),Ey (hs j hj)];rcases Nat.lt_or_ge i j with hlt | hge
  ·exact h6 i j (hs i hi) (hs j hj) hlt
  ·exact Qfo (h6 j i (hs j hj) (hs i hi) (by omega))
theorem Qc3 {es:List RE} (h:Qx es) {s:List Nat} (hs:∀i∈s,i<es.length):Qx (s.map (Ck es)):=fun x hx=>by
 obtain⟨i,hi,rfl⟩:=List.mem_map.1 hx;exact h.at (hs i hi)
theorem Qi0 {n:Nat} {E:Nat→Ed} {f:Nat→Nat} (out:List Nat) (e:Nat):Ft n E (out.map f) (f e)=(Ft n (E ∘ f) out e).map f:=by
 unfold Ft;rw[show(out.map f++[f e]).map E=(out++[e]).map (E ∘ f) by simp];split<;>simp
theorem Rt {n:Nat} {E:Nat→Ed} {f:Nat→Nat}:∀(t out:List Nat),A9 n E (out.map f) (t.map f)=(A9 n (E ∘ f) out t).map f
 |[],out=>rfl
 |e::t,out=>by rw[List.map_cons,Dt,Dt,Qi0,Rt t]
theorem S1 {n:Nat} {E E':Nat→Ed}:∀(t out:List Nat),(∀k∈out,E k=E' k)→(∀k∈t,E k=E' k)→A9 n E out t=A9 n E' out t
 |[],out,_,_=>rfl
 |e::t,out,h1,h2=>by
  have ho:(out++[e]).map E=(out++[e]).map E':=List.map_congr_left fun k hk=>by
   rcases List.mem_append.1 hk with h|h
   ·exact h1 k h
   ·simp at h;subst h;exact h2 _ (by simp)
  have ha:Ft n E out e=Ft n E' out e:=by unfold Ft;rw[ho]
  rw[Dt,Dt,ha];refine S1 t _ (fun k hk=>?_) (fun k hk=>h2 k (by simp[hk]));rcases Nk hk with h | h
  ·exact h1 k h
  ·rw[h];exact h2 e (by simp)
theorem X3 {n:Int} {es:List RE} {s:List Nat} (hc:Cg n (s.map (Ck es))=true) (hs:∀i∈s,i<es.length):(B3 n (s.map (Ck es))).map (fun k=>s.getD k 0)=A9 n.toNat (Ae es) [] s:=by
 unfold B3;rw[if_pos hc,List.length_map];have h1:(List.range s.length).map (fun k=>s.getD k 0)=s:=by
  apply List.ext_getElem
  ·simp
  ·intro i h1 h2;simp at h1;simp[h1]
 have h2:=Rt (n:=n.toNat) (E:=Ae es) (f:=fun k=>s.getD k 0) (List.range s.length) [];rw[h1]at h2;rw[List.map_nil]at h2;rw[h2]
 congr 1
 refine S1 _ _ (by simp) (fun k hk=>?_);have hk:=List.mem_range.1 hk;have e:Ck (s.map (Ck es)) k=Ck es (s.getD k 0):=by
  rw[Ey (by simpa using hk),List.getElem_map,List.getD_eq_getElem?_getD,List.getElem?_eq_getElem hk];rfl
 unfold Ae;simp only[Function.comp,e]
end Go.Av
end
