/- Own work. -/
import Derived.Test.YtigadclidanicaaGreatEvOdE
set_option linter.all false
noncomputable section
def Qla:=@List.length_append
def Qlb:=@Bool.and_self
def Qlc:=@List.mem_append
def Qld:=@List.mem_singleton
def Qle:=@Nat.lt_irrefl
def Qlf:=@List.length_set
def Qlg:=@List.mem_append_left
def Qlh:=@List.not_mem_nil
def Qli:=@List.mem_range
def Qlj:=@List.mem_cons
def Qlk:=@List.getD_eq_getElem?_getD
def Qll:=@Nat.zero_add
def Qlm:=@List.mem_or_eq_of_mem_set
def Qln:=@List.any_eq_true
def Qlo:=@Nat.le_refl
def Qlp:=@List.mem_append_right
def Qlq:=@Eq.trans
def Qlr:=@List.getElem_of_mem
def Qls:=@Bool.false_eq_true
def Qlt:=@Nat.beq_refl
def Qlu:=@Nat.zero_le
namespace Go.Ev.Ce
open Go Go.Ev Go.Ev.L Go.Proofs
def noA(n:Int):ROq:=some (.tup [.agg [.v (.slice none 0 0),.v (.slice none 0 0),.v (.slice none 0 0)],i n],[])
def Te8(cl C:LPq)(n0 n1:Nat)(t8:Nat×Q6):ROq :=
 let t9:=(i8 ⟨C,gL tLq cl t8.2.s7.toNat⟩)
 let t10:=(u9 [] t9.g7)
 let t11:=(u9 (lsL tLq t9.ns0 (λk=>g8 t9.eh1 (0+k))) t9.g7)
 sl (Nat.beq t8.1 1) (noA t10.2) (sl (Nat.beq t8.1 2) (noA t11.2) (sl (Nat.beq t8.1 3) (noA t10.2) (sl (Nat.beq t8.1 4) (noA t11.2) (sl (Nat.beq t8.1 5) (noA t10.2) (sl (Nat.beq t8.1 6) (noA t11.2)
  (sl (Nat.beq t8.1 7) (some ((.tup [(.agg [(.tree 1 n0 (λk=>g8 t8.2.eh2 (0+k))),(.tree 1 n1 (λk=>g8 t8.2.eh3 (0+k))),(eL tLq C)]),(i 0)]),[])) none))))))
def Pd9(z w cl C:LPq)(su to:List Bool):Pce×Int :=
 match (List.range cl.length).find? λj=>(suJ C cl su j).2 != 0 with
 |some j=>(Pc6,(suJ C cl su j).2)
 |none=>(⟨(List.range cl.length).map λk=>(suJ C cl su k).1,(List.range cl.length).map (toJ z w cl to),C⟩,0)
theorem Te9{n j:Nat}{f:Nat->Bool}(hj:j<n)(h1:∀k,k<j->f k=false)(h2:f j=true):(List.range n).find? f=some j:=by
 rw[List.find?_range_eq_some];exact⟨h2,Qli.2 hj,λk hk=>by rw[h1 k hk];rfl⟩
theorem Ue0{z w cl C:LPq}{su to:List Bool}(h:Apl z w cl C su to) :
  Rd (two r1O r1I) (Te8 cl C su.length to.length (lp (da2 ⟨z,w,cl,(cl.length:Int),su.length,to.length,C⟩) ⟨0,bL tB su,bL tB to⟩)) (λr=>r=Pd9 z w cl C su to):=by
 obtain⟨t,s,h1,h2⟩:=Te7 h;rw[h1]
 rcases h2 with⟨j,hj,hs,hk,he,hc,hm⟩|⟨rfl,hr⟩
 ·have hcl:=h.cc _ (X7 tLq hj);have hms:∀q∈ja2 C (gL tLq cl j),q.length<=1000000:=λq hq=>h.Cl q (List.mem_filter.1 hq).1
  have hml:(ja2 C (gL tLq cl j)).length<=1000000:=by have:=pd0 C (gL tLq cl j);have:=h.Cn;omega
  have ht:Pd9 z w cl C su to=(Pc6,(suJ C cl su j).2):=by
   unfold Pd9;rw[Te9 hj (λk hk'=>by rw[hk k hk'];rfl) (by simpa using he)]
  rw[ht,hc];unfold Te8;simp only[hs,Int.toNat_natCast]
  rcases cf6 C (gL tLq cl j) h.Cn h.Cl hcl with⟨m0,hq⟩|⟨m0,hq⟩
  ·rcases hm with⟨_,hm⟩|⟨hm,_⟩
   ·rw[hq,m0]
    simp only
    rw[ed5 (x:=[]) hcl (by simp) (by simp)]
    rcases hm with rfl|rfl|rfl<;>exact⟨_,_,rfl,fe5 _,rfl⟩
   ·exact absurd m0 hm
  ·rcases hm with⟨hm,_⟩|⟨_,hm⟩
   ·exact absurd hm m0
   ·rw[hq]
    simp only
    rw[Te4 tLq _ rfl,ed5 hcl hml hms]
    rcases hm with rfl|rfl|rfl<;>exact⟨_,_,rfl,fe5 _,rfl⟩
 ·have ht : Pd9 z w cl C su to = (⟨(List.range cl.length).map fun k => (suJ C cl su k).1, (List.range cl.length).map (toJ z w cl to), C⟩, 0) := by
   unfold Pd9;rw[List.find?_eq_none.2 λk hk=>by rw[hr.ok k (Qli.1 hk)];decide]
  have e2:=hr.e2;have e3:=hr.e3;rw[<- h.sn,Ie2] at e2;rw[<- h.tn,Ie2] at e3;rw[ht];unfold Te8
  simp only
  rw[e2,e3];refine⟨_,_,rfl,cf8 0 (.bL tB _ (by simp)) (.bL tB _ (by simp)) (.eL tLq C),?_⟩
  rw[h.sn,h.tn]
def oc8(x:Prt)(y:Pce)(z w:LPq):Pce×Int :=
 if (Tb9 x y != 0)=true then (Pc6,Tb9 x y) else if (fd1 (z++w) != 0)=true then (Pc6,fd1 (z++w)) else if (y.cu.length:Int)+(z.length:Int)>24 then (Pc6,2)
 else Pd9 z w x.cl (y.cu++z) y.su y.to
theorem Qd0{x:Prt}{y:Pce}(h:Tb9 x y=0):cc2 x=0/\y.su.length=x.cl.length/\y.to.length=x.cl.length/\y.cu.length<=24/\fd1 y.cu=0:=by
 unfold Tb9 at h;cases hc:(cc2 x != 0) with
 |true=>rw[hc] at h;simp only[if_true] at h;rw[h] at hc;cases hc
 |false =>
  rw[hc] at h;simp only[Qls,if_false] at h;cases hf:cf3 x y with
  |false=>rw[hf] at h;simp at h
  |true =>
   unfold cf3 at hf;simp only[Bool.and_eq_true,beq_iff_eq,decide_eq_true_eq] at hf;obtain⟨h1,h2,h3,h4⟩:=hf;exact⟨by simpa using hc,by omega,by omega,by omega,h4⟩
theorem fe7{x:Prt}(h:cc2 x=0):1<=x.cl.length/\x.cl.length<=16/\x.wt.length=x.cl.length/\x.wt.any Lc4=false/\(List.range x.cl.length).any (zd3 x.cl)=false:=by
 unfold cc2 at h
 split at h
 ·cases h
 ·rename_i h1
  split at h
  ·cases h
  ·rename_i h2
   split at h
   ·cases h
   ·rename_i h3
    split at h
    ·cases h
    ·rename_i h4
     split at h
     ·cases h
     ·rename_i h5;refine⟨by omega,by omega,?_,by simpa using h4,by simpa using h5⟩
      simp only[bne_iff_ne,ne_eq,Decidable.not_not] at h3;omega
theorem Ie3{x:Prt}{y:Pce}{z w:LPq}(hx:Jok x)(hy:Pok y)(hz:z.length<=100000)(hw:w.length<=100000)(hzl:∀q∈z,q.length<=1000000)(hwl:∀q∈w,q.length<=1000000)
  (hyn:∀q∈y.cu,q≠[]) (hzn:∀q∈z,q≠[]):Rd (two r1O r1I) (gb0 x y z w) (λr=>r=oc8 x y z w):=by
 have n11:Nat.beq 1 1=true:=rfl;have n21:Nat.beq 2 1=false:=rfl;have n22:Nat.beq 2 2=true:=rfl;have hj:Jok ⟨x.nm,x.cl,x.wt⟩:=⟨hx.cl,hx.wt,hx.pl⟩;have hp:Pok ⟨y.su,y.to,y.cu⟩:=⟨hy.su,hy.to,hy.cu,hy.cl⟩;have f1:=Pd3 hj hp;have f2:=Pd4 hj hp;unfold gb0 oc8;simp only[j8,w7,l8,Qlb,g9,f1,f2];rw[show Tb9 ⟨x.nm,x.cl,x.wt⟩ ⟨y.su,y.to,y.cu⟩=Tb9 x y from rfl]
 cases hf:(Tb9 x y != 0) with
 |true=>rw[g9,if_pos rfl];exact⟨_,_,rfl,fe5 _,rfl⟩
 |false =>
  rw[w6,if_neg (show ¬ false=true by decide)]
  have hf0:Tb9 x y=0:=by simpa using hf
  obtain⟨hx0,hs,ht,hcu,_⟩:=Qd0 hf0;obtain⟨hn1,hn16,_⟩:=fe7 hx0;have es:y.su≠[]:=λe=>by rw[e] at hs;simp at hs;omega
  have et:y.to≠[]:=λe=>by rw[e] at ht;simp at ht;omega
  have hzw:(z++w).length<=1000000:=by rw[Qla];omega
  have hzwl:∀q∈z++w,q.length<=1000000:=λq hq=>by rcases Qlc.1 hq with h | h;exact hzl q h;exact hwl q h
  have hyz:∀q∈y.cu++z,q.length<=1000000:=λq hq=>by rcases Qlc.1 hq with h | h;exact hy.cl q h;exact hzl q h
  have hyzn:∀q∈y.cu++z,q≠[]:=λq hq=>by rcases Qlc.1 hq with h | h;exact hyn q h;exact hzn q h
  have hW:W ((y.cu.length:Int)+(z.length:Int))=(y.cu.length:Int)+(z.length:Int):=La6 (by omega) (by omega)
  have c2:=He9 z w (by omega) (by omega)
  have c6:=He9 y.cu z hy.cu (by omega)
  have b4:=fe1 y.su es hy.su;have b5:=fe1 y.to et hy.to;have k0:ra3 []=0:=Vc0 (s:=[]) (by simp) (by simp)
  have k1:ra4 []=true:=Vc1 (s:=[]) (by simp) (by simp)
  have k2:=Vc0 hzw hzwl;have k3:=Vc1 hzw hzwl;have k4:pa4 []=[]:=fd8 (l:=[]) (by simp) (by simp) (by simp)
  have k5:ga9 []=true:=fd9 (l:=[]) (by simp) (by simp) (by simp)
  have hyzc:(y.cu++z).length<=1000000:=by rw[Qla];omega
  have k6:=fd8 hyzc hyz hyzn;have k7:=fd9 hyzc hyz hyzn;have A:Apl z w x.cl (y.cu++z) y.su y.to:=⟨by omega,by omega,hx.cl,hyzc,hzl,hwl,hx.pl,hyz,hs,ht⟩
  have T:=Ue0 A;have q0:((0:Int) != 0)=false:=rfl;rw[c2,c6,b4,b5];by_cases hzw0:z++w=[]
  ·rw[if_pos hzw0];have hz0:z=[]:=List.append_eq_nil_iff.1 hzw0 |>.1
   rw[hzw0];simp only[n11,g9,k0,k1,q0,w6,hW];rw[show (fd1 [] != 0)=false from rfl,if_neg (show ¬ false=true by decide)]
   by_cases h24:(y.cu.length:Int)+(z.length:Int)>24
   ·rw[btD h24,if_pos h24];exact⟨_,_,rfl,fe5 _,rfl⟩
   ·rw[bfD h24,if_neg h24];by_cases hc0:y.cu++z=[]
    ·rw[if_pos hc0];rw[hc0] at T;simp only[n11,g9,k4,k5];rw[hc0];exact T
    ·rw[if_neg hc0];simp only[n21,n22,n11,g9,w6,nf3 tLq (y.cu++z) rfl,Te4 tLq (y.cu++z) rfl,k6,k7];exact T
  ·rw[if_neg hzw0];simp only[n21,n22,n11,g9,w6,nf3 tLq (z++w) rfl,Te4 tLq (z++w) rfl,k2,k3,hW];cases hck:(fd1 (z++w) != 0) with
   |true=>rw[g9,if_pos rfl];exact⟨_,_,rfl,fe5 _,rfl⟩
   |false =>
    rw[w6,if_neg (show ¬ false=true by decide)]
    by_cases h24:(y.cu.length:Int)+(z.length:Int)>24
    ·rw[btD h24,if_pos h24];exact⟨_,_,rfl,fe5 _,rfl⟩
    ·rw[bfD h24,if_neg h24];by_cases hc0:y.cu++z=[]
     ·rw[if_pos hc0];rw[hc0] at T;simp only[n11,g9,k4,k5];rw[hc0];exact T
     ·rw[if_neg hc0];simp only[n21,n22,n11,g9,w6,nf3 tLq (y.cu++z) rfl,Te4 tLq (y.cu++z) rfl,k6,k7];exact T
theorem Cd5{x:Prt}{y:Pce}{z w:LPq}(hx:Jok x)(hy:Pok y)(hz:z.length<=100000)(hw:w.length<=100000)(hzl:∀q∈z,q.length<=1000000)(hwl:∀q∈w,q.length<=1000000)
  (hyn:∀q∈y.cu,q≠[]) (hzn:∀q∈z,q≠[]):Ra4 x y z w=oc8 x y z w:=(Ie3 hx hy hz hw hzl hwl hyn hzn).p
theorem Cd6{x:Prt}{y:Pce}{z w:LPq}(hx:Jok x)(hy:Pok y)(hz:z.length<=100000)(hw:w.length<=100000)(hzl:∀q∈z,q.length<=1000000)(hwl:∀q∈w,q.length<=1000000)
  (hyn:∀q∈y.cu,q≠[]) (hzn:∀q∈z,q≠[]):Ra5 x y z w=true:=(Ie3 hx hy hz hw hzl hwl hyn hzn).g
set_option maxRecDepth 100000
structure qb8 where
 is0:Int
 ea1:PLq
 (K2 N5:List Bool)
 K7:LPq
def zd6:List (Nat×Sum):=[]
theorem pd6:j9 prog G zd6:=trivial
structure qb9 where
 alt:Nat
 bs0:Bool
def Ia9{α:Type}(kk:qb9->α)(x:qb8):α:=(sl (inB x.is0 (List.length x.K2)) (kk ⟨1,!(gL tB x.K2 x.is0.toNat)⟩) (kk ⟨0,false⟩))
def Ya5(x:qb8):qb9:=Ia9 (λr=>r) x
def Gb8(x:qb8)(r:qb9):DT (d7×List d8):=(.ite (Nat.beq r.alt 1) (.ret (b r.bs0,[⟨0,3,[[eL tB x.K2,eL tB x.N5,eL tLq x.K7]],true,false,0⟩])) .fail)
theorem Qd1{α β:Type}(F:α->β)(kk:qb9->α)(x:qb8):F (Ia9 kk x)=Ia9 (λr=>F (kk r)) x:=by unfold Ia9;(repeat' apply k8 (f:=F))<;>rfl
def Dc9:Sum:=Sa0 ⟨[sIq,sLq tP,sPq 0],[⟨0,3,true,some [[.c 1 (nL tB),.c 1 (nL tB),.c 1 (nL tLq)]]⟩],λa H=>(⟨aIq a 0,aLq tP a 1,hLq tB H 0 0 0,hLq tB H 0 0 1,hLq tLq H 0 0 2⟩,())⟩ (λx=>Gb8 x (Ya5 x))
theorem zd7:j6 prog G 60 Dc9:=I1 (enc:=λx=>⟨[i x.is0,eL tP x.ea1,.ptr 0 0 0 0],[⟨0,3,[[eL tB x.K2,eL tB x.N5,eL tLq x.K7]],true,false,0⟩]⟩) (λa H=>by kernel_rfl) (bd b60 pd6) λx=>B6 (Qlq (b:=Ia9 (λr=>(Gb8 x r).run) x) (by kernel_rfl) (Qd1 (λr=>(Gb8 x r).run) (λr=>r) x).symm)
structure Fa4 where
 s9:LPq
 (K2 N5:List Bool)
 K7:LPq
def Cb6:List (Nat×Sum):=[(60,Dc9)]
theorem vc3:j9 prog G Cb6:=⟨zd7,trivial⟩
structure L4 where
 ma7:LPq
 is9:Int
structure u4 where
 ph:Nat
 L9:Int
 (K2 N5:List Bool)
 K7:LPq
 ns5:Nat
 eh1:List (List d7)
def lb1(p:L4)(s:u4):St:=⟨.unk::.fn 60 [.ptr 0 0 0 0]::ra 3 (.v (.slice none 0 0)::.unk::.unk::eL tLq p.ma7::i p.is9::i s.L9::ra 14 []),[⟨0,3,[[eL tB s.K2,eL tB s.N5,eL tLq s.K7]],true,false,0⟩]⟩
def lb2(p:L4)(s:u4):St:=⟨.unk::.fn 60 [.ptr 0 0 0 0]::ra 3 (.sl 1 0 s.ns5 0::.unk::.unk::eL tLq p.ma7::i p.is9::i s.L9::ra 14 []),[⟨0,3,[[eL tB s.K2,eL tB s.N5,eL tLq s.K7]],true,false,0⟩,⟨35,1,s.eh1,true,false,0⟩]⟩
def oc9(p:L4)(s:u4):St:=(sel (Nat.beq s.ph 1) (lb2 p s) (lb1 p s))
def N1{α:Type}(k:u4->α)(e:Nat->α)(z:α)(p:L4)(s:u4):α:=let y3:=(rt tB s.N5);let y2:=(rt tB s.K2);let y1:=(rt tLq s.K7);let y0:=(gL tLq p.ma7 s.L9.toNat);let t1:=(Ya5 ⟨s.L9,rt tP y0,y2,y3,y1⟩);(sl (decide (s.L9<p.is9)) (sl (inB s.L9 (List.length p.ma7)) (sl ((cnE tP y0)&&((cnE tB s.K2)&&((cnE tB s.N5)&&((cnE tLq s.K7)&&true)))) (sl (Nat.beq t1.alt 1) (sl t1.bs0 (k ⟨1,W (s.L9+1),y2,y3,y1,1,[[eL tP y0]]⟩) (k ⟨0,W (s.L9+1),y2,y3,y1,0,[]⟩)) z) z) z) (e 1))
def N2{α:Type}(k:u4->α)(e:Nat->α)(z:α)(p:L4)(s:u4):α:=let y3:=(rt tB s.N5);let y2:=(rt tB s.K2);let y1:=(rt tLq s.K7);let y0:=(gL tLq p.ma7 s.L9.toNat);let t1:=(Ya5 ⟨s.L9,rt tP y0,y2,y3,y1⟩);(sl (decide (s.L9<p.is9)) (sl (inB s.L9 (List.length p.ma7)) (sl ((cnE tP y0)&&((cnE tB s.K2)&&((cnE tB s.N5)&&((cnE tLq s.K7)&&true)))) (sl (Nat.beq t1.alt 1) (sl t1.bs0 (sl (Nat.beq s.ns5 (len s.eh1)&&Nat.ble ((s.ns5+1)*24) room) (k ⟨1,W (s.L9+1),y2,y3,y1,s.ns5+1,app s.eh1 [[eL tP y0]]⟩) z) (k ⟨1,W (s.L9+1),y2,y3,y1,s.ns5,s.eh1⟩)) z) z) z) (e 2))
def ha1(p:L4)(s:u4):Stp u4:=(sel (Nat.beq s.ph 1) (N2 .next .exit .fail p s) (N1 .next .exit .fail p s))
def Sa8:Lo L4 u4:=⟨En Cb6,1,bg8,[1,1,0,1,4,4],[1,5,8,9,10],.p,[⟨sUq::.fn 60 [.o (.ptr 0 0 0 0)]::ru2 3 (.s (.o .nil)::sUq::sUq::sLq tLq::sIq::sIq::ru2 14 []),[⟨0,3,true,some [[.c 1 (nL tB),.c 1 (nL tB),.c 1 (nL tLq)]]⟩],λa H=>(⟨aLq tLq a 8,aIq a 9⟩,⟨0,aIq a 10,hLq tB H 0 0 0,hLq tB H 0 0 1,hLq tLq H 0 0 2,0,[]⟩)⟩,⟨sUq::.fn 60 [.o (.ptr 0 0 0 0)]::ru2 3 (.s (.o (.sl 1 0 (some 0) none))::sUq::sUq::sLq tLq::sIq::sIq::ru2 14 []),[⟨0,3,true,some [[.c 1 (nL tB),.c 1 (nL tB),.c 1 (nL tLq)]]⟩,⟨35,1,true,none⟩],λa H=>(⟨aLq tLq a 8,aIq a 9⟩,⟨1,aIq a 10,hLq tB H 0 0 0,hLq tB H 0 0 1,hLq tLq H 0 0 2,slN (slT a 5),elT H 1⟩)⟩],ha1,[(some 0,λp s=>upq (lb1 p s) [(11,b (decide (s.L9<p.is9)))]),(some 0,λp s=>upq (lb2 p s) [(11,b (decide (s.L9<p.is9)))])],oc9⟩
theorem pc0:Sa8.Ok:=Lo.ok [] (by kernel_rfl) .nil rfl (.cons (λa H=>by kernel_rfl) (.cons (λa H=>by kernel_rfl) .nil)) λp s=>(.sel (Nat.beq s.ph 1) (.of @N2 (λF _ _ _ _ _=>by unfold N2;(repeat' apply k8 (f:=F))<;>rfl) (by kernel_rfl)) (.of @N1 (λF _ _ _ _ _=>by unfold N1;(repeat' apply k8 (f:=F))<;>rfl) (by kernel_rfl)))
structure Fa5 where
 alt:Nat
 (K2 N5:List Bool)
 K7:LPq
 ns0:Nat
 eh1:List (List d7)
def ia6{α:Type}(kk:Fa5->α)(x:Fa4):α:=let t1:=(lp (ha1 (⟨rt tLq x.s9,(↑(List.length x.s9):Int)⟩:L4)) (⟨0,0,rt tB x.K2,rt tB x.N5,rt tLq x.K7,0,[]⟩:u4));(sl ((cnE tLq x.s9)&&((cnE tB x.K2)&&((cnE tB x.N5)&&((cnE tLq x.K7)&&true)))) (sl (Nat.beq t1.1 1) (kk ⟨1,t1.2.K2,t1.2.N5,t1.2.K7,0,[]⟩) (sl (Nat.beq t1.1 2) (kk ⟨2,t1.2.K2,t1.2.N5,t1.2.K7,t1.2.ns5,t1.2.eh1⟩) (kk ⟨0,[],[],[],0,[]⟩))) (kk ⟨0,[],[],[],0,[]⟩))
def sa5(x:Fa4):Fa5:=ia6 (λr=>r) x
def Ya6(x:Fa4)(r:Fa5):DT (d7×List d8):=(.ite (Nat.beq r.alt 1) (.ret (.v (.slice none 0 0),[⟨0,3,[[eL tB r.K2,eL tB r.N5,eL tLq r.K7]],true,false,0⟩])) (.ite (Nat.beq r.alt 2) (.ret (.sl 1 0 r.ns0 0,[⟨0,3,[[eL tB r.K2,eL tB r.N5,eL tLq r.K7]],true,false,0⟩,⟨35,1,r.eh1,true,false,0⟩])) .fail))
theorem Lc7{α β:Type}(F:α->β)(kk:Fa5->α)(x:Fa4):F (ia6 kk x)=ia6 (λr=>F (kk r)) x:=by unfold ia6;(repeat' apply k8 (f:=F))<;>rfl
def Hb7:Sum:=Sa0 ⟨[sLq tLq,.fn 60 [.o (.ptr 0 0 0 0)]],[⟨0,3,true,some [[.c 1 (nL tB),.c 1 (nL tB),.c 1 (nL tLq)]]⟩],λa H=>(⟨aLq tLq a 0,hLq tB H 0 0 0,hLq tB H 0 0 1,hLq tLq H 0 0 2⟩,())⟩ (λx=>Ya6 x (sa5 x))
theorem Ec0:j6 prog G 49 Hb7:=I1 (enc:=λx=>⟨[eL tLq x.s9,.fn 60 [.ptr 0 0 0 0]],[⟨0,3,[[eL tB x.K2,eL tB x.N5,eL tLq x.K7]],true,false,0⟩]⟩) (λa H=>by kernel_rfl) (bd b49 vc3) λx=>Ga2 (.s .p (.s .p (.s (.s .p (.b (.u Sa8.ls))) .p))) [Sa8.pr] (by kernel_rfl) (.cons pc0 .nil) (Qlq (b:=ia6 (λr=>(Ya6 x r).run) x) (by kernel_rfl) (Lc7 (λr=>(Ya6 x r).run) (λr=>r) x).symm)
def Wd7:List (Nat×Sum):=[(44,qb4),(49,Hb7),(48,Rb1)]
theorem Qd2:j9 prog G Wd7:=⟨Gb6,Ec0,tc4,trivial⟩
def rb0(x:Prt)(y:Pce):ROq:=let y1:=(⟨x.nm,rt tLq x.cl,rt tI x.wt⟩:Prt);let y0:=(⟨rt tB y.su,rt tB y.to,rt tLq y.cu⟩:Pce);let t1:=(Ha9 y1 y0);let t2:=(sa5 ⟨rt tLq x.cl,rt tB y.su,rt tB y.to,rt tLq y.cu⟩);let t3:=(pa4 []);let t4:=(pa4 (lsL tLq t2.ns0 (λk=>g8 t2.eh1 (0+k))));(sl ((okE tLq x.cl)&&((okE tI x.wt)&&true)) (sl ((okE tB y.su)&&((okE tB y.to)&&((okE tLq y.cu)&&true))) (sl (Ia0 y1 y0) (sl (t1 != 0) (some (.v (.slice none 0 0),[])) (sl ((cnE tLq x.cl)&&((cnE tB y.su)&&((cnE tB y.to)&&((cnE tLq y.cu)&&true)))) (sl (Nat.beq t2.alt 1) (sl (ga9 []) (some (eL tLq t3,[])) none) (sl (Nat.beq t2.alt 2) (sl (okL tLq t2.ns0 (λk=>g8 t2.eh1 (0+k))) (sl (ga9 (lsL tLq t2.ns0 (λk=>g8 t2.eh1 (0+k)))) (some (eL tLq t4,[])) none) none) none)) none)) none) none) none)
def Kb5(x:Prt)(y:Pce):LPq:=V2 (one (r1L tLq)) (rb0 x y)
def Kb6(x:Prt)(y:Pce):Bool:=okO (one (r1L tLq)) (rb0 x y)
def gd1:Sum:=ta3 cJ cO (λx y=>.guard (Kb6 x y) (.ret ((one (r1L tLq)).enc (Kb5 x y),[])))
theorem Wd8:j6 prog G 25 gd1:=ub3 (bd b25 Qd2) (one (r1L tLq)) (o:=rb0) λx y=>B6 (by kernel_rfl)
structure Ca6 where
 Je6:ByteArray
 Rb9:LPq
 sb4:List Int
 (qc1 qc2:List Bool)
 Db0:LPq
 is1:Int
def vc4:List (Nat×Sum):=[(27,zb0)]
theorem pc1:j9 prog G vc4:=⟨Qb1,trivial⟩
structure Ca7 where
 alt:Nat
 bs0:Bool
def da3{α:Type}(kk:Ca7->α)(x:Ca6):α:=let y0:=(gL tLq x.Rb9 x.is1.toNat);let t1:=(R7 (rt tP y0) (rt tLq x.Db0));(sl (inB x.is1 (List.length x.sb4)) (sl ((gL tI x.sb4 x.is1.toNat)==1) (sl (inB x.is1 (List.length x.Rb9)) (sl (okE tP y0) (sl (okE tLq x.Db0) (sl (Ea3 (rt tP y0) (rt tLq x.Db0)) (kk ⟨1,!t1⟩) (kk ⟨0,false⟩)) (kk ⟨0,false⟩)) (kk ⟨0,false⟩)) (kk ⟨0,false⟩)) (kk ⟨1,false⟩)) (kk ⟨0,false⟩))
def Ca8(x:Ca6):Ca7:=da3 (λr=>r) x
def Sa9(x:Ca6)(r:Ca7):DT (d7×List d8):=(.ite (Nat.beq r.alt 1) (.ret (b r.bs0,[])) .fail)
theorem Ec1{α β:Type}(F:α->β)(kk:Ca7->α)(x:Ca6):F (da3 kk x)=da3 (λr=>F (kk r)) x:=by unfold da3;(repeat' apply k8 (f:=F))<;>rfl
def Cb7:Sum:=Sa0 ⟨[.agg [.o .val,.c 1 (nL tLq),.c 1 (nL tI),.c 1 (nL tB),.c 1 (nL tB),.c 1 (nL tLq)],sIq],[],λa H=>(⟨ca2 (slT (cellsOf (slT a 0)) 0),rL tLq (slT (cellsOf (slT a 0)) 1),rL tI (slT (cellsOf (slT a 0)) 2),rL tB (slT (cellsOf (slT a 0)) 3),rL tB (slT (cellsOf (slT a 0)) 4),rL tLq (slT (cellsOf (slT a 0)) 5),aIq a 1⟩,())⟩ (λx=>Sa9 x (Ca8 x))
theorem vc5:j6 prog G 56 Cb7:=I1 (enc:=λx=>⟨[.agg [.v (.string x.Je6),eL tLq x.Rb9,eL tI x.sb4,eL tB x.qc1,eL tB x.qc2,eL tLq x.Db0],i x.is1],[]⟩) (λa H=>by kernel_rfl) (bd b56 pc1) λx=>B6 (Qlq (b:=da3 (λr=>(Sa9 x r).run) x) (by kernel_rfl) (Ec1 (λr=>(Sa9 x r).run) (λr=>r) x).symm)
structure Ca9 where
 Je6:ByteArray
 Rb9:LPq
 sb4:List Int
 (qc1 qc2:List Bool)
 Db0:LPq
 is1:Int
def vc6:List (Nat×Sum):=[]
theorem pc2:j9 prog G vc6:=trivial
structure Da0 where
 alt:Nat
 bs0:Bool
def da4{α:Type}(kk:Da0->α)(x:Ca9):α:=(sl (inB x.is1 (List.length x.sb4)) (sl ((gL tI x.sb4 x.is1.toNat)==1) (sl (inB x.is1 (List.length x.qc2)) (kk ⟨1,gL tB x.qc2 x.is1.toNat⟩) (kk ⟨0,false⟩)) (kk ⟨1,false⟩)) (kk ⟨0,false⟩))
def Da1(x:Ca9):Da0:=da4 (λr=>r) x
def Ta0(x:Ca9)(r:Da0):DT (d7×List d8):=(.ite (Nat.beq r.alt 1) (.ret (b r.bs0,[])) .fail)
theorem Ec2{α β:Type}(F:α->β)(kk:Da0->α)(x:Ca9):F (da4 kk x)=da4 (λr=>F (kk r)) x:=by unfold da4;(repeat' apply k8 (f:=F))<;>rfl
def Cb8:Sum:=Sa0 ⟨[.agg [.o .val,.c 1 (nL tLq),.c 1 (nL tI),.c 1 (nL tB),.c 1 (nL tB),.c 1 (nL tLq)],sIq],[],λa H=>(⟨ca2 (slT (cellsOf (slT a 0)) 0),rL tLq (slT (cellsOf (slT a 0)) 1),rL tI (slT (cellsOf (slT a 0)) 2),rL tB (slT (cellsOf (slT a 0)) 3),rL tB (slT (cellsOf (slT a 0)) 4),rL tLq (slT (cellsOf (slT a 0)) 5),aIq a 1⟩,())⟩ (λx=>Ta0 x (Da1 x))
theorem vc7:j6 prog G 57 Cb8:=I1 (enc:=λx=>⟨[.agg [.v (.string x.Je6),eL tLq x.Rb9,eL tI x.sb4,eL tB x.qc1,eL tB x.qc2,eL tLq x.Db0],i x.is1],[]⟩) (λa H=>by kernel_rfl) (bd b57 pc2) λx=>B6 (Qlq (b:=da4 (λr=>(Ta0 x r).run) x) (by kernel_rfl) (Ec2 (λr=>(Ta0 x r).run) (λr=>r) x).symm)
structure Ma2 where
 Je6:ByteArray
 Rb9:LPq
 sb4:List Int
 (qc1 qc2:List Bool)
 Db0:LPq
 is1:Int
def Lc8:List (Nat×Sum):=[]
theorem Ec3:j9 prog G Lc8:=trivial
structure Ma3 where
 alt:Nat
 bs0:Bool
def ma6{α:Type}(kk:Ma3->α)(x:Ma2):α:=(sl (inB x.is1 (List.length x.sb4)) (sl ((gL tI x.sb4 x.is1.toNat)==2) (sl (inB x.is1 (List.length x.qc1)) (kk ⟨1,!(gL tB x.qc1 x.is1.toNat)⟩) (kk ⟨0,false⟩)) (kk ⟨1,false⟩)) (kk ⟨0,false⟩))
def Ma4(x:Ma2):Ma3:=ma6 (λr=>r) x
def db0(x:Ma2)(r:Ma3):DT (d7×List d8):=(.ite (Nat.beq r.alt 1) (.ret (b r.bs0,[])) .fail)
theorem Vc2{α β:Type}(F:α->β)(kk:Ma3->α)(x:Ma2):F (ma6 kk x)=ma6 (λr=>F (kk r)) x:=by unfold ma6;(repeat' apply k8 (f:=F))<;>rfl
def Rb2:Sum:=Sa0 ⟨[.agg [.o .val,.c 1 (nL tLq),.c 1 (nL tI),.c 1 (nL tB),.c 1 (nL tB),.c 1 (nL tLq)],sIq],[],λa H=>(⟨ca2 (slT (cellsOf (slT a 0)) 0),rL tLq (slT (cellsOf (slT a 0)) 1),rL tI (slT (cellsOf (slT a 0)) 2),rL tB (slT (cellsOf (slT a 0)) 3),rL tB (slT (cellsOf (slT a 0)) 4),rL tLq (slT (cellsOf (slT a 0)) 5),aIq a 1⟩,())⟩ (λx=>db0 x (Ma4 x))
theorem Lc9:j6 prog G 58 Rb2:=I1 (enc:=λx=>⟨[.agg [.v (.string x.Je6),eL tLq x.Rb9,eL tI x.sb4,eL tB x.qc1,eL tB x.qc2,eL tLq x.Db0],i x.is1],[]⟩) (λa H=>by kernel_rfl) (bd b58 Ec3) λx=>B6 (Qlq (b:=ma6 (λr=>(db0 x r).run) x) (by kernel_rfl) (Vc2 (λr=>(db0 x r).run) (λr=>r) x).symm)
def xb1:List (Nat×Sum):=[(44,qb4),(56,Cb7),(57,Cb8),(58,Rb2)]
theorem gd2:j9 prog G xb1:=⟨Gb6,vc5,vc7,Lc9,trivial⟩
structure E0 where
 te4:Int
 K9:ByteArray
 l0:LPq
 u6:List Int
 ba9:ByteArray
 A7:LPq
 D2:List Int
 (D3 D4:List Bool)
 A8:LPq
 Wc3:ByteArray
 cc6:LPq
 qc3:List Int
 (qc4 qc5:List Bool)
 cc7:LPq
 Wc4:ByteArray
 cc8:LPq
 qc6:List Int
 (qc7 qc8:List Bool)
 cc9:LPq
 Wc5:ByteArray
 dc0:LPq
 qc9:List Int
 (rc0 rc1:List Bool)
 dc1:LPq
structure o7 where
 ph:Nat
 Wc6:Int
def Hb8(p:E0)(s:o7):St:=⟨.unk::.unk::.ptr 0 0 0 0::ra 5 (.ptr 1 0 0 0::ra 19 (.sl 2 0 3 0::i 3::i 0::ra 5 (i p.te4::i s.Wc6::ra 10 []))),[⟨0,3,[[.v (.string p.K9),eL tLq p.l0,eL tI p.u6]],true,false,0⟩,⟨0,2,[[.fn 100056 [.v (.string p.ba9),eL tLq p.A7,eL tI p.D2,eL tB p.D3,eL tB p.D4,eL tLq p.A8],i 35]],true,false,0⟩,⟨91,2,[[.fn 100056 [.v (.string p.Wc3),eL tLq p.cc6,eL tI p.qc3,eL tB p.qc4,eL tB p.qc5,eL tLq p.cc7],i 35],[.fn 100057 [.v (.string p.Wc4),eL tLq p.cc8,eL tI p.qc6,eL tB p.qc7,eL tB p.qc8,eL tLq p.cc9],i 30],[.fn 100058 [.v (.string p.Wc5),eL tLq p.dc0,eL tI p.qc9,eL tB p.rc0,eL tB p.rc1,eL tLq p.dc1],i 34]],true,false,0⟩]⟩
def Hb9(p:E0)(s:o7):St:=⟨.unk::.unk::.ptr 0 0 0 0::ra 5 (.ptr 1 0 0 0::ra 19 (.sl 2 0 3 0::i 3::i 1::ra 5 (i p.te4::i s.Wc6::ra 10 []))),[⟨0,3,[[.v (.string p.K9),eL tLq p.l0,eL tI p.u6]],true,false,0⟩,⟨0,2,[[.fn 100057 [.v (.string p.ba9),eL tLq p.A7,eL tI p.D2,eL tB p.D3,eL tB p.D4,eL tLq p.A8],i 30]],true,false,0⟩,⟨91,2,[[.fn 100056 [.v (.string p.Wc3),eL tLq p.cc6,eL tI p.qc3,eL tB p.qc4,eL tB p.qc5,eL tLq p.cc7],i 35],[.fn 100057 [.v (.string p.Wc4),eL tLq p.cc8,eL tI p.qc6,eL tB p.qc7,eL tB p.qc8,eL tLq p.cc9],i 30],[.fn 100058 [.v (.string p.Wc5),eL tLq p.dc0,eL tI p.qc9,eL tB p.rc0,eL tB p.rc1,eL tLq p.dc1],i 34]],true,false,0⟩]⟩
def Ib0(p:E0)(s:o7):St:=⟨.unk::.unk::.ptr 0 0 0 0::ra 5 (.ptr 1 0 0 0::ra 19 (.sl 2 0 3 0::i 3::i 2::ra 5 (i p.te4::i s.Wc6::ra 10 []))),[⟨0,3,[[.v (.string p.K9),eL tLq p.l0,eL tI p.u6]],true,false,0⟩,⟨0,2,[[.fn 100058 [.v (.string p.ba9),eL tLq p.A7,eL tI p.D2,eL tB p.D3,eL tB p.D4,eL tLq p.A8],i 34]],true,false,0⟩,⟨91,2,[[.fn 100056 [.v (.string p.Wc3),eL tLq p.cc6,eL tI p.qc3,eL tB p.qc4,eL tB p.qc5,eL tLq p.cc7],i 35],[.fn 100057 [.v (.string p.Wc4),eL tLq p.cc8,eL tI p.qc6,eL tB p.qc7,eL tB p.qc8,eL tLq p.cc9],i 30],[.fn 100058 [.v (.string p.Wc5),eL tLq p.dc0,eL tI p.qc9,eL tB p.rc0,eL tB p.rc1,eL tLq p.dc1],i 34]],true,false,0⟩]⟩
def Vc3(p:E0)(s:o7):St:=(sel (Nat.beq s.ph 2) (Ib0 p s) (sel (Nat.beq s.ph 1) (Hb9 p s) (Hb8 p s)))
def X8{α:Type}(k:o7->α)(e:Nat->α)(z:α)(p:E0)(s:o7):α:=let t1:=(Ca8 ⟨p.ba9,rt tLq p.A7,rt tI p.D2,rt tB p.D3,rt tB p.D4,rt tLq p.A8,s.Wc6⟩);(sl (decide (s.Wc6<p.te4)) (sl ((cnE tLq p.A7)&&((cnE tI p.D2)&&((cnE tB p.D3)&&((cnE tB p.D4)&&((cnE tLq p.A8)&&true))))) (sl (Nat.beq t1.alt 1) (sl t1.bs0 (e 1) (k ⟨0,W (s.Wc6+1)⟩)) z) z) (e 2))
def X9{α:Type}(k:o7->α)(e:Nat->α)(z:α)(p:E0)(s:o7):α:=let t1:=(Da1 ⟨p.ba9,rt tLq p.A7,rt tI p.D2,rt tB p.D3,rt tB p.D4,rt tLq p.A8,s.Wc6⟩);(sl (decide (s.Wc6<p.te4)) (sl ((cnE tLq p.A7)&&((cnE tI p.D2)&&((cnE tB p.D3)&&((cnE tB p.D4)&&((cnE tLq p.A8)&&true))))) (sl (Nat.beq t1.alt 1) (sl t1.bs0 (e 3) (k ⟨1,W (s.Wc6+1)⟩)) z) z) (e 4))
def Y0{α:Type}(k:o7->α)(e:Nat->α)(z:α)(p:E0)(s:o7):α:=let t1:=(Ma4 ⟨p.ba9,rt tLq p.A7,rt tI p.D2,rt tB p.D3,rt tB p.D4,rt tLq p.A8,s.Wc6⟩);(sl (decide (s.Wc6<p.te4)) (sl ((cnE tLq p.A7)&&((cnE tI p.D2)&&((cnE tB p.D3)&&((cnE tB p.D4)&&((cnE tLq p.A8)&&true))))) (sl (Nat.beq t1.alt 1) (sl t1.bs0 (e 5) (k ⟨2,W (s.Wc6+1)⟩)) z) z) (e 6))
def K6(p:E0)(s:o7):Stp o7:=(sel (Nat.beq s.ph 2) (Y0 .next .exit .fail p s) (sel (Nat.beq s.ph 1) (X9 .next .exit .fail p s) (X8 .next .exit .fail p s)))
def rb1:Lo E0 o7:=⟨En xb1,0,bg5,[1,1,1,0,1,4,4,1,1,0,4,1,1,4,4],[2,8,28,29,30,36,37],.p,[⟨sUq::sUq::sPq 0::ru2 5 (sPq 1::ru2 19 (.s (.o (.sl 2 0 (some 0) (some 3)))::.s (.o (.lit .i64 3))::.s (.o (.lit .i64 0))::ru2 5 (sIq::sIq::ru2 10 []))),[⟨0,3,true,some [[.o .val,.c 1 (nL tLq),.c 1 (nL tI)]]⟩,⟨0,2,true,some [[.fn 100056 [.o .val,.c 1 (nL tLq),.c 1 (nL tI),.c 1 (nL tB),.c 1 (nL tB),.c 1 (nL tLq)],.o (.lit .i64 35)]]⟩,⟨91,2,true,some [[.fn 100056 [.o .val,.c 1 (nL tLq),.c 1 (nL tI),.c 1 (nL tB),.c 1 (nL tB),.c 1 (nL tLq)],.o (.lit .i64 35)],[.fn 100057 [.o .val,.c 1 (nL tLq),.c 1 (nL tI),.c 1 (nL tB),.c 1 (nL tB),.c 1 (nL tLq)],.o (.lit .i64 30)],[.fn 100058 [.o .val,.c 1 (nL tLq),.c 1 (nL tI),.c 1 (nL tB),.c 1 (nL tB),.c 1 (nL tLq)],.o (.lit .i64 34)]]⟩],λa H=>(⟨aIq a 36,ca2 (slT (rwT (elT H 0) 0) 0),hLq tLq H 0 0 1,hLq tI H 0 0 2,ca2 (slT (cellsOf (slT (rwT (elT H 1) 0) 0)) 0),rL tLq (slT (cellsOf (slT (rwT (elT H 1) 0) 0)) 1),rL tI (slT (cellsOf (slT (rwT (elT H 1) 0) 0)) 2),rL tB (slT (cellsOf (slT (rwT (elT H 1) 0) 0)) 3),rL tB (slT (cellsOf (slT (rwT (elT H 1) 0) 0)) 4),rL tLq (slT (cellsOf (slT (rwT (elT H 1) 0) 0)) 5),ca2 (slT (cellsOf (slT (rwT (elT H 2) 0) 0)) 0),rL tLq (slT (cellsOf (slT (rwT (elT H 2) 0) 0)) 1),rL tI (slT (cellsOf (slT (rwT (elT H 2) 0) 0)) 2),rL tB (slT (cellsOf (slT (rwT (elT H 2) 0) 0)) 3),rL tB (slT (cellsOf (slT (rwT (elT H 2) 0) 0)) 4),rL tLq (slT (cellsOf (slT (rwT (elT H 2) 0) 0)) 5),ca2 (slT (cellsOf (slT (rwT (elT H 2) 1) 0)) 0),rL tLq (slT (cellsOf (slT (rwT (elT H 2) 1) 0)) 1),rL tI (slT (cellsOf (slT (rwT (elT H 2) 1) 0)) 2),rL tB (slT (cellsOf (slT (rwT (elT H 2) 1) 0)) 3),rL tB (slT (cellsOf (slT (rwT (elT H 2) 1) 0)) 4),rL tLq (slT (cellsOf (slT (rwT (elT H 2) 1) 0)) 5),ca2 (slT (cellsOf (slT (rwT (elT H 2) 2) 0)) 0),rL tLq (slT (cellsOf (slT (rwT (elT H 2) 2) 0)) 1),rL tI (slT (cellsOf (slT (rwT (elT H 2) 2) 0)) 2),rL tB (slT (cellsOf (slT (rwT (elT H 2) 2) 0)) 3),rL tB (slT (cellsOf (slT (rwT (elT H 2) 2) 0)) 4),rL tLq (slT (cellsOf (slT (rwT (elT H 2) 2) 0)) 5)⟩,⟨0,aIq a 37⟩)⟩,⟨sUq::sUq::sPq 0::ru2 5 (sPq 1::ru2 19 (.s (.o (.sl 2 0 (some 0) (some 3)))::.s (.o (.lit .i64 3))::.s (.o (.lit .i64 1))::ru2 5 (sIq::sIq::ru2 10 []))),[⟨0,3,true,some [[.o .val,.c 1 (nL tLq),.c 1 (nL tI)]]⟩,⟨0,2,true,some [[.fn 100057 [.o .val,.c 1 (nL tLq),.c 1 (nL tI),.c 1 (nL tB),.c 1 (nL tB),.c 1 (nL tLq)],.o (.lit .i64 30)]]⟩,⟨91,2,true,some [[.fn 100056 [.o .val,.c 1 (nL tLq),.c 1 (nL tI),.c 1 (nL tB),.c 1 (nL tB),.c 1 (nL tLq)],.o (.lit .i64 35)],[.fn 100057 [.o .val,.c 1 (nL tLq),.c 1 (nL tI),.c 1 (nL tB),.c 1 (nL tB),.c 1 (nL tLq)],.o (.lit .i64 30)],[.fn 100058 [.o .val,.c 1 (nL tLq),.c 1 (nL tI),.c 1 (nL tB),.c 1 (nL tB),.c 1 (nL tLq)],.o (.lit .i64 34)]]⟩],λa H=>(⟨aIq a 36,ca2 (slT (rwT (elT H 0) 0) 0),hLq tLq H 0 0 1,hLq tI H 0 0 2,ca2 (slT (cellsOf (slT (rwT (elT H 1) 0) 0)) 0),rL tLq (slT (cellsOf (slT (rwT (elT H 1) 0) 0)) 1),rL tI (slT (cellsOf (slT (rwT (elT H 1) 0) 0)) 2),rL tB (slT (cellsOf (slT (rwT (elT H 1) 0) 0)) 3),rL tB (slT (cellsOf (slT (rwT (elT H 1) 0) 0)) 4),rL tLq (slT (cellsOf (slT (rwT (elT H 1) 0) 0)) 5),ca2 (slT (cellsOf (slT (rwT (elT H 2) 0) 0)) 0),rL tLq (slT (cellsOf (slT (rwT (elT H 2) 0) 0)) 1),rL tI (slT (cellsOf (slT (rwT (elT H 2) 0) 0)) 2),rL tB (slT (cellsOf (slT (rwT (elT H 2) 0) 0)) 3),rL tB (slT (cellsOf (slT (rwT (elT H 2) 0) 0)) 4),rL tLq (slT (cellsOf (slT (rwT (elT H 2) 0) 0)) 5),ca2 (slT (cellsOf (slT (rwT (elT H 2) 1) 0)) 0),rL tLq (slT (cellsOf (slT (rwT (elT H 2) 1) 0)) 1),rL tI (slT (cellsOf (slT (rwT (elT H 2) 1) 0)) 2),rL tB (slT (cellsOf (slT (rwT (elT H 2) 1) 0)) 3),rL tB (slT (cellsOf (slT (rwT (elT H 2) 1) 0)) 4),rL tLq (slT (cellsOf (slT (rwT (elT H 2) 1) 0)) 5),ca2 (slT (cellsOf (slT (rwT (elT H 2) 2) 0)) 0),rL tLq (slT (cellsOf (slT (rwT (elT H 2) 2) 0)) 1),rL tI (slT (cellsOf (slT (rwT (elT H 2) 2) 0)) 2),rL tB (slT (cellsOf (slT (rwT (elT H 2) 2) 0)) 3),rL tB (slT (cellsOf (slT (rwT (elT H 2) 2) 0)) 4),rL tLq (slT (cellsOf (slT (rwT (elT H 2) 2) 0)) 5)⟩,⟨1,aIq a 37⟩)⟩,⟨sUq::sUq::sPq 0::ru2 5 (sPq 1::ru2 19 (.s (.o (.sl 2 0 (some 0) (some 3)))::.s (.o (.lit .i64 3))::.s (.o (.lit .i64 2))::ru2 5 (sIq::sIq::ru2 10 []))),[⟨0,3,true,some [[.o .val,.c 1 (nL tLq),.c 1 (nL tI)]]⟩,⟨0,2,true,some [[.fn 100058 [.o .val,.c 1 (nL tLq),.c 1 (nL tI),.c 1 (nL tB),.c 1 (nL tB),.c 1 (nL tLq)],.o (.lit .i64 34)]]⟩,⟨91,2,true,some [[.fn 100056 [.o .val,.c 1 (nL tLq),.c 1 (nL tI),.c 1 (nL tB),.c 1 (nL tB),.c 1 (nL tLq)],.o (.lit .i64 35)],[.fn 100057 [.o .val,.c 1 (nL tLq),.c 1 (nL tI),.c 1 (nL tB),.c 1 (nL tB),.c 1 (nL tLq)],.o (.lit .i64 30)],[.fn 100058 [.o .val,.c 1 (nL tLq),.c 1 (nL tI),.c 1 (nL tB),.c 1 (nL tB),.c 1 (nL tLq)],.o (.lit .i64 34)]]⟩],λa H=>(⟨aIq a 36,ca2 (slT (rwT (elT H 0) 0) 0),hLq tLq H 0 0 1,hLq tI H 0 0 2,ca2 (slT (cellsOf (slT (rwT (elT H 1) 0) 0)) 0),rL tLq (slT (cellsOf (slT (rwT (elT H 1) 0) 0)) 1),rL tI (slT (cellsOf (slT (rwT (elT H 1) 0) 0)) 2),rL tB (slT (cellsOf (slT (rwT (elT H 1) 0) 0)) 3),rL tB (slT (cellsOf (slT (rwT (elT H 1) 0) 0)) 4),rL tLq (slT (cellsOf (slT (rwT (elT H 1) 0) 0)) 5),ca2 (slT (cellsOf (slT (rwT (elT H 2) 0) 0)) 0),rL tLq (slT (cellsOf (slT (rwT (elT H 2) 0) 0)) 1),rL tI (slT (cellsOf (slT (rwT (elT H 2) 0) 0)) 2),rL tB (slT (cellsOf (slT (rwT (elT H 2) 0) 0)) 3),rL tB (slT (cellsOf (slT (rwT (elT H 2) 0) 0)) 4),rL tLq (slT (cellsOf (slT (rwT (elT H 2) 0) 0)) 5),ca2 (slT (cellsOf (slT (rwT (elT H 2) 1) 0)) 0),rL tLq (slT (cellsOf (slT (rwT (elT H 2) 1) 0)) 1),rL tI (slT (cellsOf (slT (rwT (elT H 2) 1) 0)) 2),rL tB (slT (cellsOf (slT (rwT (elT H 2) 1) 0)) 3),rL tB (slT (cellsOf (slT (rwT (elT H 2) 1) 0)) 4),rL tLq (slT (cellsOf (slT (rwT (elT H 2) 1) 0)) 5),ca2 (slT (cellsOf (slT (rwT (elT H 2) 2) 0)) 0),rL tLq (slT (cellsOf (slT (rwT (elT H 2) 2) 0)) 1),rL tI (slT (cellsOf (slT (rwT (elT H 2) 2) 0)) 2),rL tB (slT (cellsOf (slT (rwT (elT H 2) 2) 0)) 3),rL tB (slT (cellsOf (slT (rwT (elT H 2) 2) 0)) 4),rL tLq (slT (cellsOf (slT (rwT (elT H 2) 2) 0)) 5)⟩,⟨2,aIq a 37⟩)⟩],K6,[(none,λp s=>⟨[i 35],[]⟩),(some 2,λp s=>upq (Hb8 p s) [(38,b (decide (s.Wc6<p.te4)))]),(none,λp s=>⟨[i 30],[]⟩),(some 2,λp s=>upq (Hb9 p s) [(38,b (decide (s.Wc6<p.te4)))]),(none,λp s=>⟨[i 34],[]⟩),(some 2,λp s=>upq (Ib0 p s) [(38,b (decide (s.Wc6<p.te4)))])],Vc3⟩
theorem Vc4:rb1.Ok:=Lo.ok [] (by kernel_rfl) .nil rfl (.cons (λa H=>by kernel_rfl) (.cons (λa H=>by kernel_rfl) (.cons (λa H=>by kernel_rfl) .nil))) λp s=>(.sel (Nat.beq s.ph 2) (.of @Y0 (λF _ _ _ _ _=>by unfold Y0;(repeat' apply k8 (f:=F))<;>rfl) (by kernel_rfl)) (.sel (Nat.beq s.ph 1) (.of @X9 (λF _ _ _ _ _=>by unfold X9;(repeat' apply k8 (f:=F))<;>rfl) (by kernel_rfl)) (.of @X8 (λF _ _ _ _ _=>by unfold X8;(repeat' apply k8 (f:=F))<;>rfl) (by kernel_rfl))))
structure G1 where
 (K9 ba9 Za2 Za3:ByteArray)
structure s4 where
 ph:Nat
 l0:LPq
 u6:List Int
 A7:LPq
 D2:List Int
 (D3 D4:List Bool)
 (A8 Z7:LPq)
 ha6:List Int
 (ha7 ha8:List Bool)
 (Z8 Z9:LPq)
 ha9:List Int
 (ia0 ia1:List Bool)
 aa0:LPq
def Mc0(p:G1)(s:s4):St:=⟨.unk::.unk::.ptr 0 0 0 0::ra 25 (.sl 1 0 3 0::i 3::i 0::ra 17 []),[⟨0,3,[[.v (.string p.K9),eL tLq s.l0,eL tI s.u6]],true,false,0⟩,⟨91,2,[[.fn 100056 [.v (.string p.ba9),eL tLq s.A7,eL tI s.D2,eL tB s.D3,eL tB s.D4,eL tLq s.A8],i 35],[.fn 100057 [.v (.string p.Za2),eL tLq s.Z7,eL tI s.ha6,eL tB s.ha7,eL tB s.ha8,eL tLq s.Z8],i 30],[.fn 100058 [.v (.string p.Za3),eL tLq s.Z9,eL tI s.ha9,eL tB s.ia0,eL tB s.ia1,eL tLq s.aa0],i 34]],true,false,0⟩]⟩
def Mc1(p:G1)(s:s4):St:=⟨.unk::.unk::.ptr 0 0 0 0::ra 25 (.sl 1 0 3 0::i 3::i 1::ra 17 []),[⟨0,3,[[.v (.string p.K9),eL tLq s.l0,eL tI s.u6]],true,false,0⟩,⟨91,2,[[.fn 100056 [.v (.string p.ba9),eL tLq s.A7,eL tI s.D2,eL tB s.D3,eL tB s.D4,eL tLq s.A8],i 35],[.fn 100057 [.v (.string p.Za2),eL tLq s.Z7,eL tI s.ha6,eL tB s.ha7,eL tB s.ha8,eL tLq s.Z8],i 30],[.fn 100058 [.v (.string p.Za3),eL tLq s.Z9,eL tI s.ha9,eL tB s.ia0,eL tB s.ia1,eL tLq s.aa0],i 34]],true,false,0⟩]⟩
def Mc2(p:G1)(s:s4):St:=⟨.unk::.unk::.ptr 0 0 0 0::ra 25 (.sl 1 0 3 0::i 3::i 2::ra 17 []),[⟨0,3,[[.v (.string p.K9),eL tLq s.l0,eL tI s.u6]],true,false,0⟩,⟨91,2,[[.fn 100056 [.v (.string p.ba9),eL tLq s.A7,eL tI s.D2,eL tB s.D3,eL tB s.D4,eL tLq s.A8],i 35],[.fn 100057 [.v (.string p.Za2),eL tLq s.Z7,eL tI s.ha6,eL tB s.ha7,eL tB s.ha8,eL tLq s.Z8],i 30],[.fn 100058 [.v (.string p.Za3),eL tLq s.Z9,eL tI s.ha9,eL tB s.ia0,eL tB s.ia1,eL tLq s.aa0],i 34]],true,false,0⟩]⟩
def Ib1(p:G1)(s:s4):St:=⟨.unk::.unk::.ptr 0 0 0 0::ra 25 (.sl 1 0 3 0::i 3::i 3::ra 17 []),[⟨0,3,[[.v (.string p.K9),eL tLq s.l0,eL tI s.u6]],true,false,0⟩,⟨91,2,[[.fn 100056 [.v (.string p.ba9),eL tLq s.A7,eL tI s.D2,eL tB s.D3,eL tB s.D4,eL tLq s.A8],i 35],[.fn 100057 [.v (.string p.Za2),eL tLq s.Z7,eL tI s.ha6,eL tB s.ha7,eL tB s.ha8,eL tLq s.Z8],i 30],[.fn 100058 [.v (.string p.Za3),eL tLq s.Z9,eL tI s.ha9,eL tB s.ia0,eL tB s.ia1,eL tLq s.aa0],i 34]],true,false,0⟩]⟩
def Vc5(p:G1)(s:s4):St:=(sel (Nat.beq s.ph 3) (Ib1 p s) (sel (Nat.beq s.ph 2) (Mc2 p s) (sel (Nat.beq s.ph 1) (Mc1 p s) (Mc0 p s))))
def sa6{α:Type}(k:s4->α)(e:Nat->α)(z:α)(p:G1)(s:s4):α:=let y16:=(rt tI s.u6);let y15:=(rt tLq s.l0);let y14:=(rt tB s.ia1);let y13:=(rt tB s.ia0);let y12:=(rt tI s.ha9);let y11:=(rt tB s.ha8);let y10:=(rt tB s.ha7);let y9:=(rt tI s.ha6);let y8:=(rt tLq s.aa0);let y7:=(rt tLq s.Z9);let y6:=(rt tLq s.Z8);let y5:=(rt tLq s.Z7);let y4:=(rt tB s.D4);let y3:=(rt tB s.D3);let y2:=(rt tI s.D2);let y1:=(rt tLq s.A8);let y0:=(rt tLq s.A7);let t1:=(lp (K6 (⟨(↑(List.length s.l0):Int),p.K9,y15,y16,p.ba9,y0,y2,y3,y4,y1,p.ba9,y0,y2,y3,y4,y1,p.Za2,y5,y9,y10,y11,y6,p.Za3,y7,y12,y13,y14,y8⟩:E0)) (⟨0,0⟩:o7));(sl ((cnE tLq s.l0)&&((cnE tI s.u6)&&((cnE tLq s.A7)&&((cnE tI s.D2)&&((cnE tB s.D3)&&((cnE tB s.D4)&&((cnE tLq s.A8)&&((cnE tLq s.A7)&&((cnE tI s.D2)&&((cnE tB s.D3)&&((cnE tB s.D4)&&((cnE tLq s.A8)&&((cnE tLq s.Z7)&&((cnE tI s.ha6)&&((cnE tB s.ha7)&&((cnE tB s.ha8)&&((cnE tLq s.Z8)&&((cnE tLq s.Z9)&&((cnE tI s.ha9)&&((cnE tB s.ia0)&&((cnE tB s.ia1)&&((cnE tLq s.aa0)&&true)))))))))))))))))))))) (sl (Nat.beq t1.1 1) (e 1) (sl (Nat.beq t1.1 2) (k ⟨1,y15,y16,y0,y2,y3,y4,y1,y5,y9,y10,y11,y6,y7,y12,y13,y14,y8⟩) (sl (Nat.beq t1.1 3) (e 2) (sl (Nat.beq t1.1 4) (k ⟨2,y15,y16,y0,y2,y3,y4,y1,y5,y9,y10,y11,y6,y7,y12,y13,y14,y8⟩) (sl (Nat.beq t1.1 5) (e 3) (sl (Nat.beq t1.1 6) (k ⟨3,y15,y16,y0,y2,y3,y4,y1,y5,y9,y10,y11,y6,y7,y12,y13,y14,y8⟩) z)))))) z)
def sa7{α:Type}(k:s4->α)(e:Nat->α)(z:α)(p:G1)(s:s4):α:=let y16:=(rt tI s.u6);let y15:=(rt tLq s.l0);let y14:=(rt tB s.ia1);let y13:=(rt tB s.ia0);let y12:=(rt tI s.ha9);let y11:=(rt tB s.D4);let y10:=(rt tB s.D3);let y9:=(rt tI s.D2);let y8:=(rt tLq s.aa0);let y7:=(rt tLq s.Z9);let y6:=(rt tLq s.A8);let y5:=(rt tLq s.A7);let y4:=(rt tB s.ha8);let y3:=(rt tB s.ha7);let y2:=(rt tI s.ha6);let y1:=(rt tLq s.Z8);let y0:=(rt tLq s.Z7);let t1:=(lp (K6 (⟨(↑(List.length s.l0):Int),p.K9,y15,y16,p.Za2,y0,y2,y3,y4,y1,p.ba9,y5,y9,y10,y11,y6,p.Za2,y0,y2,y3,y4,y1,p.Za3,y7,y12,y13,y14,y8⟩:E0)) (⟨1,0⟩:o7));(sl ((cnE tLq s.l0)&&((cnE tI s.u6)&&((cnE tLq s.Z7)&&((cnE tI s.ha6)&&((cnE tB s.ha7)&&((cnE tB s.ha8)&&((cnE tLq s.Z8)&&((cnE tLq s.A7)&&((cnE tI s.D2)&&((cnE tB s.D3)&&((cnE tB s.D4)&&((cnE tLq s.A8)&&((cnE tLq s.Z7)&&((cnE tI s.ha6)&&((cnE tB s.ha7)&&((cnE tB s.ha8)&&((cnE tLq s.Z8)&&((cnE tLq s.Z9)&&((cnE tI s.ha9)&&((cnE tB s.ia0)&&((cnE tB s.ia1)&&((cnE tLq s.aa0)&&true)))))))))))))))))))))) (sl (Nat.beq t1.1 1) (e 1) (sl (Nat.beq t1.1 2) (k ⟨1,y15,y16,y5,y9,y10,y11,y6,y0,y2,y3,y4,y1,y7,y12,y13,y14,y8⟩) (sl (Nat.beq t1.1 3) (e 2) (sl (Nat.beq t1.1 4) (k ⟨2,y15,y16,y5,y9,y10,y11,y6,y0,y2,y3,y4,y1,y7,y12,y13,y14,y8⟩) (sl (Nat.beq t1.1 5) (e 3) (sl (Nat.beq t1.1 6) (k ⟨3,y15,y16,y5,y9,y10,y11,y6,y0,y2,y3,y4,y1,y7,y12,y13,y14,y8⟩) z)))))) z)
def sa8{α:Type}(k:s4->α)(e:Nat->α)(z:α)(p:G1)(s:s4):α:=let y16:=(rt tI s.u6);let y15:=(rt tLq s.l0);let y14:=(rt tB s.ha8);let y13:=(rt tB s.ha7);let y12:=(rt tI s.ha6);let y11:=(rt tB s.D4);let y10:=(rt tB s.D3);let y9:=(rt tI s.D2);let y8:=(rt tLq s.Z8);let y7:=(rt tLq s.Z7);let y6:=(rt tLq s.A8);let y5:=(rt tLq s.A7);let y4:=(rt tB s.ia1);let y3:=(rt tB s.ia0);let y2:=(rt tI s.ha9);let y1:=(rt tLq s.aa0);let y0:=(rt tLq s.Z9);let t1:=(lp (K6 (⟨(↑(List.length s.l0):Int),p.K9,y15,y16,p.Za3,y0,y2,y3,y4,y1,p.ba9,y5,y9,y10,y11,y6,p.Za2,y7,y12,y13,y14,y8,p.Za3,y0,y2,y3,y4,y1⟩:E0)) (⟨2,0⟩:o7));(sl ((cnE tLq s.l0)&&((cnE tI s.u6)&&((cnE tLq s.Z9)&&((cnE tI s.ha9)&&((cnE tB s.ia0)&&((cnE tB s.ia1)&&((cnE tLq s.aa0)&&((cnE tLq s.A7)&&((cnE tI s.D2)&&((cnE tB s.D3)&&((cnE tB s.D4)&&((cnE tLq s.A8)&&((cnE tLq s.Z7)&&((cnE tI s.ha6)&&((cnE tB s.ha7)&&((cnE tB s.ha8)&&((cnE tLq s.Z8)&&((cnE tLq s.Z9)&&((cnE tI s.ha9)&&((cnE tB s.ia0)&&((cnE tB s.ia1)&&((cnE tLq s.aa0)&&true)))))))))))))))))))))) (sl (Nat.beq t1.1 1) (e 1) (sl (Nat.beq t1.1 2) (k ⟨1,y15,y16,y5,y9,y10,y11,y6,y7,y12,y13,y14,y8,y0,y2,y3,y4,y1⟩) (sl (Nat.beq t1.1 3) (e 2) (sl (Nat.beq t1.1 4) (k ⟨2,y15,y16,y5,y9,y10,y11,y6,y7,y12,y13,y14,y8,y0,y2,y3,y4,y1⟩) (sl (Nat.beq t1.1 5) (e 3) (sl (Nat.beq t1.1 6) (k ⟨3,y15,y16,y5,y9,y10,y11,y6,y7,y12,y13,y14,y8,y0,y2,y3,y4,y1⟩) z)))))) z)
def db1{α:Type}(k:s4->α)(e:Nat->α)(z:α)(p:G1)(s:s4):α:=(e 4)
def ba8(p:G1)(s:s4):Stp s4:=(sel (Nat.beq s.ph 3) (db1 .next .exit .fail p s) (sel (Nat.beq s.ph 2) (sa8 .next .exit .fail p s) (sel (Nat.beq s.ph 1) (sa7 .next .exit .fail p s) (sa6 .next .exit .fail p s))))
def rb2:Lo G1 s4:=⟨En xb1,0,bg5,[1,1,1,0,1,4,4],[2,28,29,30],.s .p (.s .p (.s (.b (.s .p (.s .p (.b (.u rb1.ls))))) .p)),[⟨sUq::sUq::sPq 0::ru2 25 (.s (.o (.sl 1 0 (some 0) (some 3)))::.s (.o (.lit .i64 3))::.s (.o (.lit .i64 0))::ru2 17 []),[⟨0,3,true,some [[.o .val,.c 1 (nL tLq),.c 1 (nL tI)]]⟩,⟨91,2,true,some [[.fn 100056 [.o .val,.c 1 (nL tLq),.c 1 (nL tI),.c 1 (nL tB),.c 1 (nL tB),.c 1 (nL tLq)],.o (.lit .i64 35)],[.fn 100057 [.o .val,.c 1 (nL tLq),.c 1 (nL tI),.c 1 (nL tB),.c 1 (nL tB),.c 1 (nL tLq)],.o (.lit .i64 30)],[.fn 100058 [.o .val,.c 1 (nL tLq),.c 1 (nL tI),.c 1 (nL tB),.c 1 (nL tB),.c 1 (nL tLq)],.o (.lit .i64 34)]]⟩],λa H=>(⟨ca2 (slT (rwT (elT H 0) 0) 0),ca2 (slT (cellsOf (slT (rwT (elT H 1) 0) 0)) 0),ca2 (slT (cellsOf (slT (rwT (elT H 1) 1) 0)) 0),ca2 (slT (cellsOf (slT (rwT (elT H 1) 2) 0)) 0)⟩,⟨0,hLq tLq H 0 0 1,hLq tI H 0 0 2,rL tLq (slT (cellsOf (slT (rwT (elT H 1) 0) 0)) 1),rL tI (slT (cellsOf (slT (rwT (elT H 1) 0) 0)) 2),rL tB (slT (cellsOf (slT (rwT (elT H 1) 0) 0)) 3),rL tB (slT (cellsOf (slT (rwT (elT H 1) 0) 0)) 4),rL tLq (slT (cellsOf (slT (rwT (elT H 1) 0) 0)) 5),rL tLq (slT (cellsOf (slT (rwT (elT H 1) 1) 0)) 1),rL tI (slT (cellsOf (slT (rwT (elT H 1) 1) 0)) 2),rL tB (slT (cellsOf (slT (rwT (elT H 1) 1) 0)) 3),rL tB (slT (cellsOf (slT (rwT (elT H 1) 1) 0)) 4),rL tLq (slT (cellsOf (slT (rwT (elT H 1) 1) 0)) 5),rL tLq (slT (cellsOf (slT (rwT (elT H 1) 2) 0)) 1),rL tI (slT (cellsOf (slT (rwT (elT H 1) 2) 0)) 2),rL tB (slT (cellsOf (slT (rwT (elT H 1) 2) 0)) 3),rL tB (slT (cellsOf (slT (rwT (elT H 1) 2) 0)) 4),rL tLq (slT (cellsOf (slT (rwT (elT H 1) 2) 0)) 5)⟩)⟩,⟨sUq::sUq::sPq 0::ru2 25 (.s (.o (.sl 1 0 (some 0) (some 3)))::.s (.o (.lit .i64 3))::.s (.o (.lit .i64 1))::ru2 17 []),[⟨0,3,true,some [[.o .val,.c 1 (nL tLq),.c 1 (nL tI)]]⟩,⟨91,2,true,some [[.fn 100056 [.o .val,.c 1 (nL tLq),.c 1 (nL tI),.c 1 (nL tB),.c 1 (nL tB),.c 1 (nL tLq)],.o (.lit .i64 35)],[.fn 100057 [.o .val,.c 1 (nL tLq),.c 1 (nL tI),.c 1 (nL tB),.c 1 (nL tB),.c 1 (nL tLq)],.o (.lit .i64 30)],[.fn 100058 [.o .val,.c 1 (nL tLq),.c 1 (nL tI),.c 1 (nL tB),.c 1 (nL tB),.c 1 (nL tLq)],.o (.lit .i64 34)]]⟩],λa H=>(⟨ca2 (slT (rwT (elT H 0) 0) 0),ca2 (slT (cellsOf (slT (rwT (elT H 1) 0) 0)) 0),ca2 (slT (cellsOf (slT (rwT (elT H 1) 1) 0)) 0),ca2 (slT (cellsOf (slT (rwT (elT H 1) 2) 0)) 0)⟩,⟨1,hLq tLq H 0 0 1,hLq tI H 0 0 2,rL tLq (slT (cellsOf (slT (rwT (elT H 1) 0) 0)) 1),rL tI (slT (cellsOf (slT (rwT (elT H 1) 0) 0)) 2),rL tB (slT (cellsOf (slT (rwT (elT H 1) 0) 0)) 3),rL tB (slT (cellsOf (slT (rwT (elT H 1) 0) 0)) 4),rL tLq (slT (cellsOf (slT (rwT (elT H 1) 0) 0)) 5),rL tLq (slT (cellsOf (slT (rwT (elT H 1) 1) 0)) 1),rL tI (slT (cellsOf (slT (rwT (elT H 1) 1) 0)) 2),rL tB (slT (cellsOf (slT (rwT (elT H 1) 1) 0)) 3),rL tB (slT (cellsOf (slT (rwT (elT H 1) 1) 0)) 4),rL tLq (slT (cellsOf (slT (rwT (elT H 1) 1) 0)) 5),rL tLq (slT (cellsOf (slT (rwT (elT H 1) 2) 0)) 1),rL tI (slT (cellsOf (slT (rwT (elT H 1) 2) 0)) 2),rL tB (slT (cellsOf (slT (rwT (elT H 1) 2) 0)) 3),rL tB (slT (cellsOf (slT (rwT (elT H 1) 2) 0)) 4),rL tLq (slT (cellsOf (slT (rwT (elT H 1) 2) 0)) 5)⟩)⟩,⟨sUq::sUq::sPq 0::ru2 25 (.s (.o (.sl 1 0 (some 0) (some 3)))::.s (.o (.lit .i64 3))::.s (.o (.lit .i64 2))::ru2 17 []),[⟨0,3,true,some [[.o .val,.c 1 (nL tLq),.c 1 (nL tI)]]⟩,⟨91,2,true,some [[.fn 100056 [.o .val,.c 1 (nL tLq),.c 1 (nL tI),.c 1 (nL tB),.c 1 (nL tB),.c 1 (nL tLq)],.o (.lit .i64 35)],[.fn 100057 [.o .val,.c 1 (nL tLq),.c 1 (nL tI),.c 1 (nL tB),.c 1 (nL tB),.c 1 (nL tLq)],.o (.lit .i64 30)],[.fn 100058 [.o .val,.c 1 (nL tLq),.c 1 (nL tI),.c 1 (nL tB),.c 1 (nL tB),.c 1 (nL tLq)],.o (.lit .i64 34)]]⟩],λa H=>(⟨ca2 (slT (rwT (elT H 0) 0) 0),ca2 (slT (cellsOf (slT (rwT (elT H 1) 0) 0)) 0),ca2 (slT (cellsOf (slT (rwT (elT H 1) 1) 0)) 0),ca2 (slT (cellsOf (slT (rwT (elT H 1) 2) 0)) 0)⟩,⟨2,hLq tLq H 0 0 1,hLq tI H 0 0 2,rL tLq (slT (cellsOf (slT (rwT (elT H 1) 0) 0)) 1),rL tI (slT (cellsOf (slT (rwT (elT H 1) 0) 0)) 2),rL tB (slT (cellsOf (slT (rwT (elT H 1) 0) 0)) 3),rL tB (slT (cellsOf (slT (rwT (elT H 1) 0) 0)) 4),rL tLq (slT (cellsOf (slT (rwT (elT H 1) 0) 0)) 5),rL tLq (slT (cellsOf (slT (rwT (elT H 1) 1) 0)) 1),rL tI (slT (cellsOf (slT (rwT (elT H 1) 1) 0)) 2),rL tB (slT (cellsOf (slT (rwT (elT H 1) 1) 0)) 3),rL tB (slT (cellsOf (slT (rwT (elT H 1) 1) 0)) 4),rL tLq (slT (cellsOf (slT (rwT (elT H 1) 1) 0)) 5),rL tLq (slT (cellsOf (slT (rwT (elT H 1) 2) 0)) 1),rL tI (slT (cellsOf (slT (rwT (elT H 1) 2) 0)) 2),rL tB (slT (cellsOf (slT (rwT (elT H 1) 2) 0)) 3),rL tB (slT (cellsOf (slT (rwT (elT H 1) 2) 0)) 4),rL tLq (slT (cellsOf (slT (rwT (elT H 1) 2) 0)) 5)⟩)⟩,⟨sUq::sUq::sPq 0::ru2 25 (.s (.o (.sl 1 0 (some 0) (some 3)))::.s (.o (.lit .i64 3))::.s (.o (.lit .i64 3))::ru2 17 []),[⟨0,3,true,some [[.o .val,.c 1 (nL tLq),.c 1 (nL tI)]]⟩,⟨91,2,true,some [[.fn 100056 [.o .val,.c 1 (nL tLq),.c 1 (nL tI),.c 1 (nL tB),.c 1 (nL tB),.c 1 (nL tLq)],.o (.lit .i64 35)],[.fn 100057 [.o .val,.c 1 (nL tLq),.c 1 (nL tI),.c 1 (nL tB),.c 1 (nL tB),.c 1 (nL tLq)],.o (.lit .i64 30)],[.fn 100058 [.o .val,.c 1 (nL tLq),.c 1 (nL tI),.c 1 (nL tB),.c 1 (nL tB),.c 1 (nL tLq)],.o (.lit .i64 34)]]⟩],λa H=>(⟨ca2 (slT (rwT (elT H 0) 0) 0),ca2 (slT (cellsOf (slT (rwT (elT H 1) 0) 0)) 0),ca2 (slT (cellsOf (slT (rwT (elT H 1) 1) 0)) 0),ca2 (slT (cellsOf (slT (rwT (elT H 1) 2) 0)) 0)⟩,⟨3,hLq tLq H 0 0 1,hLq tI H 0 0 2,rL tLq (slT (cellsOf (slT (rwT (elT H 1) 0) 0)) 1),rL tI (slT (cellsOf (slT (rwT (elT H 1) 0) 0)) 2),rL tB (slT (cellsOf (slT (rwT (elT H 1) 0) 0)) 3),rL tB (slT (cellsOf (slT (rwT (elT H 1) 0) 0)) 4),rL tLq (slT (cellsOf (slT (rwT (elT H 1) 0) 0)) 5),rL tLq (slT (cellsOf (slT (rwT (elT H 1) 1) 0)) 1),rL tI (slT (cellsOf (slT (rwT (elT H 1) 1) 0)) 2),rL tB (slT (cellsOf (slT (rwT (elT H 1) 1) 0)) 3),rL tB (slT (cellsOf (slT (rwT (elT H 1) 1) 0)) 4),rL tLq (slT (cellsOf (slT (rwT (elT H 1) 1) 0)) 5),rL tLq (slT (cellsOf (slT (rwT (elT H 1) 2) 0)) 1),rL tI (slT (cellsOf (slT (rwT (elT H 1) 2) 0)) 2),rL tB (slT (cellsOf (slT (rwT (elT H 1) 2) 0)) 3),rL tB (slT (cellsOf (slT (rwT (elT H 1) 2) 0)) 4),rL tLq (slT (cellsOf (slT (rwT (elT H 1) 2) 0)) 5)⟩)⟩],ba8,[(none,λp s=>⟨[i 35],[]⟩),(none,λp s=>⟨[i 30],[]⟩),(none,λp s=>⟨[i 34],[]⟩),(some 0,λp s=>upq (Ib1 p s) [(31,b false)])],Vc5⟩
theorem Vc6:rb2.Ok:=Lo.ok [rb1.pr] (by kernel_rfl) (.cons Vc4 .nil) rfl (.cons (λa H=>by kernel_rfl) (.cons (λa H=>by kernel_rfl) (.cons (λa H=>by kernel_rfl) (.cons (λa H=>by kernel_rfl) .nil)))) λp s=>(.sel (Nat.beq s.ph 3) (.of @db1 (λF _ _ _ _ _=>by unfold db1;(repeat' apply k8 (f:=F))<;>rfl) (by kernel_rfl)) (.sel (Nat.beq s.ph 2) (.of @sa8 (λF _ _ _ _ _=>by unfold sa8;(repeat' apply k8 (f:=F))<;>rfl) (by kernel_rfl)) (.sel (Nat.beq s.ph 1) (.of @sa7 (λF _ _ _ _ _=>by unfold sa7;(repeat' apply k8 (f:=F))<;>rfl) (by kernel_rfl)) (.of @sa6 (λF _ _ _ _ _=>by unfold sa6;(repeat' apply k8 (f:=F))<;>rfl) (by kernel_rfl)))))
def Qa4(x:Prt)(y:Pce):ROq:=let y1:=(⟨x.nm,rt tLq x.cl,rt tI x.wt⟩:Prt);let y0:=(⟨rt tB y.su,rt tB y.to,rt tLq y.cu⟩:Pce);let t1:=(Ha9 y1 y0);let t2:=(lp (ba8 (⟨x.nm,x.nm,x.nm,x.nm⟩:G1)) (⟨0,rt tLq x.cl,rt tI x.wt,rt tLq x.cl,rt tI x.wt,rt tB y.su,rt tB y.to,rt tLq y.cu,rt tLq x.cl,rt tI x.wt,rt tB y.su,rt tB y.to,rt tLq y.cu,rt tLq x.cl,rt tI x.wt,rt tB y.su,rt tB y.to,rt tLq y.cu⟩:s4));(sl ((okE tLq x.cl)&&((okE tI x.wt)&&true)) (sl ((okE tB y.su)&&((okE tB y.to)&&((okE tLq y.cu)&&true))) (sl (Ia0 y1 y0) (sl (t1 != 0) (some (i t1,[])) (sl ((cnE tLq x.cl)&&((cnE tI x.wt)&&((cnE tLq x.cl)&&((cnE tI x.wt)&&((cnE tB y.su)&&((cnE tB y.to)&&((cnE tLq y.cu)&&((cnE tLq x.cl)&&((cnE tI x.wt)&&((cnE tB y.su)&&((cnE tB y.to)&&((cnE tLq y.cu)&&((cnE tLq x.cl)&&((cnE tI x.wt)&&((cnE tB y.su)&&((cnE tB y.to)&&((cnE tLq y.cu)&&true))))))))))))))))) (sl (Nat.beq t2.1 1) (some (i 35,[])) (sl (Nat.beq t2.1 2) (some (i 30,[])) (sl (Nat.beq t2.1 3) (some (i 34,[])) (sl (Nat.beq t2.1 4) (some (i 0,[])) none)))) none)) none) none) none)
def ja3(x:Prt)(y:Pce):Int:=V2 (one r1I) (Qa4 x y)
def Q7(x:Prt)(y:Pce):Bool:=okO (one r1I) (Qa4 x y)
def tc6:Sum:=ta3 cJ cO (λx y=>.guard (Q7 x y) (.ret ((one r1I).enc (ja3 x y),[])))
theorem pd7:j6 prog G 22 tc6:=ub3 (bd b22 gd2) (one r1I) (o:=Qa4) λx y=>Ga2 (.s .p (.s .p (.s .p (.s (.s .p (.b (.u rb2.ls))) .p)))) [rb2.pr] (by kernel_rfl) (.cons Vc6 .nil) (by kernel_rfl)
def sa9(cl:LPq)(su:List Bool)(j:Nat):LPq:=((List.range j).filter λk=>!gL tB su k).map (gL tLq cl)
theorem Ue1(cl:LPq)(su:List Bool)(j:Nat):sa9 cl su (j+1)=sa9 cl su j++(if gL tB su j=true then [] else [gL tLq cl j]):=by
 unfold sa9;rw[List.range_succ,List.filter_append,List.map_append];congr 1;have e:List.filter (λk=>!gL tB su k) [j]=if gL tB su j=true then [] else [j]:=by
  show (match !gL tB su j with | true=>j::[] | false=>[])=_
  cases gL tB su j<;>rfl
 rw[e];cases gL tB su j<;>rfl
theorem fe8(cl:LPq)(su:List Bool)(j:Nat):(sa9 cl su j).length<=j:=by
 unfold sa9;rw[List.length_map];exact Nat.le_trans (List.length_filter_le _ _) (by simp)
theorem Jc6{cl:LPq}{su:List Bool}{j:Nat}(hj:j<=cl.length){q:PLq}(h:q∈sa9 cl su j):q∈cl:=by
 unfold sa9 at h;obtain⟨k,hk,rfl⟩:=List.mem_map.1 h
 have:=Qli.1 (List.mem_filter.1 hk).1
 exact X7 tLq (by omega)
theorem Ie4{n:Nat}{q:PLq}{su to:List Bool}{cu:LPq}(h:n<su.length):Ya5 ⟨(n:Int),q,su,to,cu⟩=⟨1,!gL tB su n⟩:=by
 unfold Ya5 Ia9;simp only[Int.toNat_natCast];rw[bt (i9 h)]
structure RLf(l:LPq)(su to:List Bool)(cu:LPq)(j:Nat)(s:u4):Prop where
 le:j<=l.length
 ix:s.L9=(j:Int)
 ph:s.ph=phL (sa9 l su j)
 c1:s.K2=su
 c2:s.N5=to
 c3:s.K7=cu
 n:s.ns5=(sa9 l su j).length
 e:s.eh1=bL tLq (sa9 l su j)
theorem Ue2(l:LPq)(su to:List Bool)(cu:LPq)(hl:l.length<=1000000)(hs:su.length=l.length) :
  ∃t s,lp (ha1 ⟨l,(l.length:Int)⟩) ⟨0,0,su,to,cu,0,[]⟩=(t,s)/\RLf l su to cu l.length s/\t=phL (sa9 l su l.length)+1:=by
 refine Fa0 (step:=ha1 ⟨l,(l.length:Int)⟩) (mk:=λ_ (s:u4)=>s) l.length (RLf l su to cu) (λt s=>RLf l su to cu l.length s/\t=phL (sa9 l su l.length)+1) (by omega)
  (λj s hj hi=>?_) (λj s hj hi=>?_) 0 _ ⟨Qlu _,rfl,rfl,rfl,rfl,rfl,rfl,rfl⟩
 ·obtain⟨_,h2,h3,h6,h7,h8,h4,h5⟩:=hi;obtain⟨ph,is6,c1,c2,c3,ns5,eh0⟩:=s
  simp only at h2 h3 h4 h5 h6 h7 h8
  subst h2 h3 h4 h5 h6 h7 h8;have hw1:W ((j:Int)+1)=((j+1:Nat):Int):=u7 hj (by omega)
  have hgx:inB (j:Int) l.length=true:=i9 hj;have hlen:=fe8 l c1 j;have hjs:j<c1.length:=by rw[hs];exact hj
  have hnx:∃s,ha1 ⟨l,(l.length:Int)⟩ ⟨phL (sa9 l c1 j),(j:Int),c1,c2,c3,(sa9 l c1 j).length,bL tLq (sa9 l c1 j)⟩=.next s/\RLf l c1 c2 c3 (j+1) s:=by
   have hm:=Ue1 l c1 j
   rcases da0 (sa9 l c1 j) with⟨h0,hn⟩|h1
   ·rw[h0];refine⟨⟨phL (sa9 l c1 (j+1)),((j+1:Nat):Int),c1,c2,c3,(sa9 l c1 (j+1)).length,bL tLq (sa9 l c1 (j+1))⟩,?_,⟨hj,rfl,rfl,rfl,rfl,rfl,rfl,rfl⟩⟩;show N1 Stp.next Stp.exit Stp.fail _ _=_;simp only[N1,Int.toNat_natCast,j8,l8,Qlb,Ie4 hjs,hw1,hgx,g9];rw[btD (o6 hj),hm,hn,bt (show Nat.beq 1 1=true from rfl)]
    cases gL tB c1 j<;>rfl
   ·rw[h1];refine⟨⟨phL (sa9 l c1 (j+1)),((j+1:Nat):Int),c1,c2,c3,(sa9 l c1 (j+1)).length,bL tLq (sa9 l c1 (j+1))⟩,?_,⟨hj,rfl,rfl,rfl,rfl,rfl,rfl,rfl⟩⟩;show N2 Stp.next Stp.exit Stp.fail _ _=_;simp only[N2,Int.toNat_natCast,j8,l8,Qlb,Ie4 hjs,hw1,hgx,g9];rw[btD (o6 hj),hm,bt (show Nat.beq 1 1=true from rfl),bt (qe9 _ (by omega)),bf8]
    cases gL tB c1 j with
    |true =>
     simp only[Bool.not_true,w6,if_true,List.append_nil,h1]
    |false =>
     simp only[Bool.not_false,g9,Qls,if_false,Xb2,Qla,List.length_singleton]
  obtain⟨s,e1,e2⟩:=hnx;rw[e1];exact .nx ⟨s,rfl,e2⟩
 ·have hje:j=l.length:=by have:=hi.le;omega
  subst hje;have hi':=hi;obtain⟨_,h2,h3,h6,h7,h8,h4,h5⟩:=hi;obtain⟨ph,is6,c1,c2,c3,ns5,eh0⟩:=s
  simp only at h2 h3 h4 h5 h6 h7 h8
  subst h2 h3 h4 h5 h6 h7 h8
  rcases da0 (sa9 l c1 l.length) with⟨h0,hn⟩|h1
  ·refine⟨1,?_,hi',by rw[h0]⟩
   rw[h0];show N1 Stp.next Stp.exit Stp.fail _ _=_;simp only[N1];rw[bfD (B0 (Qle _))]
  ·refine⟨2,?_,hi',by rw[h1]⟩
   rw[h1];show N2 Stp.next Stp.exit Stp.fail _ _=_;simp only[N2];rw[bfD (B0 (Qle _))]
theorem Ef2(l:LPq)(su to:List Bool)(cu:LPq)(hl:l.length<=1000000)(hs:su.length=l.length) :
  (sa9 l su l.length=[]/\sa5 ⟨l,su,to,cu⟩=⟨1,su,to,cu,0,[]⟩)\/(sa9 l su l.length≠[]/\sa5 ⟨l,su,to,cu⟩=⟨2,su,to,cu,(sa9 l su l.length).length,bL tLq (sa9 l su l.length)⟩):=by
 obtain⟨t,s,h1,h2,h3⟩:=Ue2 l su to cu hl hs;unfold sa5 ia6;simp only[j8,l8,Qlb,g9,h1,h2.c1,h2.c2,h2.c3]
 rcases da0 (sa9 l su l.length) with⟨hz,hnl⟩|hp1
 ·rw[h3,hz];exact .inl ⟨hnl,rfl⟩
 ·rw[h3,hp1,h2.n,h2.e];exact .inr ⟨λe=>(by rw[e] at hp1;cases hp1),rfl⟩
def Ie5(x:Prt)(y:Pce):LPq:=if (Tb9 x y != 0)=true then [] else sa9 x.cl y.su x.cl.length
theorem df3{x:Prt}{y:Pce}(hx:Jok x)(hy:Pok y)(hxn:∀q∈x.cl,q≠[]):Rd (one (r1L tLq)) (rb0 x y) (λr=>r=Ie5 x y):=by
 have n11:Nat.beq 1 1=true:=rfl;have n21:Nat.beq 2 1=false:=rfl;have n22:Nat.beq 2 2=true:=rfl;have hj:Jok ⟨x.nm,x.cl,x.wt⟩:=⟨hx.cl,hx.wt,hx.pl⟩;have hp:Pok ⟨y.su,y.to,y.cu⟩:=⟨hy.su,hy.to,hy.cu,hy.cl⟩;have f1:=Pd3 hj hp;have f2:=Pd4 hj hp;unfold rb0 Ie5;simp only[j8,w7,l8,Qlb,g9,f1,f2];rw[show Tb9 ⟨x.nm,x.cl,x.wt⟩ ⟨y.su,y.to,y.cu⟩=Tb9 x y from rfl]
 cases hf:(Tb9 x y != 0) with
 |true=>rw[g9,if_pos rfl];exact⟨_,[],rfl,Xf3 _,rfl⟩
 |false =>
  rw[w6,if_neg (show ¬ false=true by decide)]
  obtain⟨_,hs,_⟩:=Qd0 (by simpa using hf)
  have k4:pa4 []=[]:=fd8 (l:=[]) (by simp) (by simp) (by simp)
  have k5:ga9 []=true:=fd9 (l:=[]) (by simp) (by simp) (by simp)
  rcases Ef2 x.cl y.su y.to y.cu hx.cl hs with⟨h0,h1⟩|⟨h0,h1⟩
  ·rw[h1,h0];simp only[n11,g9,k4,k5];exact⟨_,[],rfl,yf9 tLq [],rfl⟩
  ·have hl:=fe8 x.cl y.su x.cl.length;have hlc:=hx.cl;have k6:=fd8 (l:=sa9 x.cl y.su x.cl.length) (by omega) (λq hq=>hx.pl q (Jc6 (Qlo _) hq)) (λq hq=>hxn q (Jc6 (Qlo _) hq))
   have k7:=fd9 (l:=sa9 x.cl y.su x.cl.length) (by omega) (λq hq=>hx.pl q (Jc6 (Qlo _) hq)) (λq hq=>hxn q (Jc6 (Qlo _) hq))
   rw[h1];simp only[n21,n22,g9,w6,nf3 tLq (sa9 x.cl y.su x.cl.length) rfl,Te4 tLq (sa9 x.cl y.su x.cl.length) rfl,k6,k7];exact⟨_,_,rfl,yf9 tLq _,rfl⟩
theorem Ef3{x:Prt}{y:Pce}(hx:Jok x)(hy:Pok y)(hxn:∀q∈x.cl,q≠[]):Kb5 x y=Ie5 x y:=(df3 hx hy hxn).p
theorem Ef4{x:Prt}{y:Pce}(hx:Jok x)(hy:Pok y)(hxn:∀q∈x.cl,q≠[]):Kb6 x y=true:=(df3 hx hy hxn).g
def gd3(x:Prt)(y:Pce)(k:Nat):Bool:=gL tI x.wt k==1&&!qb5 (gL tLq x.cl k) y.cu
def pd8(x:Prt)(y:Pce)(k:Nat):Bool:=gL tI x.wt k==1&&gL tB y.to k
def zd8(x:Prt)(y:Pce)(k:Nat):Bool:=gL tI x.wt k==2&&!gL tB y.su k
def Ie6(x:Prt)(y:Pce):Int:=if (Tb9 x y != 0)=true then Tb9 x y else if (List.range x.cl.length).any (gd3 x y)=true then 35
 else if (List.range x.cl.length).any (pd8 x y)=true then 30 else if (List.range x.cl.length).any (zd8 x y)=true then 34 else 0
theorem nf5{x:Prt}{y:Pce}(hx:Jok x)(hy:Pok y){k:Nat}(hk:k<x.cl.length)(hw:x.wt.length=x.cl.length):Ca8 ⟨x.nm,x.cl,x.wt,y.su,y.to,y.cu,(k:Int)⟩=⟨1,gd3 x y k⟩:=by
 have hc:=hx.pl _ (X7 tLq hk);unfold Ca8 da3 gd3;simp only[Int.toNat_natCast,j8,w7,ed6 hc hy.cu hy.cl,ed7 hc hy.cu hy.cl,g9];rw[bt (i9 (show k<x.wt.length by omega)),bt (i9 hk)]
 cases gL tI x.wt k==1<;>rfl
theorem nf6{x:Prt}{y:Pce}{k:Nat}(hk:k<x.cl.length)(hw:x.wt.length=x.cl.length)(ht:y.to.length=x.cl.length):Da1 ⟨x.nm,x.cl,x.wt,y.su,y.to,y.cu,(k:Int)⟩=⟨1,pd8 x y k⟩:=by
 unfold Da1 da4 pd8;simp only[Int.toNat_natCast];rw[bt (i9 (show k<x.wt.length by omega)),bt (i9 (show k<y.to.length by omega))]
 cases gL tI x.wt k==1<;>rfl
theorem Ef5{x:Prt}{y:Pce}{k:Nat}(hk:k<x.cl.length)(hw:x.wt.length=x.cl.length)(ht:y.su.length=x.cl.length):Ma4 ⟨x.nm,x.cl,x.wt,y.su,y.to,y.cu,(k:Int)⟩=⟨1,zd8 x y k⟩:=by
 unfold Ma4 ma6 zd8;simp only[Int.toNat_natCast];rw[bt (i9 (show k<x.wt.length by omega)),bt (i9 (show k<y.su.length by omega))]
 cases gL tI x.wt k==2<;>rfl
def VP(x:Prt)(y:Pce):E0:=⟨(x.cl.length:Int),x.nm,x.cl,x.wt,x.nm,x.cl,x.wt,y.su,y.to,y.cu,x.nm,x.cl,x.wt,y.su,y.to,y.cu,x.nm,x.cl,x.wt,y.su,y.to,y.cu,x.nm,x.cl,x.wt,y.su,y.to,y.cu⟩
theorem Sf1{x:Prt}{y:Pce}(hx:Jok x)(hy:Pok y)(hw:x.wt.length=x.cl.length):∃k,lp (K6 (VP x y)) ⟨0,0⟩=(if (List.range x.cl.length).any (gd3 x y)=true then 1 else 2,(⟨0,((k:Nat):Int)⟩:o7)):=by
 have hxc:=hx.cl;exact Uc3 (step:=K6 (VP x y)) (mk:=λk=>(⟨0,(k:Int)⟩:o7)) x.cl.length (gd3 x y) 1 2 (by omega)
  (λj hj=>by
   unfold VP;show X8 Stp.next Stp.exit Stp.fail _ _=_;simp only[X8,j8,l8,Qlb,nf5 hx hy hj hw,u7 hj (show x.cl.length<=4611686018427387904 by omega),g9]
   rw[btD (o6 hj),bt (show Nat.beq 1 1=true from rfl)])
  (by
   unfold VP;show X8 Stp.next Stp.exit Stp.fail _ _=_;simp only[X8];rw[bfD (B0 (Qle _))])
theorem Sf2{x:Prt}{y:Pce}(hx:Jok x)(hw:x.wt.length=x.cl.length)(ht:y.to.length=x.cl.length):∃k,lp (K6 (VP x y)) ⟨1,0⟩=(if (List.range x.cl.length).any (pd8 x y)=true then 3 else 4,(⟨1,((k:Nat):Int)⟩:o7)):=by
 have hxc:=hx.cl;exact Uc3 (step:=K6 (VP x y)) (mk:=λk=>(⟨1,(k:Int)⟩:o7)) x.cl.length (pd8 x y) 3 4 (by omega)
  (λj hj=>by
   unfold VP;show X9 Stp.next Stp.exit Stp.fail _ _=_;simp only[X9,j8,l8,Qlb,nf6 hj hw ht,u7 hj (show x.cl.length<=4611686018427387904 by omega),g9]
   rw[btD (o6 hj),bt (show Nat.beq 1 1=true from rfl)])
  (by
   unfold VP;show X9 Stp.next Stp.exit Stp.fail _ _=_;simp only[X9];rw[bfD (B0 (Qle _))])
theorem Sf3{x:Prt}{y:Pce}(hx:Jok x)(hw:x.wt.length=x.cl.length)(ht:y.su.length=x.cl.length):∃k,lp (K6 (VP x y)) ⟨2,0⟩=(if (List.range x.cl.length).any (zd8 x y)=true then 5 else 6,(⟨2,((k:Nat):Int)⟩:o7)):=by
 have hxc:=hx.cl;exact Uc3 (step:=K6 (VP x y)) (mk:=λk=>(⟨2,(k:Int)⟩:o7)) x.cl.length (zd8 x y) 5 6 (by omega)
  (λj hj=>by
   unfold VP;show Y0 Stp.next Stp.exit Stp.fail _ _=_;simp only[Y0,j8,l8,Qlb,Ef5 hj hw ht,u7 hj (show x.cl.length<=4611686018427387904 by omega),g9]
   rw[btD (o6 hj),bt (show Nat.beq 1 1=true from rfl)])
  (by
   unfold VP;show Y0 Stp.next Stp.exit Stp.fail _ _=_;simp only[Y0];rw[bfD (B0 (Qle _))])
def VS(x:Prt)(y:Pce)(n:Nat):s4:=⟨n,x.cl,x.wt,x.cl,x.wt,y.su,y.to,y.cu,x.cl,x.wt,y.su,y.to,y.cu,x.cl,x.wt,y.su,y.to,y.cu⟩
theorem gg4{x:Prt}{y:Pce}(hx:Jok x)(hy:Pok y)(hw:x.wt.length=x.cl.length)(hs:y.su.length=x.cl.length)(ht:y.to.length=x.cl.length) :
  (lp (ba8 ⟨x.nm,x.nm,x.nm,x.nm⟩) (VS x y 0)).1=if (List.range x.cl.length).any (gd3 x y)=true then 1
   else if (List.range x.cl.length).any (pd8 x y)=true then 2 else if (List.range x.cl.length).any (zd8 x y)=true then 3 else 4:=by
 obtain⟨k0,h0⟩:=Sf1 hx hy hw;obtain⟨k1,h1⟩:=Sf2 (y:=y) hx hw ht;obtain⟨k2,h2⟩:=Sf3 (y:=y) hx hw hs;unfold VP at h0 h1 h2;have q:∀n:Nat,Nat.beq n n=true:=λn=>Qlt n
 refine nc1 (step := ba8 ⟨x.nm, x.nm, x.nm, x.nm⟩) (I := fun m s => (m = 3 ∧ s = VS x y 0) ∨ (m = 2 ∧ s = VS x y 1 ∧ (List.range x.cl.length).any (gd3 x y) = false) ∨ (m = 1 ∧ s = VS x y 2 ∧ (List.range x.cl.length).any (gd3 x y) = false ∧ (List.range x.cl.length).any (pd8 x y) = false) ∨
   (m=0/\s=VS x y 3/\(List.range x.cl.length).any (gd3 x y)=false/\(List.range x.cl.length).any (pd8 x y)=false/\(List.range x.cl.length).any (zd8 x y)=false))
  (Q:=λt _=>t=if (List.range x.cl.length).any (gd3 x y)=true then 1 else if (List.range x.cl.length).any (pd8 x y)=true then 2 else if (List.range x.cl.length).any (zd8 x y)=true then 3 else 4)
  (λm s hi=>?_) 3 (VS x y 0) (by decide) (.inl ⟨rfl,rfl⟩)
 rcases hi with⟨rfl,rfl⟩|⟨rfl,rfl,e0⟩|⟨rfl,rfl,e0,e1⟩|⟨rfl,rfl,e0,e1,e2⟩
 ·have hst : ba8 ⟨x.nm, x.nm, x.nm, x.nm⟩ (VS x y 0) = sl ((List.range x.cl.length).any (gd3 x y)) (.exit 1) (.next (VS x y 1)) := by
   unfold VS;show sa6 Stp.next Stp.exit Stp.fail _ _=_;simp only[sa6,j8,l8,Qlb,g9,h0];cases (List.range x.cl.length).any (gd3 x y)<;>rfl
  rw[hst];cases e0:(List.range x.cl.length).any (gd3 x y) with
  |true=>exact .inl ⟨1,rfl,by rw[if_pos rfl]⟩
  |false=>exact .inr ⟨_,2,rfl,rfl,.inr (.inl ⟨rfl,rfl,rfl⟩)⟩
 ·have hst : ba8 ⟨x.nm, x.nm, x.nm, x.nm⟩ (VS x y 1) = sl ((List.range x.cl.length).any (pd8 x y)) (.exit 2) (.next (VS x y 2)) := by
   unfold VS;show sa7 Stp.next Stp.exit Stp.fail _ _=_;simp only[sa7,j8,l8,Qlb,g9,h1];cases (List.range x.cl.length).any (pd8 x y)<;>rfl
  rw[hst,e0];cases e1:(List.range x.cl.length).any (pd8 x y) with
  |true=>exact .inl ⟨2,rfl,by rw[if_neg (by decide),if_pos rfl]⟩
  |false=>exact .inr ⟨_,1,rfl,rfl,.inr (.inr (.inl ⟨rfl,rfl,rfl,rfl⟩))⟩
 ·have hst : ba8 ⟨x.nm, x.nm, x.nm, x.nm⟩ (VS x y 2) = sl ((List.range x.cl.length).any (zd8 x y)) (.exit 3) (.next (VS x y 3)) := by
   unfold VS;show sa8 Stp.next Stp.exit Stp.fail _ _=_;simp only[sa8,j8,l8,Qlb,g9,h2];cases (List.range x.cl.length).any (zd8 x y)<;>rfl
  rw[hst,e0,e1];cases e2:(List.range x.cl.length).any (zd8 x y) with
  |true=>exact .inl ⟨3,rfl,by rw[if_neg (by decide),if_neg (by decide),if_pos rfl]⟩
  |false=>exact .inr ⟨_,0,rfl,rfl,.inr (.inr (.inr ⟨rfl,rfl,rfl,rfl,rfl⟩))⟩
 ·refine .inl ⟨4,rfl,?_⟩;rw[e0,e1,e2];rfl
theorem Qd3{x:Prt}{y:Pce}(hx:Jok x)(hy:Pok y):Qa4 x y=some (i (Ie6 x y),[]):=by
 have hj:Jok ⟨x.nm,x.cl,x.wt⟩:=⟨hx.cl,hx.wt,hx.pl⟩;have hp:Pok ⟨y.su,y.to,y.cu⟩:=⟨hy.su,hy.to,hy.cu,hy.cl⟩;have f1:=Pd3 hj hp;have f2:=Pd4 hj hp;unfold Qa4 Ie6;simp only[j8,w7,l8,Qlb,g9,f1,f2];rw[show Tb9 ⟨x.nm,x.cl,x.wt⟩ ⟨y.su,y.to,y.cu⟩=Tb9 x y from rfl]
 cases hf:(Tb9 x y != 0) with
 |true=>rfl
 |false =>
  rw[w6,if_neg (show ¬ false=true by decide)]
  obtain⟨hx0,hs,ht,_⟩:=Qd0 (by simpa using hf)
  obtain⟨_,_,hw,_⟩:=fe7 hx0;have h:=gg4 hx hy hw hs ht;unfold VS at h;rw[h];cases (List.range x.cl.length).any (gd3 x y)<;>cases (List.range x.cl.length).any (pd8 x y)<;>cases (List.range x.cl.length).any (zd8 x y)<;>rfl
theorem hc9{x:Prt}{y:Pce}(hx:Jok x)(hy:Pok y):ja3 x y=Ie6 x y:=by unfold ja3;rw[Qd3 hx hy];rfl
theorem ic0{x:Prt}{y:Pce}(hx:Jok x)(hy:Pok y):Q7 x y=true:=by unfold Q7;rw[Qd3 hx hy];rfl
def Ec4:List (Nat×Sum):=[(43,sc1),(36,mc5),(67,Tc1),(40,Sc6)]
theorem re6:j9 prog G Ec4:=⟨md1,Bc3,td2,sd9,trivial⟩
structure va3 where
 is7:Int
 bs8:Bool
 L9:Int
 K9:ByteArray
 (ge0 ge1:List Int)
 hd4:ByteArray
structure P6 where
 ph:Nat
 (is9 A3:Int)
 G0:List Int
 Z0:Int
 ba4:Nat
 eh4:List (List d7)
def Ec5(p:va3)(s:P6):St:=⟨.unk::.unk::.ptr 0 0 0 0::.ptr 1 0 0 0::.unk::.ptr 2 0 0 0::.ptr 3 0 0 0::i p.is7::b p.bs8::i s.is9::i p.L9::i s.A3::ra 161 [],[⟨0,3,[[.v (.string p.K9),.v (.slice none 0 0),.v (.slice none 0 0)]],true,false,0⟩,⟨0,2,[[eL tI p.ge0,eL tI p.ge1]],true,false,0⟩,⟨0,2,[[eL tI s.G0,i s.Z0]],true,false,0⟩,⟨0,0,[[.v (.string p.hd4),.v (.slice none 0 0),.v (.slice none 0 0)]],true,false,0⟩]⟩
def Ec6(p:va3)(s:P6):St:=⟨.unk::.unk::.ptr 0 0 0 0::.ptr 1 0 0 0::.unk::.ptr 2 0 0 0::.ptr 3 0 0 0::i p.is7::b p.bs8::i s.is9::i p.L9::i s.A3::ra 161 [],[⟨0,3,[[.v (.string p.K9),.v (.slice none 0 0),.v (.slice none 0 0)]],true,false,0⟩,⟨0,2,[[eL tI p.ge0,eL tI p.ge1]],true,false,0⟩,⟨0,2,[[eL tI s.G0,i s.Z0]],true,false,0⟩,⟨0,0,[[.v (.string p.hd4),.sl 4 0 s.ba4 0,.v (.slice none 0 0)]],true,false,0⟩,⟨35,1,s.eh4,true,false,0⟩]⟩
def Wd9(p:va3)(s:P6):St:=(sel (Nat.beq s.ph 1) (Ec6 p s) (Ec5 p s))
def ha2{α:Type}(k:P6->α)(e:Nat->α)(z:α)(p:va3)(s:P6):α:=let y1:=(rt tI s.G0);let t1:=(A4 ⟨4,y1,s.Z0⟩);let y0:=(W (s.is9+(W (1+t1.is0))));let t2:=(La5 (⟨s.is9,0,0⟩:V3) (⟨y0,3,p.L9⟩:V3));let t3:=(La5 (⟨s.is9,3,0⟩:V3) (⟨y0,6,p.L9⟩:V3));(sl (decide (s.A3<p.is7)) (sl ((cnE tI s.G0)&&true) (sl (Nat.beq t1.alt 1) (sl p.bs8 (k ⟨1,y0,W (s.A3+1),y1,t1.m8,2,[[(.tree 4 6 (λk=>g8 [[i 1,i 0,i 0,i t2.v8],[i (-1),i 0,i 0,i t2.rb9],[i 0,i 1,i 0,i t2.sb0],[i 0,i (-1),i 0,i t2.sb1],[i 0,i 0,i 1,i t2.sb2],[i 0,i 0,i (-1),i t2.sb3]] (0+k)))],[(.tree 4 6 (λk=>g8 [[i 1,i 0,i 0,i t3.v8],[i (-1),i 0,i 0,i t3.rb9],[i 0,i 1,i 0,i t3.sb0],[i 0,i (-1),i 0,i t3.sb1],[i 0,i 0,i 1,i t3.sb2],[i 0,i 0,i (-1),i t3.sb3]] (0+k)))]]⟩) (k ⟨1,y0,W (s.A3+1),y1,t1.m8,1,[[(.tree 4 6 (λk=>g8 [[i 1,i 0,i 0,i t2.v8],[i (-1),i 0,i 0,i t2.rb9],[i 0,i 1,i 0,i t2.sb0],[i 0,i (-1),i 0,i t2.sb1],[i 0,i 0,i 1,i t2.sb2],[i 0,i 0,i (-1),i t2.sb3]] (0+k)))]]⟩)) z) z) (e 1))
def ha3{α:Type}(k:P6->α)(e:Nat->α)(z:α)(p:va3)(s:P6):α:=let y1:=(rt tI s.G0);let t1:=(A4 ⟨4,y1,s.Z0⟩);let y0:=(W (s.is9+(W (1+t1.is0))));let t2:=(La5 (⟨s.is9,0,0⟩:V3) (⟨y0,3,p.L9⟩:V3));let t3:=(La5 (⟨s.is9,3,0⟩:V3) (⟨y0,6,p.L9⟩:V3));(sl (decide (s.A3<p.is7)) (sl ((cnE tI s.G0)&&true) (sl (Nat.beq t1.alt 1) (sl (Nat.beq s.ba4 (len s.eh4)&&Nat.ble ((s.ba4+1)*24) room) (sl p.bs8 (sl (Nat.beq (s.ba4+1) (len (app s.eh4 [[(.tree 4 6 (λk=>g8 [[i 1,i 0,i 0,i t2.v8],[i (-1),i 0,i 0,i t2.rb9],[i 0,i 1,i 0,i t2.sb0],[i 0,i (-1),i 0,i t2.sb1],[i 0,i 0,i 1,i t2.sb2],[i 0,i 0,i (-1),i t2.sb3]] (0+k)))]]))&&Nat.ble (((s.ba4+1)+1)*24) room) (k ⟨1,y0,W (s.A3+1),y1,t1.m8,(s.ba4+1)+1,(app (app s.eh4 [[(.tree 4 6 (λk=>g8 [[i 1,i 0,i 0,i t2.v8],[i (-1),i 0,i 0,i t2.rb9],[i 0,i 1,i 0,i t2.sb0],[i 0,i (-1),i 0,i t2.sb1],[i 0,i 0,i 1,i t2.sb2],[i 0,i 0,i (-1),i t2.sb3]] (0+k)))]]) [[(.tree 4 6 (λk=>g8 [[i 1,i 0,i 0,i t3.v8],[i (-1),i 0,i 0,i t3.rb9],[i 0,i 1,i 0,i t3.sb0],[i 0,i (-1),i 0,i t3.sb1],[i 0,i 0,i 1,i t3.sb2],[i 0,i 0,i (-1),i t3.sb3]] (0+k)))]])⟩) z) (k ⟨1,y0,W (s.A3+1),y1,t1.m8,s.ba4+1,(app s.eh4 [[(.tree 4 6 (λk=>g8 [[i 1,i 0,i 0,i t2.v8],[i (-1),i 0,i 0,i t2.rb9],[i 0,i 1,i 0,i t2.sb0],[i 0,i (-1),i 0,i t2.sb1],[i 0,i 0,i 1,i t2.sb2],[i 0,i 0,i (-1),i t2.sb3]] (0+k)))]])⟩)) z) z) z) (e 2))
def ea4(p:va3)(s:P6):Stp P6:=(sel (Nat.beq s.ph 1) (ha3 .next .exit .fail p s) (ha2 .next .exit .fail p s))
def pc3:Lo va3 P6:=⟨En Ec4,0,bg6,[1,1,1,1,1,1,1,1,1,0,1,4,4],[2,3,5,6,7,8,9,10,11],.p,[⟨sUq::sUq::sPq 0::sPq 1::sUq::sPq 2::sPq 3::sIq::sBq::sIq::sIq::sIq::ru2 161 [],[⟨0,3,true,some [[.o .val,.o .nil,.o .nil]]⟩,⟨0,2,true,some [[.c 1 (nL tI),.c 1 (nL tI)]]⟩,⟨0,2,true,some [[.c 1 (nL tI),.o (.int .i64)]]⟩,⟨0,0,true,some [[.o .val,.o .nil,.o .nil]]⟩],λa H=>(⟨aIq a 7,aBq a 8,aIq a 10,ca2 (slT (rwT (elT H 0) 0) 0),hLq tI H 1 0 0,hLq tI H 1 0 1,ca2 (slT (rwT (elT H 3) 0) 0)⟩,⟨0,aIq a 9,aIq a 11,hLq tI H 2 0 0,hIq H 2 0 1,0,[]⟩)⟩,⟨sUq::sUq::sPq 0::sPq 1::sUq::sPq 2::sPq 3::sIq::sBq::sIq::sIq::sIq::ru2 161 [],[⟨0,3,true,some [[.o .val,.o .nil,.o .nil]]⟩,⟨0,2,true,some [[.c 1 (nL tI),.c 1 (nL tI)]]⟩,⟨0,2,true,some [[.c 1 (nL tI),.o (.int .i64)]]⟩,⟨0,0,true,some [[.o .val,.o (.sl 4 0 (some 0) none),.o .nil]]⟩,⟨35,1,true,none⟩],λa H=>(⟨aIq a 7,aBq a 8,aIq a 10,ca2 (slT (rwT (elT H 0) 0) 0),hLq tI H 1 0 0,hLq tI H 1 0 1,ca2 (slT (rwT (elT H 3) 0) 0)⟩,⟨1,aIq a 9,aIq a 11,hLq tI H 2 0 0,hIq H 2 0 1,slN (slT (rwT (elT H 3) 0) 1),elT H 4⟩)⟩],ea4,[(some 2,λp s=>upq (Ec5 p s) [(56,i s.A3),(57,i p.is7),(58,b (decide (s.A3<p.is7)))]),(some 2,λp s=>upq (Ec6 p s) [(56,i s.A3),(57,i p.is7),(58,b (decide (s.A3<p.is7)))])],Wd9⟩
theorem Xd0:pc3.OkM:=Lo.okM [] (by kernel_rfl) .nil rfl (.cons (λa H=>by kernel_rfl) (.cons (λa H=>by kernel_rfl) .nil)) λp s=>(.sel (Nat.beq s.ph 1) (.of @ha3 (λF _ _ _ _ _=>by unfold ha3;(repeat' apply k8 (f:=F))<;>rfl) (by kernel_rfl)) (.of @ha2 (λF _ _ _ _ _=>by unfold ha2;(repeat' apply k8 (f:=F))<;>rfl) (by kernel_rfl)))
structure T8 where
 (K9 ib3:ByteArray)
 P7:Nat
structure C4 where
 ph:Nat
 Qa5:Int
 G0:List Int
 Z0:Int
 eh3:List (List d7)
 Fa8:Nat
 eh4:List (List d7)
def Ec7(p:T8)(s:C4):St:=⟨.unk::.unk::.ptr 0 0 0 0::ra 3 (.ptr 1 0 0 0::ra 10 (.ptr 2 0 0 0::i s.Qa5::ra 154 [])),[⟨0,3,[[.v (.string p.K9),.v (.slice none 0 0),.v (.slice none 0 0)]],true,false,0⟩,⟨0,0,[[.v (.string p.ib3),.v (.slice none 0 0),.v (.slice none 0 0)]],true,false,0⟩,⟨0,2,[[eL tI s.G0,i s.Z0]],true,false,0⟩]⟩
def Ec8(p:T8)(s:C4):St:=⟨.unk::.unk::.ptr 0 0 0 0::ra 3 (.ptr 1 0 0 0::ra 10 (.ptr 2 0 0 0::i s.Qa5::ra 154 [])),[⟨0,3,[[.v (.string p.K9),.v (.slice none 0 0),.v (.slice none 0 0)]],true,false,0⟩,⟨0,0,[[.v (.string p.ib3),.sl 3 0 p.P7 0,.v (.slice none 0 0)]],true,false,0⟩,⟨0,2,[[eL tI s.G0,i s.Z0]],true,false,0⟩,⟨35,1,s.eh3,true,false,0⟩]⟩
def Ec9(p:T8)(s:C4):St:=⟨.unk::.unk::.ptr 0 0 0 0::ra 3 (.ptr 1 0 0 0::ra 10 (.ptr 2 0 0 0::i s.Qa5::ra 154 [])),[⟨0,3,[[.v (.string p.K9),.v (.slice none 0 0),.v (.slice none 0 0)]],true,false,0⟩,⟨0,0,[[.v (.string p.ib3),.sl 3 0 p.P7 0,.sl 4 0 s.Fa8 0]],true,false,0⟩,⟨0,2,[[eL tI s.G0,i s.Z0]],true,false,0⟩,⟨35,1,s.eh3,true,false,0⟩,⟨3,1,s.eh4,true,false,0⟩]⟩
def Fc0(p:T8)(s:C4):St:=⟨.unk::.unk::.ptr 0 0 0 0::ra 3 (.ptr 1 0 0 0::ra 10 (.ptr 2 0 0 0::i s.Qa5::ra 154 [])),[⟨0,3,[[.v (.string p.K9),.v (.slice none 0 0),.v (.slice none 0 0)]],true,false,0⟩,⟨0,0,[[.v (.string p.ib3),.v (.slice none 0 0),.sl 3 0 s.Fa8 0]],true,false,0⟩,⟨0,2,[[eL tI s.G0,i s.Z0]],true,false,0⟩,⟨3,1,s.eh3,true,false,0⟩]⟩
def Xd1(p:T8)(s:C4):St:=(sel (Nat.beq s.ph 3) (Fc0 p s) (sel (Nat.beq s.ph 2) (Ec9 p s) (sel (Nat.beq s.ph 1) (Ec8 p s) (Ec7 p s))))
def Rb3{α:Type}(k:C4->α)(e:Nat->α)(z:α)(p:T8)(s:C4):α:=let t1:=(A4 ⟨4,rt tI s.G0,s.Z0⟩);let y0:=(g8 [[i 2],[i 1],[i 3],[i 2]] (0+t1.is0.toNat));(sl (decide (s.Qa5<0)) (sl ((cnE tI s.G0)&&true) (sl (Nat.beq t1.alt 1) (sl (inB t1.is0 4) (sl ((Nat.ble 1 (len y0))&&(ra7 [CK.int .i64] y0)) (k ⟨3,W (s.Qa5+1),rt tI s.G0,t1.m8,[[i (toI (hdA y0))]],1,[]⟩) z) z) z) z) (e 1))
def Ya7{α:Type}(k:C4->α)(e:Nat->α)(z:α)(p:T8)(s:C4):α:=let t1:=(A4 ⟨4,rt tI s.G0,s.Z0⟩);let y0:=(g8 [[i 2],[i 1],[i 3],[i 2]] (0+t1.is0.toNat));(sl (decide (s.Qa5<(↑p.P7:Int))) (sl ((cnE tI s.G0)&&true) (sl (Nat.beq t1.alt 1) (sl (inB t1.is0 4) (sl ((Nat.ble 1 (len y0))&&(ra7 [CK.int .i64] y0)) (k ⟨2,W (s.Qa5+1),rt tI s.G0,t1.m8,s.eh3,1,[[i (toI (hdA y0))]]⟩) z) z) z) z) (e 2))
def xa8{α:Type}(k:C4->α)(e:Nat->α)(z:α)(p:T8)(s:C4):α:=let t1:=(A4 ⟨4,rt tI s.G0,s.Z0⟩);let y0:=(g8 [[i 2],[i 1],[i 3],[i 2]] (0+t1.is0.toNat));(sl (decide (s.Qa5<(↑p.P7:Int))) (sl ((cnE tI s.G0)&&true) (sl (Nat.beq t1.alt 1) (sl (inB t1.is0 4) (sl ((Nat.ble 1 (len y0))&&(ra7 [CK.int .i64] y0)) (sl (Nat.beq s.Fa8 (len s.eh4)&&Nat.ble ((s.Fa8+1)*8) room) (k ⟨2,W (s.Qa5+1),rt tI s.G0,t1.m8,s.eh3,s.Fa8+1,app s.eh4 [[i (toI (hdA y0))]]⟩) z) z) z) z) z) (e 3))
def Rb4{α:Type}(k:C4->α)(e:Nat->α)(z:α)(p:T8)(s:C4):α:=let t1:=(A4 ⟨4,rt tI s.G0,s.Z0⟩);let y0:=(g8 [[i 2],[i 1],[i 3],[i 2]] (0+t1.is0.toNat));(sl (decide (s.Qa5<0)) (sl ((cnE tI s.G0)&&true) (sl (Nat.beq t1.alt 1) (sl (inB t1.is0 4) (sl ((Nat.ble 1 (len y0))&&(ra7 [CK.int .i64] y0)) (sl (Nat.beq s.Fa8 (len s.eh3)&&Nat.ble ((s.Fa8+1)*8) room) (k ⟨3,W (s.Qa5+1),rt tI s.G0,t1.m8,app s.eh3 [[i (toI (hdA y0))]],s.Fa8+1,[]⟩) z) z) z) z) z) (e 4))
def oa3(p:T8)(s:C4):Stp C4:=(sel (Nat.beq s.ph 3) (Rb4 .next .exit .fail p s) (sel (Nat.beq s.ph 2) (xa8 .next .exit .fail p s) (sel (Nat.beq s.ph 1) (Ya7 .next .exit .fail p s) (Rb3 .next .exit .fail p s))))
def pc4:Lo T8 C4:=⟨En Ec4,0,bg6,[1,1,1,1,1,1,1,1,1,1,1,1,0,1,4,4],[2,6,17,18],.p,[⟨sUq::sUq::sPq 0::ru2 3 (sPq 1::ru2 10 (sPq 2::sIq::ru2 154 [])),[⟨0,3,true,some [[.o .val,.o .nil,.o .nil]]⟩,⟨0,0,true,some [[.o .val,.o .nil,.o .nil]]⟩,⟨0,2,true,some [[.c 1 (nL tI),.o (.int .i64)]]⟩],λa H=>(⟨ca2 (slT (rwT (elT H 0) 0) 0),ca2 (slT (rwT (elT H 1) 0) 0),0⟩,⟨0,aIq a 18,hLq tI H 2 0 0,hIq H 2 0 1,[],0,[]⟩)⟩,⟨sUq::sUq::sPq 0::ru2 3 (sPq 1::ru2 10 (sPq 2::sIq::ru2 154 [])),[⟨0,3,true,some [[.o .val,.o .nil,.o .nil]]⟩,⟨0,0,true,some [[.o .val,.o (.sl 3 0 (some 0) none),.o .nil]]⟩,⟨0,2,true,some [[.c 1 (nL tI),.o (.int .i64)]]⟩,⟨35,1,true,none⟩],λa H=>(⟨ca2 (slT (rwT (elT H 0) 0) 0),ca2 (slT (rwT (elT H 1) 0) 0),slN (slT (rwT (elT H 1) 0) 1)⟩,⟨1,aIq a 18,hLq tI H 2 0 0,hIq H 2 0 1,elT H 3,0,[]⟩)⟩,⟨sUq::sUq::sPq 0::ru2 3 (sPq 1::ru2 10 (sPq 2::sIq::ru2 154 [])),[⟨0,3,true,some [[.o .val,.o .nil,.o .nil]]⟩,⟨0,0,true,some [[.o .val,.o (.sl 3 0 (some 0) none),.o (.sl 4 0 (some 0) none)]]⟩,⟨0,2,true,some [[.c 1 (nL tI),.o (.int .i64)]]⟩,⟨35,1,true,none⟩,⟨3,1,true,none⟩],λa H=>(⟨ca2 (slT (rwT (elT H 0) 0) 0),ca2 (slT (rwT (elT H 1) 0) 0),slN (slT (rwT (elT H 1) 0) 1)⟩,⟨2,aIq a 18,hLq tI H 2 0 0,hIq H 2 0 1,elT H 3,slN (slT (rwT (elT H 1) 0) 2),elT H 4⟩)⟩,⟨sUq::sUq::sPq 0::ru2 3 (sPq 1::ru2 10 (sPq 2::sIq::ru2 154 [])),[⟨0,3,true,some [[.o .val,.o .nil,.o .nil]]⟩,⟨0,0,true,some [[.o .val,.o .nil,.o (.sl 3 0 (some 0) none)]]⟩,⟨0,2,true,some [[.c 1 (nL tI),.o (.int .i64)]]⟩,⟨3,1,true,none⟩],λa H=>(⟨ca2 (slT (rwT (elT H 0) 0) 0),ca2 (slT (rwT (elT H 1) 0) 0),0⟩,⟨3,aIq a 18,hLq tI H 2 0 0,hIq H 2 0 1,elT H 3,slN (slT (rwT (elT H 1) 0) 2),[]⟩)⟩],oa3,[(some 4,λp s=>upq (Ec7 p s) [(155,i s.Qa5),(156,.ptr 1 0 1 0),(157,.v (.slice none 0 0)),(158,i 0),(159,b (decide (s.Qa5<0)))]),(some 4,λp s=>upq (Ec8 p s) [(155,i s.Qa5),(156,.ptr 1 0 1 0),(157,.sl 3 0 p.P7 0),(158,i (↑p.P7:Int)),(159,b (decide (s.Qa5<(↑p.P7:Int))))]),(some 4,λp s=>upq (Ec9 p s) [(155,i s.Qa5),(156,.ptr 1 0 1 0),(157,.sl 3 0 p.P7 0),(158,i (↑p.P7:Int)),(159,b (decide (s.Qa5<(↑p.P7:Int))))]),(some 4,λp s=>upq (Fc0 p s) [(155,i s.Qa5),(156,.ptr 1 0 1 0),(157,.v (.slice none 0 0)),(158,i 0),(159,b (decide (s.Qa5<0)))])],Xd1⟩
theorem Xd2:pc4.OkM:=Lo.okM [] (by kernel_rfl) .nil rfl (.cons (λa H=>by kernel_rfl) (.cons (λa H=>by kernel_rfl) (.cons (λa H=>by kernel_rfl) (.cons (λa H=>by kernel_rfl) .nil)))) λp s=>(.sel (Nat.beq s.ph 3) (.of @Rb4 (λF _ _ _ _ _=>by unfold Rb4;(repeat' apply k8 (f:=F))<;>rfl) (by kernel_rfl)) (.sel (Nat.beq s.ph 2) (.of @xa8 (λF _ _ _ _ _=>by unfold xa8;(repeat' apply k8 (f:=F))<;>rfl) (by kernel_rfl)) (.sel (Nat.beq s.ph 1) (.of @Ya7 (λF _ _ _ _ _=>by unfold Ya7;(repeat' apply k8 (f:=F))<;>rfl) (by kernel_rfl)) (.of @Rb3 (λF _ _ _ _ _=>by unfold Rb3;(repeat' apply k8 (f:=F))<;>rfl) (by kernel_rfl)))))
def df4(x:L2)(t17:Nat×P6):ROq:=let y11:=((cnE tI t17.2.G0)&&true);let y10:=(rt tI (rt tI x.v));let y6:=(t17.2.ba4+1);let y5:=(rt tI t17.2.G0);let y3:=((.agg [(.v (.string ⟨#[112]⟩)),.v (.slice none 0 0),.v (.slice none 0 0)]),[]);let t9:=(lp (oa3 (⟨⟨#[]⟩,⟨#[112]⟩,0⟩:T8)) (⟨0,0,y10,0,[],0,[]⟩:C4));let a4:=((cnE tI (rt tI x.v))&&true);let t18:=(A4 ⟨4,y5,t17.2.Z0⟩);let t27:=(lp (oa3 (⟨⟨#[]⟩,⟨#[112]⟩,t17.2.ba4⟩:T8)) (⟨1,0,y10,0,t17.2.eh4,0,[]⟩:C4));let a3:=(λk=>g8 t27.2.eh3 (0+k));let a8:=(λk=>g8 t9.2.eh3 (0+k));let a11:=(rt tI y5);let t19:=(A4 ⟨0,a11,t18.m8⟩);let t20:=(A4 ⟨4,rt tI a11,t19.m8⟩);let t21:=(A4 ⟨(↑t17.2.ba4:Int),a11,t18.m8⟩);let y7:=(inB t21.is0 t17.2.ba4);let t22:=(A4 ⟨4,rt tI a11,t21.m8⟩);let t23:=(wb2 (⟨(⟨0,1,1⟩:V3),W (2+t22.is0)⟩:Pln));let a5:=(g8 t17.2.eh4 (0+t21.is0.toNat));let a0:=(o9 (toG (hdA (l4 a5 0))) (List.range (toN (hdA (l4 a5 0)))));let y8:=(Nat.beq 0 0&&Nat.ble ((0+(len a0))*32) room);let y2:=((0+(len a0))+1);let y4:=(Nat.beq (0+(len a0)) (len (app [] a0))&&Nat.ble (y2*32) room);let y1:=(app (app [] a0) [[i t23.n.x,i t23.n.y,i t23.n.z,i t23.b]]);let y0:=(app (app [] a0) [[i 0,i 1,i 1,i (W (2+t22.is0))]]);let t24:=(ub9 (slR tP y0 0 y2));let t25:=(ub9 (slR tP y1 0 y2));let t26:=(lp (oa3 (⟨⟨#[]⟩,⟨#[112]⟩,y6⟩:T8)) (⟨1,0,y10,0,(app (setAt t17.2.eh4 (0+t21.is0.toNat) (L0 a5 0 [(.tree 4 y2 (λk=>g8 y0 (0+k)))])) [[(.tree 4 y2 (λk=>g8 y1 (0+k)))]]),0,[]⟩:C4));let a9:=((Nat.blt (0+t21.is0.toNat) (len t17.2.eh4))&&(Nat.ble (0+1) (len a5)));let y9:=(a9&&(ra7 [CK.sl 4] (l4 a5 0)));let a14:=(λk=>g8 t27.2.eh4 (0+k));let w0:ROq:=(sl a4 (sl (Nat.beq t27.1 1) (some y3) (sl (Nat.beq t27.1 2) (some ((.agg [(.v (.string ⟨#[112]⟩)),.tree 1 t17.2.ba4 a3,.v (.slice none 0 0)]),[])) (sl (Nat.beq t27.1 3) (some ((.agg [(.v (.string ⟨#[112]⟩)),.tree 1 t17.2.ba4 a3,.tree 1 t27.2.Fa8 a14]),[])) (sl (Nat.beq t27.1 4) (some ((.agg [(.v (.string ⟨#[112]⟩)),.v (.slice none 0 0),.tree 1 t27.2.Fa8 a3]),[])) none)))) none);(sl (Nat.beq t17.1 1) (sl y11 (sl (Nat.beq t18.alt 1) (sl (t18.is0==3) (sl ((cnE tI y5)&&true) (sl (Nat.beq t19.alt 1) (sl ((cnE tI a11)&&true) (sl (Nat.beq t20.alt 1) none none) none) none) none) (sl a4 (sl (Nat.beq t9.1 1) (some y3) (sl (Nat.beq t9.1 2) (some ((.agg [(.v (.string ⟨#[112]⟩)),.tree 1 0 a8,.v (.slice none 0 0)]),[])) (sl (Nat.beq t9.1 3) (some ((.agg [(.v (.string ⟨#[112]⟩)),.tree 1 0 a8,(.tree 1 t9.2.Fa8 (λk=>g8 t9.2.eh4 (0+k)))]),[])) (sl (Nat.beq t9.1 4) (some ((.agg [(.v (.string ⟨#[112]⟩)),.v (.slice none 0 0),.tree 1 t9.2.Fa8 a8]),[])) none)))) none)) none) none) (sl (Nat.beq t17.1 2) (sl y11 (sl (Nat.beq t18.alt 1) (sl (t18.is0==3) (sl (decide ((↑t17.2.ba4:Int)<6)) (sl ((cnE tI y5)&&true) (sl (Nat.beq t21.alt 1) (sl ((cnE tI a11)&&true) (sl (Nat.beq t22.alt 1) (sl y7 (sl y9 (sl y8 (sl y4 (sl y7 (sl y9 (sl y8 (sl y4 (sl (okS tP y0 0 y2) (sl (vb0 (slR tP y0 0 y2)) (sl t24 (sl (okS tP y1 0 y2) (sl (vb0 (slR tP y1 0 y2)) (sl t25 (sl y7 (sl a9 (sl (Nat.beq t17.2.ba4 (len (setAt t17.2.eh4 (0+t21.is0.toNat) (L0 a5 0 [(.tree 4 y2 (λk=>g8 y0 (0+k)))])))&&Nat.ble (y6*24) room) (sl a4 (sl (Nat.beq t26.1 1) (some y3) (sl (Nat.beq t26.1 2) (some ((.agg [(.v (.string ⟨#[112]⟩)),(.tree 1 y6 (λk=>g8 t26.2.eh3 (0+k))),.v (.slice none 0 0)]),[])) (sl (Nat.beq t26.1 3) (some ((.agg [(.v (.string ⟨#[112]⟩)),(.tree 1 y6 (λk=>g8 t26.2.eh3 (0+k))),(.tree 1 t26.2.Fa8 (λk=>g8 t26.2.eh4 (0+k)))]),[])) (sl (Nat.beq t26.1 4) (some ((.agg [(.v (.string ⟨#[112]⟩)),.v (.slice none 0 0),(.tree 1 t26.2.Fa8 (λk=>g8 t26.2.eh3 (0+k)))]),[])) none)))) none) none) none) none) w0) none) none) w0) none) none) none) none) none) none) none) none) none) none) none) none) none) none) w0) w0) none) none) none))
def Rb5(x:L2):ROq:=let y2:=(rt tI (rt tI x.u));let t1:=(A4 ⟨3,rt tI x.u,0⟩);let t2:=(A4 ⟨3,y2,t1.m8⟩);let a7:=(rt tI y2);let y1:=((cnE tI x.u)&&((cnE tI x.v)&&((cnE tI (rt tI a7))&&true)));let t3:=(A4 ⟨3,a7,t2.m8⟩);let t4:=(A4 ⟨3,rt tI a7,t3.m8⟩);let y0:=(⟨0,W ((-6)+t3.is0),0,rt tI (rt tI a7),t4.m8,0,[]⟩:P6);let t5:=(lp (ea4 (⟨W (2+t1.is0),decide ((W (2+t1.is0))<4),W (2+t4.is0),⟨#[]⟩,rt tI x.u,rt tI x.v,⟨#[112]⟩⟩:va3)) y0);let t17:=(lp (ea4 (⟨W (2+t1.is0),false,W (2+t4.is0),⟨#[]⟩,rt tI x.u,rt tI x.v,⟨#[112]⟩⟩:va3)) y0);(sl ((cnE tI x.u)&&true) (sl (Nat.beq t1.alt 1) (sl ((cnE tI (rt tI x.u))&&true) (sl (Nat.beq t2.alt 1) (sl (t2.is0==2) (sl ((cnE tI y2)&&true) (sl (Nat.beq t3.alt 1) (sl ((cnE tI a7)&&true) (sl (Nat.beq t4.alt 1) (sl y1 (df4 x t5) none) none) none) none) none) (sl ((cnE tI y2)&&true) (sl (Nat.beq t3.alt 1) (sl ((cnE tI a7)&&true) (sl (Nat.beq t4.alt 1) (sl y1 (df4 x t17) none) none) none) none) none)) none) none) none) none)
def xb2(x:L2):Prt:=V2 (one r1J) (Rb5 x)
def Vc7(x:L2):Bool:=okO (one r1J) (Rb5 x)
def Qd4:Sum:=ca1 c2L (λx=>.guard (Vc7 x) (.ret ((one r1J).enc (xb2 x),[])))
theorem Ie7:j6 prog G 31 Qd4:=ab0 (bd b31 re6) (one r1J) (o:=Rb5) λx=>sd1 (.s .p (.s .p (.s .p (.s .p (.s .p (.s .p (.s .p (.s .p (.s .p (.s (.s .p (.b (.u pc3.lsM))) (.s .p (.s .p (.s (.s .p (.b (.u pc4.lsM))) .p))))))))))))) [pc3.prM,pc4.prM] (by kernel_rfl) (.cons Xd0 (.cons Xd2 .nil)) (by kernel_rfl)
structure Sf4 where
 Ag9:List (List Int)
 K9:ByteArray
 l0:LPq
 u6:List Int
structure Sf5 where
 ph:Nat
 is6:Int
 ns5:Nat
 eh1:List (List d7)
def Qd5:List (Nat×Sum):=[(30,ud4),(34,ec8),(36,mc5),(35,ce8)]
theorem Ie8:j9 prog G Qd5:=⟨re2,lc4,Bc3,Re1,trivial⟩
structure Ja9 where
 (B3 m8 s5:Int)
 (ib3 rc2:ByteArray)
structure Y8 where
 ph:Nat
 is7:Int
 Da4:Nat
 eh3:List (List d7)
 zb3:Nat
 eh4:List (List d7)
def Xd3(p:Ja9)(s:Y8):St:=⟨ra 3 (.ptr 0 0 0 0::.ptr 1 0 0 0::.ptr 2 0 0 0::.unk::i s.is7::ra 151 []),[⟨0,3,[[i p.B3,i p.m8,i p.s5]],true,false,0⟩,⟨0,3,[[.v (.string p.ib3),.v (.slice none 0 0),.v (.slice none 0 0)]],true,false,0⟩,⟨0,0,[[.v (.string p.rc2),.v (.slice none 0 0),.sl 3 0 s.Da4 0]],true,false,0⟩,⟨3,1,s.eh3,true,false,0⟩]⟩
def Xd4(p:Ja9)(s:Y8):St:=⟨ra 3 (.ptr 0 0 0 0::.ptr 1 0 0 0::.ptr 2 0 0 0::.unk::i s.is7::ra 151 []),[⟨0,3,[[i p.B3,i p.m8,i p.s5]],true,false,0⟩,⟨0,3,[[.v (.string p.ib3),.v (.slice none 0 0),.v (.slice none 0 0)]],true,false,0⟩,⟨0,0,[[.v (.string p.rc2),.sl 3 0 s.zb3 0,.sl 4 0 s.Da4 0]],true,false,0⟩,⟨35,1,s.eh3,true,false,0⟩,⟨3,1,s.eh4,true,false,0⟩]⟩
def re7(p:Ja9)(s:Y8):St:=(sel (Nat.beq s.ph 1) (Xd4 p s) (Xd3 p s))
def cc4{α:Type}(k:Y8->α)(e:Nat->α)(z:α)(p:Ja9)(s:Y8):α:=let t1:=(ca5 p.s5 2);let t2:=(La5 (⟨s.is7,10,0⟩:V3) (⟨W (s.is7+1),11,1⟩:V3));(sl (V7 p.s5 2) (sl (decide (s.is7<(W (16+t1)))) (sl (Nat.beq s.Da4 (len s.eh3)&&Nat.ble ((s.Da4+1)*8) room) (k ⟨1,W (s.is7+1),s.Da4+1,[[(.tree 4 6 (λk=>g8 [[i 1,i 0,i 0,i t2.v8],[i (-1),i 0,i 0,i t2.rb9],[i 0,i 1,i 0,i t2.sb0],[i 0,i (-1),i 0,i t2.sb1],[i 0,i 0,i 1,i t2.sb2],[i 0,i 0,i (-1),i t2.sb3]] (0+k)))]],1,app s.eh3 [[i (W (1+(Int.tmod s.is7 3)))]]⟩) z) (e 1)) z)
def Ea7{α:Type}(k:Y8->α)(e:Nat->α)(z:α)(p:Ja9)(s:Y8):α:=let t1:=(ca5 p.s5 2);let t2:=(La5 (⟨s.is7,10,0⟩:V3) (⟨W (s.is7+1),11,1⟩:V3));(sl (V7 p.s5 2) (sl (decide (s.is7<(W (16+t1)))) (sl (Nat.beq s.zb3 (len s.eh3)&&Nat.ble ((s.zb3+1)*24) room) (sl (Nat.beq s.Da4 (len s.eh4)&&Nat.ble ((s.Da4+1)*8) room) (k ⟨1,W (s.is7+1),s.Da4+1,(app s.eh3 [[(.tree 4 6 (λk=>g8 [[i 1,i 0,i 0,i t2.v8],[i (-1),i 0,i 0,i t2.rb9],[i 0,i 1,i 0,i t2.sb0],[i 0,i (-1),i 0,i t2.sb1],[i 0,i 0,i 1,i t2.sb2],[i 0,i 0,i (-1),i t2.sb3]] (0+k)))]]),s.zb3+1,app s.eh4 [[i (W (1+(Int.tmod s.is7 3)))]]⟩) z) z) (e 2)) z)
def Da2(p:Ja9)(s:Y8):Stp Y8:=(sel (Nat.beq s.ph 1) (Ea7 .next .exit .fail p s) (cc4 .next .exit .fail p s))
def Fc1:Lo Ja9 Y8:=⟨En Qd5,0,kg1,[1,1,1,0,1,4,1,3,1,3,1,3,1,3,1,2,1,4,4],[3,4,5,7],.p,[⟨ru2 3 (sPq 0::sPq 1::sPq 2::sUq::sIq::ru2 151 []),[⟨0,3,true,some [kLq 3]⟩,⟨0,3,true,some [[.o .val,.o .nil,.o .nil]]⟩,⟨0,0,true,some [[.o .val,.o .nil,.o (.sl 3 0 (some 0) none)]]⟩,⟨3,1,true,none⟩],λa H=>(⟨hIq H 0 0 0,hIq H 0 0 1,hIq H 0 0 2,ca2 (slT (rwT (elT H 1) 0) 0),ca2 (slT (rwT (elT H 2) 0) 0)⟩,⟨0,aIq a 7,slN (slT (rwT (elT H 2) 0) 2),elT H 3,0,[]⟩)⟩,⟨ru2 3 (sPq 0::sPq 1::sPq 2::sUq::sIq::ru2 151 []),[⟨0,3,true,some [kLq 3]⟩,⟨0,3,true,some [[.o .val,.o .nil,.o .nil]]⟩,⟨0,0,true,some [[.o .val,.o (.sl 3 0 (some 0) none),.o (.sl 4 0 (some 0) none)]]⟩,⟨35,1,true,none⟩,⟨3,1,true,none⟩],λa H=>(⟨hIq H 0 0 0,hIq H 0 0 1,hIq H 0 0 2,ca2 (slT (rwT (elT H 1) 0) 0),ca2 (slT (rwT (elT H 2) 0) 0)⟩,⟨1,aIq a 7,slN (slT (rwT (elT H 2) 0) 2),elT H 3,slN (slT (rwT (elT H 2) 0) 1),elT H 4⟩)⟩],Da2,[(some 1,λp s=>let t1:=(ca5 p.s5 2);⟨ra 3 (.ptr 0 0 0 0::.ptr 1 0 0 0::.ptr 2 0 0 0::.unk::i s.is7::ra 101 (i s.is7::.ptr 0 0 2 0::i p.s5::i t1::i (W (16+t1))::b (decide (s.is7<(W (16+t1))))::ra 44 [])),[⟨0,3,[[i p.B3,i p.m8,i p.s5]],true,false,0⟩,⟨0,3,[[.v (.string p.ib3),.v (.slice none 0 0),.v (.slice none 0 0)]],true,false,0⟩,⟨0,0,[[.v (.string p.rc2),.v (.slice none 0 0),.sl 3 0 s.Da4 0]],true,false,0⟩,⟨3,1,s.eh3,true,false,0⟩]⟩),(some 1,λp s=>let t1:=(ca5 p.s5 2);⟨ra 3 (.ptr 0 0 0 0::.ptr 1 0 0 0::.ptr 2 0 0 0::.unk::i s.is7::ra 101 (i s.is7::.ptr 0 0 2 0::i p.s5::i t1::i (W (16+t1))::b (decide (s.is7<(W (16+t1))))::ra 44 [])),[⟨0,3,[[i p.B3,i p.m8,i p.s5]],true,false,0⟩,⟨0,3,[[.v (.string p.ib3),.v (.slice none 0 0),.v (.slice none 0 0)]],true,false,0⟩,⟨0,0,[[.v (.string p.rc2),.sl 3 0 s.zb3 0,.sl 4 0 s.Da4 0]],true,false,0⟩,⟨35,1,s.eh3,true,false,0⟩,⟨3,1,s.eh4,true,false,0⟩]⟩)],re7⟩
theorem re8:Fc1.OkM:=Lo.okM [] (by kernel_rfl) .nil rfl (.cons (λa H=>by kernel_rfl) (.cons (λa H=>by kernel_rfl) .nil)) λp s=>(.sel (Nat.beq s.ph 1) (.of @Ea7 (λF _ _ _ _ _=>by unfold Ea7;(repeat' apply k8 (f:=F))<;>rfl) (by kernel_rfl)) (.of @cc4 (λF _ _ _ _ _=>by unfold cc4;(repeat' apply k8 (f:=F))<;>rfl) (by kernel_rfl)))
def ic1(x:Prt)(y:V3):ROq:=let y12:=(⟨y.x,y.y,y.z,⟨#[]⟩,x.nm⟩:Ja9);let y5:=(.agg [.v (.string x.nm),.v (.slice none 0 0),.v (.slice none 0 0)],[]);let t1:=(Xb5 (rt tLq x.cl));let t3:=(ca5 y.x 7);let t5:=(ca5 y.z 5);let y0:=(g8 [[i y.z],[i 0],[i 4],[i 1],[i 3]] (0+t5.toNat));let y9:=((Nat.ble 1 (len y0))&&(ra7 [CK.int .i64] y0));let t8:=(ca5 y.y (if (↑t1.ns0:Int)>1 then (↑t1.ns0:Int) else 1));let y8:=(g8 t1.eh0 (0+t8.toNat));let a0:=(o9 (λk=>(tI).row (gL tI x.wt k)) (List.range (List.length x.wt)));let y11:=(Nat.beq 0 0&&Nat.ble ((0+(len a0))*8) room);let y10:=(app (app [] a0) [[i 1]]);let y4:=((0+(len a0))+1);let y3:=(↑(0+(len a0)):Int);let t4:=(ca5 y.y y3);let t6:=(lp (Da2 y12) (⟨0,0,0+(len a0),app [] a0,0,[]⟩:Y8));let t10:=(lp (Da2 y12) (⟨1,(↑t1.ns0:Int),0+(len a0),t1.eh0,t1.ns0,app [] a0⟩:Y8));let a1:=(l4 y8 0);let y13:=(lsL tP (toN (hdA a1)) (toG (hdA a1)));let t9:=(Ic8 y13 (⟨y.z,y.y,y.x⟩:V3));let a2:=(λk=>g8 (app [] a0) (0+k));let y1:=(.agg [.v (.string x.nm),.v (.slice none 0 0),.tree 1 (0+(len a0)) a2],[]);let a3:=((Nat.blt (0+t8.toNat) (len t1.eh0))&&(Nat.ble (0+1) (len y8)));let a4:=(λk=>g8 t1.eh0 (0+k));let y2:=(.agg [.v (.string x.nm),.tree 1 t1.ns0 a4,.tree 1 (0+(len a0)) a2],[]);let a5:=(Nat.beq (0+(len a0)) (len (app [] a0))&&Nat.ble (y4*8) room);let a6:=(W (Int.tdiv y3 2));let a7:=(g8 (app [] a0) (0+t4.toNat));let y7:=(setAt (app [] a0) (0+t4.toNat) (L0 a7 0 [i (toI (hdA y0))]));let y6:=((Nat.blt (0+t4.toNat) (len (app [] a0)))&&(Nat.ble (0+1) (len a7)));let a8:=(o9 (toG (hdA a1)) (List.range (toN (hdA a1))));(sl (okE tLq x.cl) (sl (Nat.beq t1.alt 1) (sl y11 (sl (V7 y.y 1) (sl (V7 y.x 7) (sl (t3==0) (sl (decide (y3>0)) (sl (V7 y.y y3) (sl (V7 y.z 5) (sl (inB t5 5) (sl y9 (sl (inB t4 (0+(len a0))) (sl y6 (some ((.agg [.v (.string x.nm),.v (.slice none 0 0),(.tree 1 (0+(len a0)) (λk=>g8 y7 (0+k)))]),[])) none) none) none) none) none) none) (some y1)) (sl (t3==1) (sl a5 (some ((.agg [.v (.string x.nm),.v (.slice none 0 0),(.tree 1 y4 (λk=>g8 y10 (0+k)))]),[])) none) (sl (t3==2) (some y1) (sl (t3==3) (some y1) (sl (t3==4) (sl (Nat.beq t6.1 1) (some ((.agg [.v (.string x.nm),.v (.slice none 0 0),(.tree 1 t6.2.Da4 (λk=>g8 t6.2.eh3 (0+k)))]),[])) (sl (Nat.beq t6.1 2) (some ((.agg [.v (.string x.nm),(.tree 1 t6.2.zb3 (λk=>g8 t6.2.eh3 (0+k))),(.tree 1 t6.2.Da4 (λk=>g8 t6.2.eh4 (0+k)))]),[])) none)) (sl (t3==5) (sl (inB a6 y4) (some (.agg [.v (.string x.nm),.v (.slice none 0 0),.tree 1 (a6.toNat-0) a2],[])) none) (sl (t3==6) (some y5) (some y1)))))))) none) none) none) (sl (Nat.beq t1.alt 2) (sl y11 (sl (V7 y.y (if (↑t1.ns0:Int)>1 then (↑t1.ns0:Int) else 1)) (sl (V7 y.x 7) (sl (t3==0) (sl (decide (y3>0)) (sl (V7 y.y y3) (sl (V7 y.z 5) (sl (inB t5 5) (sl y9 (sl (inB t4 (0+(len a0))) (sl y6 (some ((.agg [.v (.string x.nm),.tree 1 t1.ns0 a4,(.tree 1 (0+(len a0)) (λk=>g8 y7 (0+k)))]),[])) none) none) none) none) none) none) (some y2)) (sl (t3==1) (sl a5 (some ((.agg [.v (.string x.nm),.tree 1 t1.ns0 a4,(.tree 1 y4 (λk=>g8 y10 (0+k)))]),[])) none) (sl (t3==2) (sl (decide ((↑t1.ns0:Int)>0)) (sl (inB t8 t1.ns0) (sl (a3&&(ra7 [CK.sl 4] a1)) (sl (okL tP (toN (hdA a1)) (toG (hdA a1))) (sl (md4 y13 (⟨y.z,y.y,y.x⟩:V3)) (sl (inB t8 t1.ns0) (sl a3 (some ((.agg [.v (.string x.nm),(.tree 1 t1.ns0 (λk=>g8 (setAt t1.eh0 (0+t8.toNat) (L0 y8 0 [eL tP t9])) (0+k))),.tree 1 (0+(len a0)) a2]),[])) none) none) none) none) none) none) (some y2)) (sl (t3==3) (sl (decide ((↑t1.ns0:Int)>0)) (sl (inB t8 t1.ns0) (sl (a3&&(ra7 [CK.sl 4] a1)) (sl (Nat.beq 0 0&&Nat.ble ((0+(len a8))*32) room) (sl (Nat.beq t1.ns0 (len t1.eh0)&&Nat.ble ((t1.ns0+1)*24) room) (sl a5 (some ((.agg [.v (.string x.nm),(.tree 1 (t1.ns0+1) (λk=>g8 (app t1.eh0 [[(.tree 4 (0+(len a8)) (λk=>g8 (app [] a8) (0+k)))]]) (0+k))),(.tree 1 y4 (λk=>g8 y10 (0+k)))]),[])) none) none) none) none) none) (some y2)) (sl (t3==4) (sl (Nat.beq t10.1 1) (some ((.agg [.v (.string x.nm),.v (.slice none 0 0),(.tree 1 t10.2.Da4 (λk=>g8 t10.2.eh3 (0+k)))]),[])) (sl (Nat.beq t10.1 2) (some ((.agg [.v (.string x.nm),(.tree 1 t10.2.zb3 (λk=>g8 t10.2.eh3 (0+k))),(.tree 1 t10.2.Da4 (λk=>g8 t10.2.eh4 (0+k)))]),[])) none)) (sl (t3==5) (sl (inB (W (Int.tdiv (↑t1.ns0:Int) 2)) (t1.ns0+1)) (sl (inB a6 y4) (some (.agg [.v (.string x.nm),.tree 1 ((W (Int.tdiv (↑t1.ns0:Int) 2)).toNat-0) a4,.tree 1 (a6.toNat-0) a2],[])) none) none) (sl (t3==6) (some y5) (some y2)))))))) none) none) none) none)) none)
def Jc7(x:Prt)(y:V3):Prt:=V2 (one r1J) (ic1 x y)
def Jc8(x:Prt)(y:V3):Bool:=okO (one r1J) (ic1 x y)
def fe9:Sum:=ta3 cJ (ya7 tV) (λx y=>.guard (Jc8 x y) (.ret ((one r1J).enc (Jc7 x y),[])))
theorem Ue3:j6 prog G 11 fe9:=ub3 (bd b11 Ie8) (one r1J) (o:=ic1) λx y=>sd1 (.s .p (.s .p (.s .p (.s (.s .p (.b (.s .p (.c .p (.s .p (.c .p (.s .p (.c .p (.s .p (.c .p (.s .p (.c (.s .p (.b (.u Fc1.lsM))) .p)))))))))))) .p)))) [Fc1.prM] (by kernel_rfl) (.cons re8 .nil) (by kernel_rfl)
structure nf7 where
 (B3 m8 s5:Int)
 (I4 zb3:Nat)
 (eh3 eh4:List (List d7))
structure nf8 where
 (ph Da4:Nat)
 eh5:List (List d7)
def re9:List (Nat×Sum):=[(36,mc5)]
theorem Xd5:j9 prog G re9:=⟨Bc3,trivial⟩
def Fc2(x:Int)(y:Int):ROq:=let t1:=(La5 (⟨x,0,0⟩:V3) (⟨y,2,2⟩:V3));(some (.sl 0 0 6 0,[⟨66,4,[[i 1,i 0,i 0,i t1.v8],[i (-1),i 0,i 0,i t1.rb9],[i 0,i 1,i 0,i t1.sb0],[i 0,i (-1),i 0,i t1.sb1],[i 0,i 0,i 1,i t1.sb2],[i 0,i 0,i (-1),i t1.sb3]],true,false,0⟩]))
def da5(x:Int)(y:Int):PLq:=V2 (one (r1L tP)) (Fc2 x y)
def Y9(x:Int)(y:Int):Bool:=okO (one (r1L tP)) (Fc2 x y)
def ud7:Sum:=ta3 cI cI (λx y=>.guard (Y9 x y) (.ret ((one (r1L tP)).enc (da5 x y),[])))
theorem se0:j6 prog G 32 ud7:=ub3 (bd b32 Xd5) (one (r1L tP)) (o:=Fc2) λx y=>B6 (by kernel_rfl)
def ud8:List (Nat×Sum):=[]
theorem se1:j9 prog G ud8:=trivial
structure rb3 where
 vs2:ByteArray
 ig0:Int
 (K2 N5:List Bool)
 K7:LPq
structure va4 where
 vc9:Int
def Pc7(p:rb3)(s:va4):St:=⟨.unk::.unk::.v (.string p.vs2)::.ptr 0 0 0 0::ra 24 (i p.ig0::i s.vc9::ra 25 []),[⟨0,3,[[eL tB p.K2,eL tB p.N5,eL tLq p.K7]],true,false,0⟩]⟩
def Ya8{α:Type}(k:va4->α)(e:Nat->α)(z:α)(p:rb3)(s:va4):α:=let y0:=(inB s.vc9 (ByteArray.size p.vs2));(sl (decide (s.vc9<p.ig0)) (sl (inB s.vc9 (List.length p.K2)) (sl y0 (sl (!((gL tB p.K2 s.vc9.toNat)==((sAt p.vs2 s.vc9)==115))) (e 1) (sl (inB s.vc9 (List.length p.N5)) (sl y0 (sl (!((gL tB p.N5 s.vc9.toNat)==((sAt p.vs2 s.vc9) != 46))) (e 1) (k ⟨W (s.vc9+1)⟩)) z) z)) z) z) (e 2))
def gb1(p:rb3)(s:va4):Stp va4:=Ya8 .next .exit .fail p s
def pc5:Lo rb3 va4:=⟨En ud8,0,kg6,[1,1,0,1,4,4],[2,3,28,29],.p,[⟨sUq::sUq::.s (.o .val)::sPq 0::ru2 24 (sIq::sIq::ru2 25 []),[⟨0,3,true,some [[.c 1 (nL tB),.c 1 (nL tB),.c 1 (nL tLq)]]⟩],λa H=>(⟨ca2 (slT a 2),aIq a 28,hLq tB H 0 0 0,hLq tB H 0 0 1,hLq tLq H 0 0 2⟩,⟨aIq a 29⟩)⟩],gb1,[(none,λp s=>⟨[b false],[]⟩),(some 0,λp s=>upq (Pc7 p s) [(30,b (decide (s.vc9<p.ig0)))])],Pc7⟩
theorem Xd6:pc5.Ok:=Lo.ok [] (by kernel_rfl) .nil rfl (.cons (λa H=>by kernel_rfl) .nil) λp s=>(.of @Ya8 (λF _ _ _ _ _=>by unfold Ya8;(repeat' apply k8 (f:=F))<;>rfl) (by kernel_rfl))
def Rb6(x:Pce)(y:Int)(z:ByteArray):ROq:=let t1:=(lp (gb1 (⟨z,(↑(List.length x.su):Int),rt tB x.su,rt tB x.to,rt tLq x.cu⟩:rb3)) (⟨0⟩:va4));(sl (y != 0) (some (b false,[])) (sl ((↑(List.length x.su):Int) != (↑(ByteArray.size z):Int)) (some (b false,[])) (sl ((↑(List.length x.to):Int) != (↑(ByteArray.size z):Int)) (some (b false,[])) (sl ((cnE tB x.su)&&((cnE tB x.to)&&((cnE tLq x.cu)&&true))) (sl (Nat.beq t1.1 1) (some (b false,[])) (sl (Nat.beq t1.1 2) (some (b true,[])) none)) none))))
def Ya9(x:Pce)(y:Int)(z:ByteArray):Bool:=V2 (one r1B) (Rb6 x y z)
def Za0(x:Pce)(y:Int)(z:ByteArray):Bool:=okO (one r1B) (Rb6 x y z)
def Qd6:Sum:=je8 cO cI cG (λx y z=>.guard (Za0 x y z) (.ret ((one r1B).enc (Ya9 x y z),[])))
theorem Ie9:j6 prog G 33 Qd6:=jg1 (bd b33 se1) (one r1B) (o:=Rb6) λx y z=>Ga2 (.s .p (.s .p (.s (.s .p (.b (.u pc5.ls))) .p))) [pc5.pr] (by kernel_rfl) (.cons Xd6 .nil) (by kernel_rfl)
def Vc8:List (Nat×Sum):=[(31,Qd4)]
theorem Mc3:j9 prog G Vc8:=⟨Ie7,trivial⟩
def Da3(x:Cse):ROq:=let y0:=(⟨rt tI x.p0,rt tI x.p1⟩:L2);let t1:=(xb2 y0);(sl ((okE tI x.p0)&&((okE tI x.p1)&&true)) (sl (Vc7 y0) (some (.agg [.v (.string t1.nm),eL tLq t1.cl,eL tI t1.wt],[])) none) none)
def rb4(x:Cse):Prt:=V2 (one r1J) (Da3 x)
def rb5(x:Cse):Bool:=okO (one r1J) (Da3 x)
def Xb6:Sum:=ca1 cF (λx=>.guard (rb5 x) (.ret ((one r1J).enc (rb4 x),[])))
theorem Vc9:j6 prog G 10 Xb6:=ab0 (bd b10 Mc3) (one r1J) (o:=Da3) λx=>B6 (by kernel_rfl)
def zd9:List (Nat×Sum):=[(32,ud7),(12,zb1),(15,Cc9),(19,Pc5),(33,Qd6),(22,tc6),(25,gd1),(24,Qb6)]
theorem pd9:j9 prog G zd9:=⟨se0,Qb4,ed0,Pd6,Ie9,pd7,Wd8,sc9,trivial⟩
def Za1  : ROq:=let y18:=(Y9 1 4);let y17:=(Y9 3 5);let t1:=(da5 0 2);let y14:=(⟨⟨#[]⟩,[rt tP t1,rt tP t1],[1,2]⟩:Prt);let t2:=(da5 2 4);let y10:=((okE tP t2)&&true);let t3:=(da5 4 6);let y12:=((okE tP t1)&&((okE tP t2)&&((okE tP t3)&&true)));let y8:=(⟨⟨#[]⟩,[rt tP t1,rt tP t2,rt tP t3],[1,2]⟩:Prt);let y0:=(⟨⟨#[]⟩,[rt tP t1,rt tP t2,rt tP t3],[1,2,3]⟩:Prt);let t4:=(Z5 y0);let t5:=(Z5 y8);let t6:=(Z5 y14);let t7:=(Ja8 y0);let y1:=(⟨rt tB t7.su,rt tB t7.to,rt tLq t7.cu⟩:Pce);let y24:=(Za0 y1 0 ⟨#[46,46,46]⟩);let t8:=(da5 3 5);let y16:=(Ra5 y0 y1 [rt tP t2] [rt tP t8]);let y11:=((okE tP t8)&&true);let t9:=(Ra4 y0 y1 [rt tP t2] [rt tP t8]);let y4:=(⟨rt tB t9.1.su,rt tB t9.1.to,rt tLq t9.1.cu⟩:Pce);let y23:=(Za0 y4 t9.2 ⟨#[46,115,116]⟩);let t10:=(da5 2 3);let y13:=(Ra5 y0 y1 [rt tP t10,rt tP t8] []);let t11:=(Ra4 y0 y1 [rt tP t10,rt tP t8] []);let y5:=(⟨rt tB t11.1.su,rt tB t11.1.to,rt tLq t11.1.cu⟩:Pce);let y21:=(Za0 y5 t11.2 ⟨#[46,115,116]⟩);let t12:=(da5 1 4);let y22:=(Ra5 y0 y1 [rt tP t12] []);let y15:=(Ra5 y0 y1 [rt tP t2] [rt tP t12]);let y9:=((okE tP t12)&&true);let t13:=(Ra4 y0 y1 [rt tP t2] [rt tP t12]);let y2:=(⟨rt tB t13.1.su,rt tB t13.1.to,rt tLq t13.1.cu⟩:Pce);let y19:=(Q7 y0 y2);let y6:=(Za0 y2 t13.2 ⟨#[116,115,46]⟩);let t14:=(Ra4 y0 y1 [rt tP t12] []);let y3:=(⟨rt tB t14.1.su,rt tB t14.1.to,rt tLq t14.1.cu⟩:Pce);let y20:=(Q7 y0 y3);let y7:=(Za0 y3 t14.2 ⟨#[116,115,46]⟩);let t15:=(Ya9 y1 0 ⟨#[46,46,46]⟩);let t16:=(ja3 y0 y1);let t17:=(Ya9 y4 t9.2 ⟨#[46,115,116]⟩);let t18:=(ja3 y0 y4);let t19:=(Ya9 y5 t11.2 ⟨#[46,115,116]⟩);let t20:=(ja3 y0 y5);let t21:=(Ya9 y2 t13.2 ⟨#[116,115,46]⟩);let t22:=(ja3 y0 y2);let t23:=(Ya9 y3 t14.2 ⟨#[116,115,46]⟩);let t24:=(ja3 y0 y3);let t25:=(Kb5 y0 y1);let t26:=(Ia2 (rt tLq t25) [rt tP t1,rt tP t2,rt tP t3]);let t27:=(Kb5 y0 y4);let t28:=(Ia2 (rt tLq t27) [rt tP t1,rt tP t3]);let a0:=(y12&&(true&&true));let a1:=((okE tB t13.1.su)&&((okE tB t13.1.to)&&((okE tLq t13.1.cu)&&true)));let a2:=((okE tB t14.1.su)&&((okE tB t14.1.to)&&((okE tLq t14.1.cu)&&true)));let a3:=((okE tB t7.su)&&((okE tB t7.to)&&((okE tLq t7.cu)&&true)));let a4:=((okE tB t9.1.su)&&((okE tB t9.1.to)&&((okE tLq t9.1.cu)&&true)));let a5:=((okE tB t11.1.su)&&((okE tB t11.1.to)&&((okE tLq t11.1.cu)&&true)));let w0:ROq:=(sl a1 (sl y6 (sl t21 (sl a0 (sl a1 (sl y19 (sl (t22==30) (sl a2 (sl y7 (sl t23 (sl a0 (sl a2 (sl y20 (some (b false,[])) none) none) none) (some (b false,[]))) none) none) (some (b false,[]))) none) none) none) (some (b false,[]))) none) none);let w1:ROq:=(sl a1 (sl y6 (sl t21 (sl a0 (sl a1 (sl y19 (sl (t22==30) (sl a2 (sl y7 (sl t23 (sl a0 (sl a2 (sl y20 (sl (t6==13) (some (b false,[])) (some (b false,[]))) none) none) none) (sl (t6==13) (some (b false,[])) (some (b false,[])))) none) none) (sl (t6==13) (some (b false,[])) (some (b false,[])))) none) none) none) (sl (t6==13) (some (b false,[])) (some (b false,[])))) none) none);let w2:ROq:=(sl a0 (sl (pa3 y0) (sl y17 (sl a0 (sl a3 (sl y10 (sl y11 (sl y16 (sl (Y9 2 3) (sl y17 (sl a0 (sl a3 (sl ((okE tP t10)&&y11) (sl y13 (sl y18 (sl a0 (sl a3 (sl y10 (sl y9 (sl y15 (sl y18 (sl a0 (sl a3 (sl y9 (sl y22 (sl a3 (sl y24 (sl t15 (sl a0 (sl a3 (sl (Q7 y0 y1) (sl (t16==34) (sl a4 (sl y23 (sl t17 (sl a0 (sl a4 (sl (Q7 y0 y4) (sl (t18==0) (sl a5 (sl y21 (sl t19 (sl ((↑(List.length t11.1.cu):Int)==2) (sl a0 (sl a5 (sl (Q7 y0 y5) w0 none) none) none) w0) w0) none) none) w0) none) none) none) w0) none) none) w0) none) none) none) w0) none) none) none) none) none) none) none) none) none) none) none) none) none) none) none) none) none) none) none) none) none) none) none) none) none) none) none);let w3:ROq:=(sl (t6==13) (sl (t20==0) (some (b false,[])) (some (b false,[]))) (some (b false,[])));(sl (Y9 0 2) (sl (Y9 2 4) (sl (Y9 4 6) (sl a0 (sl (V0 y0) (sl (t4==0) (sl a0 (sl (V0 y8) (sl (t5==1) (sl (((okE tP t1)&&((okE tP t1)&&true))&&(true&&true)) (sl (V0 y14) (sl a0 (sl (pa3 y0) (sl y17 (sl a0 (sl a3 (sl y10 (sl y11 (sl y16 (sl (Y9 2 3) (sl y17 (sl a0 (sl a3 (sl ((okE tP t10)&&y11) (sl y13 (sl y18 (sl a0 (sl a3 (sl y10 (sl y9 (sl y15 (sl y18 (sl a0 (sl a3 (sl y9 (sl y22 (sl a3 (sl y24 (sl t15 (sl a0 (sl a3 (sl (Q7 y0 y1) (sl (t16==34) (sl a4 (sl y23 (sl t17 (sl a0 (sl a4 (sl (Q7 y0 y4) (sl (t18==0) (sl a5 (sl y21 (sl t19 (sl ((↑(List.length t11.1.cu):Int)==2) (sl a0 (sl a5 (sl (Q7 y0 y5) (sl a1 (sl y6 (sl t21 (sl a0 (sl a1 (sl y19 (sl (t22==30) (sl a2 (sl y7 (sl t23 (sl a0 (sl a2 (sl y20 (sl (t6==13) (sl (t20==0) (sl (t24==35) (sl a0 (sl a3 (sl (Kb6 y0 y1) (sl (okE tLq t25) (sl y12 (sl (Ia3 (rt tLq t25) [rt tP t1,rt tP t2,rt tP t3]) (sl t26 (sl a0 (sl a4 (sl (Kb6 y0 y4) (sl (okE tLq t27) (sl ((okE tP t1)&&((okE tP t3)&&true)) (sl (Ia3 (rt tLq t27) [rt tP t1,rt tP t3]) (some (b t28,[])) none) none) none) none) none) none) (some (b false,[]))) none) none) none) none) none) none) (some (b false,[]))) (some (b false,[]))) (some (b false,[]))) none) none) none) w3) none) none) w3) none) none) none) w3) none) none) none) none) none) w1) w1) none) none) w1) none) none) none) w1) none) none) w1) none) none) none) w1) none) none) none) none) none) none) none) none) none) none) none) none) none) none) none) none) none) none) none) none) none) none) none) none) none) none) none) none) none) w2) none) none) w2) none) none) none) none) none)
def rb6  : Bool:=V2 (one r1B) Za1
def rb7  : Bool:=okO (one r1B) Za1
def Fc3:Sum:=Ne3  (.guard rb7 (.ret ((one r1B).enc rb6,[])))
theorem Ad0:j6 prog G 9 Fc3:=qg6 (bd b9 pd9) (one r1B) (o:=Za1) (B6 (by kernel_rfl))
def gd4(x:PLq)(y:LPq):LPq×Int :=
 if chk x != 0 then ([],chk x) else if schk y != 0 then ([],schk y) else match Se4 cf0 x y with
  |some r=>(r,0)
  |none=>([],9)
theorem Ef6:bc5=gd4:=by
 funext x y;unfold bc5 gd4;rw[mf5]<;>rfl
def se2(x:LPq)(y:PLq):Bool×Int:=((gd4 y x).2==0&&((gd4 y x).1.length:Int)==0,(gd4 y x).2)
theorem nf9:ya5=se2:=by
 funext x y;unfold ya5 se2;rw[Ef6]
def suG(C cl:LPq)(su:List Bool)(j:Nat):Bool×Int:=if gL tB su j=true then (true,0) else se2 (ja2 C (gL tLq cl j)) (gL tLq cl j)
theorem qg1:suJ=suG:=by
 funext C cl su j;unfold suJ suG;rw[nf9]
def Xf5(z w cl C:LPq)(su to:List Bool):Pce×Int :=
 match (List.range cl.length).find? λj=>(suG C cl su j).2 != 0 with
 |some j=>(Pc6,(suG C cl su j).2)
 |none=>(⟨(List.range cl.length).map λk=>(suG C cl su k).1,(List.range cl.length).map (toJ z w cl to),C⟩,0)
def Ef7(x:Prt)(y:Pce)(z w:LPq):Pce×Int :=
 if (Tb9 x y != 0)=true then (Pc6,Tb9 x y) else if (fd1 (z++w) != 0)=true then (Pc6,fd1 (z++w)) else if (y.cu.length:Int)+(z.length:Int)>24 then (Pc6,2)
 else Xf5 z w x.cl (y.cu++z) y.su y.to
theorem gd5:oc8=Ef7:=by
 funext x y z w;unfold oc8 Ef7 Pd9 Xf5;rw[qg1]<;>rfl
def isC(x:Pce)(z:ByteArray)(j:Nat):Bool:=!(gL tB x.su j==(sAt z (j:Int)==115))||!(gL tB x.to j==(sAt z (j:Int) != 46))
theorem qg2{x:Pce}{z:ByteArray}(h1:x.su.length=z.size)(h2:x.to.length=z.size)(hz:z.size<=1000000):Rb6 x 0 z=some (b (!(List.range z.size).any (isC x z)),[]):=by
 obtain⟨k,hk⟩:=Uc3 (step:=gb1 ⟨z,(x.su.length:Int),x.su,x.to,x.cu⟩) (mk:=λj=>(⟨(j:Int)⟩:va4)) x.su.length (isC x z) 1 2 (by omega)
  (λj hj=>by
   simp only[gb1,Ya8,Int.toNat_natCast,u7 hj (show x.su.length<=4611686018427387904 by omega),isC]
   rw[btD (o6 hj),bt (i9 hj),bt (i9 (show j<z.size by omega)),bt (i9 (show j<x.to.length by omega)),bt (i9 (show j<z.size by omega))]
   cases gL tB x.su j==(sAt z (j:Int)==115)<;>cases gL tB x.to j==(sAt z (j:Int) != 46)<;>rfl)
  (by simp only[gb1,Ya8];rw[bfD (B0 (Qle _))])
 unfold Rb6;simp only[j8,l8,Qlb,g9];rw[show (⟨0⟩:va4)=⟨((0:Nat):Int)⟩ from rfl,hk,h1,h2]
 rw[show ((0:Int) != 0)=false from rfl,show (((z.size:Nat):Int) != (z.size:Int))=false by simp]
 simp only[w6];cases (List.range z.size).any (isC x z)<;>rfl
theorem Ef8{x:Pce}{z:ByteArray}(h1:x.su.length=z.size)(h2:x.to.length=z.size)(hz:z.size<=1000000)(h:(List.range z.size).any (isC x z)=false):Ya9 x 0 z=true/\Za0 x 0 z=true:=by
 unfold Ya9 Za0;rw[qg2 h1 h2 hz,h];exact⟨rfl,rfl⟩
def bk(a c:Int):PLq:=bx a 0 0 c 2 2
def exP:Prt:=⟨⟨#[]⟩,[bk 0 2,bk 2 4,bk 4 6],[1,2,3]⟩
def exQ:Prt:=⟨⟨#[]⟩,[bk 0 2,bk 2 4,bk 4 6],[1,2]⟩
def exR:Prt:=⟨⟨#[]⟩,[bk 0 2,bk 0 2],[1,2]⟩
def ps(a c d e f g:Bool)(l:LPq):Pce:=⟨[a,c,d],[e,f,g],l⟩
theorem kb:(da5 0 2=bk 0 2/\Y9 0 2=true)/\(da5 2 4=bk 2 4/\Y9 2 4=true)/\(da5 4 6=bk 4 6/\Y9 4 6=true)/\(da5 3 5=bk 3 5/\Y9 3 5=true)/\(da5 2 3=bk 2 3/\Y9 2 3=true) /\
  (da5 1 4=bk 1 4/\Y9 1 4=true):=by refine⟨⟨?_,?_⟩,⟨?_,?_⟩,⟨?_,?_⟩,⟨?_,?_⟩,⟨?_,?_⟩,?_,?_⟩<;>kernel_rfl
theorem kc1:cc2 exP=0:=by kernel_rfl
theorem kc2:cc2 exQ=1:=by kernel_rfl
theorem kc3:cc2 exR=13:=by kernel_rfl
theorem ka1:oc8 exP (ps false false false false false false []) [bk 2 4] [bk 3 5]=(ps false true false false true true [bk 2 4],0):=by rw[gd5];kernel_rfl
theorem ka2:oc8 exP (ps false false false false false false []) [bk 2 3,bk 3 5] []=(ps false true false false true true [bk 2 3,bk 3 5],0):=by rw[gd5];kernel_rfl
theorem ka3:oc8 exP (ps false false false false false false []) [bk 2 4] [bk 1 4]=(ps false true false true true false [bk 2 4],0):=by rw[gd5];kernel_rfl
theorem ka4:oc8 exP (ps false false false false false false []) [bk 1 4] []=(ps false true false true true false [bk 1 4],0):=by rw[gd5];kernel_rfl
theorem kv1:Ie6 exP (ps false false false false false false [])=34:=by kernel_rfl
theorem kv2:Ie6 exP (ps false true false false true true [bk 2 4])=0:=by kernel_rfl
theorem kv3:Ie6 exP (ps false true false false true true [bk 2 3,bk 3 5])=0:=by kernel_rfl
theorem kv4:Ie6 exP (ps false true false true true false [bk 2 4])=30:=by kernel_rfl
theorem kv5:Ie6 exP (ps false true false true true false [bk 1 4])=35:=by kernel_rfl
theorem kl1:Ie5 exP (ps false false false false false false [])=[bk 0 2,bk 2 4,bk 4 6]:=by kernel_rfl
theorem kl2:Ie5 exP (ps false true false false true true [bk 2 4])=[bk 0 2,bk 4 6]:=by kernel_rfl
theorem ki1:(List.range 3).any (isC (ps false false false false false false []) ⟨#[46,46,46]⟩)=false:=by kernel_rfl
theorem ki2(l:LPq):(List.range 3).any (isC (ps false true false false true true l) ⟨#[46,115,116]⟩)=false:=by kernel_rfl
theorem ki3(l:LPq):(List.range 3).any (isC (ps false true false true true false l) ⟨#[116,115,46]⟩)=false:=by kernel_rfl
theorem se3(a c:Int):(bk a c).length=6:=rfl
theorem df5(a c:Int):bk a c≠[]:=by intro h;have:=congrArg List.length h;simp[se3] at this
theorem ha4:Jok exP:=⟨by show 3<=_;omega,by show 3<=_;omega,λc hc=>by
 have:c.length=6:=by
  simp only[exP,Qlj,Qlh,or_false] at hc
  rcases hc with rfl|rfl|rfl<;>rfl
 omega⟩
theorem Ef9:Jok exQ:=⟨by show 3<=_;omega,by show 2<=_;omega,ha4.pl⟩
theorem Ff0:Jok exR:=⟨by show 2<=_;omega,by show 2<=_;omega,λc hc=>by
 have:c.length=6:=by
  simp only[exR,Qlj,Qlh,or_false] at hc
  rcases hc with rfl|rfl<;>rfl
 omega⟩
theorem se4:∀q∈exP.cl,q≠[]:=λc hc=>by
 simp only[exP,Qlj,Qlh,or_false] at hc
 rcases hc with rfl|rfl|rfl<;>exact df5 _ _
theorem Je0(a c d e f g:Bool){l:LPq}(h1:l.length<=1000000)(h2:∀q∈l,q.length<=1000000):Pok (ps a c d e f g l):=⟨by show 3<=_;omega,by show 3<=_;omega,h1,h2⟩
theorem bk1(a c:Int):(∀q∈[bk a c],q.length<=1000000)/\∀q∈[bk a c],q≠[]:=⟨λq hq=>by rw[Qld.1 hq,se3];decide,λq hq=>by rw[Qld.1 hq];exact df5 _ _⟩
theorem bk2(a c d e:Int):(∀q∈[bk a c,bk d e],q.length<=1000000)/\∀q∈[bk a c,bk d e],q≠[]:=by
 constructor<;>intro q hq<;>simp only[Qlj,Qlh,or_false] at hq<;>rcases hq with rfl | rfl
 ·rw[se3];decide
 ·rw[se3];decide
 ·exact df5 _ _
 ·exact df5 _ _
theorem Je1:∀q∈([]:LPq),q.length<=1000000:=by simp
theorem ud9:∀q∈([]:LPq),q≠[]:=by simp
theorem vd0:Za1=some (b true,[]):=by
 obtain⟨⟨b1,b2⟩,⟨b3,b4⟩,⟨b5,b6⟩,⟨b7,b8⟩,⟨b9,b10⟩,b11,b12⟩:=kb;have c1:=(Dc3 ha4).trans kc1;have c1':=Uc9 ha4;have c2:=(Dc3 Ef9).trans kc2;have c2':=Uc9 Ef9;have c3:=(Dc3 Ff0).trans kc3;have c3':=Uc9 Ff0;have n1:Ja8 exP=ps false false false false false false []:=cf9 ha4.cl;have n1':pa3 exP=true:=df0 ha4.cl;have x0:Pok (ps false false false false false false []):=Je0 _ _ _ _ _ _ (by simp) Je1
 have x1:Pok (ps false true false false true true [bk 2 4]):=Je0 _ _ _ _ _ _ (by simp) (bk1 2 4).1
 have x2:Pok (ps false true false false true true [bk 2 3,bk 3 5]):=Je0 _ _ _ _ _ _ (by simp) (bk2 2 3 3 5).1
 have x3:Pok (ps false true false true true false [bk 2 4]):=Je0 _ _ _ _ _ _ (by simp) (bk1 2 4).1
 have x4:Pok (ps false true false true true false [bk 1 4]):=Je0 _ _ _ _ _ _ (by simp) (bk1 1 4).1
 have a1:=(Cd5 (z:=[bk 2 4]) (w:=[bk 3 5]) ha4 x0 (by simp) (by simp) (bk1 2 4).1 (bk1 3 5).1 ud9 (bk1 2 4).2).trans ka1
 have a1':=Cd6 (z:=[bk 2 4]) (w:=[bk 3 5]) ha4 x0 (by simp) (by simp) (bk1 2 4).1 (bk1 3 5).1 ud9 (bk1 2 4).2
 have a2:=(Cd5 (z:=[bk 2 3,bk 3 5]) (w:=[]) ha4 x0 (by simp) (by simp) (bk2 2 3 3 5).1 Je1 ud9 (bk2 2 3 3 5).2).trans ka2
 have a2':=Cd6 (z:=[bk 2 3,bk 3 5]) (w:=[]) ha4 x0 (by simp) (by simp) (bk2 2 3 3 5).1 Je1 ud9 (bk2 2 3 3 5).2
 have a3:=(Cd5 (z:=[bk 2 4]) (w:=[bk 1 4]) ha4 x0 (by simp) (by simp) (bk1 2 4).1 (bk1 1 4).1 ud9 (bk1 2 4).2).trans ka3
 have a3':=Cd6 (z:=[bk 2 4]) (w:=[bk 1 4]) ha4 x0 (by simp) (by simp) (bk1 2 4).1 (bk1 1 4).1 ud9 (bk1 2 4).2
 have a4:=(Cd5 (z:=[bk 1 4]) (w:=[]) ha4 x0 (by simp) (by simp) (bk1 1 4).1 Je1 ud9 (bk1 1 4).2).trans ka4
 have a4':=Cd6 (z:=[bk 1 4]) (w:=[]) ha4 x0 (by simp) (by simp) (bk1 1 4).1 Je1 ud9 (bk1 1 4).2
 have v1:=(hc9 ha4 x0).trans kv1;have v1':=ic0 ha4 x0;have v2:=(hc9 ha4 x1).trans kv2;have v2':=ic0 ha4 x1;have v3:=(hc9 ha4 x2).trans kv3;have v3':=ic0 ha4 x2;have v4:=(hc9 ha4 x3).trans kv4;have v4':=ic0 ha4 x3;have v5:=(hc9 ha4 x4).trans kv5;have v5':=ic0 ha4 x4;have l1:=(Ef3 ha4 x0 se4).trans kl1;have l1':=Ef4 ha4 x0 se4;have l2:=(Ef3 ha4 x1 se4).trans kl2;have l2':=Ef4 ha4 x1 se4;have i1:=Ef8 (x:=ps false false false false false false []) (z:=⟨#[46,46,46]⟩) rfl rfl (by show 3<=_;omega) ki1
 have i2:=Ef8 (x:=ps false true false false true true [bk 2 4]) (z:=⟨#[46,115,116]⟩) rfl rfl (by show 3<=_;omega) (ki2 _)
 have i3:=Ef8 (x:=ps false true false false true true [bk 2 3,bk 3 5]) (z:=⟨#[46,115,116]⟩) rfl rfl (by show 3<=_;omega) (ki2 _)
 have i4:=Ef8 (x:=ps false true false true true false [bk 2 4]) (z:=⟨#[116,115,46]⟩) rfl rfl (by show 3<=_;omega) (ki3 _)
 have i5:=Ef8 (x:=ps false true false true true false [bk 1 4]) (z:=⟨#[116,115,46]⟩) rfl rfl (by show 3<=_;omega) (ki3 _)
 have s1:=Uc7 (x:=[bk 0 2,bk 2 4,bk 4 6]) (by simp) ha4.pl
 have s1':=Uc8 (x:=[bk 0 2,bk 2 4,bk 4 6]) (by simp) ha4.pl
 have s2:=Uc7 (x:=[bk 0 2,bk 4 6]) (by simp) (bk2 0 2 4 6).1
 have s2':=Uc8 (x:=[bk 0 2,bk 4 6]) (by simp) (bk2 0 2 4 6).1
 unfold exP at c1 c1' n1 n1' a1 a1' a2 a2' a3 a3' a4 a4' v1 v1' v2 v2' v3 v3' v4 v4' v5 v5' l1 l1' l2 l2';unfold exQ at c2 c2';unfold exR at c3 c3';unfold ps at n1 a1 a1' a2 a2' a3 a3' a4 a4' v1 v1' v2 v2' v3 v3' v4 v4' v5 v5' l1 l1' l2 l2' i1 i2 i3 i4 i5;unfold Za1;simp only[b1,b2,b3,b4,b5,b6,b7,b8,b9,b10,b11,b12,j8,w7,Qlb,g9,c1,c1',c2,c2',c3,c3',n1,n1',a1,a1',a2,a2',a3,a3',a4,a4',v1,v1',v2,v2',v3,v3',v4,v4',v5,v5',l1,l1',l2,l2',i1.1,i1.2,i2.1,i2.2,i3.1,i3.2,i4.1,i4.2,i5.1,i5.2,s1,s1',s2,s2'];rfl
theorem Wc0:rb6=true:=by unfold rb6;rw[vd0];rfl
theorem Wc1:rb7=true:=by unfold rb7;rw[vd0];rfl
theorem se5{c:PLq}{p:Pln}{q:Pln}:q∈c++[p]++ws↔q∈c++ws\/q=p:=by
 simp only[Qlc,Qld];constructor
 ·rintro ((h|h)|h)
  ·exact .inl (.inl h)
  ·exact .inr h
  ·exact .inl (.inr h)
 ·rintro ((h|h)|h)
  ·exact .inl (.inl h)
  ·exact .inr h
  ·exact .inl (.inr h)
theorem df6{c:PLq}{p:Pln}{z:Pt}:Ins (c++[p]++ws) z↔Ins (c++ws) z/\0<rmZ p z:=by
 constructor
 ·intro h;exact⟨h.mono λq hq=>se5.2 (.inl hq),h.h p (se5.2 (.inr rfl))⟩
 ·rintro⟨h1,h2⟩;refine⟨h1.w,λq hq=>?_⟩
  rcases se5.1 hq with h|rfl
  ·exact h1.h q h
  ·exact h2
structure HvF(c:PLq)(p q:Pln):Prop where
 a:Df3 [c] [c++[p],c++[La9 p]]=(true,0)
 a':Df3 [c++[p],c++[La9 p]] [c]=(true,0)
 h:ya5 [c++[p]] c=(!ful (c++[La9 p]),0)
 h':ya5 [c++[La9 p]] c=(!ful (c++[p]),0)
 s:Df3 [c++[La9 p],c++[p]++[q],c++[p]++[La9 q]] [c++[p],c++[La9 p]]=(true,0)
 v:ya5 [c++[La9 p],c++[p]++[q],c++[p]++[La9 q]] c=(true,0)
 d:apart (c++[p]) (c++[La9 p])=true
theorem Ff1{n:V3}{d:Int}(hn:[n.x,n.y,n.z].all (smb 4608)=true)(hg:g3 n=1)(h1:-2097152<=d)(h2:d<=2097152):okp ⟨n,d⟩=true:=by
 unfold okp;rw[hn,hg];simp only[List.all_cons,List.all_nil,Bool.and_true,Bool.true_and,Bool.and_eq_true,beq_self_eq_true,true_and,oe7];exact⟨h1,h2⟩
theorem qd0{x y z u v w:Int}{p:Pln}:p∈bx x y z u v w↔p=⟨⟨1,0,0⟩,u⟩\/p=⟨⟨-1,0,0⟩,-x⟩\/p=⟨⟨0,1,0⟩,v⟩\/p=⟨⟨0,-1,0⟩,-y⟩\/p=⟨⟨0,0,1⟩,w⟩\/p=⟨⟨0,0,-1⟩,-z⟩:=by
 simp only[bx,Qlj,Qlh,or_false]
theorem wf8{x y z u v w:Int}(h1:-2000<=x/\x<=2000)(h2:-2000<=y/\y<=2000)(h3:-2000<=z/\z<=2000)(h4:-2000<=u/\u<=2000)(h5:-2000<=v/\v<=2000)(h6:-2000<=w/\w<=2000):∀p∈bx x y z u v w,okp p=true:=λp hp=>by
 rcases qd0.1 hp with rfl|rfl|rfl|rfl|rfl|rfl<;>exact Ff1 (by decide) (by decide) (by omega) (by omega)
theorem Qd7{x y z u v w:Int}(h1:-2000<=x/\x<=2000)(h2:-2000<=y/\y<=2000)(h3:-2000<=z/\z<=2000)(h4:-2000<=u/\u<=2000)(h5:-2000<=v/\v<=2000)(h6:-2000<=w/\w<=2000):(chk (bx x y z u v w)==0)=true:=by
 rw[beq_iff_eq,Pb4];exact⟨by rw[Od4];decide,wf8 h1 h2 h3 h4 h5 h6⟩
theorem gg5{p:Pln}:p∈ws↔p=⟨⟨1,0,0⟩,24⟩\/p=⟨⟨-1,0,0⟩,24⟩\/p=⟨⟨0,1,0⟩,24⟩\/p=⟨⟨0,-1,0⟩,24⟩\/p=⟨⟨0,0,1⟩,24⟩\/p=⟨⟨0,0,-1⟩,24⟩:=by
 simp only[ws,Qlj,Qlh,or_false]
theorem gg6{x y z u v w:Int}(h1:-24<=x/\x<u/\u<=24)(h2:-24<=y/\y<v/\v<=24)(h3:-24<=z/\z<w/\w<=24):ful (bx x y z u v w)=true:=by
 refine ed3.2 ⟨Qd7 (by omega) (by omega) (by omega) (by omega) (by omega) (by omega),⟨x+u,y+v,z+w,2⟩,by show (0:Int)<2;decide,λp hp=>?_⟩
 rcases Qlc.1 hp with hp|hp
 ·rcases qd0.1 hp with rfl|rfl|rfl|rfl|rfl|rfl<;>(unfold rmZ;simp only;omega)
 ·rcases gg5.1 hp with rfl|rfl|rfl|rfl|rfl|rfl<;>(unfold rmZ;simp only;omega)
theorem Je2{a c:PLq}(ha:(chk a==0)=true)(hc:(chk c==0)=true){p q:Pln}(hp:p∈a)(hq:q∈c)(h:∀z:Pt,0<z.pw->0<rmZ p z->0<rmZ q z->False):apart a c=true :=
 (Lb2 ha hc).2 λz h1 h2=>h z h1.w (h1.h p (Qlg _ hp)) (h2.h q (Qlg _ hq))
theorem Ff2{a a' c c':PLq}(ha:(chk a==0)=true)(hc:(chk c==0)=true)(ha':(chk a'==0)=true)(hc':(chk c'==0)=true)(h1:∀p∈a,p∈a')(h2:∀p∈c,p∈c')(h:apart a c=true):apart a' c'=true :=
 (Lb2 ha' hc').2 λz k1 k2=>(Lb2 ha hc).1 h z (k1.mono λp hp=>(Qlc.1 hp).elim (λe=>Qlg _ (h1 p e)) λe=>Qlp _ e)
  (k2.mono λp hp=>(Qlc.1 hp).elim (λe=>Qlg _ (h2 p e)) λe=>Qlp _ e)
def Prw(l:LPq):Prop:=∀j k,j<k->k<l.length->apart (gL tLq l j) (gL tLq l k)=true
theorem gd6{α:Type}(t:Ty α)(l:List α)(c:α){k:Nat}(h:k<l.length):gL t (l++[c]) k=gL t l k:=by
 simp only[gL,Qlk];rw[List.getElem?_append_left h]
theorem se6{α:Type}(t:Ty α)(l:List α)(c:α):gL t (l++[c]) l.length=c:=by
 simp[gL,Qlk]
theorem Prw.app{l:LPq}(h:Prw l){c:PLq}(hc:∀q∈l,apart q c=true):Prw (l++[c]):=by
 intro j k hjk hk;rw[Qla,List.length_singleton] at hk;by_cases e:k<l.length
 ·rw[gd6 _ _ _ e,gd6 _ _ _ (by omega)]
  exact h j k hjk e
 ·have:k=l.length:=by omega
  subst this;rw[se6,gd6 _ _ _ hjk];exact hc _ (X7 _ hjk)
theorem Prw.nil:Prw []:=λj k _ hk=>absurd hk (Nat.not_lt_zero _)
structure Rw(h X:Int)(l:LPq):Prop where
 p:Prw l
 c:∀q∈l,∃a c y,q=bx a y 0 c (y+3) h/\-6<=a/\a<c/\c<=X/\(y=0\/y=3)
theorem Rw.nil(h X:Int):Rw h X []:=⟨.nil,λq hq=>by cases hq⟩
theorem Rw.add{h X a c y:Int}{l:LPq}(r:Rw h X l)(hh:2<=h/\h<=4)(hX:-6<=X/\X<=20)(hc:X<c/\c<=24)(ha:a=X)(hy:y=0\/y=3):Prw (l++[bx a y 0 c (y+3) h]):=by
 refine r.p.app λq hq=>?_
 obtain⟨a',c',y',rfl,h1,h2,h3,h4⟩:=r.c q hq;refine Je2 (p:=⟨⟨1,0,0⟩,c'⟩) (q:=⟨⟨-1,0,0⟩,-a⟩) (Qd7 (by omega) (by omega) (by omega) (by omega) (by omega) (by omega)) (Qd7 (by omega) (by omega) (by omega) (by omega) (by omega) (by omega)) (qd0.2 (by simp)) (qd0.2 (by simp)) λz h0 k1 k2=>?_
 have:(a-c')*z.pw<0:=by
  unfold rmZ at k1 k2
  simp only at k1 k2
  have e:(a-c')*z.pw=a*z.pw-c'*z.pw:=Int.sub_mul _ _ _;have e2:-a*z.pw=-(a*z.pw):=Int.neg_mul _ _;rw[e2] at k2;rw[e];omega
 have:0<=(a-c')*z.pw:=Int.mul_nonneg (by omega) (by omega)
 omega
theorem Rw.one{h X c:Int}{l:LPq}(r:Rw h X l)(hh:2<=h/\h<=4)(hX:-6<=X/\X<=20)(hc:X<c/\c<=24):Rw h c (l++[bx X 0 0 c 3 h]) :=
 ⟨r.add (y:=0) hh hX hc rfl (.inl rfl),λq hq=>by
  rcases Qlc.1 hq with hq|hq
  ·obtain⟨a',c',y',h0,h1,h2,h3,h4⟩:=r.c q hq;exact⟨a',c',y',h0,h1,h2,by omega,h4⟩
  ·rw[Qld.1 hq];exact⟨X,c,0,rfl,by omega,by omega,by omega,.inl rfl⟩⟩
theorem Rw.two{h X c:Int}{l:LPq}(r:Rw h X l)(hh:2<=h/\h<=4)(hX:-6<=X/\X<=20)(hc:X<c/\c<=24):Rw h c ((l++[bx X 0 0 c 3 h])++[bx X 3 0 c 6 h]):=by
 have r1:=r.one hh hX hc;refine⟨r1.p.app λq hq=>?_,λq hq=>?_⟩
 ·rcases Qlc.1 hq with hq|hq
  ·have h2:=r.add (y:=3) hh hX hc rfl (.inr rfl);obtain⟨k,hk,rfl⟩:=Qlr hq
   have:=h2 k l.length hk (by simp)
   rw[se6,gd6 _ _ _ hk,fb0 tLq hk] at this;exact this
  ·rw[Qld.1 hq];refine Je2 (p:=⟨⟨0,1,0⟩,3⟩) (q:=⟨⟨0,-1,0⟩,-3⟩) (Qd7 (by omega) (by omega) (by omega) (by omega) (by omega) (by omega)) (Qd7 (by omega) (by omega) (by omega) (by omega) (by omega) (by omega)) (qd0.2 (by simp)) (qd0.2 (by simp)) λz h0 k1 k2=>?_
   unfold rmZ at k1 k2
   simp only at k1 k2
   omega
 ·rcases Qlc.1 hq with hq|hq
  ·exact r1.c q hq
  ·rw[Qld.1 hq];exact⟨X,c,3,rfl,by omega,by omega,by omega,.inr rfl⟩
structure Mcl(l:LPq):Prop where
 n1:2<=l.length
 n2:l.length<=6
 p:Prw l
 f:∀q∈l,ful q=true
 k:∀q∈l,6<=q.length/\q.length<=7
theorem Rw.mcl{h X:Int}{l:LPq}(r:Rw h X l)(hh:2<=h/\h<=4)(hX:X<=24)(h1:2<=l.length)(h2:l.length<=6):Mcl l :=
 ⟨h1,h2,r.p,λq hq=>by
  obtain⟨a',c',y',rfl,h1,h2,h3,h4⟩:=r.c q hq;exact gg6 (by omega) (by omega) (by omega),λq hq=>by
  obtain⟨a',c',y',rfl,h1,h2,h3,h4⟩:=r.c q hq;rw[Od4]
  omega⟩
theorem Ue4{α:Type}(t:Ty α)(l:List α)(c:α){j k:Nat}(h:j<l.length):gL t (l.set j c) k=if k=j then c else gL t l k:=by
 simp only[gL,Qlk,List.getElem?_set];by_cases e:j=k
 ·subst e;simp[h]
 ·rw[if_neg e,if_neg (λe'=>e e'.symm)]
theorem Mcl.cut{l:LPq}(m:Mcl l)(h6:l.length<6)(hk:∀q∈l,q.length=6){p:Pln}(hp:okp p=true){j:Nat}(hj:j<l.length)
  (f1:ful (gL tLq l j++[p])=true) (f2:ful (gL tLq l j++[La9 p])=true):Mcl (l.set j (gL tLq l j++[p])++[gL tLq l j++[La9 p]]):=by
 have hc:=λk (h:k<l.length)=>(ed3.1 (m.f _ (X7 tLq h))).1
 have hl:=hk _ (X7 tLq hj);have k1:=(ed3.1 f1).1;have k2:=(ed3.1 f2).1;have ap:∀k,k<l.length->k≠j->∀q:Pln,(chk (gL tLq l j++[q])==0)=true->apart (gL tLq l k) (gL tLq l j++[q])=true/\apart (gL tLq l j++[q]) (gL tLq l k)=true:=by
  intro k hk' hkj q hq;have h0:apart (gL tLq l k) (gL tLq l j)=true:=by
   rcases Nat.lt_or_gt_of_ne hkj with h|h
   ·exact m.p k j h hj
   ·rw[oc2];exact m.p j k h hk'
  have h1:apart (gL tLq l k) (gL tLq l j++[q])=true:=Ff2 (hc k hk') (hc j hj) (hc k hk') hq (λ_ h=>h) (λ_ h=>Qlg _ h) h0
  exact⟨h1,by rw[oc2];exact h1⟩
 refine⟨by rw[Qla,Qlf];have:=m.n1;simp;omega,by rw[Qla,Qlf];simp;omega,?_,?_,?_⟩
 ·refine Prw.app (λi k hik hkl=>?_) λq hq=>?_
  ·rw[Qlf] at hkl;rw[Ue4 tLq l _ hj,Ue4 tLq l _ hj];by_cases e1:i=j
   ·rw[if_pos e1,if_neg (by omega)]
    exact (ap k hkl (by omega) p k1).2
   ·by_cases e2:k=j
    ·rw[if_neg e1,if_pos e2];exact (ap i (by omega) e1 p k1).1
    ·rw[if_neg e1,if_neg e2];exact m.p i k hik hkl
  ·obtain⟨i,hi,rfl⟩:=Qlr hq;rw[Qlf] at hi;rw[List.getElem_set];by_cases e:j=i
   ·rw[if_pos e];refine (Lb2 k1 k2).2 λz z1 z2=>?_
    have a1:=(df6.1 z1).2;have a2:=(df6.1 z2).2;rw[Nd5] at a2;omega
   ·rw[if_neg e]
    have:=(ap i hi (λe'=>e e'.symm) (La9 p) k2).1
    rw[fb0 tLq hi] at this;exact this
 ·intro q hq
  rcases Qlc.1 hq with hq|hq
  ·rcases Qlm hq with h|rfl
   ·exact m.f q h
   ·exact f1
  ·rw[Qld.1 hq];exact f2
 ·intro q hq
  rcases Qlc.1 hq with hq|hq
  ·rcases Qlm hq with h|rfl
   ·exact m.k q h
   ·rw[Qla,hl,List.length_singleton];decide
  ·rw[Qld.1 hq,Qla,hl,List.length_singleton];decide
structure Mp(x:Prt):Prop where
 c:Mcl x.cl
 w:x.wt.length=x.cl.length
 o:∀n∈x.wt,n=1\/n=2\/n=3
theorem Mp.jok{x:Prt}(m:Mp x):Jok x:=⟨by have:=m.c.n2;omega,by have:=m.c.n2;have:=m.w;omega,λc hc=>by have:=(m.c.k c hc).2;omega⟩
theorem Mp.ne{x:Prt}(m:Mp x):∀q∈x.cl,q≠[]:=λq hq e=>by
 have:=(m.c.k q hq).1
 rw[e] at this
 simp at this
theorem Mp.chk{x:Prt}(m:Mp x):cc2 x=0:=by
 have h1:=m.c.n1;have h2:=m.c.n2;unfold cc2;rw[if_neg (by omega),if_neg (by omega),if_neg (by rw[m.w];simp),if_neg,if_neg]
 ·intro h;obtain⟨j,hj,hb⟩:=Qln.1 h;have hj:=Qli.1 hj;unfold zd3 at hb;rw[m.c.f _ (X7 tLq hj)] at hb;simp only[Bool.not_true,Bool.false_or] at hb;obtain⟨k,hk,hb⟩:=Qln.1 hb;rw[m.c.p k j (Qli.1 hk) hj] at hb;cases hb
 ·intro h;obtain⟨n,hn,hb⟩:=Qln.1 h
  rcases m.o n hn with rfl|rfl|rfl<;>revert hb<;>decide
theorem gd7(lo hi:V3):La5 lo hi=⟨hi.x,W (0-lo.x),hi.y,W (0-lo.y),hi.z,W (0-lo.z)⟩:=rfl
theorem qg3(x y z u v w:Int):bL tP (bx x y z u v w)=[[i 1,i 0,i 0,i u],[i (-1),i 0,i 0,i (-x)],[i 0,i 1,i 0,i v],[i 0,i (-1),i 0,i (-y)],[i 0,i 0,i 1,i w],[i 0,i 0,i (-1),i (-z)]]:=rfl
theorem Qd8(x y z u v w:Int):d7.tree 4 6 (λk=>g8 [[i 1,i 0,i 0,i u],[i (-1),i 0,i 0,i (-x)],[i 0,i 1,i 0,i v],[i 0,i (-1),i 0,i (-y)],[i 0,i 0,i 1,i w],[i 0,i 0,i (-1),i (-z)]] (0+k))=cpA (bx x y z u v w):=by
 rw[<- qg3];exact Pd7 (bx x y z u v w)
def Je3(t:Bool):Nat:=if t=true then 2 else 1
structure RPa(n:Nat)(t:Bool)(h:Int)(u:List Int)(j:Nat)(s:P6)(O:LPq):Prop where
 le:j<=n
 ph:s.ph=phL O
 r:Rw h s.is9 O
 x:-6<=s.is9/\s.is9<=-4+4*(j:Int)
 ix:s.A3=(j:Int)
 u:s.G0=u
 d:0<=s.Z0/\s.Z0<=100+(j:Int)
 n:s.ba4=O.length
 e:s.eh4=cpR O
 l:O.length=Je3 t*j
theorem Qd9{n:Nat}{t:Bool}{h:Int}{nm nm2:ByteArray}{u u' v':List Int}(hn:n<=4)(hh:2<=h/\h<=4){x d:Int}(hx:-6<=x/\x<=-4)(hd:0<=d/\d<=100) :
  ∃s O,lp (ea4 ⟨(n:Int),t,h,nm,u',v',nm2⟩) ⟨0,x,0,u,d,0,[]⟩=(phL O+1,s)/\RPa n t h u n s O:=by
 suffices key:∃tt s,lp (ea4 ⟨(n:Int),t,h,nm,u',v',nm2⟩) ⟨0,x,0,u,d,0,[]⟩=(tt,s)/\∃O,tt=phL O+1/\RPa n t h u n s O by
  obtain⟨tt,s,h1,O,h2,h3⟩:=key;exact⟨s,O,by rw[h1,h2],h3⟩
 refine Fa0 (step:=ea4 ⟨(n:Int),t,h,nm,u',v',nm2⟩) (mk:=λ_ (s:P6)=>s) n (λj s=>∃O,RPa n t h u j s O) (λtt s=>∃O,tt=phL O+1/\RPa n t h u n s O) (by omega)
  (λj s hj hi=>?_) (λj s hj hi=>?_) 0 ⟨0,x,0,u,d,0,[]⟩ ⟨[],⟨Qlu _,rfl,.nil _ _,by show -6<=x/\x<=_;omega,rfl,rfl,by show 0<=d/\d<=_;omega,rfl,rfl,by simp⟩⟩
 ·obtain⟨O,hi⟩:=hi;obtain⟨_,h2,h3,⟨h4,h4'⟩,h5,h6,⟨h7,h7'⟩,h8,h9,h10⟩:=hi;obtain⟨ph,is9,A3,lI,ih,nh,eh⟩:=s
  simp only at h2 h3 h4 h4' h5 h6 h7 h7' h8 h9 h10
  subst h2 h5 h6 h8 h9;obtain⟨v,d',e1,e2,e3,e4,e5⟩:=Jb6 4 lI ih h7 (by omega) (by decide) (by decide)
  have hw1:W ((j:Int)+1)=((j+1:Nat):Int):=u7 hj (by omega)
  have hw2:W (1+v)=1+v:=La6 (by omega) (by omega)
  have hw3:W (is9+(1+v))=is9+(1+v):=La6 (by omega) (by omega)
  have hw4:W (0-is9)=-is9:=by rw[La6 (by omega) (by omega)];omega
  have hw5:W (0-0)=-0:=rfl;have hw6:W (0-3)=-3:=rfl;have hO:O.length<=8:=by rw[h10];unfold Je3;split<;>omega
  have q11:Nat.beq 1 1=true:=rfl;have hr1:Rw h (is9+(1+v)) (O++[bx is9 0 0 (is9+(1+v)) 3 h]):=h3.one hh (by omega) (by omega)
  have hr2:Rw h (is9+(1+v)) ((O++[bx is9 0 0 (is9+(1+v)) 3 h])++[bx is9 3 0 (is9+(1+v)) 6 h]):=h3.two hh (by omega) (by omega)
  cases t with
  |false =>
   have hl:(O++[bx is9 0 0 (is9+(1+v)) 3 h]).length=Je3 false*(j+1):=by rw[Qla,h10];unfold Je3;simp
   have fin:RPa n false h lI (j+1) ⟨phL (O++[bx is9 0 0 (is9+(1+v)) 3 h]),is9+(1+v),((j+1:Nat):Int),lI,d',(O++[bx is9 0 0 (is9+(1+v)) 3 h]).length,cpR (O++[bx is9 0 0 (is9+(1+v)) 3 h])⟩ (O++[bx is9 0 0 (is9+(1+v)) 3 h]) :=
    ⟨hj,rfl,hr1,by show -6<=is9+(1+v)/\is9+(1+v)<=-4+4*((j+1:Nat):Int);omega,rfl,rfl,by show 0<=d'/\d'<=100+((j+1:Nat):Int);omega,rfl,rfl,hl⟩
   have hst:ea4 ⟨(n:Int),false,h,nm,u',v',nm2⟩ ⟨phL O,is9,(j:Int),lI,ih,O.length,cpR O⟩=.next ⟨phL (O++[bx is9 0 0 (is9+(1+v)) 3 h]),is9+(1+v),((j+1:Nat):Int),lI,d',(O++[bx is9 0 0 (is9+(1+v)) 3 h]).length,cpR (O++[bx is9 0 0 (is9+(1+v)) 3 h])⟩:=by
    rw[Xb2,Qla,List.length_singleton,<- Kb4]
    rcases da0 O with⟨hz,hn⟩|h1
    ·rw[hz];show ha2 Stp.next Stp.exit Stp.fail _ _=_;simp only[ha2,j8,l8,Qlb,e1,gd7,hw1,hw2,hw3,hw4,hw5,hw6,Qd8,g9,w6,q11];rw[btD (by omega),hn]
     rfl
    ·rw[h1];show ha3 Stp.next Stp.exit Stp.fail _ _=_;simp only[ha3,j8,l8,Qlb,e1,gd7,hw1,hw2,hw3,hw4,hw5,hw6,Qd8,g9,w6,q11];rw[btD (by omega),bt (Dc4 _ (by omega))]
   show Nx (ea4 ⟨(n:Int),false,h,nm,u',v',nm2⟩ ⟨phL O,is9,(j:Int),lI,ih,O.length,cpR O⟩) _ _;rw[hst];exact .nx ⟨_,rfl,_,fin⟩
  |true =>
   have hl:((O++[bx is9 0 0 (is9+(1+v)) 3 h])++[bx is9 3 0 (is9+(1+v)) 6 h]).length=Je3 true*(j+1):=by rw[Qla,Qla,h10];unfold Je3;simp;omega
   have fin:RPa n true h lI (j+1) ⟨phL ((O++[bx is9 0 0 (is9+(1+v)) 3 h])++[bx is9 3 0 (is9+(1+v)) 6 h]),is9+(1+v),((j+1:Nat):Int),lI,d',((O++[bx is9 0 0 (is9+(1+v)) 3 h])++[bx is9 3 0 (is9+(1+v)) 6 h]).length,cpR ((O++[bx is9 0 0 (is9+(1+v)) 3 h])++[bx is9 3 0 (is9+(1+v)) 6 h])⟩ ((O++[bx is9 0 0 (is9+(1+v)) 3 h])++[bx is9 3 0 (is9+(1+v)) 6 h]) :=
    ⟨hj,rfl,hr2,by show -6<=is9+(1+v)/\is9+(1+v)<=-4+4*((j+1:Nat):Int);omega,rfl,rfl,by show 0<=d'/\d'<=100+((j+1:Nat):Int);omega,rfl,rfl,hl⟩
   have hst:ea4 ⟨(n:Int),true,h,nm,u',v',nm2⟩ ⟨phL O,is9,(j:Int),lI,ih,O.length,cpR O⟩=.next ⟨phL ((O++[bx is9 0 0 (is9+(1+v)) 3 h])++[bx is9 3 0 (is9+(1+v)) 6 h]),is9+(1+v),((j+1:Nat):Int),lI,d',((O++[bx is9 0 0 (is9+(1+v)) 3 h])++[bx is9 3 0 (is9+(1+v)) 6 h]).length,cpR ((O++[bx is9 0 0 (is9+(1+v)) 3 h])++[bx is9 3 0 (is9+(1+v)) 6 h])⟩:=by
    rw[Xb2,Qla,Qla,List.length_singleton,List.length_singleton,<- Kb4,<- Kb4]
    rcases da0 O with⟨hz,hn⟩|h1
    ·rw[hz];show ha2 Stp.next Stp.exit Stp.fail _ _=_;simp only[ha2,j8,l8,Qlb,e1,gd7,hw1,hw2,hw3,hw4,hw5,hw6,Qd8,g9,w6,q11];rw[btD (by omega),hn]
     rfl
    ·rw[h1];show ha3 Stp.next Stp.exit Stp.fail _ _=_;simp only[ha3,j8,l8,Qlb,e1,gd7,hw1,hw2,hw3,hw4,hw5,hw6,Qd8,g9,w6,q11];rw[btD (by omega),bt (Dc4 _ (by omega)),bt]
     rw[Kb4]
     have:=Dc4 (O++[bx is9 0 0 (is9+(1+v)) 3 h]) (by rw[Qla];simp;omega)
     rw[Qla,List.length_singleton] at this;exact this
   show Nx (ea4 ⟨(n:Int),true,h,nm,u',v',nm2⟩ ⟨phL O,is9,(j:Int),lI,ih,O.length,cpR O⟩) _ _;rw[hst];exact .nx ⟨_,rfl,_,fin⟩
 ·obtain⟨O,hi⟩:=hi;have hje:j=n:=by have:=hi.le;omega
  subst hje;have hi':=hi;obtain⟨_,h2,h3,h4,h5,h6,h7,h8,h9,h10⟩:=hi;obtain⟨ph,is9,A3,lI,ih,nh,eh⟩:=s
  simp only at h2 h3 h4 h5 h6 h7 h8 h9 h10
  subst h2 h5 h6 h8 h9
  rcases da0 O with⟨hz,hn⟩|h1
  ·refine⟨1,?_,O,by rw[hz],hi'⟩
   rw[hz];show ha2 Stp.next Stp.exit Stp.fail _ _=_;simp only[ha2];rw[bfD (B0 (Qle _))]
  ·refine⟨2,?_,O,by rw[h1],hi'⟩
   rw[h1];show ha3 Stp.next Stp.exit Stp.fail _ _=_;simp only[ha3];rw[bfD (B0 (Qle _))]
structure RPw(n:Nat)(u:List Int)(E:List (List d7))(j:Nat)(s:C4)(V:List Int):Prop where
 le:j<=n
 ph:s.ph=if j=0 then 1 else 2
 ix:s.Qa5=(j:Int)
 u:s.G0=u
 d:0<=s.Z0/\s.Z0<=(j:Int)
 e3:s.eh3=E
 n:s.Fa8=j
 e4:s.eh4=bL tI V
 l:V.length=j
 o:∀v∈V,v=1\/v=2\/v=3
theorem Rd0{n:Nat}{u:List Int}{E:List (List d7)}{nm nm2:ByteArray}(hn:1<=n/\n<=1000) :
  ∃s V,lp (oa3 ⟨nm,nm2,n⟩) ⟨1,0,u,0,E,0,[]⟩=(3,s)/\RPw n u E n s V:=by
 suffices key:∃tt s,lp (oa3 ⟨nm,nm2,n⟩) ⟨1,0,u,0,E,0,[]⟩=(tt,s)/\∃V,tt=3/\RPw n u E n s V by
  obtain⟨tt,s,h1,V,h2,h3⟩:=key;exact⟨s,V,by rw[h1,h2],h3⟩
 refine Fa0 (step:=oa3 ⟨nm,nm2,n⟩) (mk:=λ_ (s:C4)=>s) n (λj s=>∃V,RPw n u E j s V) (λtt s=>∃V,tt=3/\RPw n u E n s V) (by omega)
  (λj s hj hi=>?_) (λj s hj hi=>?_) 0 ⟨1,0,u,0,E,0,[]⟩ ⟨[],⟨Qlu _,rfl,rfl,rfl,⟨Int.le_refl _,Int.le_refl _⟩,rfl,rfl,rfl,rfl,by simp⟩⟩
 ·obtain⟨V,hi⟩:=hi;obtain⟨_,h2,h3,h4,⟨h5,h5'⟩,h6,h7,h8,h9,h10⟩:=hi;obtain⟨ph,is,lI,ih,e3,nh,e4⟩:=s
  simp only at h2 h3 h4 h5 h5' h6 h7 h8 h9 h10
  subst h2 h3 h4 h6 h7 h8;obtain⟨v,d',w1,w2,w3,w4,w5⟩:=Jb6 4 lI ih h5 (by omega) (by decide) (by decide)
  have hw1:W ((nh:Int)+1)=((nh+1:Nat):Int):=u7 hj (by omega)
  have q11:Nat.beq 1 1=true:=rfl;obtain⟨m,rfl⟩:∃m:Nat,v=(m:Int):=⟨v.toNat,by omega⟩
  have hm:m<4:=by omega
  have hin:inB (m:Int) 4=true:=i9 hm;have hrow:∃k:Int,g8 [[i 2],[i 1],[i 3],[i 2]] (0+m)=[i k]/\(k=1\/k=2\/k=3):=by
   match m,hm with
   |0,_=>exact⟨2,rfl,by simp⟩
   |1,_=>exact⟨1,rfl,by simp⟩
   |2,_=>exact⟨3,rfl,by simp⟩
   |3,_=>exact⟨2,rfl,by simp⟩
  obtain⟨k,hk,hko⟩:=hrow;have g:((Nat.ble 1 (len [i k]))&&(ra7 [CK.int .i64] [i k]))=true:=rfl;have t:toI (hdA [i k])=k:=rfl;have fin:RPw n lI e3 (nh+1) ⟨2,((nh+1:Nat):Int),lI,d',e3,nh+1,bL tI (V++[k])⟩ (V++[k]) :=
   ⟨hj,by rw[if_neg (by omega)],rfl,rfl,by show 0<=d'/\d'<=((nh+1:Nat):Int);omega,rfl,rfl,rfl,by rw[Qla,h9];rfl,λx hx=>by
    rcases Qlc.1 hx with hx|hx
    ·exact h10 x hx
    ·rw[Qld.1 hx];exact hko⟩
  have hst:oa3 ⟨nm,nm2,n⟩ ⟨if nh=0 then 1 else 2,(nh:Int),lI,ih,e3,nh,bL tI V⟩=.next ⟨2,((nh+1:Nat):Int),lI,d',e3,nh+1,bL tI (V++[k])⟩:=by
   by_cases h0:nh=0
   ·rw[if_pos h0];have hV:V=[]:=List.length_eq_zero_iff.1 (by omega)
    show Ya7 Stp.next Stp.exit Stp.fail _ _=_;simp only[Ya7,j8,l8,Qlb,w1,Int.toNat_natCast,hk,hin,g,t,hw1,g9,q11];rw[btD (o6 hj),hV,h0];rfl
   ·rw[if_neg h0];show xa8 Stp.next Stp.exit Stp.fail _ _=_;simp only[xa8,j8,l8,Qlb,w1,Int.toNat_natCast,hk,hin,g,t,hw1,g9,q11];rw[btD (o6 hj),bt,show app (bL tI V) [[i k]]=bL tI (V++[k]) from Ka2 tI V [k]]
    rw[M2,h9,Qlt,Bool.true_and,Nat.ble_eq];unfold room;omega
  show Nx (oa3 ⟨nm,nm2,n⟩ ⟨if nh=0 then 1 else 2,(nh:Int),lI,ih,e3,nh,bL tI V⟩) _ _
  rw[hst];exact .nx ⟨_,rfl,_,fin⟩
 ·obtain⟨V,hi⟩:=hi;have hje:j=n:=by have:=hi.le;omega
  subst hje;refine⟨3,?_,V,rfl,hi⟩;obtain⟨_,h2,h3,h4,h5,h6,h7,h8,h9,h10⟩:=hi;obtain⟨ph,is,lI,ih,e3,nh,e4⟩:=s
  simp only at h2 h3 h4 h5 h6 h7 h8 h9 h10
  subst h2 h3 h4 h6 h7 h8;rw[if_neg (by omega)]
  show xa8 Stp.next Stp.exit Stp.fail _ _=_;simp only[xa8];rw[bfD (B0 (Qle _))]
theorem Ue5{nm:ByteArray}{c w:d7}{cl:LPq}{wt:List Int}(h2:CR tLq c cl)(h3:CR tI w wt):(one r1J).rd (.agg [.v (.string nm),c,w],[])=some ⟨nm,cl,wt⟩:=by
 show Option.rec (motive:=λ_=>Option Prt) none (λp=>Bool.rec (motive:=λ_=>Option Prt) none (some (tJ.rd p)) (tJ.ok p)) ((freezeCells [] [.v (.string nm),c,w]).map (·.1))=_
 rw[fz3 (show freezeCell [] (.v (.string nm))=some (.v (.string nm),[]) from rfl) h2.fz h3.fz]
 show Bool.rec (motive:=λ_=>Option Prt) none (some (tJ.rd [.v (.string nm),c,w])) (Bool.and (tMq.ok [c]) (Bool.and ((tLs tI).ok [w]) true))=_
 rw[h2.ok,h3.ok];show some (Prt.mk nm (rL tLq c) (rL tI w))=_;rw[h2.rd,h3.rd]
theorem CR.cp(l:LPq){n:Nat}(h:n=l.length):CR tLq (.tree 1 n (λk=>g8 (cpR l) (0+k))) l:=by
 subst h;exact .tree tLq (re5 l).2 (re5 l).1
theorem Ff3{v:List Int}{O:LPq}{s:C4}{V:List Int}(hm:Mcl O)(h:RPw O.length v (cpR O) O.length s V) :
  Rd (one r1J) (some ((.agg [(.v (.string ⟨#[112]⟩)),(.tree 1 O.length (λk=>g8 s.eh3 (0+k))),(.tree 1 s.Fa8 (λk=>g8 s.eh4 (0+k)))]),[])) Mp:=by
 rw[h.e3,h.e4];exact⟨_,_,rfl,Ue5 (.cp O rfl) (.bL tI V (by rw[h.n,h.l])),hm,h.l,h.o⟩
theorem df7(c:PLq):o9 (toG (cpA c)) (List.range (toN (cpA c)))=bL tP c:=by
 show o9 (λk=>g8 (bL tP c) k) (List.range c.length)=bL tP c
 conv=>rhs;rw[<- Mb7]
 rw[n9,n9];exact List.map_congr_left λk hk=>U1 tP (Qli.1 hk)
theorem df8(c:PLq)(p:Pln):app (bL tP c) [[i p.n.x,i p.n.y,i p.n.z,i p.b]]=bL tP (c++[p]):=Ka2 tP c [p]
theorem gg7(l:LPq)(k:Nat)(c:PLq):setAt (cpR l) k [cpA c]=cpR (l.set k c):=by
 unfold cpR;exact Fd8 (λc=>[cpA c]) l k c
theorem Je4{n:Nat}{t:Bool}{h:Int}{u:List Int}{s:P6}{O:LPq}(x:L2)(r:RPa n t h u n s O)(hn:n<=4)(hh:2<=h/\h<=4)(h1:2<=O.length)(h2:O.length<=6):Rd (one r1J) (df4 x (2,s)) Mp:=by
 obtain⟨_,_,hr,hx,_,_,hd,hnh,he,_⟩:=r;obtain⟨ph,is9,A3,lI,ih,nh,eh⟩:=s
 simp only at hr hx hd hnh he
 subst hnh he;have hm:Mcl O:=hr.mcl hh (by omega) h1 h2
 obtain⟨v6,d6,e6,p6,q6,r6,_⟩:=Jb6 4 lI ih hd.1 (by omega) (by decide) (by decide)
 obtain⟨vk,dk,ek,pk,qk,rk,_⟩:=Jb6 (O.length:Int) lI d6 (by omega) (by omega) (by omega) (by omega)
 obtain⟨vb,db,eb,pb,qb,rb,_⟩:=Jb6 4 lI dk (by omega) (by omega) (by decide) (by decide)
 obtain⟨s1,V,hw,hW⟩:=Rd0 (u:=x.v) (E:=cpR O) (nm:=⟨#[]⟩) (nm2:=⟨#[112]⟩) (n:=O.length) ⟨by omega,by omega⟩
 have F:=Ff3 hm hW;have q11:Nat.beq 1 1=true:=rfl;have q21:Nat.beq 2 1=false:=rfl;have q22:Nat.beq 2 2=true:=rfl;have q31:Nat.beq 3 1=false:=rfl;have q32:Nat.beq 3 2=false:=rfl;have q33:Nat.beq 3 3=true:=rfl;unfold df4;simp only[j8,l8,Qlb,q11,q21,q22,g9,w6,e6];refine Rd.sl (λ_=>?_) (λ_=>?_)
 ·refine Rd.sl (λh6=>?_) (λ_=>?_)
  ·have h6:(O.length:Int)<6:=by simpa using h6
   obtain⟨k,rfl⟩:∃k:Nat,vk=(k:Int):=⟨vk.toNat,by omega⟩
   have hk:k<O.length:=by omega
   have hw3:W (2+vb)=2+vb:=La6 (by omega) (by omega)
   have hmem:=X7 tLq hk;have hl6:(gL tLq O k).length=6:=by
    obtain⟨a,c,y,h0,_⟩:=hr.c _ hmem;rw[h0,Od4]
   have hp:okp ⟨⟨0,1,1⟩,2+vb⟩=true:=Ff1 (by decide) (by decide) (by omega) (by omega)
   have hfl:wb2 ⟨⟨0,1,1⟩,2+vb⟩=La9 ⟨⟨0,1,1⟩,2+vb⟩:=Cf4 (md6 hp);have hrow:g8 (cpR O) k=[cpA (gL tLq O k)]:=fd2 hk;have hd0:hdA (l4 [cpA (gL tLq O k)] 0)=cpA (gL tLq O k):=rfl;have hck:ra7 [CK.sl 4] (l4 [cpA (gL tLq O k)] 0)=true:=rfl;have hbl:Nat.blt k (len (cpR O))=true:=by rw[Cd4,Nat.blt_eq];exact hk
   have hle1:Nat.ble (0+1) (len [cpA (gL tLq O k)])=true:=rfl;have hrm:∀m:Nat,m<=100->Nat.ble (m*32) room=true:=λm hm=>by rw[Nat.ble_eq];unfold room;omega
   have a1:app (bL tP (gL tLq O k)) [[i 0,i 1,i 1,i (2+vb)]]=bL tP (gL tLq O k++[⟨⟨0,1,1⟩,2+vb⟩]):=df8 _ ⟨⟨0,1,1⟩,2+vb⟩;have a2:app (bL tP (gL tLq O k)) [[i (La9 ⟨⟨0,1,1⟩,2+vb⟩).n.x,i (La9 ⟨⟨0,1,1⟩,2+vb⟩).n.y,i (La9 ⟨⟨0,1,1⟩,2+vb⟩).n.z,i (La9 ⟨⟨0,1,1⟩,2+vb⟩).b]]=bL tP (gL tLq O k++[La9 ⟨⟨0,1,1⟩,2+vb⟩]):=df8 _ _;have L1:∀p:Pln,(gL tLq O k).length+1=(gL tLq O k++[p]).length:=λp=>by rw[Qla];rfl
   have s1':∀p:Pln,slR tP (bL tP (gL tLq O k++[p])) 0 ((gL tLq O k).length+1)=gL tLq O k++[p]:=λp=>by rw[L1 p];exact jc7 tP _
   have s2':∀p:Pln,okS tP (bL tP (gL tLq O k++[p])) 0 ((gL tLq O k).length+1)=true:=λp=>by rw[L1 p];exact jc8 tP _
   have c1:∀p:Pln,d7.tree 4 ((gL tLq O k).length+1) (λj=>g8 (bL tP (gL tLq O k++[p])) (0+j))=cpA (gL tLq O k++[p]):=λp=>by rw[L1 p];exact Pd7 _
   have f1:=pe2 (c:=gL tLq O k++[⟨⟨0,1,1⟩,2+vb⟩]) (by rw[Qla,hl6];simp)
   have f2:=pe3 (c:=gL tLq O k++[⟨⟨0,1,1⟩,2+vb⟩]) (by rw[Qla,hl6];simp)
   have f3:=pe2 (c:=gL tLq O k++[La9 ⟨⟨0,1,1⟩,2+vb⟩]) (by rw[Qla,hl6];simp)
   have f4:=pe3 (c:=gL tLq O k++[La9 ⟨⟨0,1,1⟩,2+vb⟩]) (by rw[Qla,hl6];simp)
   have sp:∀y:d7,L0 [cpA (gL tLq O k)] 0 [y]=[y]:=λy=>rfl
   have hin:inB (k:Int) O.length=true:=i9 hk;simp only[ek,eb,q11,g9,Int.toNat_natCast,Qll,hrow,hd0,hck,hin,hw3,hfl,df7,fd7,a1,a2,M2,Qlt,hbl,show Nat.ble 1 (len [cpA (gL tLq O k)])=true from rfl,Qlb]
   simp only[Qll] at c1;simp only[hrm _ (show (gL tLq O k).length<=100 by omega),hrm _ (show (gL tLq O k).length+1<=100 by omega),s1',s2',c1,f1,f2,f3,f4,sp,gg7,Kb4,g9,Qlb]
   refine Rd.sl (λg1=>?_) (λ_=>?_)
   ·refine Rd.sl (λg2=>?_) (λ_=>?_)
    ·have m2:=hm.cut (by omega) (λq hq=>by obtain⟨a,c,y,h0,_⟩:=hr.c _ hq;rw[h0,Od4]) hp hk g1 g2
     have e1:O.length+1=(O.set k (gL tLq O k++[⟨⟨0,1,1⟩,2+vb⟩])++[gL tLq O k++[La9 ⟨⟨0,1,1⟩,2+vb⟩]]).length:=by rw[Qla,Qlf];rfl
     obtain⟨s3,V3,hw3,hW3⟩:=Rd0 (u:=x.v) (E:=cpR (O.set k (gL tLq O k++[⟨⟨0,1,1⟩,2+vb⟩])++[gL tLq O k++[La9 ⟨⟨0,1,1⟩,2+vb⟩]])) (nm:=⟨#[]⟩) (nm2:=⟨#[112]⟩) (n:=(O.set k (gL tLq O k++[⟨⟨0,1,1⟩,2+vb⟩])++[gL tLq O k++[La9 ⟨⟨0,1,1⟩,2+vb⟩]]).length) ⟨by omega,by omega⟩
     have F3:=Ff3 m2 hW3;have hroom:(Nat.beq O.length (len (cpR (O.set k (gL tLq O k++[⟨⟨0,1,1⟩,2+vb⟩]))))&&Nat.ble ((O.length+1)*24) room)=true:=by
      have:=Dc4 (O.set k (gL tLq O k++[⟨⟨0,1,1⟩,2+vb⟩])) (by rw[Qlf];omega)
      rw[Qlf] at this;exact this
     rw[hroom,e1,hw3];simp only[Qll] at F3;exact F3
    ·rw[hw];simp only[Qll] at F;exact F
   ·rw[hw];simp only[Qll] at F;exact F
  ·rw[hw];exact F
 ·rw[hw];exact F
theorem df9(x:L2):Rd (one r1J) (Rb5 x) Mp:=by
 obtain⟨v1,d1,e1,p1,q1,r1,r1'⟩:=Jb6 3 x.u 0 (by decide) (by decide) (by decide) (by decide)
 obtain⟨v2,d2,e2,p2,q2,r2,r2'⟩:=Jb6 3 x.u d1 (by omega) (by omega) (by decide) (by decide)
 obtain⟨v3,d3,e3,p3,q3,r3,r3'⟩:=Jb6 3 x.u d2 (by omega) (by omega) (by decide) (by decide)
 obtain⟨v4,d4,e4,p4,q4,r4,r4'⟩:=Jb6 3 x.u d3 (by omega) (by omega) (by decide) (by decide)
 obtain⟨n,hn⟩:∃n:Nat,2+v1=(n:Int):=⟨(2+v1).toNat,by omega⟩
 have w1:W (2+v1)=(n:Int):=by rw[La6 (by omega) (by omega)];exact hn
 have w4:W (2+v4)=2+v4:=La6 (by omega) (by omega)
 have w3:W (-6+v3)=-6+v3:=La6 (by omega) (by omega)
 have q11:Nat.beq 1 1=true:=rfl;unfold Rb5;simp only[j8,l8,Qlb,g9,e1,e2,e3,e4,w1,w3,w4,q11];refine Rd.sl (λ_=>?_) (λ_=>?_)
 ·obtain⟨s,O,h1,h2⟩:=Qd9 (n:=n) (t:=decide ((n:Int)<4)) (h:=2+v4) (nm:=⟨#[]⟩) (nm2:=⟨#[112]⟩) (u:=x.u) (u':=x.u) (v':=x.v) (x:=-6+v3) (d:=d4) (by omega) (by omega) (by omega) (by omega)
  have hl:=h2.l;have h3:2<=O.length/\O.length<=6:=by
   rw[hl];unfold Je3;by_cases h4:(n:Int)<4
   ·rw[decide_eq_true h4,if_pos rfl];omega
   ·rw[decide_eq_false h4,if_neg (by decide)];omega
  rcases da0 O with⟨_,h0⟩|h0
  ·rw[h0] at h3;simp at h3
  ·rw[h1,h0];exact Je4 x h2 (by omega) (by omega) h3.1 h3.2
 ·obtain⟨s,O,h1,h2⟩:=Qd9 (n:=n) (t:=false) (h:=2+v4) (nm:=⟨#[]⟩) (nm2:=⟨#[112]⟩) (u:=x.u) (u':=x.u) (v':=x.v) (x:=-6+v3) (d:=d4) (by omega) (by omega) (by omega) (by omega)
  have hl:=h2.l;have h3:2<=O.length/\O.length<=6:=by
   rw[hl];unfold Je3;rw[if_neg (by decide)]
   omega
  rcases da0 O with⟨_,h0⟩|h0
  ·rw[h0] at h3;simp at h3
  ·rw[h1,h0];exact Je4 x h2 (by omega) (by omega) h3.1 h3.2
theorem gg8(x:L2):Mp (xb2 x):=(df9 x).p
theorem gg9(x:L2):Vc7 x=true:=(df9 x).g
end Go.Ev.Ce
