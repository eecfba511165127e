/- Own work. -/
import Derived.Test.YtkfaiccnekeklaaGreatEvOaEJ
set_option linter.all false
def Qja:=@List.any_eq_true
def Qjb:=@Nat.lt_irrefl
def Qjc:=@List.length_append
def Qjd:=@List.length_take
def Qje:=@Bool.false_eq_true
def Qjf:=@Nat.zero_add
def Qjg:=@List.all_eq_true
def Qjh:=@Nat.zero_le
def Qji:=@Int.mul_eq_zero
def Qjj:=@List.mem_map
def Qjk:=@Nat.le_refl
def Qjl:=@List.mem_range
def Qjm:=@List.drop_zero
def Qjn:=@Bool.and_eq_true
def Qjo:=@Bool.and_self
def Qjp:=@List.mem_filter
def Qjq:=@List.append_nil
def Qjr:=@Classical.byContradiction
def Qjs:=@List.mem_iff_getElem
def Qjt:=@List.filter_append
def Qju:=@Int.mul_le_mul_of_nonneg_left
def Qjv:=@List.take_append_of_le_length
def Qjw:=@Nat.gcd_dvd_left
def Qjx:=@List.length_drop
def Qjy:=@Bool.not_eq_true
def Qjz:=@List.findIdx_getElem
def Qjaa:=@List.filter_cons
def Qjab:=@List.mem_cons
def Qjac:=@List.getD_eq_getElem?_getD
def Qjad:=@Nat.lt_or_gt_of_ne
def Qjae:=@Int.mul_nonneg
def Qjaf:=@Nat.gcd_dvd_right
def Qjag:=@List.take_succ_eq_append_getElem
def Qjah:=@List.findIdx_lt_length_of_exists
def Qjai:=@List.length_filter_le
def Qjaj:=@Int.mul_tdiv_cancel'
def Qjak:=@Nat.beq_refl
def Qjal:=@List.mem_cons_of_mem
def Qjam:=@Int.zero_mul
def Qjan:=@Int.nonneg_of_mul_nonneg_right
def Qjao:=@List.length_set
def Qjap:=@List.mem_cons_self
def Qjaq:=@List.pairwise_cons
def Qjar:=@Nat.dvd_trans
def Qjas:=@Bool.and_true
def Qjat:=@List.append_assoc
def Qjau:=@Int.eq_of_mul_eq_mul_left
def Qjav:=@List.drop_eq_getElem_cons
def Qjaw:=@Nat.ble_eq
def Qjax:=@List.not_mem_nil
def Qjay:=@List.not_all_eq_any_not
def Qjaz:=@List.drop_eq_nil_of_le
def Qjba:=@List.getElem_set_self
def Qjbb:=@List.take_take
def Qjbc:=@List.length_replicate
def Qjbd:=@Go.Ev.Ce.V3.ext'
namespace Go.Ev.Ce
open Go Go.Ev Go.Ev.L Go.Proofs
def U5(p:Pln)(v:V3):Int:=if okp p&&inV v then (if dot p.n v-p.b<0 then -1 else if dot p.n v-p.b>0 then 1 else 0) else 0
theorem xe5{p:Pln}{v:V3}(hp:Bd p)(hv:inV v=true):Sm 331776 (dot p.n v):=by
 obtain⟨⟨a1,a2⟩,⟨a3,a4⟩,a5,a6⟩:=(Oa4 v).1 hv;have r1:=mb hp.x1 hp.x2 a1 a2;have r2:=mb hp.y1 hp.y2 a3 a4;have r3:=mb hp.z1 hp.z2 a5 a6;unfold Sm dot;omega
theorem Ke6(p:Pln)(v:V3):Ia8 p v=some (i (U5 p v),[]):=by
 unfold Ia8 U5;simp only[ve2,Fd3,ae7,Fd9];cases hp:okp p with
 |false=>rfl
 |true =>
  cases hv:inV v with
  |false=>rfl
  |true =>
   have hb:=Bb8 hp;have hd:=xe5 hb hv;have e:aa9 p.n v=dot p.n v:=by
    unfold aa9;simp only[Nb0,dc8];exact sb0 (hd.mono (by omega))
   have e2:W (dot p.n v-p.b)=dot p.n v-p.b:=qa7 (by have:=hd.1;have:=hb.b2;omega) (by have:=hd.2;have:=hb.b1;omega)
   rw[e,e2];by_cases h1:dot p.n v-p.b<0
   ·simp only[Qjo,if_true,h1,decide_true];rfl
   ·by_cases h2:dot p.n v-p.b>0
    ·simp only[Qjo,if_true,h1,h2,decide_true,decide_false,if_false];rfl
    ·simp only[Qjo,if_true,h1,h2,decide_false,if_false];rfl
theorem Uc3(p:Pln)(v:V3):da4 p v=U5 p v:=by unfold da4;rw[Ke6];rfl
theorem Gd6{p:Pln}{v:V3}(hp:okp p=true)(hv:inV v=true):U5 p v>0↔dot p.n v>p.b:=by
 unfold U5;rw[hp,hv];simp only[Qjo,if_true];split
 ·omega
 ·split<;>omega
theorem wb7{p:Pln}{v:V3}(hp:okp p=true)(hv:inV v=true):U5 p v=0↔dot p.n v=p.b:=by
 unfold U5;rw[hp,hv];simp only[Qjo,if_true];split
 ·omega
 ·split<;>omega
theorem Ye7(v:V3):g3 v∣v.x/\g3 v∣v.y/\g3 v∣v.z:=by
 unfold g3;refine⟨?_,?_,?_⟩<;>rw[<- Int.dvd_natAbs]<;>apply Int.natCast_dvd_natCast.2
 ·exact Qjar (Qjw _ _) (Qjw _ _)
 ·exact Qjar (Qjw _ _) (Qjaf _ _)
 ·exact Qjaf _ _
theorem Ye8(v:V3)(h:g3 v≠0):g3 ⟨Int.tdiv v.x (g3 v),Int.tdiv v.y (g3 v),Int.tdiv v.z (g3 v)⟩=1:=by
 generalize hg:g3 v=g at *
 have h0:0<=g:=hg ▸ Sb6 v;obtain⟨n,rfl⟩:∃n:Nat,g=n:=⟨g.toNat,by omega⟩
 have hn:0<n:=by omega
 have hgn:Nat.gcd (Nat.gcd v.x.natAbs v.y.natAbs) v.z.natAbs=n:=by unfold g3 at hg;omega
 have d1:n∣Nat.gcd v.x.natAbs v.y.natAbs:=hgn ▸ Qjw _ _;have d3:n∣v.z.natAbs:=hgn ▸ Qjaf _ _;have d4:n∣v.x.natAbs:=Qjar d1 (Qjw _ _);have d5:n∣v.y.natAbs:=Qjar d1 (Qjaf _ _);unfold g3;simp only[Int.natAbs_tdiv,Int.natAbs_natCast];show ((Nat.gcd (Nat.gcd (v.x.natAbs / n) (v.y.natAbs / n)) (v.z.natAbs / n):Nat):Int)=1;rw[Nat.gcd_div d4 d5,Nat.gcd_div d1 d3,hgn,Nat.div_self hn];rfl
structure Thr(a b c:V3)(p:Pln):Prop where
 ok:okp p=true
 k:∃g:Int,0<g/\g*p.n.x=(c7 (sub b a) (sub c a)).x/\g*p.n.y=(c7 (sub b a) (sub c a)).y/\g*p.n.z=(c7 (sub b a) (sub c a)).z
 o:p.b=dot p.n a
theorem ma4{a b c:V3}(h:(D0 a b c).2=true):(inV a=true/\inV b=true/\inV c=true)/\Thr a b c (D0 a b c).1:=by
 unfold D0 at h ⊢;cases ha:inV a with
 |false=>rw[ha] at h;cases h
 |true =>
  cases hb:inV b with
  |false=>rw[ha,hb] at h;cases h
  |true =>
   cases hc:inV c with
   |false=>rw[ha,hb,hc] at h;cases h
   |true =>
    rw[ha,hb,hc] at h;simp only[Qjo,if_true] at h ⊢;obtain⟨_,k1,k2,k3⟩:=sb1 ha hb hc;generalize hn:c7 (sub b a) (sub c a)=n at *
    by_cases h0:g3 n=0
    ·rw[if_pos h0] at h;cases h
    ·rw[if_neg h0];have hp:=Sb6 n;obtain⟨d1,d2,d3⟩:=Ye7 n;have q1:=ma3 (g:=g3 n) k1 (by omega)
     have q2:=ma3 (g:=g3 n) k2 (by omega)
     have q3:=ma3 (g:=g3 n) k3 (by omega)
     refine⟨⟨trivial,trivial,trivial⟩,⟨?_,⟨g3 n,by omega,by rw[hn];exact Qjaj d1,by rw[hn];exact Qjaj d2,by rw[hn];exact Qjaj d3⟩,rfl⟩⟩
     obtain⟨⟨a1,a2⟩,⟨a3,a4⟩,a5,a6⟩:=(Oa4 a).1 ha;have r1:=mb q1.1 q1.2 a1 a2;have r2:=mb q2.1 q2.2 a3 a4;have r3:=mb q3.1 q3.2 a5 a6;unfold okp;rw[Ye8 n h0];simp only[List.all_cons,List.all_nil,Qjas,Qjn,Bb7,beq_self_eq_true,true_and,and_true];refine⟨⟨q1,q2,q3⟩,?_⟩;unfold Sm dot
     simp only
     omega
theorem be4(a b c:V3):Bd (D0 a b c).1:=by
 cases h:(D0 a b c).2 with
 |true=>exact Bb8 (ma4 h).2.ok
 |false =>
  have:(D0 a b c).1=⟨⟨0,0,0⟩,0⟩:=by
   unfold D0 at h ⊢;split
   ·rename_i hc;rw[if_pos hc] at h;split
    ·rfl
    ·rename_i h0;rw[if_neg h0] at h;cases h
   ·rfl
  rw[this]
  constructor<;>simp
theorem xe6{p:Pln}(h:Bd p):Ra9 p=X6 p:=by
 unfold Ra9 L7 X6
 simp only
 have:=h.x1;have:=h.x2;have:=h.y1;have:=h.y2;have:=h.z1;have:=h.z2;have:=h.b1;have:=h.b2
 rw[qa7 (by omega) (by omega),qa7 (by omega) (by omega),qa7 (by omega) (by omega),qa7 (by omega) (by omega)]
 simp only[Int.zero_sub]
theorem nc4{p:Pln}(h:okp p=true):okp (X6 p)=true:=by
 unfold okp X6 g3 at *
 simp only[List.all_cons,List.all_nil,Qjas,Qjn,Bb7,Int.natAbs_neg] at h ⊢;obtain⟨⟨h1,h2,h3⟩,h4,h5⟩:=h;exact⟨⟨h1.neg,h2.neg,h3.neg⟩,h4,h5.neg⟩
noncomputable def le0(l:List V3)(p:Pln):Bool:=l.any λv=>U5 p v != 0
noncomputable def nf(l:List V3)(a c k:Nat):Bool:=(D0 (gL tV l a) (gL tV l c) (gL tV l k)).2&&le0 l (D0 (gL tV l a) (gL tV l c) (gL tV l k)).1
noncomputable def nf2(l:List V3)(a c:Nat):Bool:=(List.range c).any (nf l a c)
noncomputable def nf1(l:List V3)(a:Nat):Bool:=(List.range a).any (nf2 l a)
noncomputable def nf0(l:List V3):Bool:=(List.range l.length).any (nf1 l)
theorem Ob3 {σ : Type} {step : σ → Stp σ} {mk : Nat → σ} (n : Nat) (c : Nat → Bool) (u fin : Nat) (hn : n ≤ 1000000000) (h : ∀ j, j < n → step (mk j) = sl (c j) (.exit u) (.next (mk (j + 1)))) (hf : step (mk n) = .exit fin) :
  ∃j,lp step (mk 0)=(if (List.range n).any c then u else fin,mk j):=by
 have key:=F9 (step:=step) (mk:=λj (_:Unit)=>mk j) n (λj _=>j<=n/\∀i,i<j->c i=false) (λt s=>t=(if (List.range n).any c then u else fin)/\∃j,s=mk j) hn
  (λj _ hj hi=>by
   rw[h j hj];refine Nx.sl (λhc=>.ex ⟨?_,j,rfl⟩) (λhc=>.nx ⟨(),rfl,by omega,λi hi'=>?_⟩)
   ·rw[if_pos (Qja.2 ⟨j,Qjl.2 hj,hc⟩)]
   ·by_cases e:i=j
    ·rw[e];exact hc
    ·exact hi.2 i (by omega))
  (λj _ hj hi=>by
   have e:j=n:=by omega
   subst e;refine⟨fin,hf,?_,j,rfl⟩;rw[if_neg λhh=>?_]
   obtain⟨i,hi1,hi2⟩:=Qja.1 hh;rw[hi.2 i (Qjl.1 hi1)] at hi2;cases hi2) 0 () ⟨by omega,by omega⟩
 obtain⟨t,s,h1,rfl,j,rfl⟩:=key;exact⟨j,h1⟩
theorem xe7(l:List V3)(x1 x2 x3:Int)(okb:Bool)(p:Pln)(hl:l.length<=1000000000):∃t s,lp (C5 ⟨l,x1,x2,x3,okb,p.n.x,p.n.y,p.n.z,p.b⟩) ⟨0⟩=(t,s)/\(((okb&&le0 l p)=true/\t=1)\/((okb&&le0 l p)=false/\(t=2\/t=3))):=by
 cases okb with
 |false =>
  cases l with
  |nil =>
   refine⟨3,⟨0⟩,?_,.inr ⟨rfl,.inr rfl⟩⟩;exact td2 (step:=C5 ⟨[],x1,x2,x3,false,p.n.x,p.n.y,p.n.z,p.b⟩) rfl
  |cons v l =>
   refine⟨2,⟨0⟩,?_,.inr ⟨rfl,.inl rfl⟩⟩;refine td2 (step:=C5 ⟨v::l,x1,x2,x3,false,p.n.x,p.n.y,p.n.z,p.b⟩) ?_;simp only[C5,Z7];rw[btD (by simp only[List.length_cons];omega)]
   rfl
 |true =>
  have h:=Bb5 (step:=C5 ⟨l,x1,x2,x3,true,p.n.x,p.n.y,p.n.z,p.b⟩) (mk:=λj=>(⟨(j:Int)⟩:fa3)) (c:=λv=>U5 p v != 0) (u:=1) (fin:=3) tV l hl
   (λj hj=>by
    simp only[C5,Z7,Ob0,Uc3,Int.toNat_natCast,v8 hj (show l.length<=4611686018427387904 by omega)]
    rw[btD (j7 hj),bt (i5 hj)]
    rfl)
   (by simp only[C5,Z7];rw[bfD (j6 (Qjb _))]) 0 (Qjh _)
  rw[Qjm] at h;have h:(lp (C5 ⟨l,x1,x2,x3,true,p.n.x,p.n.y,p.n.z,p.b⟩) ⟨0⟩).1=_:=h;cases hlp:lp (C5 ⟨l,x1,x2,x3,true,p.n.x,p.n.y,p.n.z,p.b⟩) ⟨0⟩ with
  |mk t s =>
  rw[hlp] at h;refine⟨t,s,rfl,?_⟩
  simp only at h
  rw[h];unfold le0;cases hh:l.any λv=>U5 p v != 0 with
  |true=>exact .inl ⟨rfl,rfl⟩
  |false=>exact .inr ⟨rfl,.inr rfl⟩
theorem xe8(l:List V3)(hl:l.length<=1000000000)(a c:Nat)(ha:a<l.length)(hc:c<a):∃j,lp (Q7 ⟨(a:Int),(c:Int)⟩) ⟨l,0⟩=(if nf2 l a c then 1 else 2,⟨l,((j:Nat):Int)⟩) :=
 Ob3 (step:=Q7 ⟨(a:Int),(c:Int)⟩) (mk:=λj=>(⟨l,(j:Int)⟩:fa4)) c (nf l a c) 1 2 (by omega)
  (λj hj=>by
   simp only[Q7,ia6,vc6,Sb7,Int.toNat_natCast,l5,j9,v8 hj (show c<=4611686018427387904 by omega)]
   rw[btD (j7 hj),bt (i5 ha),bt (i5 (show c<l.length by omega)),bt (i5 (show j<l.length by omega)),y7]
   obtain⟨t,s,h1,h2⟩:=xe7 l (a:Int) (c:Int) (j:Int) (D0 (gL tV l a) (gL tV l c) (gL tV l j)).2 (D0 (gL tV l a) (gL tV l c) (gL tV l j)).1 hl;rw[h1];unfold nf
   rcases h2 with⟨e,rfl⟩|⟨e,rfl|rfl⟩<;>rw[e]<;>rfl)
  (by simp only[Q7,ia6];rw[bfD (j6 (Qjb _))])
theorem xe9(l:List V3)(hl:l.length<=1000000000)(a:Nat)(ha:a<l.length):∃j,lp (Q8 ⟨(a:Int)⟩) ⟨l,0⟩=(if nf1 l a then 1 else 2,⟨l,((j:Nat):Int)⟩) :=
 Ob3 (step:=Q8 ⟨(a:Int)⟩) (mk:=λj=>(⟨l,(j:Int)⟩:fa5)) a (nf2 l a) 1 2 (by omega)
  (λj hj=>by
   obtain⟨j',h1⟩:=xe8 l hl a j ha hj;simp only[Q8,ia7,l5,j9,v8 hj (show a<=4611686018427387904 by omega)]
   rw[btD (j7 hj),h1];cases nf2 l a j<;>rfl)
  (by simp only[Q8,ia7];rw[bfD (j6 (Qjb _))])
theorem Ke7(l:List V3)(hl:l.length<=1000000000):Ia9 l=some (b (!nf0 l),[]):=by
 obtain⟨j,h⟩:=Ob3 (step:=Q9 ⟨⟩) (mk:=λj=>(⟨l,(j:Int)⟩:fa6)) l.length (nf1 l) 1 2 hl
  (λj hj=>by
   obtain⟨j',h1⟩:=xe9 l hl j hj;simp only[Q9,ia8,l5,j9,v8 hj (show l.length<=4611686018427387904 by omega)]
   rw[btD (j7 hj),h1];cases nf1 l j<;>rfl)
  (by simp only[Q9,ia8];rw[bfD (j6 (Qjb _))])
 have h:lp (Q9 ⟨⟩) ⟨l,0⟩=(if nf0 l then 1 else 2,⟨l,((j:Nat):Int)⟩):=h
 unfold Ia9;simp only[l5,j9];rw[h];cases nf0 l<;>rfl
theorem Ye9(l:List V3)(hl:l.length<=1000000000):Ja0 l=!nf0 l:=by unfold Ja0;rw[Ke7 l hl];rfl
noncomputable def Vb4(l:List V3):Int:=if (l.length:Int)>48 then 2 else if l.all inV then (if nf0 l then 0 else 11) else 3
theorem Td5(l:List V3)(hl:l.length<=1000000000):ya4 l=some (i (Vb4 l),[]):=by
 have h:=Bb5 (step:=Z8 ⟨l⟩) (mk:=λj=>(⟨(j:Int)⟩:O2)) (c:=λv=>!inV v) (u:=1) (fin:=2) tV l hl
  (λj hj=>by
   simp only[Z8,da5,Int.toNat_natCast,ae7,Fd9,v8 hj (show l.length<=4611686018427387904 by omega)]
   rw[btD (j7 hj),bt (i5 hj),y7])
  (by simp only[Z8,da5];rw[bfD (j6 (Qjb _))]) 0 (Qjh _)
 rw[Qjm] at h;have e:(l.any λv=>!inV v)=!l.all inV:=by rw[Qjay]
 unfold ya4 Vb4;simp only[l5,j9,L5,Td0 l hl,Ye9 l hl];rw[show (⟨0⟩:O2)=⟨((0:Nat):Int)⟩ from rfl,h,e]
 by_cases h48:(l.length:Int)>48
 ·rw[if_pos h48,btD h48]
 ·rw[if_neg h48,bfD h48];cases l.all inV with
  |false=>rfl
  |true=>cases nf0 l<;>rfl
theorem kd3(l:List V3)(hl:l.length<=1000000000):nb6 l=Vb4 l:=by unfold nb6;rw[Td5 l hl];rfl
def hold(p:Pln)(l:List V3):Bool:=!l.any λv=>decide (U5 p v>0)
theorem ye0(p:Pln)(l:List V3)(hl:l.length<=1000000000):ya5 p l=some (b (hold p l),[]):=by
 have h:=Bb5 (step:=Z9 ⟨l,p.n.x,p.n.y,p.n.z,p.b⟩) (mk:=λj=>(⟨(j:Int)⟩:O3)) (c:=λv=>decide (U5 p v>0)) (u:=1) (fin:=2) tV l hl
  (λj hj=>by
   simp only[Z9,da6,Int.toNat_natCast,Uc3,Ob0,v8 hj (show l.length<=4611686018427387904 by omega)]
   rw[btD (j7 hj),bt (i5 hj),y7])
  (by simp only[Z9,da6];rw[bfD (j6 (Qjb _))]) 0 (Qjh _)
 rw[Qjm] at h;unfold ya5 hold;simp only[l5,j9];rw[show (⟨0⟩:O3)=⟨((0:Nat):Int)⟩ from rfl,h]
 cases l.any λv=>decide (U5 p v>0)<;>rfl
theorem Ke8(p:Pln)(l:List V3)(hl:l.length<=1000000000):qa8 p l=hold p l:=by unfold qa8;rw[ye0 p l hl];rfl
theorem Td6 (x:List Pln) (y:Pln) (hx:x.length≤1000000):Rd (one (r1L tP)) (Sa1 x y) (fun r=>r=ins x y):=by
  have h:=Oa0 (step:=Y7 ⟨x,y.n.x,y.n.y,y.n.z,y.b⟩) (mk:=fun j=>(⟨(j:Int)⟩:aa0)) (c:=fun p=>!decide (la6 p y < 0)) (u:=1) (fin:=2) tP x (by omega)
    (fun j hj=>by
      simp only[Y7,na4,Int.toNat_natCast,ve7,Ye1,v8 hj (show x.length<=4611686018427387904 by omega)]
      rw[btD (j7 hj),bt (i5 hj),y7];show sl (decide (la6 (gL tP x j) y<0)) _ _=_;cases decide (la6 (gL tP x j) y<0)<;>rfl)
    (by simp only[Y7,na4];rw[bfD (j6 (Qjb _))]) 0 (Qjh _)
  rw[Qjm] at h
  have key:∃ t,lp (Y7 ⟨x,y.n.x,y.n.y,y.n.z,y.b⟩) ⟨0⟩=(t,⟨((atP x y:Nat):Int)⟩)∧(t=1∨t=2):=by
    rw[show (⟨0⟩:aa0)=⟨((0:Nat):Int)⟩ from rfl,h]
    split
    · exact⟨1,by rw[Qjf];rfl,.inl rfl⟩
    · rename_i hn
      refine⟨2,?_,.inr rfl⟩
      have:atP x y=x.length:=by
        unfold atP;rw[List.findIdx_eq_length];intro p hp;cases hb:(!decide (la6 p y<0)) with
        |false=>rfl
        |true=>exact absurd (Qja.2 ⟨p,hp,hb⟩) hn
      rw[this]
  obtain⟨t,h1,h2⟩:=key;have h3:atP x y<=x.length:=List.findIdx_le_length;have hdef:ins x y=if (atP x y<x.length/\eqP (gL tP x (atP x y)) y=true) then x else Vb1 x y (atP x y):=rfl
  generalize atP x y=n at *
  have hlo:inB (n:Int) (x.length+1)=true:=i5 (by omega)
  have hd:(bL tP (x.take n)).length=n:=by rw[<- l6,ia3,Qjd];omega
  have hlen:(Vb1 x y n).length=x.length+1:=by unfold Vb1;simp only[Qjc,List.length_cons,Qjd,Qjx];omega
  have lt:len (bL tP (x.take n))=n:=by rw[l6];exact hd
  have ld:len (bL tP (x.drop n))=x.length-n:=by rw[ia3,Qjx]
  have b1:(Nat.beq 1 1&&Nat.ble ((1+(x.length-n))*32) room)=true:=by rw[cb4 (by omega)];rfl
  have b2:(Nat.beq 0 0&&Nat.ble ((0+n)*32) room)=true:=by rw[cb4 (by omega)];rfl
  have e0:app [] (bL tP (x.take n))=bL tP (x.take n):=rfl;have b3:(Nat.beq (0+n) n&&Nat.ble (((0+n)+1)*32) room)=true:=by rw[cb4 (by omega),Qjf,Qjak];rfl
  have l3:len (bL tP (x.take n++[y]))=n+1:=by rw[ia3,Qjc,Qjd];simp only[List.length_singleton];omega
  have b4:(Nat.beq ((0+n)+1) (n+1)&&Nat.ble ((((0+n)+1)+(x.length-n))*32) room)=true:=by rw[cb4 (by omega),Qjf,Qjak];rfl
  have z0:∀{k:Nat},Nat.beq k 0=true->k=0:=λ{k} h=>Nat.eq_of_beq_eq_true h
  have fin:ins x y=Vb1 x y n→∀ m r,m=x.length+1→r=bL tP (Vb1 x y n)→Rd (one (r1L tP)) (some (.sl 0 0 m 0,[⟨60,4,r,true,false,0⟩])) (fun r=>r=ins x y) :=
    λhq m r hm hr=>ve8 (by rw[hlen];exact hm) hr hq.symm
  have tail:ins x y=Vb1 x y n→Rd (one (r1L tP)) (some ((.sl 0 0 (((0+n)+1)+(x.length - n)) 0),[⟨60,4,(app (bL tP (x.take n++[y])) (bL tP (x.drop n))),true,false,0⟩])) (fun r=>r=ins x y):=fun hq=>by
    refine fin hq _ _ (by omega) ?_
    rw[Ia5];unfold Vb1;rw[Qjat];rfl
  unfold Sa1;simp only[l5,j9];rw[h1];simp only[Int.toNat_natCast,Tc7 x n h3,Tc8,lt,ld,b1,b2,e0,b3,Gd0,l3,b4,hlo,y7]
  have main:Rd (one (r1L tP)) (sl (decide ((n:Int) < (x.length:Int))) (sl (inB (n:Int) x.length) (sl (((gL tP x n).n.x==y.n.x)&&(((gL tP x n).n.y==y.n.y)&&(((gL tP x n).n.z==y.n.z)&&(((gL tP x n).b==y.b)&&true)))) (some (eL tP x,[])) (some ((.sl 0 0 (((0+n)+1)+(x.length - n)) 0),[⟨60,4,(app (bL tP (x.take n++[y])) (bL tP (x.drop n))),true,false,0⟩]))) none) (some ((.sl 0 0 (((0+n)+1)+(x.length - n)) 0),[⟨60,4,(app (bL tP (x.take n++[y])) (bL tP (x.drop n))),true,false,0⟩]))) (fun r=>r=ins x y):=by
    by_cases hn:n<x.length
    · rw[btD (j7 hn),bt (i5 hn)]
      exact Rd.sl (fun q=>⟨_,x,rfl,ae5 tP x,by rw[hdef,if_pos ⟨hn,q⟩]⟩) fun q=>tail (by
        rw[hdef,if_neg λh=>?_]
        have h:=h.2;rw[show eqP (gL tP x n) y=false from q] at h
        cases h)
    · rw[bfD (j6 hn)]
      exact tail (by rw[hdef,if_neg λh=>hn h.1])
  rcases h2 with rfl|rfl
  · exact main
  · exact main
theorem ye1(x:List Pln)(y:Pln)(hx:x.length<=1000000):va4 x y=lb7 x y:=(Td6 x y hx).p.trans (we2 y x)
noncomputable def ob4 (l:List V3) (a c:Nat) (out:List Pln) (k:Nat):List Pln :=
  if (D0 (gL tV l a) (gL tV l c) (gL tV l k)).2 then
    (if hold (X6 (D0 (gL tV l a) (gL tV l c) (gL tV l k)).1) l then lb7 (if hold (D0 (gL tV l a) (gL tV l c) (gL tV l k)).1 l then lb7 out (D0 (gL tV l a) (gL tV l c) (gL tV l k)).1 else out) (X6 (D0 (gL tV l a) (gL tV l c) (gL tV l k)).1)
     else (if hold (D0 (gL tV l a) (gL tV l c) (gL tV l k)).1 l then lb7 out (D0 (gL tV l a) (gL tV l c) (gL tV l k)).1 else out))
  else out
noncomputable def F2(l:List V3)(a:Nat)(out:List Pln)(c:Nat):List Pln:=(List.range c).foldl (ob4 l a c) out
noncomputable def F1(l:List V3)(out:List Pln)(a:Nat):List Pln:=(List.range a).foldl (F2 l a) out
noncomputable def F0(l:List V3):List Pln:=(List.range l.length).foldl (F1 l) []
theorem Sb8 (x:List Pln) (y:Pln):phP (lb7 x y)=1:=by
  cases h:lb7 x y with
  |nil=>exact absurd h (Ke5 _ _)
  |cons _ _=>rfl
theorem wc2 (l:List V3) (a c:Nat) (out:List Pln) (k:Nat):(ob4 l a c out k).length≤out.length+2:=by
  unfold ob4;split
  · split
    · refine Nat.le_trans (wb6 _ _) ?_
      split
      · have:=wb6 (D0 (gL tV l a) (gL tV l c) (gL tV l k)).1 out;omega
      · omega
    · split
      · have:=wb6 (D0 (gL tV l a) (gL tV l c) (gL tV l k)).1 out;omega
      · omega
  · omega
theorem y8 {τ:Type} (f:τ→Nat→τ) (a:τ) (n:Nat):(List.range (n+1)).foldl f a=f ((List.range n).foldl f a) n:=by
  rw[List.range_succ,List.foldl_append];rfl
theorem wb8 {f:List Pln→Nat→List Pln} {m:Nat} (h:∀ o k,(f o k).length≤o.length+m) (o:List Pln):∀ n,((List.range n).foldl f o).length≤o.length+m*n
  |0=>Qjk _
  | n+1=>by
    rw[y8];have h1:=h ((List.range n).foldl f o) n;have h2:=wb8 h o n;rw[Nat.mul_succ];omega
theorem jf4 (l : List V3) (hl : l.length ≤ 48) (a c : Nat) (ha : a < l.length) (hc : c < a) (out : List Pln) (ho : out.length ≤ 900000) :
    ∃j,lp (ia9 ⟨l,(a:Int),(c:Int)⟩) ⟨phP out,0,out⟩=(phP (F2 l a out c)+1,⟨phP (F2 l a out c),((j:Nat):Int),F2 l a out c⟩):=by
  have key:=F9 (step:=ia9 ⟨l,(a:Int),(c:Int)⟩) (mk:=fun j (o:List Pln)=>(⟨phP o,(j:Int),o⟩:B1)) c (fun j o=>j≤c∧o=(List.range j).foldl (ob4 l a c) out) (fun t s=>t=phP (F2 l a out c)+1∧∃ j:Nat,s=⟨phP (F2 l a out c),(j:Int),F2 l a out c⟩) (by omega)
    (fun j o hj hi=>by
      obtain⟨_,hi⟩:=hi
      have hlen:o.length≤990000:=by
        rw[hi]
        have:=wb8 (wc2 l a c) out j
        omega
      have hn:=v8 hj (show c<=4611686018427387904 by omega)
      have hh:∀p,la7 p l=true:=λp=>Je9 p l (by omega)
      have hp:∀p,qa8 p l=hold p l:=λp=>Ke8 p l (by omega)
      have hg1:∀y,va5 o y=true:=λy=>Qe8 o y (by omega)
      have hq1:∀y,va4 o y=lb7 o y:=λy=>ye1 o y (by omega)
      have hg2:∀y z,va5 (lb7 o y) z=true:=λy z=>Qe8 _ z (by have:=wb6 y o;omega)
      have hq2:∀y z,va4 (lb7 o y) z=lb7 (lb7 o y) z:=λy z=>ye1 _ z (by have:=wb6 y o;omega)
      have hfl:Ra9 (D0 (gL tV l a) (gL tV l c) (gL tV l j)).1=X6 (D0 (gL tV l a) (gL tV l c) (gL tV l j)).1:=xe6 (be4 _ _ _)
      have fin : ∀ {s : B1}, s = ⟨phP (ob4 l a c o j), ((j + 1 : Nat) : Int), ob4 l a c o j⟩ → Nx (.next s) (fun t => t = phP (F2 l a out c) + 1 ∧ ∃ j' : Nat, (⟨phP o, (j : Int), o⟩ : B1) = ⟨phP (F2 l a out c), (j' : Int), F2 l a out c⟩)
          (λs=>∃o',s=(⟨phP o',((j+1:Nat):Int),o'⟩:B1)/\(j+1<=c/\o'=(List.range (j+1)).foldl (ob4 l a c) out)):=λ{s} hs =>
        .nx ⟨_,hs,by omega,by rw[y8,<- hi]⟩
      clear hi
      unfold ob4 at fin;generalize hT:D0 (gL tV l a) (gL tV l c) (gL tV l j)=T at *
      have hb1:inB (a:Int) l.length=true:=i5 ha;have hb2:inB (c:Int) l.length=true:=i5 (by omega)
      have hb3:inB (j:Int) l.length=true:=i5 (by omega)
      cases o with
      | nil =>
        show Nx (da7 Stp.next Stp.exit Stp.fail _ _) _ _;simp only[da7,vc6,Sb7,Int.toNat_natCast,l5,L5,hT,hh,hp,hfl,hg1,hq1,hg2,hq2,hn,hb1,hb2,hb3];rw[btD (j7 hj)];cases h2:T.2 with
        |false=>exact fin (by rw[h2];rfl)
        | true =>
          cases h3:hold T.1 l with
          | false =>
            cases h4:hold (X6 T.1) l with
            |false=>exact fin (by rw[h2,h3,h4];rfl)
            |true=>exact fin (by rw[h2,h3,h4];simp only[if_true,if_false,Sb8,Qje])
          | true =>
            cases h4:hold (X6 T.1) l with
            |false=>exact fin (by rw[h2,h3,h4];simp only[if_true,if_false,Sb8,Qje])
            |true=>exact fin (by rw[h2,h3,h4];simp only[if_true,Sb8])
      | cons q o =>
        show Nx (da8 Stp.next Stp.exit Stp.fail _ _) _ _;simp only[da8,vc6,Sb7,Int.toNat_natCast,l5,L5,hT,hh,hp,hfl,hg1,hq1,hg2,hq2,hn,hb1,hb2,hb3];rw[btD (j7 hj)];cases h2:T.2 with
        |false=>exact fin (by rw[h2];rfl)
        | true =>
          cases h3:hold T.1 l with
          | false =>
            cases h4:hold (X6 T.1) l with
            |false=>exact fin (by rw[h2,h3,h4];rfl)
            |true=>exact fin (by rw[h2,h3,h4];simp only[if_true,if_false,Sb8,Qje])
          | true =>
            cases h4:hold (X6 T.1) l with
            |false=>exact fin (by rw[h2,h3,h4];simp only[if_true,if_false,Sb8,Qje])
            |true=>exact fin (by rw[h2,h3,h4];simp only[if_true,Sb8]))
    (fun j o hj hi=>by
      obtain⟨h1,hi⟩:=hi;have e:j=c:=by omega
      subst e;have hF:o=F2 l a out j:=hi;rw[<- hF];cases o with
      | nil =>
        refine⟨1,?_,rfl,j,rfl⟩;show da7 Stp.next Stp.exit Stp.fail _ _=_;simp only[da7];rw[bfD (j6 (Qjb _))]
      | cons q o =>
        refine⟨2,?_,rfl,j,rfl⟩;show da8 Stp.next Stp.exit Stp.fail _ _=_;simp only[da8];rw[bfD (j6 (Qjb _))]) 0 out ⟨Qjh _,rfl⟩
  obtain⟨t,s,h1,rfl,j,rfl⟩:=key;exact⟨j,h1⟩
theorem jf5 (l : List V3) (hl : l.length ≤ 48) (a : Nat) (ha : a < l.length) (out : List Pln) (ho : out.length ≤ 800000) :
    ∃j,lp (ja0 ⟨(a:Int)⟩) ⟨phP out,l,0,out⟩=(phP (F1 l out a)+1,⟨phP (F1 l out a),l,((j:Nat):Int),F1 l out a⟩):=by
  have hL2:∀o k,k<=48->(F2 l a o k).length<=o.length+96:=λo k hk=>by have:=wb8 (wc2 l a k) o k;show ((List.range k).foldl (ob4 l a k) o).length<=_;omega
  have hpre:∀ j,j≤a→((List.range j).foldl (F2 l a) out).length≤out.length+96*j:=by
    intro j
    induction j with
    |zero=>intro _;exact Qjk _
    | succ j ih =>
      intro h;rw[y8]
      have:=ih (by omega)
      have:=hL2 ((List.range j).foldl (F2 l a) out) j (by omega)
      omega
  have key:=F9 (step:=ja0 ⟨(a:Int)⟩) (mk:=fun j (o:List Pln)=>(⟨phP o,l,(j:Int),o⟩:B4)) a (fun j o=>j≤a∧o=(List.range j).foldl (F2 l a) out) (fun t s=>t=phP (F1 l out a)+1∧∃ j:Nat,s=⟨phP (F1 l out a),l,(j:Int),F1 l out a⟩) (by omega)
    (fun j o hj hi=>by
      obtain⟨hja,hi⟩:=hi;have hlen:o.length<=900000:=by rw[hi];have:=hpre j hja;omega
      have hn:=v8 hj (show a<=4611686018427387904 by omega)
      obtain⟨j',e1⟩:=jf4 l hl a j ha hj o hlen
      have fin : ∀ {s : B4}, s = ⟨phP (F2 l a o j), l, ((j + 1 : Nat) : Int), F2 l a o j⟩ → Nx (.next s) (fun t => t = phP (F1 l out a) + 1 ∧ ∃ j' : Nat, (⟨phP o, l, (j : Int), o⟩ : B4) = ⟨phP (F1 l out a), l, (j' : Int), F1 l out a⟩)
          (λs=>∃o',s=(⟨phP o',l,((j+1:Nat):Int),o'⟩:B4)/\(j+1<=a/\o'=(List.range (j+1)).foldl (F2 l a) out)):=λ{s} hs =>
        .nx ⟨_,hs,by omega,by rw[y8,<- hi]⟩
      clear hi
      generalize hF:F2 l a o j=R at *
      cases o with
      | nil =>
        show Nx (da9 Stp.next Stp.exit Stp.fail _ _) _ _;simp only[da9,l5,j9,hn];have e1:lp (ia9 ⟨l,(a:Int),(j:Int)⟩) ⟨0,0,[]⟩=_:=e1;rw[btD (j7 hj),e1];cases R with
        |nil=>exact fin rfl
        |cons q R=>exact fin rfl
      | cons q o =>
        show Nx (ea0 Stp.next Stp.exit Stp.fail _ _) _ _;simp only[ea0,l5,j9,hn];have e1:lp (ia9 ⟨l,(a:Int),(j:Int)⟩) ⟨1,0,q::o⟩=_:=e1;rw[btD (j7 hj),e1];cases R with
        |nil=>exact fin rfl
        |cons q R=>exact fin rfl)
    (fun j o hj hi=>by
      obtain⟨h1,hi⟩:=hi;have e:j=a:=by omega
      subst e;have hF:o=F1 l out j:=hi;rw[<- hF];cases o with
      | nil =>
        refine⟨1,?_,rfl,j,rfl⟩;show da9 Stp.next Stp.exit Stp.fail _ _=_;simp only[da9];rw[bfD (j6 (Qjb _))]
      | cons q o =>
        refine⟨2,?_,rfl,j,rfl⟩;show ea0 Stp.next Stp.exit Stp.fail _ _=_;simp only[ea0];rw[bfD (j6 (Qjb _))]) 0 out ⟨Qjh _,rfl⟩
  obtain⟨t,s,h1,rfl,j,rfl⟩:=key;exact⟨j,h1⟩
theorem jf6 (l : List V3) (hl : l.length ≤ 48) :
    ∃j,lp (Ma9 ⟨⟩) ⟨0,l,0,[]⟩=(phP (F0 l)+1,⟨phP (F0 l),l,((j:Nat):Int),F0 l⟩):=by
  have hL2:∀a o k,k<=48->(F2 l a o k).length<=o.length+96:=λa o k hk=>by have:=wb8 (wc2 l a k) o k;show ((List.range k).foldl (ob4 l a k) o).length<=_;omega
  have hL1:∀ o a,a≤48→∀ j,j≤a→((List.range j).foldl (F2 l a) o).length≤o.length+96*j:=by
    intro o a ha j
    induction j with
    |zero=>intro _;exact Qjk _
    | succ j ih =>
      intro h;rw[y8]
      have:=ih (by omega)
      have:=hL2 a ((List.range j).foldl (F2 l a) o) j (by omega)
      omega
  have hpre:∀ j,j≤l.length→((List.range j).foldl (F1 l) []).length≤5000*j:=by
    intro j
    induction j with
    |zero=>intro _;exact Qjk _
    | succ j ih =>
      intro h;rw[y8]
      have:=ih (by omega)
      have:(F1 l ((List.range j).foldl (F1 l) []) j).length<=_:=hL1 ((List.range j).foldl (F1 l) []) j (by omega) j (Qjk _)
      omega
  have key:=F9 (step:=Ma9 ⟨⟩) (mk:=fun j (o:List Pln)=>(⟨phP o,l,(j:Int),o⟩:C6)) l.length (fun j o=>j≤l.length∧o=(List.range j).foldl (F1 l) []) (fun t s=>t=phP (F0 l)+1∧∃ j:Nat,s=⟨phP (F0 l),l,(j:Int),F0 l⟩) (by omega)
    (fun j o hj hi=>by
      obtain⟨hja,hi⟩:=hi;have hlen:o.length<=800000:=by rw[hi];have:=hpre j hja;omega
      have hn:=v8 hj (show l.length<=4611686018427387904 by omega)
      obtain⟨j',e1⟩:=jf5 l hl j hj o hlen
      have fin : ∀ {s : C6}, s = ⟨phP (F1 l o j), l, ((j + 1 : Nat) : Int), F1 l o j⟩ → Nx (.next s) (fun t => t = phP (F0 l) + 1 ∧ ∃ j' : Nat, (⟨phP o, l, (j : Int), o⟩ : C6) = ⟨phP (F0 l), l, (j' : Int), F0 l⟩)
          (λs=>∃o',s=(⟨phP o',l,((j+1:Nat):Int),o'⟩:C6)/\(j+1<=l.length/\o'=(List.range (j+1)).foldl (F1 l) [])):=λ{s} hs =>
        .nx ⟨_,hs,by omega,by rw[y8,<- hi]⟩
      clear hi
      generalize hF:F1 l o j=R at *
      cases o with
      | nil =>
        show Nx (ea1 Stp.next Stp.exit Stp.fail ⟨⟩ _) _ _;simp only[ea1,l5,j9,hn];have e1:lp (ja0 ⟨(j:Int)⟩) ⟨0,l,0,[]⟩=_:=e1;rw[btD (j7 hj),e1];cases R with
        |nil=>exact fin rfl
        |cons q R=>exact fin rfl
      | cons q o =>
        show Nx (ea2 Stp.next Stp.exit Stp.fail ⟨⟩ _) _ _;simp only[ea2,l5,j9,hn];have e1:lp (ja0 ⟨(j:Int)⟩) ⟨1,l,0,q::o⟩=_:=e1;rw[btD (j7 hj),e1];cases R with
        |nil=>exact fin rfl
        |cons q R=>exact fin rfl)
    (fun j o hj hi=>by
      obtain⟨h1,hi⟩:=hi;have e:j=l.length:=by omega
      subst e;have hF:o=F0 l:=hi;rw[<- hF];cases o with
      | nil =>
        refine⟨1,?_,rfl,_,rfl⟩;show ea1 Stp.next Stp.exit Stp.fail ⟨⟩ _=_;simp only[ea1];rw[bfD (j6 (Qjb _))]
      | cons q o =>
        refine⟨2,?_,rfl,_,rfl⟩;show ea2 Stp.next Stp.exit Stp.fail ⟨⟩ _=_;simp only[ea2];rw[bfD (j6 (Qjb _))]) 0 [] ⟨Qjh _,rfl⟩
  obtain⟨t,s,h1,rfl,j,rfl⟩:=key;exact⟨j,h1⟩
noncomputable def td5(l:List V3):List Pln×Int:=if Vb4 l=0 then (F0 l,0) else ([],Vb4 l)
theorem ye2 (l:List V3) (hl:l.length≤48):Rd (two (r1L tP) r1I) (ya6 l) (fun r=>r=td5 l):=by
  obtain⟨j,e1⟩:=jf6 l hl;have hb:l.length<=1000000000:=by omega
  unfold ya6 td5;simp only[l5,j9,L5,kd0 l hb,kd3 l hb,y7];rw[e1];by_cases h0:Vb4 l=0
  · rw[if_pos h0,show (Vb4 l != 0)=false by rw[h0];rfl,Kb2]
    cases hF:F0 l with
    |nil=>exact⟨_,([],0),rfl,rfl,rfl⟩
    |cons q o=>exact⟨_,(q::o,0),rfl,Xe8 (q::o) 0,rfl⟩
  · rw[if_neg h0,show (Vb4 l != 0)=true by simpa using h0,y7]
    exact⟨_,([],Vb4 l),rfl,rfl,rfl⟩
def nc5(l:List Pln)(p:Pln):Bool:=l.any λq=>eqP q p
theorem Gd7(l:List Pln)(p:Pln):nc5 l p=true↔p∈l:=by
 unfold nc5;rw[Qja];exact⟨λ⟨q,h,e⟩=>by rw[mc9] at e;exact e ▸ h,λh=>⟨p,h,(mc9 p p).2 rfl⟩⟩
def ipt(v:V3):Pt:=⟨v.x,v.y,v.z,1⟩
theorem Ze0{v:V3}(h:inV v=true):∀p∈ws,0<=rmZ p (ipt v):=by
 obtain⟨⟨a1,a2⟩,⟨a3,a4⟩,a5,a6⟩:=(Oa4 v).1 h;intro p hp;simp only[ws,Qjab,Qjax,or_false] at hp
 rcases hp with rfl|rfl|rfl|rfl|rfl|rfl<;>simp only[rmZ,ipt]<;>omega
theorem Uc4{p:Pln}(h:okp p=true):g3 p.n=1:=by
 unfold okp at h;simp only[Qjn,beq_iff_eq] at h;exact h.2.1
theorem ob5{p:Pln}(h:okp p=true):p.n≠⟨0,0,0⟩:=λe=>by
 have:=Uc4 h
 rw[e] at this
 revert this
 decide
theorem ye3(c:Int)(n:V3):g3 ⟨c*n.x,c*n.y,c*n.z⟩=c.natAbs*g3 n:=by
 unfold g3;simp only[Int.natAbs_mul,Nat.gcd_mul_left];rw[Int.natCast_mul]
theorem Gd8{m n:V3}(hm:g3 m=1)(hn:g3 n=1)(h:c7 m n=⟨0,0,0⟩):n=m\/n=neg m:=by
 unfold c7 at h;simp only[V3.mk.injEq] at h;obtain⟨c1,c2,c3⟩:=h;have k:∀{c d:Int},c*m.x=d*n.x->c*m.y=d*n.y->c*m.z=d*n.z->c.natAbs=d.natAbs:=λ{c d} e1 e2 e3=>by
  have a1:=ye3 c m;have a2:=ye3 d n;rw[e1,e2,e3,a2,hm,hn] at a1;omega
 have ax:=k (c:=n.x) (d:=m.x) (by grind) (by grind) (by grind)
 have ay:=k (c:=n.y) (d:=m.y) (by grind) (by grind) (by grind)
 have az:=k (c:=n.z) (d:=m.z) (by grind) (by grind) (by grind)
 have sg:∀{a c:Int},a.natAbs=c.natAbs->a=c\/a=-c:=λh=>by omega
 -- the sign of one component that is not zero is that of all
 have go:∀{s u t v:Int},u≠0->s*v=u*t->s=u->t=v:=λ{s u t v} hu h e=>by
  subst e;exact (Qjau hu h).symm
 have gn:∀{s u t v:Int},u≠0->s*v=u*t->s=-u->t=-v:=λ{s u t v} hu h e=>by
  subst e
  have:u*t=u*(-v):=by rw[<- h];grind
  exact Qjau hu this
 by_cases hx:m.x=0
 ·have hx':n.x=0:=by omega
  by_cases hy:m.y=0
  ·have hy':n.y=0:=by omega
   rcases sg az with e|e
   ·exact .inl (Qjbd (by omega) (by omega) e)
   ·exact .inr (Qjbd (by show n.x=-m.x;omega) (by show n.y=-m.y;omega) e)
  ·rcases sg ay with e|e
   ·exact .inl (Qjbd (by omega) e (go hy (by grind) e))
   ·exact .inr (Qjbd (by show n.x=-m.x;omega) e (gn hy (by grind) e))
 ·rcases sg ax with e|e
  ·exact .inl (Qjbd e (go hx (by grind) e) (go hx (by grind) e))
  ·exact .inr (Qjbd e (gn hx (by grind) e) (gn hx (by grind) e))
structure sf1(l:List V3):Prop where
 h:∃a c k v,a∈l/\c∈l/\k∈l/\v∈l/\dot (c7 (sub c a) (sub k a)) (sub v a)≠0
theorem gLm{l:List V3}{j:Nat}(h:j<l.length):gL tV l j∈l:=ja1 tV h
theorem sf2{l:List V3}(hf:nf0 l=true):sf1 l:=by
 unfold nf0 at hf;obtain⟨a,ha,hf⟩:=Qja.1 hf;unfold nf1 at hf;obtain⟨c,hc,hf⟩:=Qja.1 hf;unfold nf2 at hf;obtain⟨k,hk,hf⟩:=Qja.1 hf;rw[Qjl] at ha hc hk;unfold nf at hf;rw[Qjn] at hf;obtain⟨h1,h2⟩:=hf;obtain⟨⟨i1,i2,i3⟩,⟨ok,⟨g,hg,e1,e2,e3⟩,o⟩⟩:=ma4 h1;unfold le0 at h2;obtain⟨v,hv,h2⟩:=Qja.1 h2;generalize (D0 (gL tV l a) (gL tV l c) (gL tV l k)).1=p at *
 refine⟨_,_,_,v,gLm ha,gLm (show c<l.length by omega),gLm (show k<l.length by omega),hv,λh0=>?_⟩
 have hs:U5 p v≠0:=by simpa using h2
 have hiv:inV v=true:=by
  cases hi:inV v with
  |true=>rfl
  |false=>exact absurd (by unfold U5;rw[ok,hi];rfl) hs
 apply hs;rw[wb7 ok hiv,o]
 have:g*(dot p.n v-dot p.n (gL tV l a))=dot (c7 (sub (gL tV l c) (gL tV l a)) (sub (gL tV l k) (gL tV l a))) (sub v (gL tV l a)):=by
  unfold dot;rw[<- e1,<- e2,<- e3];unfold sub
  grind
 rw[h0] at this
 have:=(Qji.1 this).resolve_left (by omega)
 omega
theorem wb9{p:Pln}{l:List V3}(hp:okp p=true)(hl:l.all inV=true):hold p l=true↔∀v∈l,dot p.n v<=p.b:=by
 unfold hold;rw[Bool.not_eq_true',<- Qjy,Qja];constructor
 ·intro h v hv;have h1:¬ U5 p v>0:=λh'=>h ⟨v,hv,by simpa using h'⟩
  rw[Gd6 hp (Qjg.1 hl v hv)] at h1;omega
 ·rintro h ⟨v,hv,h1⟩;have h1:U5 p v>0:=by simpa using h1
  rw[Gd6 hp (Qjg.1 hl v hv)] at h1
  have:=h v hv
  omega
structure Fct(l:List V3)(p:Pln):Prop where
 ok:okp p=true
 hd:hold p l=true
theorem Ob4(p:Pln)(v:V3):dot (X6 p).n v=-dot p.n v:=by unfold dot X6;grind
theorem le1 (l : List V3) (a c k : Nat) (out : List Pln) (p : Pln) : p ∈ ob4 l a c out k ↔ p ∈ out ∨ ((D0 (gL tV l a) (gL tV l c) (gL tV l k)).2 = true ∧
  ((p=(D0 (gL tV l a) (gL tV l c) (gL tV l k)).1/\hold p l=true)\/(p=X6 (D0 (gL tV l a) (gL tV l c) (gL tV l k)).1/\hold p l=true))):=by
 unfold ob4;generalize D0 (gL tV l a) (gL tV l c) (gL tV l k)=T;cases h2:T.2 with
 |false=>simp
 |true =>
  simp only[if_true];cases h4:hold (X6 T.1) l with
  |false =>
   simp only[Qje,if_false];cases h3:hold T.1 l with
   |false =>
    simp only[Qje,if_false];constructor
    ·exact λh=>.inl h
    ·rintro (h|⟨_,⟨rfl,h⟩|⟨rfl,h⟩⟩)
     ·exact h
     ·rw[h3] at h;cases h
     ·rw[h4] at h;cases h
   |true =>
    simp only[if_true,wb5];constructor
    ·rintro (rfl|h)
     ·exact .inr ⟨trivial,.inl ⟨rfl,h3⟩⟩
     ·exact .inl h
    ·rintro (h|⟨_,⟨rfl,h⟩|⟨rfl,h⟩⟩)
     ·exact .inr h
     ·exact .inl rfl
     ·rw[h4] at h;cases h
  |true =>
   simp only[if_true,wb5];cases h3:hold T.1 l with
   |false =>
    simp only[Qje,if_false];constructor
    ·rintro (rfl|h)
     ·exact .inr ⟨trivial,.inr ⟨rfl,h4⟩⟩
     ·exact .inl h
    ·rintro (h|⟨_,⟨rfl,h⟩|⟨rfl,h⟩⟩)
     ·exact .inr h
     ·rw[h3] at h;cases h
     ·exact .inl rfl
   |true =>
    simp only[if_true,wb5];constructor
    ·rintro (rfl|rfl|h)
     ·exact .inr ⟨trivial,.inr ⟨rfl,h4⟩⟩
     ·exact .inr ⟨trivial,.inl ⟨rfl,h3⟩⟩
     ·exact .inl h
    ·rintro (h|⟨_,⟨rfl,h⟩|⟨rfl,h⟩⟩)
     ·exact .inr (.inr h)
     ·exact .inr (.inl rfl)
     ·exact .inl rfl
theorem jb8{f:List Pln->Nat->List Pln}{Q:Nat->Pln->Prop}(h:∀o k p,p∈f o k↔p∈o\/Q k p)(o:List Pln)(p:Pln):∀n,p∈(List.range n).foldl f o↔p∈o\/∃k,k<n/\Q k p
 |0=>by simp
 |n+1=>by
  rw[y8,h,jb8 h o p n];constructor
  ·rintro ((h|⟨k,hk,h⟩)|h)
   ·exact .inl h
   ·exact .inr ⟨k,by omega,h⟩
   ·exact .inr ⟨n,by omega,h⟩
  ·rintro (h|⟨k,hk,h⟩)
   ·exact .inl (.inl h)
   ·by_cases e:k=n
    ·subst e;exact .inr h
    ·exact .inl (.inr ⟨k,by omega,h⟩)
def Fq (l : List V3) (a c k : Nat) (p : Pln) : Prop := (D0 (gL tV l a) (gL tV l c) (gL tV l k)).2 = true ∧
  ((p=(D0 (gL tV l a) (gL tV l c) (gL tV l k)).1/\hold p l=true)\/(p=X6 (D0 (gL tV l a) (gL tV l c) (gL tV l k)).1/\hold p l=true))
theorem Ze1(l:List V3)(a c:Nat)(out:List Pln)(p:Pln):p∈F2 l a out c↔p∈out\/∃k,k<c/\Fq l a c k p:=jb8 (λo k p=>le1 l a c k o p) out p c
theorem Ze2(l:List V3)(a:Nat)(out:List Pln)(p:Pln):p∈F1 l out a↔p∈out\/∃c,c<a/\∃k,k<c/\Fq l a c k p:=jb8 (λo c p=>Ze1 l a c o p) out p a
theorem Td7(l:List V3)(p:Pln):p∈F0 l↔∃a,a<l.length/\∃c,c<a/\∃k,k<c/\Fq l a c k p:=by
 have:=jb8 (λo a p=>Ze2 l a o p) [] p l.length
 simpa [F0] using this
theorem le2{l:List V3}{a c:Nat}{out:List Pln}{k:Nat}(h:Wa6 out):Wa6 (ob4 l a c out k):=by
 unfold ob4;split
 ·split
  ·refine nc2 _ ?_;split
   ·exact nc2 _ h
   ·exact h
  ·split
   ·exact nc2 _ h
   ·exact h
 ·exact h
theorem nc6{f:List Pln->Nat->List Pln}(h:∀o k,Wa6 o->Wa6 (f o k)){o:List Pln}(ho:Wa6 o):∀n,Wa6 ((List.range n).foldl f o)
 |0=>ho
 |n+1=>by rw[y8];exact h _ _ (nc6 h ho n)
theorem Ze3{l:List V3}{a c:Nat}{out:List Pln}(h:Wa6 out):Wa6 (F2 l a out c):=nc6 (λ_ _ h=>le2 h) h c
theorem Ze4{l:List V3}{a:Nat}{out:List Pln}(h:Wa6 out):Wa6 (F1 l out a):=nc6 (λ_ _ h=>Ze3 h) h a
theorem wc3(l:List V3):Wa6 (F0 l):=nc6 (λ_ _ h=>Ze4 h) .nil l.length
theorem wc4{l:List Pln}(h:Wa6 l):l.Nodup:=List.Pairwise.imp (λ{x y} (h:LtP x y) (e:x=y)=>Jc6 y (e ▸ h)) h
theorem Td8{l:List V3}{p:Pln}(hp:p∈F0 l):Fct l p:=by
 obtain⟨a,ha,c,hc,k,hk,h1,⟨h2,h3⟩|⟨h2,h3⟩⟩:=(Td7 l p).1 hp
 ·exact⟨h2 ▸ (ma4 h1).2.ok,h3⟩
 ·exact⟨h2 ▸ nc4 (ma4 h1).2.ok,h3⟩
structure Gd9(c:List Pln):Prop where
 l:c.length<=47
 v:∀p∈c,okp p=true
 f:we7 (c++ws)
theorem Gd9.chk{c:List Pln}(h:Gd9 c):(chk c==0)=true:=by
 rw[beq_iff_eq,Tc5];exact⟨by have:=h.l;omega,h.v⟩
theorem Gd9.bds{c:List Pln}(h:Gd9 c):Bds (c++ws):=(Je7 h.chk).1
theorem Gd9.ful{c:List Pln}(h:Gd9 c):ful c=true:=by
 unfold Ce.ful;rw[h.chk,(ke9 h.bds (xe1 c) (by simp[ws])).2 h.f]
 rfl
theorem Gd9.pts{c:List Pln}(h:Gd9 c):pts c=cor (c++ws):=by unfold Ce.pts;rw[if_pos h.chk]
end Go.Ev.Ce
namespace Go.Ev.Ce
def e8(a b:V3):V3:=⟨a.x-b.x,a.y-b.y,a.z-b.z⟩
def N3(u w x:V3):V3:=c7 (e8 w u) (e8 x u)
def Hb2:List V3->V3
 |[]=>⟨0,0,0⟩
 |v::l=>⟨v.x+(Hb2 l).x,v.y+(Hb2 l).y,v.z+(Hb2 l).z⟩
def nc7:List Int->Int
 |[]=>0
 |x::l=>x+nc7 l
theorem Hd0(n:V3):∀l:List V3,dot n (Hb2 l)=nc7 (l.map (dot n))
 |[]=>by simp[Hb2,nc7,dot]
 |v::l=>by
  have:=Hd0 n l
  simp only[List.map_cons,nc7,<- this];simp only[Hb2,dot]
  grind
theorem Hd1(m s:Int):∀l:List Int,nc7 (l.map λa=>m*a-s)=m*nc7 l-s*l.length
 |[]=>by simp[nc7]
 |a::l=>by
  have:=Hd1 m s l
  simp only[List.map_cons,nc7,this,List.length_cons]
  grind
theorem Ac2:∀{l:List Int},(∀a∈l,a<=0)->nc7 l<=0
 |[],_=>by simp[nc7]
 |a::l,h=>by
  have:=Ac2 (l:=l) λx hx=>h x (Qjal _ hx)
  have:=h a Qjap
  simp only[nc7];omega
theorem wc5:∀{l:List Int},(∀a∈l,a<=0)->nc7 l=0->∀a∈l,a=0
 |[],_,_=>λa ha=>by cases ha
 |a::l,h,h0=>by
  have h1:=Ac2 (l:=l) λx hx=>h x (Qjal _ hx)
  have h2:=h a Qjap;simp only[nc7] at h0;intro b hb
  rcases Qjab.1 hb with rfl|hb
  ·omega
  ·exact wc5 (l:=l) (λx hx=>h x (Qjal _ hx)) (by omega) b hb
def Sol(l:List V3):Prop:=∃a c k v,a∈l/\c∈l/\k∈l/\v∈l/\dot (N3 a c k) (e8 v a)≠0
theorem Sol.off{l:List V3}(h:Sol l){n:V3}(hn:n≠⟨0,0,0⟩)(b:Int):∃v∈l,dot n v≠b:=by
 obtain⟨a,c,k,v,ha,hc,hk,hv,hd⟩:=h;by_cases h1:dot n a=b
 ·by_cases h2:dot n c=b
  ·by_cases h3:dot n k=b
   ·by_cases h4:dot n v=b
    ·exfalso;unfold N3 at hd;generalize hD:dot (c7 (e8 c a) (e8 k a)) (e8 v a)=D at *
     have q1:dot n (e8 c a)=0:=by unfold dot e8 at *;grind
     have q2:dot n (e8 k a)=0:=by unfold dot e8 at *;grind
     have q3:dot n (e8 v a)=0:=by unfold dot e8 at *;grind
     generalize e8 c a=p at *
     generalize e8 k a=q at *
     generalize e8 v a=r at *
     have i1:D*n.x=(c7 q r).x*dot n p+(c7 r p).x*dot n q+(c7 p q).x*dot n r:=by rw[<- hD];simp only[dot,c7];grind
     have i2:D*n.y=(c7 q r).y*dot n p+(c7 r p).y*dot n q+(c7 p q).y*dot n r:=by rw[<- hD];simp only[dot,c7];grind
     have i3:D*n.z=(c7 q r).z*dot n p+(c7 r p).z*dot n q+(c7 p q).z*dot n r:=by rw[<- hD];simp only[dot,c7];grind
     rw[q1,q2,q3] at i1 i2 i3;have z:∀{x:Int},D*x=0->x=0:=λh=>(Qji.1 h).resolve_left hd
     exact hn (Qjbd (z (by omega)) (z (by omega)) (z (by omega)))
    ·exact⟨v,hv,h4⟩
   ·exact⟨k,hk,h3⟩
  ·exact⟨c,hc,h2⟩
 ·exact⟨a,ha,h1⟩
theorem Sol.ne{l:List V3}(h:Sol l):∃v,v∈l:=by obtain⟨a,_,_,_,ha,_⟩:=h;exact⟨a,ha⟩
structure Fac(l:List V3)(n:V3)(b:Int):Prop where
 hd:∀v∈l,dot n v<=b
 on:∃u w x,u∈l/\w∈l/\x∈l/\N3 u w x≠⟨0,0,0⟩/\dot n u=b/\dot n w=b/\dot n x=b
def Ze5(l:List V3)(c:List Pln):Prop:=∀n b,n≠⟨0,0,0⟩->Fac l n b->∃s t:Int,0<s/\0<t/\∃q∈c,t*q.n.x=s*n.x/\t*q.n.y=s*n.y/\t*q.n.z=s*n.z/\t*q.b=s*b
def pol(m:Int)(S v:V3):Pln:=⟨⟨m*v.x-S.x,m*v.y-S.y,m*v.z-S.z⟩,1⟩
theorem Ke9(m:Int)(S v d:V3):dot (pol m S v).n d=m*dot d v-dot d S:=by simp only[dot,pol];grind
theorem Hd2(l:List V3)(d:V3):nc7 (l.map λv=>(l.length:Int)*dot d v-dot d (Hb2 l))=0:=by
 have h:=Hd1 (l.length:Int) (dot d (Hb2 l)) (l.map (dot d));rw[List.map_map] at h;have e:((λa=>(l.length:Int)*a-dot d (Hb2 l))∘dot d)=λv=>(l.length:Int)*dot d v-dot d (Hb2 l):=rfl
 rw[e] at h;rw[h,<- Hd0,List.length_map]
 grind
theorem kd4{a b:V3}(h:dot a b≠0):b≠⟨0,0,0⟩:=λe=>h (by subst e;simp[dot])
theorem Uc5{a b:V3}(h:dot a b≠0):a≠⟨0,0,0⟩:=λe=>h (by subst e;simp[dot])
theorem be5{l:List V3}(h:Sol l):0<(l.length:Int):=by
 obtain⟨v,hv⟩:=h.ne
 have:=List.length_pos_of_mem hv
 omega
theorem Le0{l:List V3}(h:Sol l):Bdd (l.map (pol l.length (Hb2 l))):=λd hd=>by
 by_cases hh:∃p∈l.map (pol l.length (Hb2 l)),0<dot p.n d
 ·exact hh
 exfalso;have hm:=be5 h;have hall:∀a∈l.map (λv=>(l.length:Int)*dot d v-dot d (Hb2 l)),a<=0:=λa ha=>by
  obtain⟨v,hv,rfl⟩:=Qjj.1 ha;refine Int.not_lt.1 λh'=>hh ⟨pol l.length (Hb2 l) v,Qjj.2 ⟨v,hv,rfl⟩,?_⟩
  rw[Ke9];omega
 have hz:=wc5 hall (Hd2 l d);obtain⟨a,ha⟩:=h.ne;obtain⟨v,hv,hne⟩:=h.off hd (dot d a);have e1:=hz _ (Qjj.2 ⟨a,ha,rfl⟩);have e2:=hz _ (Qjj.2 ⟨v,hv,rfl⟩);apply hne
 have:(l.length:Int)*(dot d v-dot d a)=0:=by grind
 have:=(Qji.1 this).resolve_left (by omega)
 omega
theorem Sb9{l:List V3}(h4:Sol l){c:List Pln}(hc:Ze5 l c){x:Pt}(hx:Inr c x){h:Pln}(hh:∀v∈l,dot h.n v<=h.b):0<=rmZ h x:=by
 have hm:=be5 h4;have hr:=Le0 h4;generalize hS:Hb2 l=S at hr;generalize hM:(l.length:Int)=m at hr hm
 -- the linear function on the polar
 have hv:∀y,Cn (l.map (pol m S)) y->0<=rmZ ⟨⟨m*x.px-x.pw*S.x,m*x.py-x.pw*S.y,m*x.pz-x.pw*S.z⟩,x.pw⟩ y:=λy hy=>by
  obtain⟨p1,p2,p3,hp1,hp2,hp3,hw,e1,e2,e3⟩:=hy.c;obtain⟨v1,m1,rfl⟩:=Qjj.1 hp1;obtain⟨v2,m2,rfl⟩:=Qjj.1 hp2;obtain⟨v3,m3,rfl⟩:=Qjj.1 hp3;have rp:∀v,rmZ (pol m S v) y=y.pw-(m*dot ⟨y.px,y.py,y.pz⟩ v-dot ⟨y.px,y.py,y.pz⟩ S):=λv=>by simp only[rmZ,pol,dot];grind
  rw[rp] at e1 e2 e3;have hn3:dot (pol m S v1).n (N3 v1 v2 v3)≠0:=λh0=>hw (by
   have:mw (pol m S v1) (pol m S v2) (pol m S v3)=m*m*dot (pol m S v1).n (N3 v1 v2 v3):=by simp only[mw,pol,dot,N3,c7,e8];grind
   rw[this,h0,Int.mul_zero])
  have hne:N3 v1 v2 v3≠⟨0,0,0⟩:=kd4 hn3;have hfac:Fac l ⟨m*y.px,m*y.py,m*y.pz⟩ (y.pw+dot ⟨y.px,y.py,y.pz⟩ S):=by
   have ed:∀v,dot ⟨m*y.px,m*y.py,m*y.pz⟩ v=m*dot ⟨y.px,y.py,y.pz⟩ v:=λv=>by simp only[dot];grind
   refine⟨λv hv=>?_,v1,v2,v3,m1,m2,m3,hne,?_,?_,?_⟩
   ·have:=hy.h (pol m S v) (Qjj.2 ⟨v,hv,rfl⟩)
    rw[rp] at this;rw[ed];omega
   ·rw[ed];omega
   ·rw[ed];omega
   ·rw[ed];omega
  have hyn:(⟨m*y.px,m*y.py,m*y.pz⟩:V3)≠⟨0,0,0⟩:=λe=>by
   have k:∀{a:Int},m*a=0->a=0:=λh=>(Qji.1 h).resolve_left (by omega)
   simp only[V3.mk.injEq] at e;have a1:=k e.1;have a2:=k e.2.1;have a3:=k e.2.2;rw[a1,a2,a3] at e1;have hw:=hy.w;simp only[dot] at e1;simp only[Qjam,Int.add_zero,Int.mul_zero,Int.sub_zero] at e1;omega
  obtain⟨s,t,hs,ht,q,hq,f1,f2,f3,f4⟩:=hc _ _ hyn hfac;have hxq:=hx.h q hq;have e:t*rmZ q x=s*rmZ ⟨⟨m*x.px-x.pw*S.x,m*x.py-x.pw*S.y,m*x.pz-x.pw*S.z⟩,x.pw⟩ y:=by
   have:t*rmZ q x=(t*q.b)*x.pw-((t*q.n.x)*x.px+(t*q.n.y)*x.py+(t*q.n.z)*x.pz):=by simp only[rmZ];grind
   rw[this,f1,f2,f3,f4];simp only[rmZ,dot];grind
  have h1:=Qjae (Int.le_of_lt ht) hxq;rw[e] at h1;exact Qjan h1 hs
 by_cases hn:h.n=⟨0,0,0⟩
 ·obtain⟨v,hv⟩:=h4.ne;have h1:=hh v hv;have e:rmZ h x=h.b*x.pw:=by simp only[rmZ,hn];grind
  rw[e];rw[hn] at h1;simp only[dot,Qjam,Int.add_zero] at h1;exact Qjae h1 (Int.le_of_lt hx.w)
 ·-- the polar point of h
  have hall:∀a∈l.map (λv=>(l.length:Int)*dot h.n v-dot h.n (Hb2 l)),a<=(l.length:Int)*h.b-dot h.n (Hb2 l):=λa ha=>by
   obtain⟨v,hv,rfl⟩:=Qjj.1 ha
   have:=Qju (hh v hv) (show 0<=(l.length:Int) by omega)
   omega
  have hpos:0<m*h.b-dot h.n S:=by
   rw[<- hM,<- hS];by_cases h0:0<(l.length:Int)*h.b-dot h.n (Hb2 l)
   ·exact h0
   exfalso;have hz:=wc5 (λa ha=>by have:=hall a ha;omega) (Hd2 l h.n)
   obtain⟨v,hv,hne⟩:=h4.off hn h.b;have e1:=hz _ (Qjj.2 ⟨v,hv,rfl⟩);have h2:=hh v hv
   have:(l.length:Int)*dot h.n v<(l.length:Int)*h.b:=Int.mul_lt_mul_of_pos_left (by omega) (by omega)
   omega
  have hy:Inr (l.map (pol m S)) ⟨h.n.x,h.n.y,h.n.z,m*h.b-dot h.n S⟩:=⟨hpos,λp hp=>by
   obtain⟨v,hv,rfl⟩:=Qjj.1 hp;have e:rmZ (pol m S v) ⟨h.n.x,h.n.y,h.n.z,m*h.b-dot h.n S⟩=m*(h.b-dot h.n v):=by simp only[rmZ,pol,dot];grind
   rw[e];exact Qjae (by omega) (by have:=hh v hv;omega)⟩
  have h1:=ua2 hr hv hy;have e:rmZ ⟨⟨m*x.px-x.pw*S.x,m*x.py-x.pw*S.y,m*x.pz-x.pw*S.z⟩,x.pw⟩ ⟨h.n.x,h.n.y,h.n.z,m*h.b-dot h.n S⟩=m*rmZ h x:=by simp only[rmZ,dot];grind
  rw[e] at h1;exact Qjan h1 hm
theorem td6(own:List V3):(∃a c k,a∈own/\c∈own/\k∈own/\dot a (c7 c k)≠0)\/∃d,d≠(⟨0,0,0⟩:V3)/\∀n∈own,dot n d=0:=by
 by_cases h1:∃a∈own,a≠⟨0,0,0⟩
 ·obtain⟨a,ha,hne⟩:=h1;by_cases h2:∃c∈own,c7 a c≠⟨0,0,0⟩
  ·obtain⟨c,hc,hx⟩:=h2;by_cases h3:∃k∈own,dot k (c7 a c)≠0
   ·obtain⟨k,hk,h⟩:=h3;exact .inl ⟨k,a,c,hk,ha,hc,h⟩
   ·exact .inr ⟨c7 a c,hx,λn hn=>Qjr λh=>h3 ⟨n,hn,h⟩⟩
  ·obtain⟨d,hd,h0⟩:=perp hne;refine .inr ⟨d,hd,λn hn=>?_⟩
   have hc:c7 a n=⟨0,0,0⟩:=Qjr λh=>h2 ⟨n,hn,h⟩
   have e:∀{s t:Int},s*t=0->s≠0->t=0:=λh hs=>(Qji.1 h).resolve_left hs
   unfold c7 at hc;simp only[V3.mk.injEq] at hc;obtain⟨c1,c2,c3⟩:=hc;have k1:a.x*dot n d=0:=by
    have:a.x*dot n d=n.x*dot a d+(a.x*n.y-a.y*n.x)*d.y-(a.z*n.x-a.x*n.z)*d.z:=by simp only[dot];grind
    rw[this,h0,c3,c2];simp
   have k2:a.y*dot n d=0:=by
    have:a.y*dot n d=n.y*dot a d+(a.y*n.z-a.z*n.y)*d.z-(a.x*n.y-a.y*n.x)*d.x:=by simp only[dot];grind
    rw[this,h0,c1,c3];simp
   have k3:a.z*dot n d=0:=by
    have:a.z*dot n d=n.z*dot a d+(a.z*n.x-a.x*n.z)*d.x-(a.y*n.z-a.z*n.y)*d.y:=by simp only[dot];grind
    rw[this,h0,c2,c1];simp
   by_cases hx:a.x=0
   ·by_cases hy:a.y=0
    ·exact e k3 λhz=>hne (Qjbd hx hy hz)
    ·exact e k2 hy
   ·exact e k1 hx
 ·exact .inr ⟨⟨1, 0, 0⟩, by simp, fun n hn => by
   have:n=⟨0,0,0⟩:=Qjr λh=>h1 ⟨n,hn,h⟩
   rw[this];simp[dot]⟩
theorem big(d:V3):∀c:List Pln,∃N:Int,0<N/\∀p∈c,dot p.n d<=N/\-dot p.n d<=N
 |[]=>⟨1,by decide,λp hp=>by cases hp⟩
 |q::c=>by
  obtain⟨N,h0,h⟩:=big d c;refine⟨N+(dot q.n d).natAbs,by omega,λp hp=>?_⟩
  rcases Qjab.1 hp with rfl|hp
  ·omega
  ·have:=h p hp;omega
theorem jb9{p q s:Pln}(hw:mw p q s≠0){d:V3}(h1:dot p.n d=0)(h2:dot q.n d=0)(h3:dot s.n d=0):d=⟨0,0,0⟩:=by
 have i1:mw p q s*d.x=(c7 q.n s.n).x*dot p.n d+(c7 s.n p.n).x*dot q.n d+(c7 p.n q.n).x*dot s.n d:=by simp only[mw,dot,c7];grind
 have i2:mw p q s*d.y=(c7 q.n s.n).y*dot p.n d+(c7 s.n p.n).y*dot q.n d+(c7 p.n q.n).y*dot s.n d:=by simp only[mw,dot,c7];grind
 have i3:mw p q s*d.z=(c7 q.n s.n).z*dot p.n d+(c7 s.n p.n).z*dot q.n d+(c7 p.n q.n).z*dot s.n d:=by simp only[mw,dot,c7];grind
 rw[h1,h2,h3] at i1 i2 i3;have z:∀{x:Int},mw p q s*x=0->x=0:=λh=>(Qji.1 h).resolve_left hw
 exact Qjbd (z (by omega)) (z (by omega)) (z (by omega))
def Spn(c:List Pln)(v:V3):Prop:=∃p q s,p∈c/\q∈c/\s∈c/\mw p q s≠0/\dot p.n v=p.b/\dot q.n v=q.b/\dot s.n v=s.b
theorem Le1{l:List V3}(h4:Sol l){c w:List Pln}(hc:Ze5 l c)(hin:∀p∈c++w,∀v∈l,dot p.n v<=p.b){x:Pt}(hx:Cn (c++w) x):∃v∈l,Eqv x ⟨v.x,v.y,v.z,1⟩/\Spn c v:=by
 obtain⟨p,q,s,hp,hq,hs,hw,e1,e2,e3⟩:=hx.c;have hxc:Inr c x:=⟨hx.w,λa ha=>hx.h a (List.mem_append_left _ ha)⟩
 have hv:∃v∈l,dot p.n v=p.b/\dot q.n v=q.b/\dot s.n v=s.b:=by
  apply Qjr;intro hno;have h1:=Sb9 h4 hc hxc (h:=⟨⟨p.n.x+q.n.x+s.n.x,p.n.y+q.n.y+s.n.y,p.n.z+q.n.z+s.n.z⟩,p.b+q.b+s.b-1⟩) λv hv=>by
   have a1:=hin p hp v hv;have a2:=hin q hq v hv;have a3:=hin s hs v hv;have e:dot ⟨p.n.x+q.n.x+s.n.x,p.n.y+q.n.y+s.n.y,p.n.z+q.n.z+s.n.z⟩ v=dot p.n v+dot q.n v+dot s.n v:=by simp only[dot];grind
   simp only[e]
   have:¬ (dot p.n v=p.b/\dot q.n v=q.b/\dot s.n v=s.b):=λh=>hno ⟨v,hv,h⟩
   omega
  have e:rmZ ⟨⟨p.n.x+q.n.x+s.n.x,p.n.y+q.n.y+s.n.y,p.n.z+q.n.z+s.n.z⟩,p.b+q.b+s.b-1⟩ x=rmZ p x+rmZ q x+rmZ s x-x.pw:=by simp only[rmZ];grind
  rw[e,e1,e2,e3] at h1
  have:=hx.w
  omega
 obtain⟨v,hv,t1,t2,t3⟩:=hv;have hd:(⟨x.px-v.x*x.pw,x.py-v.y*x.pw,x.pz-v.z*x.pw⟩:V3)=⟨0,0,0⟩:=by
  have k:∀{a:Pln},dot a.n v=a.b->rmZ a x=0->dot a.n ⟨x.px-v.x*x.pw,x.py-v.y*x.pw,x.pz-v.z*x.pw⟩=0:=λ{a} h1 h2=>by
   rw[rmZ,<- h1] at h2;simp only[dot] at h2 ⊢
   grind
  exact jb9 hw (k t1 e1) (k t2 e2) (k t3 e3)
 simp only[V3.mk.injEq] at hd;refine⟨v,hv,⟨?_,?_,?_⟩,?_⟩
 ·show x.px*1=v.x*x.pw;omega
 ·show x.py*1=v.y*x.pw;omega
 ·show x.pz*1=v.z*x.pw;omega
 -- the facets through it span the space
 have hf:∀a:Pln,decide (dot a.n v=a.b)=true↔dot a.n v=a.b:=λa=>by simp
 rcases td6 ((c.filter λa=>decide (dot a.n v=a.b)).map Pln.n) with⟨a,b,k,ha',hb',hk',hd⟩|⟨d,hd,h0⟩
 ·obtain⟨a,ha,rfl⟩:=Qjj.1 ha';obtain⟨b,hb,rfl⟩:=Qjj.1 hb';obtain⟨k,hk,rfl⟩:=Qjj.1 hk';rw[Qjp,hf] at ha hb hk;exact⟨a,b,k,ha.1,hb.1,hk.1,hd,ha.2,hb.2,hk.2⟩
 ·exfalso;obtain⟨N,hN,hb⟩:=big d c;have h0':∀a∈c,dot a.n v=a.b->dot a.n d=0:=λa ha h=>h0 a.n (Qjj.2 ⟨a,Qjp.2 ⟨ha,by simpa using h⟩,rfl⟩)
  have iny:∀e:V3,(∀a∈c,dot a.n v=a.b->dot a.n e=0)->(∀a∈c,dot a.n e<=N)->Inr c ⟨N*v.x+e.x,N*v.y+e.y,N*v.z+e.z,N⟩:=λe he hle=>⟨hN,λa ha=>by
   have ea:rmZ a ⟨N*v.x+e.x,N*v.y+e.y,N*v.z+e.z,N⟩=N*(a.b-dot a.n v)-dot a.n e:=by simp only[rmZ,dot];grind
   rw[ea];have h1:=hin a (List.mem_append_left _ ha) v hv;by_cases ht:dot a.n v=a.b
   ·rw[he a ha ht,ht];simp
   ·have h2:N*1<=N*(a.b-dot a.n v):=Qju (by omega) (by omega)
    have:=hle a ha
    omega⟩
  have y1:=iny d h0' λa ha=>(hb a ha).1
  have y2:=iny (neg d) (λa ha h=>by rw[Jc7,h0' a ha h];rfl) λa ha=>by rw[Jc7];exact (hb a ha).2
  have z:∀a∈c++w,dot a.n v=a.b->dot a.n d=0:=λa ha ht=>by
   have a1:=Sb9 h4 hc y1 (h:=a) (hin a ha);have a2:=Sb9 h4 hc y2 (h:=a) (hin a ha);have e1:rmZ a ⟨N*v.x+d.x,N*v.y+d.y,N*v.z+d.z,N⟩=N*(a.b-dot a.n v)-dot a.n d:=by simp only[rmZ,dot];grind
   have e2:rmZ a ⟨N*v.x+(neg d).x,N*v.y+(neg d).y,N*v.z+(neg d).z,N⟩=N*(a.b-dot a.n v)+dot a.n d:=by simp only[rmZ,dot,neg];grind
   rw[e1,ht] at a1;rw[e2,ht] at a2;simp only[Int.sub_self,Int.mul_zero] at a1 a2;omega
  exact hd (jb9 hw (z p hp t1) (z q hq t2) (z s hs t3))
end Go.Ev.Ce
namespace Go.Ev.Ce
open Go Go.Ev Go.Ev.L Go.Proofs
theorem ye4{l:List V3}(hf:nf0 l=true):Sol l:=(sf2 hf).h
theorem Le2{v:V3}(h:g3 v=0):v=⟨0,0,0⟩:=by
 unfold g3 at h;have h:Nat.gcd (Nat.gcd v.x.natAbs v.y.natAbs) v.z.natAbs=0:=by omega
 rw[Nat.gcd_eq_zero_iff,Nat.gcd_eq_zero_iff] at h;exact Qjbd (by show v.x=0;omega) (by show v.y=0;omega) (by show v.z=0;omega)
theorem Fa9{a c k:V3}(ha:inV a=true)(hc:inV c=true)(hk:inV k=true)(h:N3 a c k≠⟨0,0,0⟩):(D0 a c k).2=true:=by
 unfold D0;rw[ha,hc,hk];simp only[Qjo,if_true];rw[if_neg (λh0=>h (Le2 h0):¬ g3 (c7 (sub c a) (sub k a))=0)]
theorem kd5{a c k:V3}{p:Pln}(h:Thr a c k p):N3 a c k≠⟨0,0,0⟩:=λe=>by
 obtain⟨ok,⟨g,hg,e1,e2,e3⟩,_⟩:=h;have e':c7 (sub c a) (sub k a)=⟨0,0,0⟩:=e;rw[e'] at e1 e2 e3;have z:∀{x:Int},g*x=0->x=0:=λh=>(Qji.1 h).resolve_left (by omega)
 exact ob5 ok (Qjbd (z e1) (z e2) (z e3))
theorem Uc6{a c k:V3}{p:Pln}(h:Thr a c k p):dot p.n a=p.b/\dot p.n c=p.b/\dot p.n k=p.b:=by
 obtain⟨ok,⟨g,hg,e1,e2,e3⟩,o⟩:=h;have z:∀{x y:Int},g*(x-y)=0->x=y:=λh=>by have:=(Qji.1 h).resolve_left (by omega);omega
 refine⟨o.symm,?_,?_⟩
 ·rw[o];apply z
  have:g*(dot p.n c-dot p.n a)=(g*p.n.x)*(c.x-a.x)+(g*p.n.y)*(c.y-a.y)+(g*p.n.z)*(c.z-a.z):=by simp only[dot];grind
  rw[this,e1,e2,e3];simp only[c7,sub];grind
 ·rw[o];apply z
  have:g*(dot p.n k-dot p.n a)=(g*p.n.x)*(k.x-a.x)+(g*p.n.y)*(k.y-a.y)+(g*p.n.z)*(k.z-a.z):=by simp only[dot];grind
  rw[this,e1,e2,e3];simp only[c7,sub];grind
theorem Sa7(p:Pln)(v:V3):dot (X6 p).n v=(X6 p).b↔dot p.n v=p.b:=by
 rw[Ob4];show -dot p.n v=-p.b↔_;omega
theorem Ob5{a c k:V3}{p q:Pln}(h:Thr a c k q)(hp:okp p=true)(t1:dot p.n a=p.b)(t2:dot p.n c=p.b)(t3:dot p.n k=p.b):p=q\/p=X6 q:=by
 obtain⟨s1,s2,s3⟩:=Uc6 h;obtain⟨ok,⟨g,hg,e1,e2,e3⟩,o⟩:=h;have d1:dot p.n (sub c a)=0:=by simp only[dot,sub] at *;grind
 have d2:dot p.n (sub k a)=0:=by simp only[dot,sub] at *;grind
 have hc:c7 q.n p.n=⟨0,0,0⟩:=by
  have z:∀{x:Int},g*x=0->x=0:=λh=>(Qji.1 h).resolve_left (by omega)
  generalize sub c a=u at *
  generalize sub k a=w at *
  refine Qjbd (z ?_) (z ?_) (z ?_)
  ·have:g*(c7 q.n p.n).x=(g*q.n.y)*p.n.z-(g*q.n.z)*p.n.y:=by simp only[c7];grind
   rw[this,e2,e3]
   have:(c7 u w).y*p.n.z-(c7 u w).z*p.n.y=w.x*dot p.n u-u.x*dot p.n w:=by simp only[c7,dot];grind
   rw[this,d1,d2];simp
  ·have:g*(c7 q.n p.n).y=(g*q.n.z)*p.n.x-(g*q.n.x)*p.n.z:=by simp only[c7];grind
   rw[this,e1,e3]
   have:(c7 u w).z*p.n.x-(c7 u w).x*p.n.z=w.y*dot p.n u-u.y*dot p.n w:=by simp only[c7,dot];grind
   rw[this,d1,d2];simp
  ·have:g*(c7 q.n p.n).z=(g*q.n.x)*p.n.y-(g*q.n.y)*p.n.x:=by simp only[c7];grind
   rw[this,e1,e2]
   have:(c7 u w).x*p.n.y-(c7 u w).y*p.n.x=w.z*dot p.n u-u.z*dot p.n w:=by simp only[c7,dot];grind
   rw[this,d1,d2];simp
 obtain⟨pn,pb⟩:=p;obtain⟨qn,qb⟩:=q
 rcases Gd8 (Uc4 ok) (Uc4 hp) hc with e|e
 ·left
  simp only at e o t1 s1 t2 t3
  subst e;rw[<- t1,s1]
 ·right
  simp only at e o t1 s1 t2 t3
  subst e;rw[<- t1];simp only[dot,neg,X6] at s1 ⊢;simp only[Pln.mk.injEq,true_and]
  grind
structure Qa7(l:List V3)(p:Pln):Prop extends Fac l p.n p.b where
 ok:okp p=true
theorem nc8{l:List V3}{p:Pln}{u w x:V3}(hu:u∈l)(hw:w∈l)(hx:x∈l)(h:Thr u w x p)(hh:∀v∈l,dot (X6 p).n v<=(X6 p).b):Qa7 l (X6 p):=by
 obtain⟨s1,s2,s3⟩:=Uc6 h;exact⟨⟨hh,u,w,x,hu,hw,hx,kd5 h,(Sa7 p u).2 s1,(Sa7 p w).2 s2,(Sa7 p x).2 s3⟩,nc4 h.ok⟩
theorem Jc8{l:List V3}{p:Pln}{u w x:V3}(hu:u∈l)(hw:w∈l)(hx:x∈l)(h:Thr u w x p)(hh:∀v∈l,dot p.n v<=p.b):Qa7 l p:=by
 obtain⟨s1,s2,s3⟩:=Uc6 h;exact⟨⟨hh,u,w,x,hu,hw,hx,kd5 h,s1,s2,s3⟩,h.ok⟩
theorem ye5{u w x:V3}(h:N3 u w x≠⟨0,0,0⟩):N3 w u x≠⟨0,0,0⟩/\N3 u x w≠⟨0,0,0⟩/\N3 x w u≠⟨0,0,0⟩/\N3 w x u≠⟨0,0,0⟩/\N3 x u w≠⟨0,0,0⟩:=by
 have e1:N3 w u x=neg (N3 u w x):=Qjbd (by simp only[N3,c7,e8,neg];grind) (by simp only[N3,c7,e8,neg];grind) (by simp only[N3,c7,e8,neg];grind)
 have e2:N3 u x w=neg (N3 u w x):=Qjbd (by simp only[N3,c7,e8,neg];grind) (by simp only[N3,c7,e8,neg];grind) (by simp only[N3,c7,e8,neg];grind)
 have e3:N3 x w u=neg (N3 u w x):=Qjbd (by simp only[N3,c7,e8,neg];grind) (by simp only[N3,c7,e8,neg];grind) (by simp only[N3,c7,e8,neg];grind)
 have e4:N3 w x u=N3 u w x:=Qjbd (by simp only[N3,c7,e8];grind) (by simp only[N3,c7,e8];grind) (by simp only[N3,c7,e8];grind)
 have e5:N3 x u w=N3 u w x:=Qjbd (by simp only[N3,c7,e8];grind) (by simp only[N3,c7,e8];grind) (by simp only[N3,c7,e8];grind)
 rw[e1,e2,e3,e4,e5];exact⟨td3 h,td3 h,td3 h,h,h⟩
theorem jf7{u w x:V3}(h:N3 u w x≠⟨0,0,0⟩):u≠w/\u≠x/\w≠x:=by
 refine⟨λe=>h ?_,λe=>h ?_,λe=>h ?_⟩<;>subst e<;>refine Qjbd ?_ ?_ ?_<;>simp only[N3,c7,e8]<;>grind
theorem Le3 {l : List V3} {u w x : V3} (hu : u ∈ l) (hw : w ∈ l) (hx : x ∈ l) (h : N3 u w x ≠ ⟨0, 0, 0⟩) :
  ∃a,a<l.length/\∃c,c<a/\∃k,k<c/\N3 (gL tV l a) (gL tV l c) (gL tV l k)≠⟨0,0,0⟩/\∀f:V3->Prop,f u->f w->f x->f (gL tV l a)/\f (gL tV l c)/\f (gL tV l k):=by
 obtain⟨i,hi,rfl⟩:=Qjs.1 hu;obtain⟨j,hj,rfl⟩:=Qjs.1 hw;obtain⟨k,hk,rfl⟩:=Qjs.1 hx;obtain⟨n1,n2,n3⟩:=jf7 h;obtain⟨s1,s2,s3,s4,s5⟩:=ye5 h;have d1:i≠j:=λe=>n1 (by subst e;rfl)
 have d2:i≠k:=λe=>n2 (by subst e;rfl)
 have d3:j≠k:=λe=>n3 (by subst e;rfl)
 rw[<- ib9 tV hi,<- ib9 tV hj,<- ib9 tV hk] at *
 rcases Qjad d1 with h1|h1<;>rcases Qjad d2 with h2|h2<;>rcases Qjad d3 with h3|h3
 ·exact⟨k,hk,j,h3,i,h1,s3,λf a b c=>⟨c,b,a⟩⟩
 ·exact⟨j,hj,k,h3,i,h2,s4,λf a b c=>⟨b,c,a⟩⟩
 ·omega
 ·exact⟨j,hj,i,h1,k,h2,s1,λf a b c=>⟨b,a,c⟩⟩
 ·exact⟨k,hk,i,h2,j,h1,s5,λf a b c=>⟨c,a,b⟩⟩
 ·omega
 ·exact⟨i,hi,k,h2,j,h3,s2,λf a b c=>⟨a,c,b⟩⟩
 ·exact⟨i,hi,j,h1,k,h3,h,λf a b c=>⟨a,b,c⟩⟩
theorem N6{l:List V3}(hl:l.all inV=true)(p:Pln):p∈F0 l↔Qa7 l p:=by
 have hin:=Qjg.1 hl;constructor
 ·intro hp;obtain⟨a,ha,c,hc,k,hk,h1,h2⟩:=(Td7 l p).1 hp;have ma:=gLm ha;have mc:=gLm (show c<l.length by omega)
  have mk:=gLm (show k<l.length by omega)
  have ht:=(ma4 h1).2
  rcases h2 with⟨rfl,h3⟩|⟨rfl,h3⟩
  ·exact Jc8 ma mc mk ht ((wb9 ht.ok hl).1 h3)
  ·exact nc8 ma mc mk ht ((wb9 (nc4 ht.ok) hl).1 h3)
 ·intro h;obtain⟨u,w,x,hu,hw,hx,h3,t1,t2,t3⟩:=h.on;obtain⟨a,ha,c,hc,k,hk,hn,hall⟩:=Le3 hu hw hx h3;obtain⟨i1,i2,i3⟩:=hall (λv=>inV v=true) (hin u hu) (hin w hw) (hin x hx)
  obtain⟨e1,e2,e3⟩:=hall (λv=>dot p.n v=p.b) t1 t2 t3
  have h2:=Fa9 i1 i2 i3 hn;refine (Td7 l p).2 ⟨a,ha,c,hc,k,hk,h2,?_⟩;have hh:=(wb9 h.ok hl).2 h.hd
  rcases Ob5 (ma4 h2).2 h.ok e1 e2 e3 with e|e
  ·exact .inl ⟨e,hh⟩
  ·exact .inr ⟨e,hh⟩
theorem be6{n:V3}(h:n≠⟨0,0,0⟩):0<dot n n:=by
 have sq:∀a:Int,0<=a*a:=λa=>by
  by_cases h:0<=a
  ·exact Qjae h h
  ·have:=Qjae (show 0<=-a by omega) (show 0<=-a by omega)
   rw[Int.neg_mul_neg] at this;exact this
 have z:∀{a:Int},a*a=0->a=0:=λh=>(Qji.1 h).elim id id
 have s1:=sq n.x;have s2:=sq n.y;have s3:=sq n.z;by_cases h0:0<dot n n
 ·exact h0
 ·exfalso;simp only[dot] at h0;exact h (Qjbd (z (by omega)) (z (by omega)) (z (by omega)))
theorem be7{l:List V3}(hl:l.all inV=true){c:List Pln}(hc:∀p,Qa7 l p->p∈c):Ze5 l c:=λn b hn hf=>by
 have hin:=Qjg.1 hl;obtain⟨u,w,x,hu,hw,hx,h3,t1,t2,t3⟩:=hf.on;have h2:=Fa9 (hin u hu) (hin w hw) (hin x hx) h3;have ht:=(ma4 h2).2;generalize (D0 u w x).1=q at ht;obtain⟨s1,s2,s3⟩:=Uc6 ht;have hnn:=be6 hn;have d1:dot n (e8 w u)=0:=by simp only[dot,e8] at *;grind
 have d2:dot n (e8 x u)=0:=by simp only[dot,e8] at *;grind
 -- the normals are parallel
 have par:dot n n*q.n.x=dot q.n n*n.x/\dot n n*q.n.y=dot q.n n*n.y/\dot n n*q.n.z=dot q.n n*n.z:=by
  obtain⟨ok,⟨g,hg,e1,e2,e3⟩,o⟩:=ht;have z:∀{x y:Int},g*(x-y)=0->x=y:=λh=>by have:=(Qji.1 h).resolve_left (by omega);omega
  have eg:g*dot q.n n=(c7 (e8 w u) (e8 x u)).x*n.x+(c7 (e8 w u) (e8 x u)).y*n.y+(c7 (e8 w u) (e8 x u)).z*n.z:=by
   have:g*dot q.n n=(g*q.n.x)*n.x+(g*q.n.y)*n.y+(g*q.n.z)*n.z:=by simp only[dot];grind
   rw[this,e1,e2,e3];rfl
  have e1:g*q.n.x=(c7 (e8 w u) (e8 x u)).x:=e1;have e2:g*q.n.y=(c7 (e8 w u) (e8 x u)).y:=e2;have e3:g*q.n.z=(c7 (e8 w u) (e8 x u)).z:=e3;generalize e8 w u=p at *
  generalize e8 x u=r at *
  refine⟨z ?_,z ?_,z ?_⟩
  ·have:g*(dot n n*q.n.x-dot q.n n*n.x)=dot n n*(g*q.n.x)-(g*dot q.n n)*n.x:=by grind
   rw[this,e1,eg]
   have:dot n n*(c7 p r).x-((c7 p r).x*n.x+(c7 p r).y*n.y+(c7 p r).z*n.z)*n.x=(n.y*r.z-n.z*r.y)*dot n p-(n.y*p.z-n.z*p.y)*dot n r:=by simp only[dot,c7];grind
   rw[this,d1,d2];simp
  ·have:g*(dot n n*q.n.y-dot q.n n*n.y)=dot n n*(g*q.n.y)-(g*dot q.n n)*n.y:=by grind
   rw[this,e2,eg]
   have:dot n n*(c7 p r).y-((c7 p r).x*n.x+(c7 p r).y*n.y+(c7 p r).z*n.z)*n.y=(n.z*r.x-n.x*r.z)*dot n p-(n.z*p.x-n.x*p.z)*dot n r:=by simp only[dot,c7];grind
   rw[this,d1,d2];simp
  ·have:g*(dot n n*q.n.z-dot q.n n*n.z)=dot n n*(g*q.n.z)-(g*dot q.n n)*n.z:=by grind
   rw[this,e3,eg]
   have:dot n n*(c7 p r).z-((c7 p r).x*n.x+(c7 p r).y*n.y+(c7 p r).z*n.z)*n.z=(n.x*r.y-n.y*r.x)*dot n p-(n.x*p.y-n.y*p.x)*dot n r:=by simp only[dot,c7];grind
   rw[this,d1,d2];simp
 have fin:∀r:Pln,Thr u w x q->(r=q\/r=X6 q)->0<dot r.n n->(dot n n*r.n.x=dot r.n n*n.x/\dot n n*r.n.y=dot r.n n*n.y/\dot n n*r.n.z=dot r.n n*n.z)->∃s t:Int,0<s/\0<t/\∃q∈c,t*q.n.x=s*n.x/\t*q.n.y=s*n.y/\t*q.n.z=s*n.z/\t*q.b=s*b:=λr ht hr hp ⟨p1,p2,p3⟩=>by
  have hru:dot r.n u=r.b:=by
   rcases hr with rfl|rfl
   ·exact s1
   ·exact (Sa7 q u).2 s1
  have ed:∀v,dot n n*dot r.n v=dot r.n n*dot n v:=λv=>by
   have:dot n n*dot r.n v=(dot n n*r.n.x)*v.x+(dot n n*r.n.y)*v.y+(dot n n*r.n.z)*v.z:=by
    generalize dot n n=t;simp only[dot];grind
   rw[this,p1,p2,p3];generalize dot r.n n=s;simp only[dot];grind
  have eb:dot n n*r.b=dot r.n n*b:=by rw[<- hru,ed,t1]
  have hd:∀v∈l,dot r.n v<=r.b:=λv hv=>by
   have h1:=Qju (hf.hd v hv) (Int.le_of_lt hp);rw[<- ed,<- eb] at h1;exact Int.le_of_mul_le_mul_left h1 hnn
  have hF:Qa7 l r:=by
   rcases hr with rfl|rfl
   ·exact Jc8 hu hw hx ht hd
   ·exact nc8 hu hw hx ht hd
  exact⟨dot r.n n,dot n n,hp,hnn,r,hc r hF,p1,p2,p3,eb⟩
 by_cases h0:0<dot q.n n
 ·exact fin q ht (.inl rfl) h0 par
 ·refine fin (X6 q) ht (.inr rfl) ?_ ?_
  ·rw[Ob4]
   have:dot q.n n≠0:=λe=>by
    obtain⟨p1,p2,p3⟩:=par;rw[e] at p1 p2 p3;simp only[Qjam] at p1 p2 p3;have z:∀{x:Int},dot n n*x=0->x=0:=λh=>(Qji.1 h).resolve_left (by omega)
    exact ob5 ht.ok (Qjbd (z p1) (z p2) (z p3))
   omega
  ·rw[Ob4];obtain⟨p1,p2,p3⟩:=par;show dot n n*-q.n.x=_/\dot n n*-q.n.y=_/\dot n n*-q.n.z=_;rw[Int.mul_neg,Int.mul_neg,Int.mul_neg,p1,p2,p3,Int.neg_mul,Int.neg_mul,Int.neg_mul];exact⟨rfl,rfl,rfl⟩
end Go.Ev.Ce
namespace Go.Ev.Ce
open Go Go.Ev Go.Ev.L Go.Proofs Go.Sort
def eqV(x y:V3):Bool:=x.x==y.x&&(x.y==y.y&&(x.z==y.z&&true))
theorem Ua7(x y:V3):eqV x y=true↔x=y:=by
 unfold eqV;simp only[Qjas,Qjn,beq_iff_eq];refine⟨λ⟨h1,h2,h3⟩=>Qjbd h1 h2 h3,λh=>by subst h;exact⟨rfl,rfl,rfl⟩⟩
theorem Ob6{l:List V3}{j:Nat}(h:j<l.length):ldR tV (bL tV l) (0+j)=true:=by rw[Qjf];exact Qd1 tV h
theorem Bb9{l:List V3}{j:Nat}(h:j<l.length):rdR tV (bL tV l) (0+j)=gL tV l j:=by rw[Qjf];exact Qd0 tV h
theorem Hd3(l:List V3)(n:Nat):L3 (bL tV l) n=bL tV (l.take n):=by unfold bL;rw[M1,k9,k9,List.map_take]
theorem Uc7(l:List V3)(n:Nat):g8 (bL tV l) n=bL tV (l.drop n):=by unfold bL;rw[J7,k9,k9,List.map_drop]
theorem Hd4(n:Nat):List.replicate n [i 0,i 0,i 0]=bL tV (List.replicate n ⟨0,0,0⟩):=by unfold bL;rw[k9,List.map_replicate];rfl
def dvF:V3->List V3->List V3
 |_,[]=>[]
 |a,x::l=>if eqV x a then dvF x l else x::dvF x l
def ddV:List V3->List V3
 |[]=>[]
 |x::l=>x::dvF x l
structure ye6(l:List V3)(n:Nat)(cur:List V3)(m j:Nat)(R:List V3):Prop where
 len:cur.length=l.length
 t:cur.take m++dvF (gL tV l (j-1)) ((l.take n).drop j)=R
 d:cur.drop (j-1)=l.drop (j-1)
 le:m+1<=j
theorem dd3 (l : List V3) (n o : Nat) (hn : n ≤ l.length) (hl : l.length ≤ 1000000000) (ho : o < n) (m : Nat) (cur : List V3) (R : List V3) (hd : ye6 l n cur m (o + 1) R) :
  ∃t s,lp (z8 ⟨n,0+o,n-o⟩) ⟨(m:Int),((1:Nat):Int),bL tV cur⟩=(t,s)/\(t=1/\∃m' cur' k,s=⟨((m':Nat):Int),k,bL tV cur'⟩/\cur'.length=l.length/\cur'.take m'=R/\m'<=n):=by
 refine F9 (step:=z8 ⟨n,0+o,n-o⟩) (mk:=λj (x:Nat×List V3)=>(⟨(x.1:Int),(j:Int),bL tV x.2⟩:y9)) (n-o) (λj x=>ye6 l n x.2 x.1 (o+j) R/\1<=j/\x.1<=n) (λt s=>t=1/\∃m' cur' k,s=⟨((m':Nat):Int),k,bL tV cur'⟩/\cur'.length=l.length/\cur'.take m'=R/\m'<=n) (by omega) (λj x hj hx=>?_) (λj x hj hx=>?_) 1 (m,cur) ⟨hd,Qjk _,by have:=hd.le;show m<=n;omega⟩
 ·obtain⟨m,cur⟩:=x;obtain⟨⟨h1,h2,h3,h4⟩,hj1,hmn⟩:=hx
  simp only at h1 h2 h3 h4 hmn
  have hoj:o+j<n:=by omega
  have hjc:o+j<cur.length:=by omega
  have hjc':o+(j-1)<cur.length:=by omega
  have hmc:m<cur.length:=by omega
  have hg':gL tV cur (o+(j-1))=gL tV l (o+j-1):=by rw[show o+(j-1)=o+j-1 by omega];exact vc8 tV h3
  have hd1:cur.drop (o+j)=l.drop (o+j):=by have:=mc8 h3 1;rw[show o+j-1+1=o+j by omega] at this;exact this
  have hg:gL tV cur (o+j)=gL tV l (o+j):=vc8 tV hd1;have hWm:W ((m:Int)+1)=((m+1:Nat):Int):=by rw[qa7 (by omega) (by omega)];omega
  have hWj:W ((j:Int)-1)=((j-1:Nat):Int):=by rw[qa7 (by omega) (by omega)];omega
  have hb:Nat.blt m cur.length=true:=by rw[Nat.blt_eq];exact hmc
  have hrow:f7 (bL tV cur) m=tV.row (gL tV cur m):=V9 tV hmc;have sp:∀(v:V3) (x1 x2 x3:Int),V5 (tV.row v) 0 [i x1,i x2,i x3]=tV.row ⟨x1,x2,x3⟩:=λ_ _ _ _=>rfl
  have rl:∀v:V3,Nat.ble 3 (len (tV.row v))=true:=λ_=>rfl
  simp only[z8,O6,Int.toNat_natCast,Qjf,hWj,Qd1 tV hjc,Qd1 tV hjc',Qd0 tV hjc,Qd0 tV hjc',v8 hj (show n-o<=4611686018427387904 by omega),hWm,hg,hg',hrow,ia3,hb,sp,rl,Kb3,i5 (show m<n by omega)]
  rw[btD (j7 hj)];simp only[i5 hj,i5 (show j-1<n-o by omega),y7,Qjo]
  rw[show ((gL tV l (o+j)).x==(gL tV l (o+j-1)).x&&((gL tV l (o+j)).y==(gL tV l (o+j-1)).y&&((gL tV l (o+j)).z==(gL tV l (o+j-1)).z&&true)))=eqV (gL tV l (o+j)) (gL tV l (o+j-1)) from rfl]
  have hcons:(l.take n).drop (o+j)=gL tV l (o+j)::(l.take n).drop (o+(j+1)):=by
   rw[Qjav (by rw[Qjd];omega),List.getElem_take,ib9 tV (by omega)]
   rfl
  rw[hcons] at h2;have hlast:o+(j+1)-1=o+j:=by omega
  unfold dvF at h2;cases he:eqV (gL tV l (o+j)) (gL tV l (o+j-1)) with
  |true =>
   rw[he] at h2;simp only[if_true] at h2;refine .nx ⟨(m,cur),rfl,⟨⟨h1,?_,?_,by show m+1<=o+(j+1);omega⟩,by omega,hmn⟩⟩
   ·rw[hlast];exact h2
   ·rw[hlast];exact hd1
  |false =>
   rw[he] at h2;simp only[Qje,if_false] at h2;refine .nx ⟨(m+1,cur.set m (gL tV l (o+j))),rfl,⟨⟨by rw[Qjao];exact h1,?_,?_,by show m+1+1<=o+(j+1);omega⟩,by omega,by show m+1<=n;omega⟩⟩
   ·rw[hlast];show (cur.set m (gL tV l (o+j))).take (m+1)++_=R;rw[Qjag (by rw[Qjao];exact hmc),Qjba,List.take_set_of_le (Qjk _),Qjat]
    exact h2
   ·rw[hlast];show (cur.set m (gL tV l (o+j))).drop (o+j)=_;rw[List.drop_set_of_lt (by omega),hd1]
 ·obtain⟨m,cur⟩:=x;obtain⟨⟨h1,h2,h3,h4⟩,hj1,hmn⟩:=hx
  simp only at h1 h2 h3 h4 hmn
  refine⟨1,?_,rfl,m,cur,_,rfl,h1,?_,hmn⟩
  ·simp only[z8,O6];rw[bfD (by omega)]
  ·rw[Qjaz (by rw[Qjd];omega)] at h2
   unfold dvF at h2;rw[Qjq] at h2;exact h2
theorem Hd5 (l : List V3) (n : Nat) (hn : n ≤ l.length) (hl : l.length ≤ 1000000000) :
  ∃m r,Q1 ⟨n,bL tV l⟩=⟨1,m,bL tV r⟩/\m<=r.length/\r.take m=ddV (l.take n)/\r.length=l.length:=by
 unfold Q1 Q0
 simp only
 by_cases h2:(n:Int)<2
 ·rw[btD h2];refine⟨n,l,rfl,hn,?_,rfl⟩
  have:n=0\/n=1:=by omega
  rcases this with rfl|rfl
  ·rfl
  ·cases l with
   |nil=>rfl
   |cons x l=>rfl
 ·rw[bfD h2];have h1n:1<=n:=by omega
  have hI : ∀ j, j < n → 1 ≤ j → l.take j ++ dvF (gL tV l (j - 1)) ((l.take n).drop j) = ddV (l.take n) →
    (eqV (gL tV l j) (gL tV l (j-1))=true->ye6 l n l j (j+1) (ddV (l.take n)))/\(eqV (gL tV l j) (gL tV l (j-1))=false->l.take (j+1)++dvF (gL tV l (j+1-1)) ((l.take n).drop (j+1))=ddV (l.take n)):=by
   intro j hj hj1 hR;have hcons:(l.take n).drop j=gL tV l j::(l.take n).drop (j+1):=by
    rw[Qjav (by rw[Qjd];omega),List.getElem_take,ib9 tV (by omega)]
   rw[hcons] at hR;unfold dvF at hR;constructor
   ·intro he;rw[he] at hR;simp only[if_true] at hR;exact⟨rfl,hR,rfl,Qjk _⟩
   ·intro he;rw[he] at hR;simp only[Qje,if_false] at hR;rw[Ca9 tV (show j<l.length by omega),Qjat]
    exact hR
  have inner:∀k,k<n->1<=k->ye6 l n l k (k+1) (ddV (l.take n))->∃m' cur' k',lp (z8 ⟨n,0+k,n-k⟩) ⟨(k:Int),1,bL tV l⟩=(1,⟨((m':Nat):Int),k',bL tV cur'⟩)/\cur'.length=l.length/\cur'.take m'=ddV (l.take n)/\m'<=n:=by
   intro k hk hk1 hc;obtain⟨t,s,e1,rfl,m',cur',k',rfl,e2,e3,e4⟩:=dd3 l n k hn hl hk k l _ hc;exact⟨m',cur',k',e1,e2,e3,e4⟩
  have key:=F9 (step:=P9 ⟨n,bL tV l⟩) (mk:=λj (_:Unit)=>(⟨(j:Int)⟩:A5)) n (λj _=>1<=j/\j<=n/\l.take j++dvF (gL tV l (j-1)) ((l.take n).drop j)=ddV (l.take n))
   (λt s=>(t=1/\∃k:Nat,s=⟨(k:Int)⟩/\k<n/\1<=k/\ye6 l n l k (k+1) (ddV (l.take n)))\/(t=2/\l.take n=ddV (l.take n))) (by omega) (λj x hj hx=>?_) (λj x hj hx=>?_) 1 () ⟨Qjk _,h1n,by
    cases l with
    |nil=>simp only[List.length_nil] at hn;omega
    |cons x l =>
     cases n with
     |zero=>omega
     |succ n=>rfl⟩
  ·obtain⟨t,s,e1,e2⟩:=key;rw[show (⟨1⟩:A5)=⟨((1:Nat):Int)⟩ from rfl,e1]
   rcases e2 with⟨rfl,k,rfl,hk,hk1,hc⟩|⟨rfl,he⟩
   ·obtain⟨m',cur',k',e2,e3,e4,e5⟩:=inner k hk hk1 hc;simp only[Int.toNat_natCast,e2];simp only[Qjf,Nat.sub_zero];refine⟨m',cur'.take m'++(List.replicate (n-m') ⟨0,0,0⟩++cur'.drop (m'+(n-m'))),?_,?_,?_,?_⟩
    ·rw[Hd3,Hd4,Uc7,Ia5,Ia5];rfl
    ·rw[Qjc,Qjd,e3];omega
    ·rw[Qjv (by rw[Qjd,e3];omega),Qjbb,Nat.min_self,e4]
    ·rw[Qjc,Qjc,Qjd,Qjbc,Qjx,e3];omega
   ·exact⟨n,l,rfl,hn,he,rfl⟩
  ·obtain⟨hj1,hjn,hR⟩:=hx;obtain⟨i1,i2⟩:=hI j hj hj1 hR;have hWj:W ((j:Int)-1)=((j-1:Nat):Int):=by rw[qa7 (by omega) (by omega)];omega
   have hjl:j<l.length:=by omega
   have hjl':j-1<l.length:=by omega
   simp only[P9,O7,Int.toNat_natCast,hWj,Ob6 hjl,Ob6 hjl',Bb9 hjl,Bb9 hjl',v8 hj (show n<=4611686018427387904 by omega)]
   rw[btD (j7 hj),bt (i5 hj),bt (i5 (show j-1<n by omega)),bt (i5 (show j<n+1 by omega))]
   simp only[y7];rw[show ((gL tV l j).x==(gL tV l (j-1)).x&&((gL tV l j).y==(gL tV l (j-1)).y&&((gL tV l j).z==(gL tV l (j-1)).z&&true)))=eqV (gL tV l j) (gL tV l (j-1)) from rfl]
   cases he:eqV (gL tV l j) (gL tV l (j-1)) with
   |false=>exact .nx ⟨(),rfl,by omega,by omega,i2 he⟩
   |true =>
    obtain⟨m',cur',k',e2,e3,e4,e5⟩:=inner j hj hj1 (i1 he);rw[e2];simp only[i5 (show m'<n+1 by omega)]
    exact .ex (.inl ⟨rfl,j,rfl,hj,hj1,i1 he⟩)
  ·obtain⟨hj1,hjn,hR⟩:=hx;refine⟨2,?_,.inr ⟨rfl,?_⟩⟩
   ·simp only[P9,O7];rw[bfD (by omega)]
   ·have:j=n:=by omega
    subst this;rw[Qjaz (by rw[Qjd];omega)] at hR
    unfold dvF at hR;rw[Qjq] at hR;exact hR
def wc6(l:List V3):Prop:=l.Pairwise LtV
theorem Tb0{x y z:V3}(h1:LtV x y)(h2:LtV y z):LtV x z:=by unfold LtV at *;omega
theorem nc9(x:V3):¬ LtV x x:=by unfold LtV;omega
theorem be8(x y:V3):LtV x y\/x=y\/LtV y x:=by
 by_cases h1:LtV x y
 ·exact .inl h1
 ·by_cases h2:LtV y x
  ·exact .inr (.inr h2)
  ·refine .inr (.inl ?_);unfold LtV at h1 h2;exact Qjbd (by omega) (by omega) (by omega)
theorem Td9(l:List V3):List.Perm (Gb2 l) l:=List.mergeSort_perm l _
theorem le3(x y z:V3)(h1:(!ltOf Ja1 y x)=true)(h2:(!ltOf Ja1 z y)=true):(!ltOf Ja1 z x)=true:=by
 rw[Ka3] at *
 simp only[Bool.not_eq_true',decide_eq_false_iff_not] at *
 unfold LtV at *
 omega
theorem le4(x y:V3):((!ltOf Ja1 y x)||(!ltOf Ja1 x y))=true:=by
 rw[Ka3,Ka3];by_cases h:LtV y x
 ·have h2:¬ LtV x y:=λh2=>nc9 x (Tb0 h2 h)
  simp[h2]
 ·simp[h]
theorem td7(l:List V3):(Gb2 l).Pairwise λx y=>(!ltOf Ja1 y x)=true:=List.pairwise_mergeSort le3 le4 l
theorem be9(p:V3):∀(a:V3) (l:List V3),p∈a::dvF a l↔p∈a::l
 |a,[]=>by simp[dvF]
 |a,x::l=>by
  have ih:=be9 p x l;unfold dvF;split
  ·rename_i h;rw[Ua7] at h;subst h;rw[ih];simp
  ·simp only[Qjab] at ih ⊢;rw[ih]
theorem Ze6(p:V3):∀l:List V3,p∈ddV l↔p∈l
 |[]=>Iff.rfl
 |x::l=>be9 p x l
theorem ce0:∀(a:V3) (l:List V3),(a::l).Pairwise (λx y=>(!ltOf Ja1 y x)=true)->wc6 (a::dvF a l)
 |a,[],_=>List.pairwise_singleton _ _
 |a,x::l,h=>by
  obtain⟨h1,h2⟩:=Qjaq.1 h;have ih:=ce0 x l h2;have hle:=h1 x Qjap;rw[Ka3] at hle;have hle:¬ LtV x a:=by simpa using hle
  unfold dvF;split
  ·rename_i he;rw[Ua7] at he;subst he;exact ih
  ·rename_i hne;have hlt:LtV a x:=by
    rcases be8 a x with h|h|h
    ·exact h
    ·exact absurd ((Ua7 _ _).2 h.symm) hne
    ·exact absurd h hle
   refine Qjaq.2 ⟨λp hp=>?_,ih⟩
   rcases Qjab.1 hp with e|hp'
   ·subst e;exact hlt
   ·exact Tb0 hlt ((Qjaq.1 ih).1 p hp')
theorem Ud0(l:List V3):wc6 (ddV (Gb2 l)):=by
 have h:=td7 l;cases hs:Gb2 l with
 |nil=>exact .nil
 |cons a l'=>rw[hs] at h;exact ce0 a l' h
noncomputable def dis(l:List V3):List V3:=ddV (Gb2 l)
theorem Cb0(l:List V3)(v:V3):v∈dis l↔v∈l:=by unfold dis;rw[Ze6,(Td9 l).mem_iff]
theorem kd6(l:List V3):(dis l).Nodup:=List.Pairwise.imp (λ{x y} (h:LtV x y) (e:x=y)=>nc9 y (e ▸ h)) (Ud0 l)
theorem td8(l:List V3):(dis l).length<=l.length:=by
 have:=List.Nodup.length_le_of_subset (kd6 l) (λv hv=>(Cb0 l v).1 hv)
 exact this
theorem kd7(l:List V3)(n:Nat)(hn:n<=l.length):slR tV (bL tV l) 0 n=l.take n:=pb8 tV (by rw[Qjd];omega) λk hk=>by
 rw[Qjf,V9 tV (by omega)]
 congr 1;simp[gL,Qjac,List.getElem?_take,hk]
theorem wc7(l:List V3)(n:Nat)(hn:n<=l.length):okS tV (bL tV l) 0 n=true:=Ma0 tV (f:=λk=>gL tV l k) λk hk=>by rw[Qjf,V9 tV (by omega)]
theorem kd8(a:V3)(l:List V3)(hl:l.length<=1000000):ja2 (a,l)=⟨1,(a::l).length,bL tV (a::l)⟩:=by
 have ec:u9 (λk=>tV.row (gL tV (a::l) k)) (List.range (l.length+1))=bL tV (a::l):=gb0 tV (a::l)
 unfold ja2 W4;simp only[ec,ia3];have r:Nat.ble ((0+(a::l).length)*24) room=true:=by rw[Qjaw];unfold room;simp only[List.length_cons];omega
 rw[r,Qjf];rfl
theorem oc0(a:V3)(l:List V3)(hl:l.length<=1000000):∃m r,Q1 ⟨(a::l).length,app (bL tV (Gb2 (slR tV (bL tV (a::l)) 0 (a::l).length))) (g8 (bL tV (a::l)) (a::l).length)⟩=⟨1,m,bL tV r⟩/\m<=r.length/\r.take m=dis (a::l)/\r.length=l.length+1:=by
 have hs:(Gb2 (a::l)).length=(a::l).length:=jd7 _;rw[cc7,Uc7,Ia5];obtain⟨m,r,k1,k2,k3,k4⟩:=Hd5 (Gb2 (a::l)++(a::l).drop (a::l).length) (a::l).length (by rw[Qjc,hs];omega) (by rw[Qjc,hs,Qjx];simp only[List.length_cons];omega)
 refine⟨m,r,k1,k2,?_,by rw[k4,Qjc,hs,Qjx];simp only[List.length_cons];omega⟩
 rw[k3,Qjv (by rw[hs];omega),List.take_of_length_le (by rw[hs];omega)]
 rfl
theorem Hd6(l:List V3)(hl:l.length<=2000000)(r:List V3):(Bool.and (Nat.ble l.length room) (Bool.and (Nat.ble l.length (len (bL tV (l++r)))) (okS tV (bL tV (l++r)) 0 l.length)))=true:=by
 rw[wc7 _ _ (by rw[Qjc];omega),ia3,Qjn,Qjn,Qjaw,Qjaw]
 refine⟨by unfold room;omega,by rw[Qjc];omega,rfl⟩
theorem Ac3(a:V3)(l:List V3)(hl:l.length<=1000000):Rd (one (r1L tV)) (ta6 (a,l)) (λr=>r=dis (a::l)):=by
 obtain⟨m,r,k1,k2,k3,_⟩:=oc0 a l hl;have hok:okL tV (l.length+1) (λk=>tV.row (gL tV (a::l) k))=true:=Ma0 tV (f:=λk=>gL tV (a::l) k) λ_ _=>rfl
 have hr:=Hd6 (a::l) (by simp only[List.length_cons];omega) []
 rw[Qjq] at hr;unfold ta6;simp only[Yd4,Yd5,kd8 a l hl,hok,k1,y7,Qjak,hr];refine⟨_,r.take m,rfl,?_,k3⟩;show Bool.rec (motive:=λ_=>Option (List V3)) none (some (slR tV (bL tV r) 0 m)) (Bool.and true (okS tV (bL tV r) 0 m))=_
 rw[kd7 r m k2,wc7 r m k2];rfl
theorem Ud1(a:V3)(l:List V3)(hl:l.length<=1000000):Ya6 (a,l)=dis (a::l):=(Ac3 a l hl).p
theorem Ud2(a:V3)(l:List V3)(hl:l.length<=1000000):Ya7 (a,l)=true:=(Ac3 a l hl).g
end Go.Ev.Ce
namespace Go.Ev.Ce
open Go Go.Ev Go.Ev.L Go.Proofs
theorem Hd7(p:Pln)(v:V3):Na2 p v=some (i (U5 p v),[]):=by
 unfold Na2 U5;simp only[Je4,Je5,(vc7 v).1,(vc7 v).2,ae0,ae1,y7];cases hp:okp p with
 |false=>rfl
 |true =>
  cases hv:inV v with
  |false=>rfl
  |true =>
   have hb:=Bb8 hp;have hd:=xe5 hb hv;have e:C0 p.n v=dot p.n v:=by
    unfold C0;simp only[Nb0,dc8];exact sb0 (hd.mono (by omega))
   rw[e];simp only[Bool.not_true,Kb2,Qjo,if_true,Ka9];by_cases h1:dot p.n v<p.b
   ·rw[if_pos h1,if_pos (by omega)]
   ·rw[if_neg h1];by_cases h2:dot p.n v>p.b
    ·rw[if_pos h2,if_neg (by omega),if_pos (by omega)]
    ·rw[if_neg h2,if_neg (by omega),if_neg (by omega)]
theorem oc1(p:Pln)(v:V3):R4 p v=U5 p v:=by unfold R4;rw[Hd7];rfl
theorem Tb1(p:Pln)(v:V3):fa7 p v=true:=by unfold fa7;rw[Hd7];rfl
theorem Le4{v:V3}(h1:Sm 1000000000000000000 v.x)(h2:Sm 1000000000000000000 v.y)(h3:Sm 1000000000000000000 v.z):da2 [v.x,v.y,v.z]=g3 v/\da3 [v.x,v.y,v.z]=true:=by
 have hd:=Tc3 [v.x,v.y,v.z] (by simp) (by
  intro x hx;simp only[Qjab,Qjax,or_false] at hx
  rcases hx with rfl|rfl|rfl<;>assumption)
 have hg:([v.x,v.y,v.z].foldl (λg x=>Nat.gcd g x.natAbs) 0:Nat)=Nat.gcd (Nat.gcd v.x.natAbs v.y.natAbs) v.z.natAbs:=by
  simp only[List.foldl_cons,List.foldl_nil,Nat.gcd_zero_left]
 exact⟨by unfold da2;rw[hd,hg];rfl,by unfold da3;rw[hd];rfl⟩
theorem ye7 {v : V3} (h1 : Sm 1000000000000000000 v.x) (h2 : Sm 1000000000000000000 v.y) (h3 : Sm 1000000000000000000 v.z) :
  Na1 v=if g3 v=0 then some (.tup [.agg (tV.row ⟨0,0,0⟩),i 0],[]) else some (.tup [.agg (tV.row ⟨W (Int.tdiv v.x (g3 v)),W (Int.tdiv v.y (g3 v)),W (Int.tdiv v.z (g3 v))⟩),i (g3 v)],[]):=by
 obtain⟨e1,e2⟩:=Le4 h1 h2 h3;unfold Na1;simp only[e1,e2,y7];by_cases h:g3 v=0
 ·rw[if_pos h,bt (by simpa using h)];rfl
 ·rw[if_neg h,bf (by simpa using h),bf (by simpa using h),bf (by simpa using h),bf (by simpa using h)];rfl
theorem Ac4(a c d:V3):ta1 a c d=some (.tup [.agg (tP.row (D0 a c d).1),b (D0 a c d).2],[]):=by
 unfold ta1 D0;simp only[(vc7 _).1,(vc7 _).2];cases ha:inV a with
 |false=>rfl
 |true =>
  cases hc:inV c with
  |false=>rfl
  |true =>
   cases hd:inV d with
   |false=>rfl
   |true =>
    obtain⟨e,k1,k2,k3⟩:=sb1 ha hc hd;have e':C4 (H7 c a) (H7 d a)=c7 (sub c a) (sub d a):=e;rw[e'];generalize c7 (sub c a) (sub d a)=n at *
    have m1:=k1.mono (m:=1000000000000000000) (by omega)
    have m2:=k2.mono (m:=1000000000000000000) (by omega)
    have m3:=k3.mono (m:=1000000000000000000) (by omega)
    have hpr:=ye7 m1 m2 m3;have gp:bb3 n=true:=by unfold bb3;rw[hpr];split<;>rfl
    by_cases h0:g3 n=0
    ·have pp:Ca2 n=(⟨0,0,0⟩,0):=by unfold Ca2;rw[hpr,if_pos h0];rfl
     have hz:C0 ⟨0,0,0⟩ a=0:=by unfold C0;simp only[Qjam];rfl
     simp only[gp,pp,hz,Qjo,if_true,h0];rfl
    ·have hp:=Sb6 n;have q1:=ma3 (g:=g3 n) k1 (by omega)
     have q2:=ma3 (g:=g3 n) k2 (by omega)
     have q3:=ma3 (g:=g3 n) k3 (by omega)
     rw[sb0 (q1.mono (by omega)),sb0 (q2.mono (by omega)),sb0 (q3.mono (by omega))] at hpr
     have pp:Ca2 n=(⟨Int.tdiv n.x (g3 n),Int.tdiv n.y (g3 n),Int.tdiv n.z (g3 n)⟩,g3 n):=by unfold Ca2;rw[hpr,if_neg h0];rfl
     have hdot:C0 ⟨Int.tdiv n.x (g3 n),Int.tdiv n.y (g3 n),Int.tdiv n.z (g3 n)⟩ a=dot ⟨Int.tdiv n.x (g3 n),Int.tdiv n.y (g3 n),Int.tdiv n.z (g3 n)⟩ a:=by
      unfold C0;simp only[Nb0,dc8];obtain⟨⟨a1,a2⟩,⟨a3,a4⟩,a5,a6⟩:=(Oa4 a).1 ha;have r1:=mb q1.1 q1.2 a1 a2;have r2:=mb q2.1 q2.2 a3 a4;have r3:=mb q3.1 q3.2 a5 a6;rw[qa7 (by omega) (by omega)]
      rfl
     simp only[gp,pp,hdot,Qjo,if_true,h0,if_false,show g3 n>0 from by omega,decide_true]
     rfl
theorem Cb1(a b c:V3):K8 a b c=D0 a b c:=by unfold K8;rw[Ac4];rfl
theorem ec2(a b c:V3):ka7 a b c=true:=by unfold ka7;rw[Ac4];rfl
theorem ye8(v:V3)(p:Pln):Ua2 ⟨v.x,v.y,v.z,p.n.x,p.n.y,p.n.z,p.b⟩=⟨1,U5 p v != 0⟩:=by
 unfold Ua2 va6;simp only[oc1,Tb1,y7]
theorem Le5(l:List V3)(p:Pln)(hl:l.length<=1000000000):ba5 ⟨l,p.n.x,p.n.y,p.n.z,p.b⟩=⟨1,if l.any (λv=>U5 p v != 0) then ((l.findIdx (λv=>U5 p v != 0):Nat):Int) else -1⟩:=by
 have h:=Oa0 (step:=J9 ⟨l,(l.length:Int),p.n.x,p.n.y,p.n.z,p.b⟩) (mk:=λj=>(⟨(j:Int)⟩:w7)) (c:=λv=>U5 p v != 0) (u:=1) (fin:=2) tV l hl
  (λj hj=>by
   simp only[J9,H9,Int.toNat_natCast,ye8,v8 hj (by omega)]
   rw[bt (Sc4 hj),bt (i5 hj)]
   rfl)
  (by simp only[J9,H9];rw[bf (lc4 (Qjb _))]) 0 (Qjh _)
 rw[Qjm] at h;unfold ba5 J2;simp only[l5,j9];rw[show (⟨0⟩:w7)=⟨((0:Nat):Int)⟩ from rfl,h]
 split
 ·simp only[Qjf];rfl
 ·rfl
theorem ce1(l:List V3)(p:Pln)(hl:l.length<=1000000000):z6 ⟨l,p.n.x,p.n.y,p.n.z,p.b⟩=⟨1,l.any λv=>U5 p v != 0⟩:=by
 unfold z6 D5;simp only[l5,j9,Le5 l p hl];split
 ·rename_i h;rw[h,show decide (((l.findIdx (λv=>U5 p v != 0):Nat):Int)>=0)=true from decide_eq_true (by omega)];rfl
 ·rename_i h;rw[Qjy] at h;rw[h];rfl
theorem Le6(v:V3)(p:Pln):Ha7 ⟨v.x,v.y,v.z,p.n.x,p.n.y,p.n.z,p.b⟩=⟨1,decide (U5 p v>0)⟩:=by
 unfold Ha7 ka8;simp only[oc1,Tb1,y7]
theorem Le7(l:List V3)(p:Pln)(hl:l.length<=1000000000):ba8 ⟨l,p.n.x,p.n.y,p.n.z,p.b⟩=⟨1,if l.any (λv=>decide (U5 p v>0)) then ((l.findIdx (λv=>decide (U5 p v>0)):Nat):Int) else -1⟩:=by
 have h:=Oa0 (step:=K0 ⟨l,(l.length:Int),p.n.x,p.n.y,p.n.z,p.b⟩) (mk:=λj=>(⟨(j:Int)⟩:w8)) (c:=λv=>decide (U5 p v>0)) (u:=1) (fin:=2) tV l hl
  (λj hj=>by
   simp only[K0,I0,Int.toNat_natCast,Le6,v8 hj (by omega)]
   rw[bt (Sc4 hj),bt (i5 hj)]
   rfl)
  (by simp only[K0,I0];rw[bf (lc4 (Qjb _))]) 0 (Qjh _)
 rw[Qjm] at h;unfold ba8 J3;simp only[l5,j9];rw[show (⟨0⟩:w8)=⟨((0:Nat):Int)⟩ from rfl,h]
 split
 ·simp only[Qjf];rfl
 ·rfl
theorem Le8(l:List V3)(p:Pln)(hl:l.length<=1000000000):S1 ⟨l,p.n.x,p.n.y,p.n.z,p.b⟩=⟨1,l.any λv=>decide (U5 p v>0)⟩:=by
 unfold S1 D6;simp only[l5,j9,Le7 l p hl];split
 ·rename_i h;rw[h,show decide (((l.findIdx (λv=>decide (U5 p v>0)):Nat):Int)>=0)=true from decide_eq_true (by omega)];rfl
 ·rename_i h;rw[Qjy] at h;rw[h];rfl
def bey(l:List V3)(p:Pln):Bool:=l.any λv=>decide (U5 p v>0)
theorem kd9(l:List V3)(p:Pln)(hl:l.length<=1000000000):Fa3 l p=some (b (bey l p),[]):=by
 unfold Fa3;simp only[l5,j9,Le8 l p hl];rfl
theorem ye9(l:List V3)(p:Pln)(hl:l.length<=1000000000):ha0 l p=bey l p:=by unfold ha0;rw[kd9 l p hl];rfl
theorem ze0(l:List V3)(p:Pln)(hl:l.length<=1000000000):L0 l p=true:=by unfold L0;rw[kd9 l p hl];rfl
theorem Ac5{α:Type}(t:Ty α)(l:List α){j k:Nat}(h:k<j):gL t (l.take j) k=gL t l k:=by
 simp[gL,Qjac,List.getElem?_take,h]
theorem ze1 (l : List V3) (i j : Nat) (hi : i < l.length) (hj : j < i) (hl : l.length ≤ 1000000) :
  lp (R7 ⟨(i:Int),(j:Int),(l.length:Int),(i:Int),(i:Int),(j:Int),(j:Int),l,l⟩) ⟨0⟩ =
   if (l.take j).any (λv=>(D0 v (gL tV l j) (gL tV l i)).2) then (1,⟨((l.take j).findIdx (λv=>(D0 v (gL tV l j) (gL tV l i)).2):Nat)⟩) else (2,⟨(j:Int)⟩):=by
 have hlen:(l.take j).length=j:=by rw[Qjd];omega
 have h:=Oa0 (step:=R7 ⟨(i:Int),(j:Int),(l.length:Int),(i:Int),(i:Int),(j:Int),(j:Int),l,l⟩) (mk:=λk=>(⟨(k:Int)⟩:K9)) (c:=λv=>(D0 v (gL tV l j) (gL tV l i)).2) (u:=1) (fin:=2) tV (l.take j) (by omega)
  (λk hk=>by
   rw[hlen] at hk;simp only[R7,ta3,Int.toNat_natCast,Cb1,ec2,Ac5 tV l hk,l5,j9,ce1 l _ (show l.length<=1000000000 by omega),v8 hk (by omega)]
   rw[btD (j7 hk),bt (i5 (by omega)),bt (i5 (by omega)),bt (i5 hi),y7]
   cases (D0 (gL tV l k) (gL tV l j) (gL tV l i)).2<;>rfl)
  (by rw[hlen];simp only[R7,ta3];rw[bfD (j6 (Qjb _))]) 0 (Qjh _)
 rw[Qjm,hlen] at h;rw[show (⟨0⟩:K9)=⟨((0:Nat):Int)⟩ from rfl,h]
 split
 ·simp only[Qjf]
 ·rfl
def ixs(n:Nat):List Int:=(List.range n).map λk:Nat=>(k:Int)
theorem cb8(n:Nat):(ixs n).length=n:=by simp[ixs]
theorem ce2{n k:Nat}(h:k<n):gL tI (ixs n) k=(k:Int):=by
 simp[gL,ixs,Qjac,List.getElem?_map,List.getElem?_range h]
noncomputable def sp2(l:List V3)(i:Nat)(m:Int):Bool:=(l.take m.toNat).any λv=>(D0 v (gL tV l m.toNat) (gL tV l i)).2
theorem ze2 (l : List V3) (i : Nat) (hi : i < l.length) (hl : l.length ≤ 1000000) :
  lp (aa2 ⟨(i:Int),(l.length:Int),(i:Int),(i:Int)⟩) ⟨0,l,l⟩=if (ixs i).any (sp2 l i) then (1,⟨((ixs i).findIdx (sp2 l i):Nat),l,l⟩) else (2,⟨(i:Int),l,l⟩):=by
 have h:=Oa0 (step:=aa2 ⟨(i:Int),(l.length:Int),(i:Int),(i:Int)⟩) (mk:=λj=>(⟨(j:Int),l,l⟩:O4)) (c:=sp2 l i) (u:=1) (fin:=2) tI (ixs i) (by rw[cb8];omega)
  (λj hj=>by
   rw[cb8] at hj;simp only[aa2,ta4,Int.toNat_natCast,Nat.sub_zero,l5,j9,ze1 l i j hi hj hl,v8 hj (by omega),ce2 hj]
   rw[btD (j7 hj),bt (i5 (by omega))]
   unfold sp2;simp only[Int.toNat_natCast];cases ((l.take j).any λv=>(D0 v (gL tV l j) (gL tV l i)).2)<;>rfl)
  (by rw[cb8];simp only[aa2,ta4];rw[bfD (j6 (Qjb _))]) 0 (Qjh _)
 rw[Qjm,cb8] at h;rw[show (⟨0,l,l⟩:O4)=⟨((0:Nat):Int),l,l⟩ from rfl,h]
 split
 ·simp only[Qjf]
 ·rfl
noncomputable def sp1(l:List V3)(m:Int):Bool:=(ixs m.toNat).any (sp2 l m.toNat)
theorem Ze7 (l : List V3) (hl : l.length ≤ 1000000) :
  lp (qa3 ⟨(l.length:Int)⟩) ⟨0,l,l⟩=if (ixs l.length).any (sp1 l) then (1,⟨((ixs l.length).findIdx (sp1 l):Nat),l,l⟩) else (2,⟨(l.length:Int),l,l⟩):=by
 have h:=Oa0 (step:=qa3 ⟨(l.length:Int)⟩) (mk:=λj=>(⟨(j:Int),l,l⟩:Z0)) (c:=sp1 l) (u:=1) (fin:=2) tI (ixs l.length) (by rw[cb8];omega)
  (λi hi=>by
   rw[cb8] at hi;simp only[qa3,ta5,Int.toNat_natCast,Nat.sub_zero,l5,j9,ze2 l i hi hl,v8 hi (by omega),ce2 hi]
   rw[btD (j7 hi),bt (i5 (by omega))]
   unfold sp1;simp only[Int.toNat_natCast];cases (ixs i).any (sp2 l i)<;>rfl)
  (by rw[cb8];simp only[qa3,ta5];rw[bfD (j6 (Qjb _))]) 0 (Qjh _)
 rw[Qjm,cb8] at h;rw[show (⟨0,l,l⟩:Z0)=⟨((0:Nat):Int),l,l⟩ from rfl,h]
 split
 ·simp only[Qjf]
 ·rfl
theorem td9{α:Type}{l:List α}{c:α->Bool}(h:l.any c=true):l.findIdx c<l.length:=by
 obtain⟨x,h1,h2⟩:=Qja.1 h;exact Qjah ⟨x,h1,h2⟩
theorem Tb2{n:Nat}{c:Int->Bool}(h:(ixs n).any c=true):(ixs n).findIdx c<n/\c ((ixs n).findIdx c:Nat)=true:=by
 have hlt:=td9 h;have h1:=Qjz (xs:=ixs n) (p:=c) (w:=hlt);rw[cb8] at hlt;refine⟨hlt,?_⟩;simpa [ixs] using h1
noncomputable def iF(l:List V3):Nat:=(ixs l.length).findIdx (sp1 l)
noncomputable def jF(l:List V3):Nat:=(ixs (iF l)).findIdx (sp2 l (iF l))
noncomputable def kF(l:List V3):Nat:=(l.take (jF l)).findIdx (λv=>(D0 v (gL tV l (jF l)) (gL tV l (iF l))).2)
noncomputable def plF(l:List V3):Pln:=(D0 (gL tV l (kF l)) (gL tV l (jF l)) (gL tV l (iF l))).1
noncomputable def Ob7(l:List V3):Bool:=if (ixs l.length).any (sp1 l) then !(l.any λv=>U5 (plF l) v != 0) else true
theorem Hd8(l:List V3)(hl:l.length<=1000000):Wa1 l=some (b (Ob7 l),[]):=by
 unfold Wa1 Ob7;simp only[l5,j9];rw[Ze7 l hl];by_cases h:(ixs l.length).any (sp1 l)=true
 ·obtain⟨hi,h1⟩:=Tb2 h;have h1:(ixs (iF l)).any (sp2 l (iF l))=true:=h1;obtain⟨hj,h2⟩:=Tb2 h1;have h2:(l.take (jF l)).any (λv=>(D0 v (gL tV l (jF l)) (gL tV l (iF l))).2)=true:=h2
  rw[if_pos h,if_pos h];simp only[Int.toNat_natCast,Nat.sub_zero];rw[show (ixs l.length).findIdx (sp1 l)=iF l from rfl,ze2 l (iF l) hi hl,if_pos h1]
  simp only[Int.toNat_natCast,Nat.sub_zero];rw[show (ixs (iF l)).findIdx (sp2 l (iF l))=jF l from rfl,ze1 l (iF l) (jF l) hi hj hl,if_pos h2]
  simp only[Int.toNat_natCast,Cb1];rw[show (l.take (jF l)).findIdx (λv=>(D0 v (gL tV l (jF l)) (gL tV l (iF l))).2)=kF l from rfl,show (D0 (gL tV l (kF l)) (gL tV l (jF l)) (gL tV l (iF l))).1=plF l from rfl,ce1 l _ (by omega)]
  rfl
 ·rw[if_neg h,if_neg h];rfl
theorem Le9(l:List V3)(hl:l.length<=1000000):nb9 l=Ob7 l:=by unfold nb9;rw[Hd8 l hl];rfl
theorem Me0(l:List V3)(hl:l.length<=1000000):ob0 l=true:=by unfold ob0;rw[Hd8 l hl];rfl
theorem ld0(v:V3):za1 v=some (b (!inV v),[]):=by
 unfold za1;simp only[(vc7 v).1,(vc7 v).2,y7]
theorem ze3(v:V3):Na4 v=!inV v:=by unfold Na4;rw[ld0];rfl
theorem ze4(v:V3):Na5 v=true:=by unfold Na5;rw[ld0];rfl
theorem Me1(l:List V3)(hl:l.length<=1000000000):ca1 ⟨l⟩=⟨1,if l.any (λv=>!inV v) then ((l.findIdx (λv=>!inV v):Nat):Int) else -1⟩:=by
 have h:=Oa0 (step:=K1 ⟨l,(l.length:Int)⟩) (mk:=λj=>(⟨(j:Int)⟩:w9)) (c:=λv=>!inV v) (u:=1) (fin:=2) tV l hl
  (λj hj=>by
   simp only[K1,I1,Int.toNat_natCast,ze3,ze4,v8 hj (by omega)]
   rw[bt (Sc4 hj),bt (i5 hj),y7])
  (by simp only[K1,I1];rw[bf (lc4 (Qjb _))]) 0 (Qjh _)
 rw[Qjm] at h;unfold ca1 J4;simp only[l5,j9];rw[show (⟨0⟩:w9)=⟨((0:Nat):Int)⟩ from rfl,h]
 split
 ·simp only[Qjf];rfl
 ·rfl
theorem Me2(l:List V3)(hl:l.length<=1000000000):S5 ⟨l⟩=⟨1,l.any λv=>!inV v⟩:=by
 unfold S5 D7;simp only[l5,j9,Me1 l hl];split
 ·rename_i h;rw[h,show decide (((l.findIdx (λv=>!inV v):Nat):Int)>=0)=true from decide_eq_true (by omega)];rfl
 ·rename_i h;rw[Qjy] at h;rw[h];rfl
noncomputable def V1(l:List V3):Int:=if (l.length:Int)>48 then 2 else if l.any (λv=>!inV v) then 3 else if Ob7 l then 11 else 0
theorem ld1(l:List V3)(hl:l.length<=1000000):Na6 l=some (i (V1 l),[]):=by
 unfold Na6 V1;simp only[l5,j9,L5,Me2 l (by omega),Le9 l hl,Me0 l hl]
 by_cases h:(l.length:Int)>48
 ·rw[btD h,if_pos h]
 ·rw[bfD h,if_neg h];cases l.any λv=>!inV v with
  |true=>rfl
  |false=>cases Ob7 l<;>rfl
theorem Uc8(l:List V3)(hl:l.length<=1000000):Ca3 l=V1 l:=by unfold Ca3;rw[ld1 l hl];rfl
theorem Uc9(l:List V3)(hl:l.length<=1000000):Ca4 l=true:=by unfold Ca4;rw[ld1 l hl];rfl
theorem ze5{p:Pln}(h:Bd p):Ca1 p=X6 p:=by
 unfold Ca1 H7 X6
 simp only
 have:=h.x1;have:=h.x2;have:=h.y1;have:=h.y2;have:=h.z1;have:=h.z2;have:=h.b1;have:=h.b2
 rw[qa7 (by omega) (by omega),qa7 (by omega) (by omega),qa7 (by omega) (by omega),qa7 (by omega) (by omega)]
 simp only[Int.zero_sub]
noncomputable def ud0(p:Pln):List b7:=[i p.n.x,i p.n.y,i p.n.z,i p.b,b true]
noncomputable def ob6(l:List Pln):List (List b7):=l.map ud0
theorem ld2(x q:Pln):Ub2 flK [i x.n.x,i x.n.y,i x.n.z,i x.b] (ud0 q)=eqP q x:=by
 show Bool.and (decide (x.n.x=q.n.x)) (Bool.and (decide (x.n.y=q.n.y)) (Bool.and (decide (x.n.z=q.n.z)) (Bool.and (decide (x.b=q.b)) true)))=_;unfold eqP;have h:∀a c:Int,decide (a=c)=(c==a):=λa c=>by rw[Bool.eq_iff_iff,decide_eq_true_eq,beq_iff_eq];exact eq_comm
 rw[h,h,h,h]
theorem Hd9(x:Pln):∀l,eb7 4 [(0,.int .i64),(1,.int .i64),(2,.int .i64),(3,.int .i64)] [i x.n.x,i x.n.y,i x.n.z,i x.b] (ob6 l)=nc5 l x
 |[]=>rfl
 |q::l=>by
  have ih:=Hd9 x l;unfold eb7 at ih ⊢;show Option.rec (motive:=λ_=>Bool) false (λr=>toB (hdA (g8 r 4))) (Bool.rec (motive:=λ_=>Option (List b7)) (xc9 flK [i x.n.x,i x.n.y,i x.n.z,i x.b] (ob6 l)) (some (ud0 q)) (Ub2 flK [i x.n.x,i x.n.y,i x.n.z,i x.b] (ud0 q)))=nc5 (q::l) x
  rw[ld2];unfold nc5 at ih ⊢;rw[List.any_cons];cases eqP q x with
  |true=>rfl
  |false=>exact ih
theorem Ud3(x:Pln):∀l,nc5 l x=false->ia1 [(0,.int .i64),(1,.int .i64),(2,.int .i64),(3,.int .i64)] [i x.n.x,i x.n.y,i x.n.z,i x.b] [i x.n.x,i x.n.y,i x.n.z,i x.b,b true] (ob6 l)=ob6 (l++[x])
 |[],_=>rfl
 |q::l,h=>by
  unfold nc5 at h;rw[List.any_cons,Bool.or_eq_false_iff] at h;show Bool.rec (motive:=λ_=>List (List b7)) (ud0 q::ia1 flK [i x.n.x,i x.n.y,i x.n.z,i x.b] (ud0 x) (ob6 l)) (ud0 x::ob6 l) (Ub2 flK [i x.n.x,i x.n.y,i x.n.z,i x.b] (ud0 q))=_
  rw[ld2,h.1,show ia1 flK [i x.n.x,i x.n.y,i x.n.z,i x.b] (ud0 x) (ob6 l)=_ from Ud3 x l h.2]
  rfl
noncomputable def ec3(s:List Pln)(p:Pln):List Pln:=if nc5 s p then s else s++[p]
theorem ze6(s:List Pln)(p q:Pln):q∈ec3 s p↔q∈s\/q=p:=by
 unfold ec3;split
 ·rename_i h;rw[Gd7] at h;exact⟨.inl,λh'=>h'.elim id λe=>e ▸ h⟩
 ·rw[List.mem_append,List.mem_singleton]
theorem Vc0{s:List Pln}{p:Pln}(h:s.Nodup):(ec3 s p).Nodup:=by
 unfold ec3;split
 ·exact h
 ·rename_i hn;rw[Gd7] at hn;rw[List.nodup_append];exact⟨h,by simp,λa ha b hb=>by rw[List.mem_singleton.1 hb];intro e;exact hn (e ▸ ha)⟩
theorem Id0(s:List Pln)(p:Pln):(ec3 s p).length<=s.length+1:=by
 unfold ec3;split
 ·omega
 ·simp
def fil(l:List V3)(s:List Pln):List Pln:=s.filter λp=>!bey l p
theorem Jc9(l:List V3)(s:List Pln)(p:Pln):fil l (s++[p])=if bey l p then fil l s else fil l s++[p]:=by
 unfold fil;rw[Qjt,Qjaa,List.filter_nil];cases bey l p<;>simp
theorem ud1(l:List V3)(s:List Pln):(fil l s).length<=s.length:=Qjai _ _
noncomputable def Yb6(l:List V3)(a c:Nat)(s:List Pln)(k:Nat):List Pln :=
 if (D0 (gL tV l k) (gL tV l c) (gL tV l a)).2 then ec3 (ec3 s (D0 (gL tV l k) (gL tV l c) (gL tV l a)).1) (X6 (D0 (gL tV l k) (gL tV l c) (gL tV l a)).1) else s
noncomputable def G2(l:List V3)(a:Nat)(s:List Pln)(c:Nat):List Pln:=(List.range c).foldl (Yb6 l a c) s
noncomputable def G1(l:List V3)(s:List Pln)(a:Nat):List Pln:=(List.range a).foldl (G2 l a) s
noncomputable def G0(l:List V3):List Pln:=(List.range l.length).foldl (G1 l) []
theorem ld3(l:List V3)(a c:Nat)(s:List Pln)(k:Nat):(Yb6 l a c s k).length<=s.length+2:=by
 unfold Yb6;split
 ·have h1:=Id0 (ec3 s (D0 (gL tV l k) (gL tV l c) (gL tV l a)).1) (X6 (D0 (gL tV l k) (gL tV l c) (gL tV l a)).1);have h2:=Id0 s (D0 (gL tV l k) (gL tV l c) (gL tV l a)).1;omega
 ·omega
theorem Ze8(l:List V3)(a:Nat)(s:List Pln)(c:Nat):(G2 l a s c).length<=s.length+2*c:=wb8 (ld3 l a c) s c
theorem Ud4(l:List V3)(a:Nat)(s:List Pln):∀j,j<=a->a<=48->((List.range j).foldl (G2 l a) s).length<=s.length+96*j
 |0,_,_=>Qjk _
 |j+1,h,ha=>by
  rw[y8];have h1:=Ud4 l a s j (by omega) ha
  have h2:=Ze8 l a ((List.range j).foldl (G2 l a) s) j;omega
theorem ud2(l:List V3)(hl:l.length<=48):∀j,j<=l.length->((List.range j).foldl (G1 l) []).length<=5000*j
 |0,_=>Qjk _
 |j+1,h=>by
  rw[y8];have h1:=ud2 l hl j (by omega)
  have h2:(G1 l ((List.range j).foldl (G1 l) []) j).length<=_:=Ud4 l j ((List.range j).foldl (G1 l) []) j (Qjk _) (by omega)
  omega
@[reducible] noncomputable def mkf(l:List V3)(k:Nat)(s:List Pln):D8:=⟨phP (fil l s),(k:Int),ob6 s,(fil l s).length,bL tP (fil l s)⟩
theorem wc8{n:Nat}{l:List Pln}(hn:n=l.length)(h:l.length<=1000000000):(Nat.beq n (len (bL tP l))&&Nat.ble ((n+1)*32) room)=true:=by
 subst hn;rw[ia3,Qjak,Bool.true_and];exact cb4 (by omega)
theorem ce3(o:List Pln)(x:Pln):phP (o++[x])=1:=by cases o<;>rfl
theorem ze7 (l : List V3) (hl : l.length ≤ 48) (a c k : Nat) (ha : a < l.length) (hc : c < a) (hk : k < c) (x1 x2 x3 x4 : Int) (s : List Pln) (ho : s.length ≤ 900000) :
  U1 ⟨(a:Int),(c:Int),x1,x2,x3,x4,(c:Int),l,l⟩ (mkf l k s)=.next (mkf l (k+1) (Yb6 l a c s k)):=by
 have hfl:Ca1 (D0 (gL tV l k) (gL tV l c) (gL tV l a)).1=X6 (D0 (gL tV l k) (gL tV l c) (gL tV l a)).1:=ze5 (be4 _ _ _);have hb:∀p,ha0 l p=bey l p:=λp=>ye9 l p (by omega)
 have hg:∀p,L0 l p=true:=λp=>ze0 l p (by omega)
 have hn:=v8 hk (show c<=4611686018427387904 by omega)
 have b1:inB (a:Int) l.length=true:=i5 ha;have b2:inB (c:Int) l.length=true:=i5 (by omega)
 have b3:inB (k:Int) l.length=true:=i5 (by omega)
 have hfl2:=ud1 l s;unfold Yb6;unfold mkf;generalize hT:D0 (gL tV l k) (gL tV l c) (gL tV l a)=T at *
 cases hO:fil l s with
 |nil =>
  show W5 Stp.next Stp.exit Stp.fail _ _=_;simp only[W5,Cb1,ec2,Int.toNat_natCast,l5,L5,hT,hfl,hb,hg,hn,b1,b2,b3,Hd9];rw[btD (j7 hk)];cases h2:T.2 with
  |false=>simp only[Qje,if_false,hO];rfl
  |true =>
   simp only[if_true,y7];cases h3:nc5 s T.1 with
   |true =>
    cases h4:nc5 s (X6 T.1) with
    |true=>simp only[ec3,h3,h4,if_true,hO];rfl
    |false =>
     rw[Ud3 _ _ h4];cases h5:bey l (X6 T.1)<;>(simp only[ec3,h3,h4,h5,if_true,if_false,Qje,Jc9,hO];rfl)
   |false =>
    simp only[Ud3 _ _ h3,Hd9];cases h5:bey l T.1<;>cases h4:nc5 (s++[T.1]) (X6 T.1)<;>(try simp only[Ud3 _ _ h4])<;>cases h6:bey l (X6 T.1)<;>(simp only[ec3,h3,h4,h5,h6,if_true,if_false,Qje,Jc9,hO];rfl)
 |cons q o =>
  have rr:(Nat.beq (q::o).length (len (bL tP (q::o)))&&Nat.ble (((q::o).length+1)*32) room)=true:=wc8 rfl (by rw[<- hO];omega)
  have ap:∀(O:List Pln) (p:Pln),app (bL tP O) [[i p.n.x,i p.n.y,i p.n.z,i p.b]]=bL tP (O++[p]):=λO p=>Ia5 tP O [p]
  have rr2:∀p:Pln,(Nat.beq ((q::o).length+1) (len (bL tP (q::o++[p])))&&Nat.ble (((q::o).length+1+1)*32) room)=true:=λp=>wc8 (by simp) (by rw[<- hO,Qjc,List.length_singleton];omega)
  show W6 Stp.next Stp.exit Stp.fail _ _=_;simp only[W6,Cb1,ec2,Int.toNat_natCast,l5,L5,hT,hfl,hb,hg,hn,b1,b2,b3,Hd9,rr,ap,rr2];rw[btD (j7 hk)];cases h2:T.2 with
  |false=>simp only[Qje,if_false,hO];rfl
  |true =>
   simp only[if_true,y7];cases h3:nc5 s T.1 with
   |true =>
    cases h4:nc5 s (X6 T.1) with
    |true=>simp only[ec3,h3,h4,if_true,hO];rfl
    |false =>
     rw[Ud3 _ _ h4];cases h5:bey l (X6 T.1)<;>(simp only[ec3,h3,h4,h5,if_true,if_false,Qje,Jc9,hO,ce3,Qjc,List.length_singleton];rfl)
   |false =>
    simp only[Ud3 _ _ h3,Hd9];cases h5:bey l T.1<;>cases h4:nc5 (s++[T.1]) (X6 T.1)<;>(try simp only[Ud3 _ _ h4])<;>cases h6:bey l (X6 T.1)<;>(simp only[ec3,h3,h4,h5,h6,if_true,if_false,Qje,Jc9,hO,ce3,Qjc,List.length_singleton];rfl)
theorem Ze9 (l : List V3) (hl : l.length ≤ 48) (a c : Nat) (ha : a < l.length) (hc : c < a) (x1 x2 x3 x4 : Int) (s : List Pln) (ho : s.length ≤ 800000) :
  ∃j,lp (U1 ⟨(a:Int),(c:Int),x1,x2,x3,x4,(c:Int),l,l⟩) (mkf l 0 s)=(phP (fil l (G2 l a s c))+1,mkf l j (G2 l a s c)):=by
 have key:=F9 (step:=U1 ⟨(a:Int),(c:Int),x1,x2,x3,x4,(c:Int),l,l⟩) (mk:=mkf l) c (λj o=>j<=c/\o=(List.range j).foldl (Yb6 l a c) s) (λt r=>t=phP (fil l (G2 l a s c))+1/\∃j:Nat,r=mkf l j (G2 l a s c)) (by omega)
  (λj o hj hi=>by
   obtain⟨_,hi⟩:=hi;have hlen:o.length<=900000:=by
    rw[hi]
    have:=wb8 (ld3 l a c) s j
    omega
   rw[ze7 l hl a c j ha hc hj x1 x2 x3 x4 o hlen];exact .nx ⟨_,rfl,by omega,by rw[y8,<- hi]⟩)
  (λj o hj hi=>by
   obtain⟨h1,hi⟩:=hi;have e:j=c:=by omega
   subst e;have hF:o=G2 l a s j:=hi;rw[<- hF];refine⟨_,?_,rfl,j,rfl⟩;unfold mkf;cases hO:fil l o with
   |nil =>
    show W5 Stp.next Stp.exit Stp.fail _ _=_;simp only[W5];rw[bfD (j6 (Qjb _))];rfl
   |cons q o =>
    show W6 Stp.next Stp.exit Stp.fail _ _=_;simp only[W6];rw[bfD (j6 (Qjb _))]
    rfl) 0 s ⟨Qjh _,rfl⟩
 obtain⟨t,r,h1,rfl,j,rfl⟩:=key;exact⟨j,h1⟩
@[reducible] noncomputable def Vc1(l:List V3)(k:Nat)(s:List Pln):C3:=⟨phP (fil l s),(k:Int),l,l,ob6 s,(fil l s).length,bL tP (fil l s)⟩
theorem af0 (l : List V3) (hl : l.length ≤ 48) (a : Nat) (ha : a < l.length) (x1 x2 : Int) (s : List Pln) (ho : s.length ≤ 700000) :
  ∃j,lp (ea4 ⟨(a:Int),x1,x2,(a:Int)⟩) (Vc1 l 0 s)=(phP (fil l (G1 l s a))+1,Vc1 l j (G1 l s a)):=by
 have key:=F9 (step:=ea4 ⟨(a:Int),x1,x2,(a:Int)⟩) (mk:=Vc1 l) a (λj o=>j<=a/\o=(List.range j).foldl (G2 l a) s) (λt r=>t=phP (fil l (G1 l s a))+1/\∃j:Nat,r=Vc1 l j (G1 l s a)) (by omega)
  (λj o hj hi=>by
   obtain⟨hja,hi⟩:=hi;have hlen:o.length<=800000:=by rw[hi];have:=Ud4 l a s j hja (by omega);omega
   have hn:=v8 hj (show a<=4611686018427387904 by omega)
   have bj:inB (j:Int) (l.length+1)=true:=i5 (by omega)
   obtain⟨j',e1⟩:=Ze9 l hl a j ha hj x1 x2 (a:Int) (j:Int) o hlen
   have fin : ∀ {r : C3}, r = Vc1 l (j + 1) (G2 l a o j) → Nx (.next r) (fun t => t = phP (fil l (G1 l s a)) + 1 ∧ ∃ j' : Nat, Vc1 l j o = Vc1 l j' (G1 l s a))
     (λr=>∃o',r=Vc1 l (j+1) o'/\(j+1<=a/\o'=(List.range (j+1)).foldl (G2 l a) s)):=λ{r} hs =>
    .nx ⟨_,hs,by omega,by rw[y8,<- hi]⟩
   clear hi
   generalize hF:G2 l a o j=R at *
   unfold Vc1 at *
   unfold mkf at e1;cases hO:fil l o with
   |nil =>
    rw[hO] at e1 fin;show Nx (W7 Stp.next Stp.exit Stp.fail _ _) _ _;simp only[W7,l5,j9,hn,bj,Int.toNat_natCast,Nat.sub_zero];have e1:lp (U1 ⟨(a:Int),(j:Int),x1,x2,(a:Int),(j:Int),(j:Int),l,l⟩) ⟨0,0,ob6 o,0,[]⟩=_:=e1;rw[btD (j7 hj),e1];cases hR:fil l R with
    |nil=>exact fin (by rw[hR];rfl)
    |cons q R'=>exact fin (by rw[hR];rfl)
   |cons q o' =>
    rw[hO] at e1 fin;show Nx (W8 Stp.next Stp.exit Stp.fail _ _) _ _;simp only[W8,l5,j9,hn,bj,Int.toNat_natCast,Nat.sub_zero];have e1:lp (U1 ⟨(a:Int),(j:Int),x1,x2,(a:Int),(j:Int),(j:Int),l,l⟩) ⟨1,0,ob6 o,(q::o').length,bL tP (q::o')⟩=_:=e1;rw[btD (j7 hj),e1];cases hR:fil l R with
    |nil=>exact fin (by rw[hR];rfl)
    |cons q R'=>exact fin (by rw[hR];rfl))
  (λj o hj hi=>by
   obtain⟨h1,hi⟩:=hi;have e:j=a:=by omega
   subst e;have hF:o=G1 l s j:=hi;rw[<- hF];refine⟨_,?_,rfl,j,rfl⟩;unfold Vc1;cases hO:fil l o with
   |nil =>
    show W7 Stp.next Stp.exit Stp.fail _ _=_;simp only[W7];rw[bfD (j6 (Qjb _))];rfl
   |cons q o =>
    show W8 Stp.next Stp.exit Stp.fail _ _=_;simp only[W8];rw[bfD (j6 (Qjb _))]
    rfl) 0 s ⟨Qjh _,rfl⟩
 obtain⟨t,r,h1,rfl,j,rfl⟩:=key;exact⟨j,h1⟩
@[reducible] noncomputable def ud3(l:List V3)(k:Nat)(s:List Pln):D9:=⟨phP (fil l s),(k:Int),l,l,ob6 s,(fil l s).length,bL tP (fil l s)⟩
theorem af1 (l : List V3) (hl : l.length ≤ 48) :
  ∃j,lp (Ha9 ⟨(l.length:Int)⟩) ⟨0,0,l,l,[],0,[]⟩=(phP (fil l (G0 l))+1,ud3 l j (G0 l)):=by
 have key:=F9 (step:=Ha9 ⟨(l.length:Int)⟩) (mk:=ud3 l) l.length (λj o=>j<=l.length/\o=(List.range j).foldl (G1 l) []) (λt r=>t=phP (fil l (G0 l))+1/\∃j:Nat,r=ud3 l j (G0 l)) (by omega)
  (λj o hj hi=>by
   obtain⟨hja,hi⟩:=hi;have hlen:o.length<=700000:=by rw[hi];have:=ud2 l hl j hja;omega
   have hn:=v8 hj (show l.length<=4611686018427387904 by omega)
   have bj:inB (j:Int) (l.length+1)=true:=i5 (by omega)
   obtain⟨j',e1⟩:=af0 l hl j hj (l.length:Int) (j:Int) o hlen
   have fin : ∀ {r : D9}, r = ud3 l (j + 1) (G1 l o j) → Nx (.next r) (fun t => t = phP (fil l (G0 l)) + 1 ∧ ∃ j' : Nat, ud3 l j o = ud3 l j' (G0 l))
     (λr=>∃o',r=ud3 l (j+1) o'/\(j+1<=l.length/\o'=(List.range (j+1)).foldl (G1 l) [])):=λ{r} hs =>
    .nx ⟨_,hs,by omega,by rw[y8,<- hi]⟩
   clear hi
   generalize hF:G1 l o j=R at *
   unfold ud3 at *
   unfold Vc1 at e1;cases hO:fil l o with
   |nil =>
    rw[hO] at e1 fin;show Nx (W9 Stp.next Stp.exit Stp.fail _ _) _ _;simp only[W9,l5,j9,hn,bj,Int.toNat_natCast,Nat.sub_zero];have e1:lp (ea4 ⟨(j:Int),(l.length:Int),(j:Int),(j:Int)⟩) ⟨0,0,l,l,ob6 o,0,[]⟩=_:=e1;rw[btD (j7 hj),e1];cases hR:fil l R with
    |nil=>exact fin (by rw[hR];rfl)
    |cons q R'=>exact fin (by rw[hR];rfl)
   |cons q o' =>
    rw[hO] at e1 fin;show Nx (X0 Stp.next Stp.exit Stp.fail _ _) _ _;simp only[X0,l5,j9,hn,bj,Int.toNat_natCast,Nat.sub_zero];have e1:lp (ea4 ⟨(j:Int),(l.length:Int),(j:Int),(j:Int)⟩) ⟨1,0,l,l,ob6 o,(q::o').length,bL tP (q::o')⟩=_:=e1;rw[btD (j7 hj),e1];cases hR:fil l R with
    |nil=>exact fin (by rw[hR];rfl)
    |cons q R'=>exact fin (by rw[hR];rfl))
  (λj o hj hi=>by
   obtain⟨h1,hi⟩:=hi;have e:j=l.length:=by omega
   subst e;have hF:o=G0 l:=hi;rw[<- hF];refine⟨_,?_,rfl,l.length,rfl⟩;unfold ud3;cases hO:fil l o with
   |nil =>
    show W9 Stp.next Stp.exit Stp.fail _ _=_;simp only[W9];rw[bfD (j6 (Qjb _))];rfl
   |cons q o =>
    show X0 Stp.next Stp.exit Stp.fail _ _=_;simp only[X0];rw[bfD (j6 (Qjb _))]
    rfl) 0 [] ⟨Qjh _,rfl⟩
 obtain⟨t,r,h1,rfl,j,rfl⟩:=key;exact⟨j,h1⟩
theorem Ud5{F:List Pln}(h:∀p∈F,okp p=true){k:Nat}(hk:k<F.length):Bd (gL tP F k):=Bb8 (h _ (ja1 tP hk))
theorem Me3{n:V3}{r:Pln}(hn:Sm 42467328 n.x/\Sm 42467328 n.y/\Sm 42467328 n.z)(hr:Bd r):C0 n r.n=dot n r.n:=by
 obtain⟨⟨a1,a2⟩,⟨a3,a4⟩,a5,a6⟩:=hn;have r1:=mb a1 a2 hr.x1 hr.x2;have r2:=mb a3 a4 hr.y1 hr.y2;have r3:=mb a5 a6 hr.z1 hr.z2;unfold C0;simp only[Nb0,dc8];rw[qa7 (by omega) (by omega)]
 rfl
theorem Me4 (l : List Pln) (n : V3) (hn : Sm 42467328 n.x ∧ Sm 42467328 n.y ∧ Sm 42467328 n.z) (hF : ∀ p ∈ l, okp p = true) (hl : l.length ≤ 1000000000) :
  U9 ⟨l,n.x,n.y,n.z⟩=⟨1,if l.any (λr=>dot n r.n != 0) then ((l.findIdx (λr=>dot n r.n != 0):Nat):Int) else -1⟩:=by
 have h:=Oa0 (step:=F8 ⟨l,(l.length:Int),n.x,n.y,n.z⟩) (mk:=λj=>(⟨(j:Int)⟩:s8)) (c:=λr=>dot n r.n != 0) (u:=1) (fin:=2) tP l hl
  (λj hj=>by
   have e:=Me3 hn (Ud5 hF hj);simp only[F8,E9,Int.toNat_natCast,Ya8,ka9,e,v8 hj (show l.length<=4611686018427387904 by omega)]
   rw[btD (j7 hj),bt (i5 hj)])
  (by simp only[F8,E9];rw[bfD (j6 (Qjb _))]) 0 (Qjh _)
 rw[Qjm] at h;unfold U9 F6;simp only[l5,j9];rw[show (⟨0⟩:s8)=⟨((0:Nat):Int)⟩ from rfl,h]
 split
 ·simp only[Qjf];rfl
 ·rfl
theorem Me5 (l : List Pln) (n : V3) (hn : Sm 42467328 n.x ∧ Sm 42467328 n.y ∧ Sm 42467328 n.z) (hF : ∀ p ∈ l, okp p = true) (hl : l.length ≤ 1000000000) :
  P4 ⟨l,n.x,n.y,n.z⟩=⟨1,l.any λr=>dot n r.n != 0⟩:=by
 unfold P4 B7;simp only[l5,j9,Me4 l n hn hF hl];split
 ·rename_i h;rw[h,show decide (((l.findIdx (λr=>dot n r.n != 0):Nat):Int)>=0)=true from decide_eq_true (by omega)];rfl
 ·rename_i h;rw[Qjy] at h;rw[h];rfl
noncomputable def le5(l:List Pln)(a c:Nat):Bool:=l.any λr=>dot (c7 (gL tP l a).n (gL tP l c).n) r.n != 0
noncomputable def vtx(l:List Pln):Bool:=(List.range l.length).any λa=>(List.range a).any (le5 l a)
theorem le6{p q:Pln}(hp:Bd p)(hq:Bd q):C4 p.n q.n=c7 p.n q.n/\Sm 42467328 (c7 p.n q.n).x/\Sm 42467328 (c7 p.n q.n).y/\Sm 42467328 (c7 p.n q.n).z:=by
 obtain⟨k1,k2,k3⟩:=wb4 hp.n hq.n;refine⟨?_,k1,k2,k3⟩;rw[Je2,sb0 (k1.mono (by omega)),sb0 (k2.mono (by omega)),sb0 (k3.mono (by omega))]
theorem Ud6 (l : List Pln) (hF : ∀ p ∈ l, okp p = true) (hl : l.length ≤ 1000000) (a : Nat) (ha : a < l.length) (x9 x10 : Int) :
  ∃j,lp (ha4 ⟨l,l,x9,x10,a,(λk=>(λk=>tP.row (gL tP l k)) (0+k)),(a:Int),(gL tP l a).n.x,(gL tP l a).n.y,(gL tP l a).n.z,(gL tP l a).b⟩) ⟨0⟩=(if (List.range a).any (le5 l a) then 1 else 2,⟨((j:Nat):Int)⟩) :=
 Ob3 (step:=ha4 ⟨l,l,x9,x10,a,(λk=>(λk=>tP.row (gL tP l k)) (0+k)),(a:Int),(gL tP l a).n.x,(gL tP l a).n.y,(gL tP l a).n.z,(gL tP l a).b⟩) (mk:=λj=>(⟨(j:Int)⟩:U2)) a (le5 l a) 1 2 (by omega)
  (λj hj=>by
   obtain⟨e,k1,k2,k3⟩:=le6 (Ud5 hF ha) (Ud5 hF (show j<l.length by omega))
   have rr:(⟨toI (hdA (tP.row (gL tP l j))),toI (hdA (tlA (tP.row (gL tP l j)))),toI (hdA (tlA (tlA (tP.row (gL tP l j)))))⟩:V3)=(gL tP l j).n:=rfl;have e':C4 ⟨(gL tP l a).n.x,(gL tP l a).n.y,(gL tP l a).n.z⟩ (gL tP l j).n=c7 (gL tP l a).n (gL tP l j).n:=e;simp only[ha4,ma1,Int.toNat_natCast,Qjf,rr,e',Xe4,l5,j9,Me5 l _ ⟨k1,k2,k3⟩ hF (show l.length<=1000000000 by omega),v8 hj (show a<=4611686018427387904 by omega)]
   rw[btD (j7 hj),bt (i5 hj)];unfold le5;cases hz:((c7 (gL tP l a).n (gL tP l j).n).x==0&&((c7 (gL tP l a).n (gL tP l j).n).y==0&&((c7 (gL tP l a).n (gL tP l j).n).z==0&&true))) with
   |false=>rfl
   |true =>
    simp only[Qjas,Qjn,beq_iff_eq] at hz
    have:(l.any λr=>dot (c7 (gL tP l a).n (gL tP l j).n) r.n != 0)=false:=by
     rw[List.any_eq_false];intro r _
     have:dot (c7 (gL tP l a).n (gL tP l j).n) r.n=0:=by unfold dot;rw[hz.1,hz.2.1,hz.2.2];simp only[Qjam,Int.add_zero]
     rw[this]
     decide
    rw[this]
    rfl)
  (by simp only[ha4,ma1];rw[bfD (j6 (Qjb _))])
theorem ld4(l:List Pln)(hF:∀p∈l,okp p=true)(hl:l.length<=1000000):Fa5 l=some (b (vtx l),[]):=by
 obtain⟨j,h⟩:=Ob3 (step:=ha5 ⟨(l.length:Int)⟩) (mk:=λj=>(⟨l,l,(j:Int)⟩:U3)) l.length (λa=>(List.range a).any (le5 l a)) 1 2 (by omega)
  (λj hj=>by
   obtain⟨j',h1⟩:=Ud6 l hF hl j hj (l.length:Int) (j:Int);simp only[ha5,ma2,l5,j9,Int.toNat_natCast,Nat.sub_zero,v8 hj (show l.length<=4611686018427387904 by omega)]
   rw[btD (j7 hj),bt (i5 hj),bt (i5 (show j<l.length+1 by omega)),h1]
   cases (List.range j).any (le5 l j)<;>rfl)
  (by simp only[ha5,ma2];rw[bfD (j6 (Qjb _))])
 have h:lp (ha5 ⟨(l.length:Int)⟩) ⟨l,l,0⟩=(if vtx l then 1 else 2,⟨l,l,((j:Nat):Int)⟩):=h
 unfold Fa5;simp only[l5,j9];rw[h];cases vtx l<;>rfl
theorem Id1(l:List Pln)(hF:∀p∈l,okp p=true)(hl:l.length<=1000000):va7 l=vtx l:=by unfold va7;rw[ld4 l hF hl];rfl
theorem Id2(l:List Pln)(hF:∀p∈l,okp p=true)(hl:l.length<=1000000):va8 l=true:=by unfold va8;rw[ld4 l hF hl];rfl
theorem ce4(l:List Pln):vtx l=true↔∃p q s,p∈l/\q∈l/\s∈l/\mw p q s≠0:=by
 unfold vtx;rw[Qja];constructor
 ·rintro⟨a,ha,h⟩;obtain⟨c,hc,h⟩:=Qja.1 h;rw[Qjl] at ha hc;obtain⟨r,hr,h⟩:=Qja.1 h;have h:dot (c7 (gL tP l a).n (gL tP l c).n) r.n≠0:=bne_iff_ne.1 h;exact⟨_,_,r,ja1 tP ha,ja1 tP (show c<l.length by omega),hr,λe=>h (by rw[<- e];simp only[mw,dot,c7];grind)⟩
 ·rintro⟨p,q,s,hp,hq,hs,hw⟩;obtain⟨i',hi,rfl⟩:=Qjs.1 hp;obtain⟨j',hj,rfl⟩:=Qjs.1 hq;have hne:i'≠j':=λe=>hw (by subst e;simp only[mw,dot,c7];grind)
  rw[<- ib9 tP hi,<- ib9 tP hj] at hw
  rcases Qjad hne with h|h
  ·refine⟨j',Qjl.2 hj,Qja.2 ⟨i',Qjl.2 h,Qja.2 ⟨s,hs,?_⟩⟩⟩
   have:dot (c7 (gL tP l j').n (gL tP l i').n) s.n≠0:=λe=>hw (by
    rw[show mw (gL tP l i') (gL tP l j') s=-dot (c7 (gL tP l j').n (gL tP l i').n) s.n from by simp only[mw,dot,c7];grind,e]
    rfl)
   exact bne_iff_ne.2 this
  ·refine⟨i',Qjl.2 hi,Qja.2 ⟨j',Qjl.2 h,Qja.2 ⟨s,hs,?_⟩⟩⟩
   have:dot (c7 (gL tP l i').n (gL tP l j').n) s.n≠0:=λe=>hw (by rw[<- e];simp only[mw,dot,c7];grind)
   exact bne_iff_ne.2 this
structure OkF(F:List Pln):Prop where
 l:F.length<=1000000
 v:∀p∈F,okp p=true
noncomputable def own(F:List Pln)(v:V3):List Pln:=F.filter λp=>U5 p v==0
noncomputable def kv(F:List Pln)(v:V3):Bool:=vtx (own F v)
theorem le7(F:List Pln)(v:V3)(hF:F.length<=1000000):∃j,lp (oa4 ⟨F,(F.length:Int),F,v.x,v.y,v.z⟩) ⟨0,0,0,[]⟩=(phP (own F v)+1,⟨phP (own F v),((j:Nat):Int),(own F v).length,bL tP (own F v)⟩):=by
 have key:=F9 (step:=oa4 ⟨F,(F.length:Int),F,v.x,v.y,v.z⟩) (mk:=λj (o:List Pln)=>(⟨phP o,(j:Int),o.length,bL tP o⟩:s6)) F.length (λj o=>j<=F.length/\o=(F.take j).filter λp=>U5 p v==0) (λt s=>t=phP (own F v)+1/\∃j:Nat,s=⟨phP (own F v),(j:Int),(own F v).length,bL tP (own F v)⟩) (by omega)
  (λj o hj hi=>by
   obtain⟨_,hi⟩:=hi;have hlen:o.length<=1000000:=by
    rw[hi];have h1:=Qjai (λp=>U5 p v==0) (F.take j)
    have h2:=List.length_take_le j F;omega
   have hn:=v8 hj (show F.length<=4611686018427387904 by omega)
   have hb:=i5 hj;have hT:(F.take (j+1)).filter (λp=>U5 p v==0)=o++(if (U5 (gL tP F j) v==0)=true then [gL tP F j] else []):=by
    rw[Ca9 tP hj,Qjt,<- hi,Qjaa,List.filter_nil]
   have hnext : ∀ {s : s6} {o' : List Pln}, o' = (F.take (j + 1)).filter (fun p => U5 p v == 0) → s = ⟨phP o', ((j + 1 : Nat) : Int), o'.length, bL tP o'⟩ → Nx (.next s) (fun t => t = phP (own F v) + 1 ∧ ∃ j' : Nat, (⟨phP o, (j : Int), o.length, bL tP o⟩ : s6) = ⟨phP (own F v), (j' : Int), (own F v).length, bL tP (own F v)⟩)
     (λs=>∃o',s=(⟨phP o',((j+1:Nat):Int),o'.length,bL tP o'⟩:s6)/\(j+1<=F.length/\o'=(F.take (j+1)).filter λp=>U5 p v==0)):=λ{s o'} ho' hs=>.nx ⟨o',hs,by omega,ho'⟩
   clear hi
   cases o with
   |nil =>
    show Nx (K3 Stp.next Stp.exit Stp.fail _ _) _ _;simp only[K3,Int.toNat_natCast,oc1,Tb1,hn,hb];rw[btD (j7 hj)];cases hs:U5 (gL tP F j) v==0 with
    |true=>exact hnext (o':=[gL tP F j]) (by rw[hT,hs];rfl) rfl
    |false=>exact hnext (o':=[]) (by rw[hT,hs];rfl) rfl
   |cons q o =>
    have rr:(Nat.beq (q::o).length (len (bL tP (q::o)))&&Nat.ble (((q::o).length+1)*32) room)=true:=wc8 rfl (by omega)
    have ap:∀(O:List Pln) (p:Pln),app (bL tP O) [[i p.n.x,i p.n.y,i p.n.z,i p.b]]=bL tP (O++[p]):=λO p=>Ia5 tP O [p]
    show Nx (K4 Stp.next Stp.exit Stp.fail _ _) _ _;simp only[K4,Int.toNat_natCast,oc1,Tb1,hn,hb,rr,ap];rw[btD (j7 hj)];cases hs:U5 (gL tP F j) v==0 with
    |true=>exact hnext (o':=q::o++[gL tP F j]) (by rw[hT,hs];rfl) (by rw[Qjc];rfl)
    |false=>exact hnext (o':=q::o) (by rw[hT,hs,if_neg (by simp),Qjq]) rfl)
  (λj o hj hi=>by
   obtain⟨h1,hi⟩:=hi;have e:j=F.length:=by omega
   subst e;have hO:o=own F v:=by rw[hi,List.take_length];rfl
   rw[<- hO];cases o with
   |nil =>
    refine⟨1,?_,rfl,F.length,rfl⟩;show K3 Stp.next Stp.exit Stp.fail _ _=_;simp only[K3];rw[bfD (j6 (Qjb _))]
   |cons q o =>
    refine⟨2,?_,rfl,F.length,rfl⟩;show K4 Stp.next Stp.exit Stp.fail _ _=_;simp only[K4];rw[bfD (j6 (Qjb _))]) 0 [] ⟨Qjh _,by simp⟩
 obtain⟨t,s,h1,rfl,j,rfl⟩:=key;exact⟨j,h1⟩
theorem ud4(v:V3)(F:List Pln)(hF:OkF F):X5 ⟨v.x,v.y,v.z,F⟩=⟨1,!kv F v,F⟩:=by
 obtain⟨j,h⟩:=le7 F v hF.l;have hv:∀p∈own F v,okp p=true:=λp hp=>hF.v p (Qjp.1 hp).1
 have hl:(own F v).length<=1000000:=Nat.le_trans (Qjai _ _) hF.l;unfold X5 ha6 kv;simp only[l5,j9];rw[h];cases ho:own F v with
 |nil =>
  have e:va7 []=vtx []:=Id1 [] (λp hp=>by cases hp) (by simp)
  have e':va8 []=true:=Id2 [] (λp hp=>by cases hp) (by simp)
  rw[e,e'];rfl
 |cons q o =>
  rw[ho] at hv hl;simp only[cc7,rc0,Id1 _ hv hl,Id2 _ hv hl];rfl
theorem Re1{α:Type}{l:List α}{n:Nat}{c:α->Bool}(h:(l.take n).any c=true):(l.take n).findIdx c<(l.take n).length:=by
 rw[Qja] at h;obtain⟨p,hp,hc⟩:=h;exact Qjah ⟨p,hp,hc⟩
theorem Me6(l:List V3)(n:Nat)(X:List Pln)(hn:n<=l.length)(hl:l.length<=1000000000)(hX:OkF X):ca6 ⟨n,bL tV l,X⟩=⟨1,if (l.take n).any (λp=>!kv X p) then (((l.take n).findIdx (λp=>!kv X p):Nat):Int) else -1,X⟩:=by
 have hlen:(l.take n).length=n:=by rw[Qjd];omega
 have h:=Oa0 (step:=K5 ⟨n,(n:Int),bL tV l⟩) (mk:=λj=>(⟨(j:Int),X⟩:y5)) (c:=λp=>!kv X p) (u:=1) (fin:=2) tV (l.take n) (by omega)
  (λj hj=>by
   rw[hlen] at hj;have hj':j<l.length:=by omega
   simp only[K5,I5,Int.toNat_natCast,l5,j9,Ob6 hj',Bb9 hj',ud4 _ _ hX,Ac5 tV l hj,v8 hj (show n<=4611686018427387904 by omega)]
   rw[btD (j7 hj),bt (i5 hj)]
   rfl)
  (by rw[hlen];simp only[K5,I5];rw[bfD (j6 (Qjb _))]) 0 (Qjh _)
 rw[Qjm,hlen] at h;unfold ca6 J5;simp only[l5,j9];rw[show (⟨0,X⟩:y5)=⟨((0:Nat):Int),X⟩ from rfl,h]
 cases ha:(l.take n).any λp=>!kv X p with
 |false=>rfl
 |true =>
  have hf:=Re1 ha;rw[hlen] at hf;simp only[if_true,Qjf,Int.toNat_natCast,Bb9 (show (l.take n).findIdx (λp=>!kv X p)<l.length by omega),ud4 _ _ hX,l5]
  rfl
structure Me7(l:List V3)(n:Nat)(f:V3->Bool)(cur:List V3)(m j:Nat):Prop where
 len:cur.length=l.length
 t:cur.take m=(l.take j).filter f
 d:cur.drop j=l.drop j
 le:m<=j
 lm:m<=n
theorem ud5 (l : List V3) (n : Nat) (hnl : n ≤ l.length) (X : List Pln) (hl : l.length ≤ 1000000000) (hX : OkF X) (m j : Nat) (cur : List V3) (hd : Me7 l n (kv X) cur m j) (hjn : j ≤ n) :
  ∃t s,lp (E0 ⟨n⟩) ⟨(m:Int),(j:Int),bL tV cur,X⟩=(t,s)/\(t=1/\∃m' cur',s=⟨((m':Nat):Int),((n:Nat):Int),bL tV cur',X⟩/\Me7 l n (kv X) cur' m' n):=by
 refine F9 (step:=E0 ⟨n⟩) (mk:=λj (x:Nat×List V3)=>(⟨(x.1:Int),(j:Int),bL tV x.2,X⟩:A1)) n (λj x=>Me7 l n (kv X) x.2 x.1 j/\j<=n) (λt s=>t=1/\∃m' cur',s=⟨((m':Nat):Int),((n:Nat):Int),bL tV cur',X⟩/\Me7 l n (kv X) cur' m' n) (by omega) (λj x hj hx=>?_) (λj x hj hx=>?_) j (m,cur) ⟨hd,hjn⟩
 ·obtain⟨m,cur⟩:=x;obtain⟨⟨h1,h2,h3,h4,h5⟩,_⟩:=hx
  simp only at h1 h2 h3 h4 h5
  have hjc:j<cur.length:=by omega
  have hmc:m<cur.length:=by omega
  have hg:gL tV cur j=gL tV l j:=vc8 tV h3;have hWm:W ((m:Int)+1)=((m+1:Nat):Int):=by rw[qa7 (by omega) (by omega)];omega
  have hb:Nat.blt m cur.length=true:=by rw[Nat.blt_eq];exact hmc
  have hrow:f7 (bL tV cur) m=tV.row (gL tV cur m):=V9 tV hmc;have sp:∀(v:V3) (x1 x2 x3:Int),V5 (tV.row v) 0 [i x1,i x2,i x3]=tV.row ⟨x1,x2,x3⟩:=λ_ _ _ _=>rfl
  have rl:∀v:V3,Nat.ble (0+3) (len (tV.row v))=true:=λ_=>rfl
  simp only[E0,I6,Int.toNat_natCast,l5,j9,Ob6 hjc,Bb9 hjc,ud4 _ _ hX,v8 hj (show n<=4611686018427387904 by omega),hWm]
  rw[btD (j7 hj),bt (i5 hj)];simp only[Qjf,hrow,ia3,hb,sp,Kb3,i5 (show m<n by omega),hg]
  have ht:=Ca9 tV (show j<l.length by omega)
  have hd1:cur.drop (j+1)=l.drop (j+1):=mc8 h3 1;cases hk:kv X (gL tV l j) with
  |true =>
   refine .nx ⟨(m+1,cur.set m (gL tV l j)),rfl,⟨by rw[Qjao];exact h1,?_,?_,by omega,by show m+1<=n;omega⟩,by omega⟩
   ·show (cur.set m (gL tV l j)).take (m+1)=_;rw[ht,Qjt,Qjag (by rw[Qjao];exact hmc),Qjba,List.take_set_of_le (Qjk _),h2,Qjaa,hk,if_pos rfl,List.filter_nil]
   ·show (cur.set m (gL tV l j)).drop (j+1)=_;rw[List.drop_set_of_lt (by omega),hd1]
  |false =>
   refine .nx ⟨(m,cur),rfl,⟨h1,?_,hd1,by omega,h5⟩,by omega⟩
   show cur.take m=_;rw[ht,Qjt,h2,Qjaa,hk,if_neg (by simp),List.filter_nil,Qjq]
 ·obtain⟨m,cur⟩:=x;obtain⟨hx,hjn⟩:=hx;have e:j=n:=by omega
  subst e;refine⟨1,?_,rfl,m,cur,rfl,hx⟩;simp only[E0,I6];rw[bfD (by omega)]
theorem Ud7 (l : List V3) (n : Nat) (hnl : n ≤ l.length) (X : List Pln) (hl : l.length ≤ 1000000000) (hX : OkF X) :
  ∃m r,ca9 ⟨n,bL tV l,X⟩=⟨1,m,bL tV r,X⟩/\m<=r.length/\r.take m=(l.take n).filter (kv X):=by
 have hlen:(l.take n).length=n:=by rw[Qjd];omega
 unfold ca9 J6;simp only[l5,j9,Me6 l n X hnl hl hX];cases ha:(l.take n).any λp=>!kv X p with
 |false =>
  refine⟨n,l,rfl,hnl,?_⟩
  symm
  rw[List.filter_eq_self];intro p hp
  have:=List.any_eq_false.1 ha p hp
  simpa using this
 |true =>
  have hf:=Re1 ha;have hk:kv X (gL tV (l.take n) ((l.take n).findIdx λp=>!kv X p))=false:=by
   have:=Qjz (xs:=l.take n) (p:=λp=>!kv X p) (w:=hf)
   rw[ib9 tV hf];simpa using this
  have ht:=mc7 (λp=>!kv X p) (l.take n)
  simp only[Bool.not_not] at ht;generalize hF:(l.take n).findIdx (λp=>!kv X p)=F at *
  rw[hlen] at hf;rw[Ac5 tV l hf] at hk;rw[Qjbb,Nat.min_eq_left (by omega)] at ht
  have hW:W ((F:Int)+1)=((F+1:Nat):Int):=v8 hf (by omega)
  have hne:((F:Int)==-1)=false:=by rw[beq_eq_false_iff_ne];omega
  obtain⟨t,s,e1,rfl,m,cur,e2,e3⟩:=ud5 l n hnl X hl hX F (F+1) l ⟨rfl,by rw[Ca9 tV (show F<l.length by omega),Qjt,ht,Qjaa,hk,if_neg (by simp),List.filter_nil,Qjq],rfl,by omega,by omega⟩ (by omega)
  have hm:m<=n:=e3.lm;have hin:inB (m:Int) (n+1)=true:=i5 (by omega)
  simp only[if_true,hW,hne,e1,e2,Int.toNat_natCast,hin,Qjf,Nat.sub_zero];refine⟨m,cur.take m++(List.replicate (n-m) ⟨0,0,0⟩++cur.drop (m+(n-m))),?_,?_,?_⟩
  ·rw[Hd3,Hd4,Uc7,Ia5,Ia5];rfl
  ·rw[Qjc,Qjc,Qjd,Qjbc,e3.len];omega
  ·rw[Qjv (by rw[Qjd,e3.len];omega),Qjbb,Nat.min_self,e3.t]
noncomputable def ea8(F:List Pln)(l:List V3):List V3:=(dis l).filter (kv F)
theorem ud6(a:V3)(l:List V3)(hl:l.length<=1000000):∃m r,Ca8 (a,l)=⟨1,m,bL tV r⟩/\m<=r.length/\r.take m=dis (a::l)/\r.length<=1000000000:=by
 obtain⟨m,r,k1,k2,k3,k4⟩:=oc0 a l hl;have hok:okL tV (l.length+1) (λk=>tV.row (gL tV (a::l) k))=true:=Ma0 tV (f:=λk=>gL tV (a::l) k) λ_ _=>rfl
 have hr:=Hd6 (a::l) (by simp only[List.length_cons];omega) []
 rw[Qjq] at hr;unfold Ca8 ha7;simp only[Yd4,Yd5,kd8 a l hl,hok,k1,y7,Qjak,hr];exact⟨m,r,rfl,k2,k3,by omega⟩
end Go.Ev.Ce
namespace Go.Ev.Ce
open Go Go.Ev Go.Ev.L Go.Proofs Go.Sort
theorem le8(l:List V3)(a c k:Nat)(s:List Pln)(p:Pln):p∈Yb6 l a c s k↔p∈s\/((D0 (gL tV l k) (gL tV l c) (gL tV l a)).2=true/\(p=(D0 (gL tV l k) (gL tV l c) (gL tV l a)).1\/p=X6 (D0 (gL tV l k) (gL tV l c) (gL tV l a)).1)):=by
 unfold Yb6;generalize D0 (gL tV l k) (gL tV l c) (gL tV l a)=T;cases h2:T.2 with
 |false=>simp
 |true=>simp only[if_true,ze6,true_and,or_assoc]
theorem af2(l:List V3)(p:Pln):p∈G0 l↔∃a,a<l.length/\∃c,c<a/\∃k,k<c/\((D0 (gL tV l k) (gL tV l c) (gL tV l a)).2=true/\(p=(D0 (gL tV l k) (gL tV l c) (gL tV l a)).1\/p=X6 (D0 (gL tV l k) (gL tV l c) (gL tV l a)).1)):=by
 have h:p∈G0 l↔p∈[]\/_:=jb8 (λo a p=>jb8 (λo c p=>jb8 (λo k p=>le8 l a c k o p) o p c) o p a) [] p l.length
 rw[h];simp only[Qjax,false_or]
theorem ud7{f:List Pln->Nat->List Pln}(h:∀o k,o.Nodup->(f o k).Nodup){o:List Pln}(ho:o.Nodup):∀n,((List.range n).foldl f o).Nodup
 |0=>ho
 |n+1=>by rw[y8];exact h _ _ (ud7 h ho n)
theorem ze8(l:List V3):(G0 l).Nodup:=ud7 (λo a ho=>ud7 (λo c ho=>ud7 (λo k ho=>by
 show (Yb6 l a c o k).Nodup;unfold Yb6;split
 ·exact Vc0 (Vc0 ho)
 ·exact ho) ho c) ho a) List.nodup_nil l.length
theorem Me8{l:List V3}(hl:l.all inV=true)(p:Pln):p∈fil l (G0 l)↔Qa7 l p:=by
 have hin:=Qjg.1 hl;have hb:(!bey l p)=hold p l:=rfl;unfold fil;rw[Qjp,af2,hb];constructor
 ·rintro⟨⟨a,ha,c,hc,k,hk,h1,h2⟩,h3⟩;have ma:=gLm ha;have mc:=gLm (show c<l.length by omega)
  have mk:=gLm (show k<l.length by omega)
  have ht:=(ma4 h1).2
  rcases h2 with rfl|rfl
  ·exact Jc8 mk mc ma ht ((wb9 ht.ok hl).1 h3)
  ·exact nc8 mk mc ma ht ((wb9 (nc4 ht.ok) hl).1 h3)
 ·intro h;obtain⟨u,w,x,hu,hw,hx,h3,t1,t2,t3⟩:=h.on;obtain⟨a,ha,c,hc,k,hk,hn,hall⟩:=Le3 hu hw hx h3;obtain⟨i1,i2,i3⟩:=hall (λv=>inV v=true) (hin u hu) (hin w hw) (hin x hx)
  obtain⟨e1,e2,e3⟩:=hall (λv=>dot p.n v=p.b) t1 t2 t3
  have h2:=Fa9 i3 i2 i1 (ye5 hn).2.2.1;exact⟨⟨a,ha,c,hc,k,hk,h2,Ob5 (ma4 h2).2 h.ok e3 e2 e1⟩,(wb9 h.ok hl).2 h.hd⟩
theorem ld5{l r:List V3}(h:∀v,v∈r↔v∈l){p:Pln}(hp:Qa7 l p):Qa7 r p:=by
 obtain⟨⟨hd,u,w,x,hu,hw,hx,e⟩,ok⟩:=hp;exact⟨⟨λv hv=>hd v ((h v).1 hv),u,w,x,(h u).2 hu,(h w).2 hw,(h x).2 hx,e⟩,ok⟩
theorem Ud8{l:List Pln}(h:l.Nodup):Wa6 (Wb8 l):=by
 have h1:=td1 l;have h2:(Wb8 l).Nodup:=(Uc0 l).nodup_iff.2 h;have h3:=h1.and h2;refine h3.imp λ{x y} ⟨k1,k2⟩=>?_
 rw[Ra7] at k1;have k1:¬ LtP y x:=by simpa using k1
 rcases be0 x y with h|h|h
 ·exact h
 ·exact absurd h k2
 ·exact absurd h k1
theorem Me9{l:List V3}(hl:l.all inV=true):(dis l).all inV=true:=Qjg.2 λv hv=>Qjg.1 hl v ((Cb0 l v).1 hv)
theorem Id3{l:List V3}(hl:l.all inV=true):Wb8 (fil (dis l) (G0 (dis l)))=F0 l:=by
 refine wc1 (Ud8 ((ze8 (dis l)).filter _)) (wc3 l) λp=>?_
 rw[(Uc0 _).mem_iff,Me8 (Me9 hl),N6 hl];exact⟨ld5 λv=>(Cb0 l v).symm,ld5 (Cb0 l)⟩
theorem Re2{l:List V3}(hl:l.all inV=true)(h4:Sol l):F0 l≠[]:=λe=>by
 have h:=Sb9 h4 (be7 hl (c:=[]) λp hp=>by rw[<- N6 hl,e] at hp;exact hp) (x:=⟨100,0,0,1⟩) ⟨by show (0:Int)<1;omega,λp hp=>by cases hp⟩ (h:=⟨⟨1,0,0⟩,24⟩) λv hv=>by
  obtain⟨⟨a1,a2⟩,_,_⟩:=(Oa4 v).1 (Qjg.1 hl v hv);simp only[dot];omega
 simp only[rmZ] at h;omega
theorem xb0{l:List V3}(h48:l.length<=48)(hl:l.all inV=true)(h4:Sol l):V1 l=0:=by
 have hin:=Qjg.1 hl;unfold V1;rw[if_neg (by omega),if_neg (by rw[<- Qjay,hl];simp)]
 have h1:(ixs l.length).any (sp1 l)=true:=by
  obtain⟨a,c,k,v,ha,hc,hk,hv,hd⟩:=h4;obtain⟨i',hi,j',hj,k',hk',hn,hall⟩:=Le3 ha hc hk (Uc5 hd);obtain⟨i1,i2,i3⟩:=hall (λv=>inV v=true) (hin _ ha) (hin _ hc) (hin _ hk)
  have ht:=Fa9 i3 i2 i1 (ye5 hn).2.2.1;have mem:∀{n m:Nat},m<n->((m:Nat):Int)∈ixs n:=λ{n m} h=>Qjj.2 ⟨m,Qjl.2 h,rfl⟩
  refine Qja.2 ⟨_,mem hi,?_⟩;unfold sp1;rw[Int.toNat_natCast];refine Qja.2 ⟨_,mem hj,?_⟩;unfold sp2;rw[Int.toNat_natCast];refine Qja.2 ⟨gL tV l k',?_,ht⟩;rw[<- Ac5 tV l hk'];exact ja1 tV (by rw[Qjd];omega)
 have h2:Ob7 l=false:=by
  unfold Ob7;rw[if_pos h1];obtain⟨hi,k1⟩:=Tb2 h1;have k1:(ixs (iF l)).any (sp2 l (iF l))=true:=k1;obtain⟨hj,k2⟩:=Tb2 k1;have k2:(l.take (jF l)).any (λv=>(D0 v (gL tV l (jF l)) (gL tV l (iF l))).2)=true:=k2
  have hj:jF l<iF l:=hj;have hi:iF l<l.length:=hi;have hk:=td9 k2;have hk2:=Qjz (xs:=l.take (jF l)) (p:=λv=>(D0 v (gL tV l (jF l)) (gL tV l (iF l))).2) (w:=hk)
  rw[<- ib9 tV hk,Ac5 tV l (by rw[Qjd] at hk;omega)] at hk2
  have hok:okp (plF l)=true:=(ma4 hk2).2.ok;obtain⟨v,hv,hne⟩:=h4.off (ob5 hok) (plF l).b;rw[Bool.not_eq_false',Qja];refine⟨v,hv,?_⟩
  have:U5 (plF l) v≠0:=λe=>hne ((wb7 hok (hin v hv)).1 e)
  simpa using this
 rw[h2];rfl
theorem Ne0(l r:List Pln)(n:Nat)(hn:n=l.length):(two (r1L tP) r1I).rd (.tup [.sl 0 0 n 0,i 0],[⟨60,4,bL tP (l++r),true,false,0⟩])=some (l,0):=by
 subst hn;have h:(r1L tP).rd [⟨60,4,bL tP (l++r),true,false,0⟩] (.sl 0 0 l.length 0)=some l:=by
  show Bool.rec (motive:=λ_=>Option (List Pln)) none (some (slR tP (bL tP (l++r)) 0 l.length)) (Bool.and true (okS tP (bL tP (l++r)) 0 l.length))=_
  rw[we0 _ _ (by rw[Qjc];omega),we1 _ _ (by rw[Qjc];omega),List.take_left']
  ·rfl
  ·rfl
 simp only[two,h];rfl
theorem le9(a:V3)(l:List V3)(h48:(a::l).length<=48)(hl:(a::l).all inV=true)(h4:Sol (a::l)):Rd (two (r1L tP) r1I) (sa1 (a,l)) (λr=>r=(F0 (a::l),0)):=by
 have hc:=xb0 h48 hl h4;have hdl:=td8 (a::l);have hll:l.length<=1000000:=by simp only[List.length_cons] at h48;omega
 obtain⟨j,e⟩:=af1 (dis (a::l)) (by omega)
 have hf:=Id3 hl;have hne:fil (dis (a::l)) (G0 (dis (a::l)))≠[]:=λe=>by
  rw[e] at hf;have h0:Wb8 []=[]:=ke6;rw[h0] at hf;exact Re2 hl h4 hf.symm
 have hok:okL tV (l.length+1) (λk=>tV.row (gL tV (a::l) k))=true:=Ma0 tV (f:=λk=>gL tV (a::l) k) λ_ _=>rfl
 have hlen:(fil (dis (a::l)) (G0 (dis (a::l)))).length<=1000000:=by
  have h1:=ud1 (dis (a::l)) (G0 (dis (a::l)));have h2:(G0 (dis (a::l))).length<=_:=ud2 (dis (a::l)) (by omega) _ (Qjk _)
  omega
 unfold sa1;simp only[l5,L5,j9,Yd4,Yd5,hok,Uc9 (a::l) (by omega),Uc8 (a::l) (by omega),hc,Ud1 a l hll,Ud2 a l hll,e]
 generalize fil (dis (a::l)) (G0 (dis (a::l)))=O at *
 cases O with
 |nil=>exact absurd rfl hne
 |cons q o =>
  have hr:(Bool.and (Nat.ble (q::o).length room) (Bool.and (Nat.ble (q::o).length (len (bL tP (q::o)))) (okS tP (bL tP (q::o)) 0 (q::o).length)))=true:=by
   rw[rc0,ia3,Qjn,Qjn,Qjaw,Qjaw];refine⟨by unfold room;omega,Qjk _,rfl⟩
  simp only[phP,hr,cc7,Ke1,Ia5,hf];exact⟨_,(F0 (a::l),0),rfl,Ne0 _ _ _ (by rw[<- hf,Sb4]),rfl⟩
theorem ze9{l:List V3}(hl:l.all inV=true){v:V3}(hv:v∈l):kv (F0 l) v=true↔Spn (F0 l) v:=by
 have hin:=Qjg.1 hl;have hs:∀p∈F0 l,(U5 p v==0)=true↔dot p.n v=p.b:=λp hp=>by rw[beq_iff_eq];exact wb7 (Td8 hp).ok (hin v hv)
 unfold kv own;rw[ce4];constructor
 ·rintro⟨p,q,s,hp,hq,hs',hw⟩;rw[Qjp] at hp hq hs';exact⟨p,q,s,hp.1,hq.1,hs'.1,hw,(hs p hp.1).1 hp.2,(hs q hq.1).1 hq.2,(hs s hs'.1).1 hs'.2⟩
 ·rintro⟨p,q,s,hp,hq,hs',hw,e1,e2,e3⟩;exact⟨p,q,s,Qjp.2 ⟨hp,(hs p hp).2 e1⟩,Qjp.2 ⟨hq,(hs q hq).2 e2⟩,Qjp.2 ⟨hs',(hs s hs').2 e3⟩,hw⟩
end Go.Ev.Ce
namespace Go.Ev.Ce
open Go Go.Ev Go.Ev.L Go.Proofs
structure B8(v:V3):Prop where
 x:Sm 8 v.x
 y:Sm 8 v.y
 z:Sm 8 v.z
structure Mp(l:List V3):Prop where
 l4:4<=l.length
 l8:l.length<=8
 bd:∀v∈l,Sm 11 v.x/\Sm 11 v.y/\Sm 11 v.z
 nf:nf0 l=true
theorem Mp.inV{l:List V3}(h:Mp l):l.all inV=true:=Qjg.2 λv hv=>by
 obtain⟨h1,h2,h3⟩:=h.bd v hv;exact (Oa4 v).2 ⟨h1.mono (by omega),h2.mono (by omega),h3.mono (by omega)⟩
theorem jf8{l:List V3}(hl:l.all Ce.inV=true)(h4:Sol l):nf0 l=true:=by
 have hin:=Qjg.1 hl;obtain⟨a,c,k,v,ha,hc,hk,hv,hd⟩:=h4;obtain⟨i',hi,j',hj,k',hk',hn,hall⟩:=Le3 ha hc hk (Uc5 hd);obtain⟨i1,i2,i3⟩:=hall (λv=>Ce.inV v=true) (hin _ ha) (hin _ hc) (hin _ hk)
 have ht:=Fa9 i1 i2 i3 hn;refine Qja.2 ⟨i',Qjl.2 hi,Qja.2 ⟨j',Qjl.2 hj,Qja.2 ⟨k',Qjl.2 hk',?_⟩⟩⟩;unfold nf le0;rw[ht,Bool.true_and,Qja];have hok:=(ma4 ht).2.ok;obtain⟨w,hw,hne⟩:=Sol.off ⟨a,c,k,v,ha,hc,hk,hv,hd⟩ (ob5 hok) (D0 (gL tV l i') (gL tV l j') (gL tV l k')).1.b;refine⟨w,hw,?_⟩
 have:U5 (D0 (gL tV l i') (gL tV l j') (gL tV l k')).1 w≠0:=λe=>hne ((wb7 hok (hin w hw)).1 e)
 simpa using this
theorem la0{l:List V3}(h:V1 l=0):l.length<=48/\l.all inV=true/\Sol l:=by
 unfold V1 at h
 split at h
 ·cases h
 rename_i h48
 split at h
 ·cases h
 rename_i hin
 split at h
 ·cases h
 rename_i hf;have hl:l.all inV=true:=by
  rw[Qjg];intro v hv;cases hi:inV v with
  |true=>rfl
  |false=>exact absurd (Qja.2 ⟨v,hv,by rw[hi];rfl⟩) hin
 have hin2:=Qjg.1 hl;refine⟨by omega,hl,?_⟩
 have hf:Ob7 l=false:=Bool.eq_false_iff.2 hf;unfold Ob7 at hf
 split at hf
 ·rename_i h1;obtain⟨hi,k1⟩:=Tb2 h1;have k1:(ixs (iF l)).any (sp2 l (iF l))=true:=k1;obtain⟨hj,k2⟩:=Tb2 k1;have k2:(l.take (jF l)).any (λv=>(D0 v (gL tV l (jF l)) (gL tV l (iF l))).2)=true:=k2
  have hj:jF l<iF l:=hj;have hi:iF l<l.length:=hi;have hk:=td9 k2;have hk2:=Qjz (xs:=l.take (jF l)) (p:=λv=>(D0 v (gL tV l (jF l)) (gL tV l (iF l))).2) (w:=hk)
  rw[Qjd] at hk;rw[<- ib9 tV (by rw[Qjd];exact hk),Ac5 tV l (by omega)] at hk2
  have ht:=(ma4 hk2).2;rw[Bool.not_eq_false',Qja] at hf;obtain⟨v,hv,hne⟩:=hf;have hne:U5 (plF l) v≠0:=bne_iff_ne.1 hne;have ht:Thr (gL tV l (kF l)) (gL tV l (jF l)) (gL tV l (iF l)) (plF l):=ht;have hkl:kF l<l.length:=by
   have:kF l<min (jF l) l.length:=hk
   omega
  have hoff:dot (plF l).n v≠(plF l).b:=λe=>hne ((wb7 ht.ok (hin2 v hv)).2 e)
  refine⟨_,_,_,v,gLm hkl,gLm (show jF l<l.length by omega),gLm hi,hv,λh0=>hoff ?_⟩
  obtain⟨ok,⟨g,hg,e1,e2,e3⟩,o⟩:=ht;have e:g*(dot (plF l).n v-(plF l).b)=dot (N3 (gL tV l (kF l)) (gL tV l (jF l)) (gL tV l (iF l))) (e8 v (gL tV l (kF l))):=by
   have e1:g*(plF l).n.x=(N3 (gL tV l (kF l)) (gL tV l (jF l)) (gL tV l (iF l))).x:=e1;have e2:g*(plF l).n.y=(N3 (gL tV l (kF l)) (gL tV l (jF l)) (gL tV l (iF l))).y:=e2;have e3:g*(plF l).n.z=(N3 (gL tV l (kF l)) (gL tV l (jF l)) (gL tV l (iF l))).z:=e3;rw[o];simp only[dot];rw[<- e1,<- e2,<- e3];simp only[e8]
   grind
  rw[h0] at e
  have:=(Qji.1 e).resolve_left (by omega)
  omega
 ·cases hf
noncomputable def U6(l:List V3):List Pln×Int:=if V1 l=0 then (F0 l,0) else ([],V1 l)
noncomputable def Vb5(l:List V3):List V3×Int:=if V1 l=0 then (ea8 (F0 l) l,0) else ([],V1 l)
theorem Ob8{l:List V3}(h48:l.length<=48)(hl:l.all inV=true):(F0 l).length<=1000000:=by
 have h1:=ud1 (dis l) (G0 (dis l));have hd:=td8 l;have h2:(G0 (dis l)).length<=_:=ud2 (dis l) (by omega) _ (Qjk _)
 rw[<- Id3 hl,Sb4];omega
theorem Cb2(a:V3)(l:List V3)(hl:l.length<=900000):Rd (two (r1L tP) r1I) (sa1 (a,l)) (λr=>r=U6 (a::l)):=by
 by_cases h:V1 (a::l)=0
 ·obtain⟨h1,h2,h3⟩:=la0 h;unfold U6;rw[if_pos h];exact le9 a l h1 h2 h3
 ·have hll:(a::l).length<=1000000:=by simp only[List.length_cons];omega
  have hne:(V1 (a::l) != 0)=true:=bne_iff_ne.2 h;unfold U6 sa1;rw[if_neg h];simp only[l5,L5,j9,Uc9 (a::l) hll,Uc8 (a::l) hll,hne,y7];exact⟨_,([],V1 (a::l)),rfl,rfl,rfl⟩
theorem oc2:V1 []=11:=by
 unfold V1 Ob7;rfl
noncomputable def dd4(l:List V3):List Pln×Int:=U6 l
noncomputable def Yb7(l:List V3):Bool:=decide (1<=l.length/\l.length<=900000)
noncomputable def dd5:Sum:=N1 (na0 tV) λl=>.guard (Yb7 l) (.ret ((two (r1L tP) r1I).enc (dd4 l),[]))
theorem Vc2:i7 prog G 22 dd5:=by
 refine ue8 (Sb5 Xb7 λa r hr=>?_) (Sb5 Nb5 λa r hr=>?_) (Sb5 Nb6 λa r hr=>?_)
 ·obtain⟨p,c⟩:=a;obtain⟨hg,hr⟩:=DT.run_guard_some hr;have hl:c.length<=900000:=by
   have:=(of_decide_eq_true hg).2
   simp only[List.length_cons] at this;omega
  have hp:cb5 (p,c)=U6 (p::c):=(Cb2 p c hl).p;have hq:cb6 (p,c)=true:=(Cb2 p c hl).g;rw[hp,hq];exact hr
 ·obtain⟨hg,hr⟩:=DT.run_guard_some hr;exact absurd (of_decide_eq_true hg).1 (by simp)
 ·obtain⟨hg,hr⟩:=DT.run_guard_some hr;exact absurd (of_decide_eq_true hg).1 (by simp)
theorem oc3(a:V3)(l:List V3)(hl:l.length<=900000):Rd (two (r1L tV) r1I) (Aa0 (a,l)) (λr=>r=Vb5 (a::l)):=by
 have hok:okL tV (l.length+1) (λk=>tV.row (gL tV (a::l) k))=true:=Ma0 tV (f:=λk=>gL tV (a::l) k) λ_ _=>rfl
 have hp:cb5 (a,l)=U6 (a::l):=(Cb2 a l hl).p;have hq:cb6 (a,l)=true:=(Cb2 a l hl).g;unfold Vb5;unfold Aa0;simp only[l5,L5,j9,Yd4,Yd5,hok,hp,hq,y7];unfold U6;by_cases h:V1 (a::l)=0
 ·obtain⟨h1,h2,h3⟩:=la0 h;have hF:OkF (F0 (a::l)):=⟨Ob8 h1 h2,λp hp=>(Td8 hp).ok⟩
  obtain⟨m,r,e1,e2,e3,e4⟩:=ud6 a l (by omega)
  obtain⟨m',r',k1,k2,k3⟩:=Ud7 r m e2 (F0 (a::l)) e4 hF;rw[if_pos h,if_pos h];simp only[e1,k1];refine⟨_,(r'.take m',0),rfl,?_,by rw[k3,e3];rfl⟩
  have h:(r1L tV).rd [⟨25,3,bL tV r',true,false,0⟩] (.sl 0 0 m' 0)=some (r'.take m'):=by
   show Bool.rec (motive:=λ_=>Option (List V3)) none (some (slR tV (bL tV r') 0 m')) (Bool.and true (okS tV (bL tV r') 0 m'))=_
   rw[kd7 _ _ k2,wc7 _ _ k2];rfl
  simp only[two,h];rfl
 ·have hne:(V1 (a::l) != 0)=true:=bne_iff_ne.2 h;rw[if_neg h,if_neg h];simp only[hne,y7];exact⟨_,([],V1 (a::l)),rfl,rfl,rfl⟩
noncomputable def Fc6(l:List V3):List V3×Int:=Vb5 l
noncomputable def Gb5(l:List V3):Bool:=decide (1<=l.length/\l.length<=900000)
noncomputable def Fc7:Sum:=N1 (na0 tV) λl=>.guard (Gb5 l) (.ret ((two (r1L tV) r1I).enc (Fc6 l),[]))
theorem wc9:i7 prog G 32 Fc7:=by
 refine ue8 (Sb5 Ec5 λa r hr=>?_) (Sb5 uc8 λa r hr=>?_) (Sb5 vc0 λa r hr=>?_)
 ·obtain⟨p,c⟩:=a;obtain⟨hg,hr⟩:=DT.run_guard_some hr;have hl:c.length<=900000:=by
   have:=(of_decide_eq_true hg).2
   simp only[List.length_cons] at this;omega
  have hp:Nb3 (p,c)=Vb5 (p::c):=(oc3 p c hl).p;have hq:Nb4 (p,c)=true:=(oc3 p c hl).g;rw[hp,hq];exact hr
 ·obtain⟨hg,hr⟩:=DT.run_guard_some hr;exact absurd (of_decide_eq_true hg).1 (by simp)
 ·obtain⟨hg,hr⟩:=DT.run_guard_some hr;exact absurd (of_decide_eq_true hg).1 (by simp)
set_option maxRecDepth 100000
structure Ne1 where
 (ra0 ra1 ra2 Re9 d9 d7 f0:Int)
structure Ne2 where
 alt:Nat
 bs0:Bool
structure Zc6 where
 w6:List Pln
 (d9 d7 f0:Int)
structure Kc0 where
 w6:List Pln
 (is7 d9 d7 f0:Int)
structure Kc1 where
 is8:Int
structure Zc7 where
 alt:Nat
 is0:Int
structure Fc8 where
 w6:List Pln
 (d9 d7 f0:Int)
structure Fc9 where
 alt:Nat
 bs0:Bool
noncomputable def Ac6:List (Nat×Sum):=[]
theorem ud8:k8 prog G Ac6:=trivial
structure Oa5 where
 Qa6:List V3
 cf7:Int
structure ma5 where
 (Qb5 I8 I9 J0 oa9 pa0 pa1:Int)
noncomputable def Yb8(p:Oa5)(s:ma5):St:=⟨.unk::.unk::.ptr 0 0 0 0::.ptr 1 0 0 0::.unk::.ptr 2 0 0 0::.ptr 3 0 0 0::ra 13 (eL tV p.Qa6::i p.cf7::i s.Qb5::ra 38 []),[⟨0,3,[[i 0,i 0,i 0]],true,false,0⟩,⟨0,3,[[i 0,i 0,i 0]],true,false,0⟩,⟨0,3,[[i s.I8,i s.I9,i s.J0]],true,false,0⟩,⟨0,3,[[i s.oa9,i s.pa0,i s.pa1]],true,false,0⟩]⟩
noncomputable def Aa1{α:Type}(k:ma5->α)(e:Nat->α)(z:α)(p:Oa5)(s:ma5):α:=(sl (decide (s.Qb5<p.cf7)) (sl (inB s.Qb5 (List.length p.Qa6)) (k ⟨W (s.Qb5+1),(if (gL tV p.Qa6 s.Qb5.toNat).x<s.I8 then (gL tV p.Qa6 s.Qb5.toNat).x else s.I8),(if (gL tV p.Qa6 s.Qb5.toNat).y<s.I9 then (gL tV p.Qa6 s.Qb5.toNat).y else s.I9),(if (gL tV p.Qa6 s.Qb5.toNat).z<s.J0 then (gL tV p.Qa6 s.Qb5.toNat).z else s.J0),(if (gL tV p.Qa6 s.Qb5.toNat).x>s.oa9 then (gL tV p.Qa6 s.Qb5.toNat).x else s.oa9),(if (gL tV p.Qa6 s.Qb5.toNat).y>s.pa0 then (gL tV p.Qa6 s.Qb5.toNat).y else s.pa0),(if (gL tV p.Qa6 s.Qb5.toNat).z>s.pa1 then (gL tV p.Qa6 s.Qb5.toNat).z else s.pa1)⟩) z) (e 1))
noncomputable def va9(p:Oa5)(s:ma5):Stp ma5:=Aa1 .next .exit .fail p s
noncomputable def Cb3:Lo Oa5 ma5:=⟨En Ac6,0,ef8,[1,1,1,0,1,4,4],[2,3,5,6,20,21,22],.p,[⟨sUq::sUq::sPq 0::sPq 1::sUq::sPq 2::sPq 3::ru2 13 (sLq tV::sIq::sIq::ru2 38 []),[⟨0,3,true,some [[.o (.lit .i64 0),.o (.lit .i64 0),.o (.lit .i64 0)]]⟩,⟨0,3,true,some [[.o (.lit .i64 0),.o (.lit .i64 0),.o (.lit .i64 0)]]⟩,⟨0,3,true,some [kLq 3]⟩,⟨0,3,true,some [kLq 3]⟩],λa H=>(⟨aLq tV a 20,aIq a 21⟩,⟨aIq a 22,hIq H 2 0 0,hIq H 2 0 1,hIq H 2 0 2,hIq H 3 0 0,hIq H 3 0 1,hIq H 3 0 2⟩)⟩],va9,[(some 0,λp s=>upq (Yb8 p s) [(23,b (decide (s.Qb5<p.cf7)))])],Yb8⟩
theorem dd6:Cb3.Ok:=Lo.ok [] (by kernel_rfl) .nil rfl (.cons (λa H=>by kernel_rfl) .nil) λp s=>(.of @Aa1 (λF _ _ _ _ _=>by unfold Aa1;(repeat' apply r9 (f:=F))<;>rfl) (by kernel_rfl))
noncomputable def kb0(x:List V3):Option (b7×List c8):=let t1:=(lp (va9 (⟨rt tV x,(↑(List.length x):Int)⟩:Oa5)) (⟨0,(gL tV x 0).x,(gL tV x 0).y,(gL tV x 0).z,(gL tV x 0).x,(gL tV x 0).y,(gL tV x 0).z⟩:ma5));(sl ((↑(List.length x):Int)==0) (some (.tup [.agg [i 0,i 0,i 0],.agg [i 0,i 0,i 0],b false],[])) (sl (inB 0 (List.length x)) (sl (inB 0 (List.length x)) (sl ((cnE tV x)&&true) (sl (Nat.beq t1.1 1) (some (.tup [.agg [i t1.2.I8,i t1.2.I9,i t1.2.J0],.agg [i t1.2.oa9,i t1.2.pa0,i t1.2.pa1],b true],[])) none) none) none) none))
noncomputable def Cb4(x:List V3):V3×V3×Bool:=N7 (Kb4 r1V r1V r1B) (kb0 x)
noncomputable def Cb5(x:List V3):Bool:=okO (Kb4 r1V r1V r1B) (kb0 x)
noncomputable def Vc3:Sum:=N1 (na0 tV) (λx=>.guard (Cb5 x) (.ret ((Kb4 r1V r1V r1B).enc (Cb4 x),[])))
theorem Id4:i7 prog G 25 Vc3:=Ea3 (bd b25 ud8) (Kb4 r1V r1V r1B) (o:=kb0) λx=>Ea4 (.s .p (.s .p (.s .p (.s (.s .p (.b (.u Cb3.ls))) .p)))) [Cb3.pr] (by kernel_rfl) (.cons dd6 .nil) (by kernel_rfl)
end Go.Ev.Ce
