/- Own work. -/
import Derived.Test.YtekgjjgbdcgldaaGreatEvGe1
set_option linter.all false
def Qka:=@List.mem_append_left
def Qkb:=@List.mem_append
def Qkc:=@List.mem_cons
def Qkd:=@List.mem_append_right
def Qke:=@List.mem_singleton
def Qkf:=@Int.mul_eq_zero
def Qkg:=@Nat.lt_irrefl
def Qkh:=@List.all_eq_true
def Qki:=@List.any_eq_true
def Qkj:=@Nat.gcd_dvd_left
def Qkk:=@Bool.and_eq_true
def Qkl:=@Nat.gcd_dvd_right
def Qkm:=@Bool.false_eq_true
def Qkn:=@Int.natCast_dvd_natCast
def Qko:=@List.mem_range
def Qkp:=@List.mem_filter
def Qkq:=@Nat.dvd_trans
def Qkr:=@Bool.and_self
def Qks:=@Nat.le_refl
def Qkt:=@Nat.zero_le
def Qku:=@Int.le_of_lt
def Qkv:=@Int.mul_tdiv_cancel'
def Qkw:=@List.not_mem_nil
def Qkx:=@List.mem_cons_of_mem
def Qky:=@List.mem_cons_self
def Qkz:=@List.length_append
def Qkaa:=@Int.dvd_natAbs
def Qkab:=@List.drop_zero
def Qkac:=@List.pairwise_singleton
def Qkad:=@Int.mul_pos
def Qkae:=@Bool.and_true
def Qkaf:=@List.mem_flatMap
def Qkag:=@List.mem_iff_getElem
def Qkah:=@List.pairwise_cons
def Qkai:=@Nat.lt_or_gt_of_ne
def Qkaj:=@Int.mul_pos_of_neg_of_neg
def Qkak:=@Int.eq_of_mul_eq_mul_left
def Qkal:=@Classical.byContradiction
def Qkam:=@Nat.zero_add
def Qkan:=@List.length_take
def Qkao:=@Nat.not_lt_zero
def Qkap:=@Int.mul_nonneg
def Qkaq:=@Go.Ev.Ce.V3.ext'
namespace Go.Ev.Ce
open Go Go.Ev Go.Ev.L Go.Proofs
theorem me5{p:Pln}{x:Pt}(hp:Bd p)(hx:Okx x):rm p x=rmZ p x:=by
 unfold rm rmZ;obtain⟨w1,w2,⟨a1,a2⟩,⟨a3,a4⟩,a5,a6⟩:=hx;have h0:=mb hp.b1 hp.b2 (show -600000000000<=x.pw by omega) w2
 have h1:=mb hp.x1 hp.x2 a1 a2;have h2:=mb hp.y1 hp.y2 a3 a4;have h3:=mb hp.z1 hp.z2 a5 a6;exact ka3 (by omega) (by omega)
theorem Ge1{r:List Pln}(hb:Bds r){x:Pt}(hx:Okx x):inn r x=true↔Inr r x:=by
 unfold inn;rw[Qkh];constructor
 ·intro h;refine⟨hx.w1,λp hp=>?_⟩
  have:=h p hp
  rw[me5 (hb p hp) hx] at this;simpa using this
 ·intro h p hp;rw[me5 (hb p hp) hx];simpa using h.h p hp
theorem If6{p q s:Pln}(h:(mpt p q s).2=true):mw p q s≠0/\∃k:Int,k≠0/\k*(mpt p q s).1.px=(mv p q s).x/\k*(mpt p q s).1.py=(mv p q s).y/\k*(mpt p q s).1.pz=(mv p q s).z/\k*(mpt p q s).1.pw=mw p q s:=by
 unfold mpt at h ⊢;by_cases h0:mw p q s=0
 ·rw[if_pos h0] at h;cases h
 refine⟨h0,?_⟩;have hg:=nd0 (v:=mv p q s) h0;have dv:∀{x:Int},(gc (mv p q s) (mw p q s))∣x->gc (mv p q s) (mw p q s)*Int.tdiv x (gc (mv p q s) (mw p q s))=x:=λh=>Qkv h
 have d1:gc (mv p q s) (mw p q s)∣(mv p q s).x:=by
  rw[<- Qkaa];exact Qkn.2 (Qkq (Qkj _ _) (Qkj _ _))
 have d2:gc (mv p q s) (mw p q s)∣(mv p q s).y:=by
  rw[<- Qkaa];exact Qkn.2 (Qkq (Qkj _ _) (Qkl _ _))
 have d3:gc (mv p q s) (mw p q s)∣(mv p q s).z:=by
  rw[<- Qkaa];exact Qkn.2 (Qkq (Qkl _ _) (Qkj _ _))
 have d4:gc (mv p q s) (mw p q s)∣mw p q s:=by
  rw[<- Qkaa];exact Qkn.2 (Qkq (Qkl _ _) (Qkl _ _))
 rw[if_neg h0];by_cases h1:mw p q s<0
 ·rw[if_pos h1];have e:∀{x:Int},(gc (mv p q s) (mw p q s))∣x->-(gc (mv p q s) (mw p q s))*Int.tdiv (-x) (gc (mv p q s) (mw p q s))=x:=λ{x} h=>by
   rw[Int.neg_mul,dv ((Int.dvd_neg).2 h),Int.neg_neg]
  exact⟨-(gc (mv p q s) (mw p q s)),by omega,e d1,e d2,e d3,e d4⟩
 ·rw[if_neg h1];exact⟨gc (mv p q s) (mw p q s),by omega,dv d1,dv d2,dv d3,dv d4⟩
theorem gf8{p q s:Pln}(h:(mpt p q s).2=true):rmZ p (mpt p q s).1=0/\rmZ q (mpt p q s).1=0/\rmZ s (mpt p q s).1=0:=by
 obtain⟨_,k,hk,e1,e2,e3,e4⟩:=If6 h;generalize (mpt p q s).1=x at *
 have f:∀a:Pln,a.b*mw p q s-(a.n.x*(mv p q s).x+a.n.y*(mv p q s).y+a.n.z*(mv p q s).z)=0->rmZ a x=0:=λa ha=>by
  rw[<- e1,<- e2,<- e3,<- e4] at ha
  have:k*rmZ a x=0:=by rw[<- ha];unfold rmZ;grind
  exact (Qkf.1 this).resolve_left hk
 refine⟨f p ?_,f q ?_,f s ?_⟩<;>(simp only[mw,mv,dot,d9];grind)
theorem zf0{p q s:Pln}(h:mw p q s≠0):(mpt p q s).2=true:=by
 unfold mpt;rw[if_neg h]
 split<;>rfl
theorem gf9{p q s:Pln}{x:Pt}(h1:rmZ p x=0)(h2:rmZ q x=0)(h3:rmZ s x=0):mw p q s*x.px=(mv p q s).x*x.pw/\mw p q s*x.py=(mv p q s).y*x.pw/\mw p q s*x.pz=(mv p q s).z*x.pw:=by
 have i1:(mv p q s).x*x.pw-mw p q s*x.px=(d9 q.n s.n).x*rmZ p x+(d9 s.n p.n).x*rmZ q x+(d9 p.n q.n).x*rmZ s x:=by simp only[mw,mv,dot,d9,rmZ];grind
 have i2:(mv p q s).y*x.pw-mw p q s*x.py=(d9 q.n s.n).y*rmZ p x+(d9 s.n p.n).y*rmZ q x+(d9 p.n q.n).y*rmZ s x:=by simp only[mw,mv,dot,d9,rmZ];grind
 have i3:(mv p q s).z*x.pw-mw p q s*x.pz=(d9 q.n s.n).z*rmZ p x+(d9 s.n p.n).z*rmZ q x+(d9 p.n q.n).z*rmZ s x:=by simp only[mw,mv,dot,d9,rmZ];grind
 rw[h1,h2,h3] at i1 i2 i3;simp only[Int.mul_zero,Int.add_zero] at i1 i2 i3;omega
theorem Pf5{p q s:Pln}{x v:Pt}(h:mw p q s≠0)(h1:rmZ p x=0)(h2:rmZ q x=0)(h3:rmZ s x=0)(k1:rmZ p v=0)(k2:rmZ q v=0)(k3:rmZ s v=0):Eqv x v:=by
 obtain⟨a1,a2,a3⟩:=gf9 h1 h2 h3;obtain⟨c1,c2,c3⟩:=gf9 k1 k2 k3;have f:∀{a c m:Int},mw p q s*a=m*x.pw->mw p q s*c=m*v.pw->a*v.pw=c*x.pw:=λ{a c m} ha hc=>by
  have:mw p q s*(a*v.pw-c*x.pw)=0:=by grind
  have:=(Qkf.1 this).resolve_left h
  omega
 exact⟨f a1 c1,f a2 c2,f a3 c3⟩
theorem Oe8{r:List Pln}{p q:Pln}{out:List Pt}{s:Pln}{x:Pt}(h:x∈out):x∈La4 r p q out s:=by
 unfold La4;split
 ·exact Qka _ h
 ·exact h
theorem rd7{r:List Pln}{p q:Pln}{x:Pt}:∀{l:List Pln} {out:List Pt},x∈out->x∈tb6 r p q l out
 |[],_,h=>h
 |s::l,out,h=>rd7 (l:=l) (out:=La4 r p q out s) (Oe8 h)
theorem Kc1{r:List Pln}{p:Pln}{x:Pt}:∀{l:List Pln} {out:List Pt},x∈out->x∈db7 r p l out
 |[],_,h=>h
 |_::l,_,h=>Kc1 (l:=l) (rd7 h)
theorem me6{r:List Pln}{x:Pt}:∀{l:List Pln} {out:List Pt},x∈out->x∈Hc9 r l out
 |[],_,h=>h
 |_::l,_,h=>me6 (l:=l) (Kc1 h)
theorem Oe9{r:List Pln}{p q:Pln}{out:List Pt}{s:Pln}(h1:(mpt p q s).2=true)(h2:inn r (mpt p q s).1=true):(mpt p q s).1∈La4 r p q out s:=by
 unfold La4;rw[h1,h2];cases h:lc1 out (mpt p q s).1 with
 |true=>simpa using (cf8 _ _).1 h
 |false=>simp
theorem rd8{r:List Pln}{p q s:Pln}(h1:(mpt p q s).2=true)(h2:inn r (mpt p q s).1=true):∀{l:List Pln} {out:List Pt},s∈l->(mpt p q s).1∈tb6 r p q l out
 |[],_,h=>by cases h
 |t::l,out,h=>by
  show _∈tb6 r p q l (La4 r p q out t)
  rcases Qkc.1 h with rfl|h
  ·exact rd7 (Oe9 h1 h2)
  ·exact rd8 h1 h2 h
structure Hit(r:List Pln)(Q:Pt->Prop)(p q s:Pln):Prop where
 h1:(mpt p q s).2=true
 h2:inn r (mpt p q s).1=true
 h3:Q (mpt p q s).1
theorem me7{r:List Pln}{Q:Pt->Prop}{p q s:Pln}(hq:Hit r Q p q s)(hs:Hit r Q p s q)(hne:q≠s):∀{l:List Pln} {out:List Pt},q∈l->s∈l->∃x∈db7 r p l out,Q x
 |[],_,h,_=>by cases h
 |t::l,out,hql,hsl=>by
  show ∃x∈db7 r p l (tb6 r p t l out),Q x
  rcases Qkc.1 hql with rfl|h1
  ·have h2:=(Qkc.1 hsl).resolve_left λh=>hne h.symm
   exact⟨_,Kc1 (rd8 hq.h1 hq.h2 h2),hq.h3⟩
  ·rcases Qkc.1 hsl with rfl|h2
   ·exact⟨_,Kc1 (rd8 hs.h1 hs.h2 h1),hs.h3⟩
   ·exact me7 hq hs hne (l:=l) h1 h2
theorem me8 {r : List Pln} {Q : Pt → Prop} {p q s : Pln} (H : ∀ a c d, (a = p ∨ a = q ∨ a = s) → (c = p ∨ c = q ∨ c = s) → (d = p ∨ d = q ∨ d = s) → a ≠ c → c ≠ d → a ≠ d → Hit r Q a c d) (h1 : p ≠ q) (h2 : q ≠ s) (h3 : p ≠ s) :
  ∀{l:List Pln} {out:List Pt},p∈l->q∈l->s∈l->∃x∈Hc9 r l out,Q x
 |[],_,h,_,_=>by cases h
 |t::l,out,hp,hq,hs=>by
  have fin:∀{a c d:Pln} {out:List Pt},(a=p\/a=q\/a=s)->(c=p\/c=q\/c=s)->(d=p\/d=q\/d=s)->a≠c->c≠d->a≠d->c∈l->d∈l->∃x∈Hc9 r l (db7 r a l out),Q x:=λha hc hd n1 n2 n3 m1 m2=>by
   obtain⟨x,hx,hQ⟩:=me7 (H _ _ _ ha hc hd n1 n2 n3) (H _ _ _ ha hd hc n3 n2.symm n1) n2 (out:=_) m1 m2;exact⟨x,me6 hx,hQ⟩
  show ∃x∈Hc9 r l (db7 r t l out),Q x
  rcases Qkc.1 hp with rfl|hp'
  ·exact fin (.inl rfl) (.inr (.inl rfl)) (.inr (.inr rfl)) h1 h2 h3 ((Qkc.1 hq).resolve_left (Ne.symm h1)) ((Qkc.1 hs).resolve_left (Ne.symm h3))
  ·rcases Qkc.1 hq with rfl|hq'
   ·exact fin (.inr (.inl rfl)) (.inl rfl) (.inr (.inr rfl)) (Ne.symm h1) h3 h2 hp' ((Qkc.1 hs).resolve_left (Ne.symm h2))
   ·rcases Qkc.1 hs with rfl|hs'
    ·exact fin (.inr (.inr rfl)) (.inl rfl) (.inr (.inl rfl)) (Ne.symm h3) h1 (Ne.symm h2) hp' hq'
    ·exact me8 H h1 h2 h3 hp' hq' hs'
theorem bg8{p q s:Pln}(h:mw p q s≠0):p≠q/\q≠s/\p≠s:=by
 refine⟨λe=>h ?_,λe=>h ?_,λe=>h ?_⟩<;>(subst e;simp only[mw,dot,d9];grind)
theorem Pf6{r:List Pln}(hb:Bds r):∀x∈cor r,Cn r x:=Ee3 λp hp q hq s hs h hi=>by
 obtain⟨w1,w2,w3,w4,w5⟩:=we3 (hb p hp) (hb q hq) (hb s hs) h;obtain⟨e1,e2,e3⟩:=gf8 h;exact⟨(Ge1 hb ⟨w1,w5,w2,w3,w4⟩).1 hi,p,q,s,hp,hq,hs,(If6 h).1,e1,e2,e3⟩
theorem hf0{r:List Pln}(hb:Bds r){v:Pt}(hv:Cn r v):∃x∈cor r,Eqv x v:=by
 obtain⟨p,q,s,hp,hq,hs,hw,e1,e2,e3⟩:=hv.c;obtain⟨n1,n2,n3⟩:=bg8 hw;refine me8 (λa c d ha hc hd m1 m2 m3=>?_) n1 n2 n3 hp hq hs
 have hm:∀{a},(a=p\/a=q\/a=s)->a∈r/\rmZ a v=0:=λh=>by
  rcases h with rfl|rfl|rfl
  ·exact⟨hp,e1⟩
  ·exact⟨hq,e2⟩
  ·exact⟨hs,e3⟩
 have hw':mw a c d≠0:=by
  have k:mw a c d=mw p q s\/mw a c d=-mw p q s:=by
   rcases ha with rfl|rfl|rfl<;>rcases hc with rfl|rfl|rfl<;>rcases hd with rfl|rfl|rfl<;>first|exact absurd rfl m1|exact absurd rfl m2|exact absurd rfl m3|exact .inl rfl|(left;simp only[mw,dot,d9];grind;done)|(right;simp only[mw,dot,d9];grind;done)
  rcases k with k|k<;>omega
 have h:=zf0 hw';obtain⟨w1,w2,w3,w4,w5⟩:=we3 (hb a (hm ha).1) (hb c (hm hc).1) (hb d (hm hd).1) h;obtain⟨f1,f2,f3⟩:=gf8 h;have he:=Pf5 hw' f1 f2 f3 (hm ha).2 (hm hc).2 (hm hd).2;exact⟨h,(Ge1 hb ⟨w1,w5,w2,w3,w4⟩).2 (he.inr w1 hv.toInr),he⟩
theorem Rc7(c:List Pln):Bdd (c++ws):=λd hd=>by
 have k:∀{n:V3} {m:Int},(⟨n,m⟩:Pln)∈ws->0<dot n d->∃p∈c++ws,0<dot p.n d:=λh h'=>⟨_,Qkd _ h,h'⟩
 by_cases h1:0<d.x
 ·exact k (n:=⟨1,0,0⟩) (m:=24) (by simp[ws]) (by unfold dot;simp;omega)
 by_cases h2:d.x<0
 ·exact k (n:=⟨-1,0,0⟩) (m:=24) (by simp[ws]) (by unfold dot;simp;omega)
 by_cases h3:0<d.y
 ·exact k (n:=⟨0,1,0⟩) (m:=24) (by simp[ws]) (by unfold dot;simp;omega)
 by_cases h4:d.y<0
 ·exact k (n:=⟨0,-1,0⟩) (m:=24) (by simp[ws]) (by unfold dot;simp;omega)
 by_cases h5:0<d.z
 ·exact k (n:=⟨0,0,1⟩) (m:=24) (by simp[ws]) (by unfold dot;simp;omega)
 by_cases h6:d.z<0
 ·exact k (n:=⟨0,0,-1⟩) (m:=24) (by simp[ws]) (by unfold dot;simp;omega)
 exact absurd (Qkaq (by show d.x=0;omega) (by show d.y=0;omega) (by show d.z=0;omega)) hd
theorem Ge2{r:List Pln}(hb:Bds r){p:Pln}(hp:Bd p):pos (cor r) p=true↔∃v,Cn r v/\0<rmZ p v:=by
 unfold pos;rw[Qki];constructor
 ·rintro⟨x,hx,h⟩;rw[me5 hp (Ic8 hb x hx)] at h;exact⟨x,Pf6 hb x hx,by simpa using h⟩
 ·rintro⟨v,hv,h⟩;obtain⟨x,hx,he⟩:=hf0 hb hv;refine⟨x,hx,?_⟩;rw[me5 hp (Ic8 hb x hx)];have h1:=he.rm p;have h2:=Qkad h (Ic8 hb x hx).w1
  have:0<rmZ p x:=Int.lt_of_mul_lt_mul_right (by rw[Int.zero_mul];omega:0*v.pw<rmZ p x*v.pw) (Qku hv.w)
  simpa using this
theorem Tb3{r:List Pln}(hb:Bds r)(hd:Bdd r)(h0:r≠[]):Zc7 r=true↔Wd5 r:=by
 rw[gf7 hd h0];unfold Zc7;rw[Qkh];exact⟨λh p hp=>(Ge2 hb (hb p hp)).1 (h p hp),λh p hp=>(Ge2 hb (hb p hp)).2 (h p hp)⟩
end Go.Ev.Ce
namespace Go.Ev.Ce
def dv(z v:Pt):V3:=⟨v.px*z.pw-z.px*v.pw,v.py*z.pw-z.py*v.pw,v.pz*z.pw-z.pz*v.pw⟩
def thr(n:V3)(z:Pt):Pln:=⟨⟨z.pw*n.x,z.pw*n.y,z.pw*n.z⟩,n.x*z.px+n.y*z.py+n.z*z.pz⟩
theorem hf3(n:V3)(z x:Pt):rmZ (thr n z) x=-dot n (dv z x):=by simp only[rmZ,thr,dot,dv];grind
theorem hf4{p:Pln}{z v:Pt}(hz:rmZ p z≠0)(hv:rmZ p v=0)(hw:0<v.pw):dv z v≠⟨0,0,0⟩:=λh=>by
 unfold dv at h;simp only[V3.mk.injEq] at h;obtain⟨e1,e2,e3⟩:=h
 have:rmZ p z*v.pw=rmZ p v*z.pw:=by unfold rmZ;grind
 rw[hv,Int.zero_mul] at this;exact (Qkf.1 this).elim hz (by omega)
theorem Pf7{p:Pln}{z:Pt}(hz:rmZ p z≠0):∀l:List Pt,l.length<=2->(∀v∈l,rmZ p v=0/\0<v.pw)->∃n,n≠(⟨0,0,0⟩:V3)/\∀v∈l,dot n (dv z v)=0
 |[],_,_=>⟨⟨1,0,0⟩,by simp,λv h=>by cases h⟩
 |[v],_,h=>by
  obtain⟨h1,h2⟩:=h v (by simp)
  obtain⟨d,hd,he⟩:=Pf4 (hf4 hz h1 h2);exact⟨d,hd,λu hu=>by rw[Qke.1 hu,<- he];unfold dot;grind⟩
 |[v,u],_,h=>by
  obtain⟨h1,h2⟩:=h v (by simp)
  by_cases hc:d9 (dv z v) (dv z u)=⟨0,0,0⟩
  ·obtain⟨d,hd,he⟩:=Pf4 (hf4 hz h1 h2);have hu:dot (dv z u) d=0:=by
    by_cases h0:dot (dv z u) d=0
    ·exact h0
    ·exact absurd hc (me4 (hf4 hz h1 h2) he h0)
   refine⟨d,hd,λx hx=>?_⟩
   simp only[Qkc,Qkw,or_false] at hx
   rcases hx with rfl|rfl
   ·rw[<- he];unfold dot;grind
   ·rw[<- hu];unfold dot;grind
  ·refine⟨_,hc,λx hx=>?_⟩
   simp only[Qkc,Qkw,or_false] at hx
   rcases hx with rfl|rfl
   ·rw[<- Wc8 (dv z x) (dv z u)];unfold dot;grind
   ·rw[<- Wc9 (dv z v) (dv z x)];unfold dot;grind
 |_::_::_::_,h,_=>by simp at h
def Pf8(p:Pln)(z v:Pt):Pt:=⟨rmZ p v*z.px-rmZ p z*v.px,rmZ p v*z.py-rmZ p z*v.py,rmZ p v*z.pz-rmZ p z*v.pz,rmZ p v*z.pw-rmZ p z*v.pw⟩
theorem Wd6(p q:Pln)(z v:Pt):rmZ q (Pf8 p z v)=rmZ p v*rmZ q z-rmZ p z*rmZ q v:=by
 generalize ha:rmZ p v=a;generalize hb:rmZ p z=c;simp only[rmZ,Pf8] at *
 rw[ha,hb]
 grind
theorem zf1{r r':List Pln}(hs:∀p∈r',p∈r){v:Pt}(h:Cn r' v)(hi:Inr r v):Cn r v:=by
 obtain⟨p,q,s,hp,hq,hs',hw,e⟩:=h.c;exact⟨hi,p,q,s,hs p hp,hs q hq,hs s hs',hw,e⟩
theorem hf5{r:List Pln}(hb:Bdd r)(hB:Wd5 r){h:Pln}(hn:h.n≠⟨0,0,0⟩):¬ ∀x,Inr r x->rmZ h x=0:=λH=>by
 obtain⟨x,hw,hx⟩:=hB;have hi:Inr r x:=⟨hw,λp hp=>Qku (hx p hp)⟩
 obtain⟨q,hq,h1,h2⟩:=step hi h.n (hb h.n hn);have h3:=H _ h2;rw[me3,H _ hi] at h3;have h4:=hx q hq;have h5:0<dot h.n h.n:=by
  have k:∀a:Int,a≠0->0<a*a:=λa ha=>by
   rcases Int.lt_or_gt_of_ne ha with h|h
   ·exact Qkaj h h
   ·exact Qkad h h
  have k0:∀a:Int,0<=a*a:=λa=>by
   by_cases h:a=0
   ·subst h;decide
   ·exact Qku (k a h)
  have a1:=k0 h.n.x;have a2:=k0 h.n.y;have a3:=k0 h.n.z;unfold dot;by_cases c1:h.n.x=0
  ·by_cases c2:h.n.y=0
   ·have:=k h.n.z (λc3=>hn (Qkaq c1 c2 c3));omega
   ·have:=k _ c2;omega
  ·have:=k _ c1;omega
 have:=Qkad h4 h5
 omega
theorem bg9 {r r' : List Pln} {p : Pln} (hb : Bdd r) (hB : Wd5 r) (hp : p ∈ r) (hr : ∀ q ∈ r, q ∈ r' ∨ q = p)
  (l:List Pt) (hl:l.length<=2) (hl0:∀v∈l,rmZ p v=0/\0<v.pw) (hc:∀v,Cn r v->rmZ p v=0->∃x∈l,Eqv x v) {z:Pt} (hz:Inr r' z):Inr r z:=by
 by_cases h0:0<=rmZ p z
 ·exact⟨hz.w,λq hq=>(hr q hq).elim (hz.h q) λe=>e ▸ h0⟩
 exfalso;have hneg:rmZ p z<0:=by omega
 obtain⟨n,hn,hv⟩:=Pf7 (p:=p) (z:=z) (by omega) l hl hl0
 have hn':(thr n z).n≠⟨0,0,0⟩:=λe=>hn (by
  unfold thr at e;simp only[V3.mk.injEq] at e;have k:∀{a:Int},z.pw*a=0->a=0:=λh=>(Qkf.1 h).resolve_left (by have:=hz.w;omega)
  exact Qkaq (k e.1) (k e.2.1) (k e.2.2))
 -- the face lies in that plane
 have hface:∀u,Inr r u->rmZ p u=0->rmZ (thr n z) u=0:=λu hu hu0=>by
  have hbd:Bdd (V8 p::r):=λd hd=>by
   obtain⟨q,hq,h⟩:=hb d hd;exact⟨q,Qkx _ hq,h⟩
  have hiu:Inr (V8 p::r) u:=⟨hu.w,λq hq=>by
   rcases Qkc.1 hq with rfl|hq
   ·rw[Aa9,hu0];decide
   ·exact hu.h q hq⟩
  have hvx:∀v,Cn (V8 p::r) v->rmZ (thr n z) v=0:=λv hcv=>by
   have hir:Inr r v:=⟨hcv.w,λq hq=>hcv.h q (Qkx _ hq)⟩
   have hp0:rmZ p v=0:=by
    have h1:=hcv.h (V8 p) Qky;rw[Aa9] at h1;have h2:=hir.h p hp;omega
   obtain⟨a,c,d,ha,hc',hd,hw,e1,e2,e3⟩:=hcv.c
   -- a plane that is turned round gives the same gf5
   have fl:∀{a c d:Pln},mw (V8 a) c d=-mw a c d/\mw c (V8 a) d=-mw c a d/\mw c d (V8 a)=-mw c d a:=λ{a c d}=>by
    refine⟨?_,?_,?_⟩<;>(simp only[mw,dot,d9,V8];grind)
   have hr0:∀{a:Pln},rmZ (V8 a) v=0->rmZ a v=0:=λh=>by rw[Aa9] at h;omega
   have hcn:Cn r v:=by
    refine⟨hir,?_⟩
    rcases Qkc.1 ha with rfl|ha<;>rcases Qkc.1 hc' with rfl|hc'<;>rcases Qkc.1 hd with rfl|hd
    ·exact absurd (by simp only[mw,dot,d9];grind) hw
    ·exact absurd (by simp only[mw,dot,d9];grind) hw
    ·exact absurd (by simp only[mw,dot,d9];grind) hw
    ·exact⟨p,c,d,hp,hc',hd,by have:=(fl (a:=p) (c:=c) (d:=d)).1;omega,hp0,e2,e3⟩
    ·exact absurd (by simp only[mw,dot,d9];grind) hw
    ·exact⟨a,p,d,ha,hp,hd,by have:=(fl (a:=p) (c:=a) (d:=d)).2.1;omega,e1,hp0,e3⟩
    ·exact⟨a,c,p,ha,hc',hp,by have:=(fl (a:=p) (c:=a) (d:=c)).2.2;omega,e1,e2,hp0⟩
    ·exact⟨a,c,d,ha,hc',hd,hw,e1,e2,e3⟩
   obtain⟨x,hx,he⟩:=hc v hcn hp0;have h1:=he.rm (thr n z);rw[hf3 n z x,hv x hx] at h1;have h1:rmZ (thr n z) v*x.pw=0:=by omega
   exact (Qkf.1 h1).resolve_right (by have:=(hl0 x hx).2;omega)
  have a1:=ub4 hbd (h:=thr n z) (λv hv=>by rw[hvx v hv];decide) hiu
  have a2:=ub4 hbd (h:=V8 (thr n z)) (λv hv=>by rw[Aa9,hvx v hv];decide) hiu
  rw[Aa9] at a2;omega
 -- so do all vertices
 have hall:∀v,Inr r v->rmZ (thr n z) v=0:=λv hi=>by
  by_cases hv0:rmZ p v=0
  ·exact hface v hi hv0
  have hvp:0<rmZ p v:=by have:=hi.h p hp;omega
  have hu:Inr r (Pf8 p z v):=by
   have w1:=Qkad hvp hz.w;have w2:rmZ p z*v.pw<0:=Int.mul_neg_of_neg_of_pos hneg hi.w;refine⟨by show 0<rmZ p v*z.pw-rmZ p z*v.pw;omega,λq hq=>?_⟩
   rw[Wd6]
   rcases hr q hq with h|rfl
   ·have b1:=Qkap (Qku hvp) (hz.h q h);have b2:rmZ p z*rmZ q v<=0:=Int.mul_nonpos_of_nonpos_of_nonneg (Qku hneg) (hi.h q hq);omega
   ·have:=Int.mul_comm (rmZ q v) (rmZ q z);omega
  have h1:=hface _ hu (by rw[Wd6];have:=Int.mul_comm (rmZ p v) (rmZ p z);omega)
  rw[Wd6] at h1;have h2:rmZ (thr n z) z=0:=by rw[hf3];simp only[dot,dv];grind
  rw[h2] at h1;have h1:rmZ p z*rmZ (thr n z) v=0:=by omega
  exact (Qkf.1 h1).resolve_left (by omega)
 exact hf5 hb hB hn' hall
end Go.Ev.Ce
namespace Go.Ev.Ce
open Go Go.Ev Go.Ev.L Go.Proofs
theorem Ge3(p:Pln):∀(a:Pln) (l:List Pln),p∈a::ddF a l↔p∈a::l
 |a,[]=>by simp[ddF]
 |a,x::l=>by
  have ih:=Ge3 p x l;unfold ddF;split
  ·rename_i h;rw[Kb0] at h;subst h;rw[ih];simp
  ·simp only[Qkc] at ih ⊢;rw[ih]
theorem hf6(p:Pln):∀l:List Pln,p∈dd l↔p∈l
 |[]=>Iff.rfl
 |x::l=>Ge3 p x l
theorem Ge4:∀(a:Pln) (l:List Pln),(a::l).Pairwise (λx y=>(!ltOf na1 y x)=true)->Za6 (a::ddF a l)
 |a,[],_=>Qkac _ _
 |a,x::l,h=>by
  obtain⟨h1,h2⟩:=Qkah.1 h;have ih:=Ge4 x l h2;have hle:=h1 x Qky;rw[lb0] at hle;have hle:¬ LtP x a:=by simpa using hle
  unfold ddF;split
  ·rename_i he;rw[Kb0] at he;subst he;exact ih
  ·rename_i hne;have hlt:LtP a x:=by
    rcases Fe8 a x with h|h|h
    ·exact h
    ·exact absurd ((Kb0 _ _).2 h.symm) hne
    ·exact absurd h hle
   refine Qkah.2 ⟨λp hp=>?_,ih⟩
   rcases Qkc.1 hp with e|hp'
   ·subst e;exact hlt
   ·exact Rc6 hlt ((Qkah.1 ih).1 p hp')
theorem Pf9(l:List Pln):Za6 (dd (Za4 l)):=by
 have h:=Vd8 l;cases hs:Za4 l with
 |nil=>exact .nil
 |cons a l'=>rw[hs] at h;exact Ge4 a l' h
noncomputable def Ra4(X:List Pt)(out:List Pln)(p:Pln):List Pln:=if keep X p then rb1 out p else out
theorem Jd6(X:List Pt)(p:Pln):∀(c out:List Pln),p∈c.foldl (Ra4 X) out↔p∈out\/p∈c.filter (keep X)
 |[],out=>by simp
 |a::c,out=>by
  rw[List.foldl_cons,Jd6 X p c,List.filter_cons];unfold Ra4;split
  ·rw[Fb1,Qkc];constructor
   ·rintro ((h|h)|h)
    ·exact .inr (.inl h)
    ·exact .inl h
    ·exact .inr (.inr h)
   ·rintro (h|h|h)
    ·exact .inl (.inr h)
    ·exact .inl (.inl h)
    ·exact .inr h
  ·exact Iff.rfl
theorem Jd7(X:List Pt):∀(c out:List Pln),Za6 out->Za6 (c.foldl (Ra4 X) out)
 |[],_,h=>h
 |a::c,out,h=>by
  rw[List.foldl_cons];refine Jd7 X c _ ?_;unfold Ra4;split
  ·exact nc4 a h
  ·exact h
theorem me9(X:List Pt)(c:List Pln):c.foldl (Ra4 X) []=dd (Za4 (c.filter (keep X))) :=
 Jd4 (Jd7 X c [] .nil) (Pf9 _) λp=>by
  rw[Jd6,hf6,(rd0 _).mem_iff];simp
theorem Ge5(x:List Pln)(y:Pln):rb1 x y≠[]:=by
 intro h
 have:=(Fb1 y y x).2 (.inl rfl)
 rw[h] at this;cases this
theorem Fb2(y:Pln):∀x:List Pln,(rb1 x y).length<=x.length+1
 |[]=>Qks _
 |a::l=>by
  have:=Fb2 y l
  unfold rb1;split
  ·simp only[List.length_cons];omega
  ·split<;>simp only[List.length_cons]<;>omega
theorem hf7(x:List Pln)(y:Pln)(hx:x.length<=1000000):zb3 x y=rb1 x y:=(rd6 x y hx).p.trans (xe8 y x)
theorem hf8(x:List Pln)(y:Pln)(hx:x.length<=1000000):zb4 x y=true:=(rd6 x y hx).g
theorem og5(l:List Pt)(p:Pln)(n:Nat):l.foldl (λn x=>if rm p x==0 then n+1 else n) n=n+l.countP λx=>rm p x==0:=by
 induction l generalizing n with
 |nil=>rfl
 |cons x l ih =>
  rw[List.foldl_cons,ih,List.countP_cons]
  split<;>omega
theorem hf9 (c : List Pln) (X : List Pt) (o : List Pln) (hX : X.length ≤ 1000000000) (a φ : Nat) (hφ : φ ≤ 1) (ha : a < c.length) :
  lp (Ua8 ⟨c,X,(a:Int),o⟩) ⟨φ,0,0⟩=(φ+1,⟨φ,(onc X (gL tP c a):Int),(X.length:Int)⟩):=by
 have h:=Fc2 (step:=Ua8 ⟨c,X,(a:Int),o⟩) (mk:=λj (n:Nat)=>(⟨φ,(n:Int),(j:Int)⟩:Q1)) (f:=λn x=>if rm (gL tP c a) x==0 then n+1 else n) (fin:=φ+1) tX X (λj n=>n<=j) hX
  (λj n hj hi=>by
   have hW:W ((n:Int)+1)=((n+1:Nat):Int):=by rw[ka3 (by omega) (by omega)];omega
   refine⟨?_,by show (if rm (gL tP c a) (gL tX X j)==0 then n+1 else n)<=j+1;split<;>omega⟩
   have hb:φ=0\/φ=1:=by omega
   rcases hb with rfl|rfl
   ·show qa5 Stp.next Stp.exit Stp.fail _ _=_;simp only[qa5,Int.toNat_natCast,dd9,hW,n8 hj (show X.length<=4611686018427387904 by omega)]
    rw[btD (f9 hj),bt (e8 hj),bt (e8 ha)];cases rm (gL tP c a) (gL tX X j)==0<;>rfl
   ·show qa6 Stp.next Stp.exit Stp.fail _ _=_;simp only[qa6,Int.toNat_natCast,dd9,hW,n8 hj (show X.length<=4611686018427387904 by omega)]
    rw[btD (f9 hj),bt (e8 hj),bt (e8 ha)];cases rm (gL tP c a) (gL tX X j)==0<;>rfl)
  (λn _=>by
   have hb:φ=0\/φ=1:=by omega
   rcases hb with rfl|rfl
   ·show qa5 Stp.next Stp.exit Stp.fail _ _=_;simp only[qa5];rw[bfD (l7 (Qkg _))]
   ·show qa6 Stp.next Stp.exit Stp.fail _ _=_;simp only[qa6];rw[bfD (l7 (Qkg _))]) 0 (Qkt _) 0 (Qks _)
 have h:=h.1;rw[Qkab,og5,Qkam] at h;exact h
def phP(out:List Pln):Nat:=match out with
 |[]=>0
 |_::_=>1
theorem Qf0(c:List Pln)(X:List Pt)(hc:c.length<=1000000)(hX:X.length<=1000000000):∃t s,lp (nb1 ⟨⟩) ⟨0,c,X,0,[]⟩=(t,s)/\(t=phP (c.foldl (Ra4 X) [])+1/\s.aa8=c.foldl (Ra4 X) []):=by
 refine S3 (step:=nb1 ⟨⟩) (mk:=λj (out:List Pln)=>(⟨phP out,c,X,(j:Int),out⟩:J5)) c.length (λj out=>out.length<=j/\out=(c.take j).foldl (Ra4 X) [])
  (λt s=>t=phP (c.foldl (Ra4 X) [])+1/\s.aa8=c.foldl (Ra4 X) []) (by omega) (λj out hj hi=>?_) (λj out hj hi=>?_) 0 [] ⟨by simp,by simp⟩
 ·obtain⟨i1,i2⟩:=hi;have hl:out.length<=1000000:=by omega
  have hn:=n8 hj (show c.length<=4611686018427387904 by omega)
  have r0:=hf9 c X [] hX j 0 (by omega) hj
  have r1:=hf9 c X out hX j 1 (by omega) hj
  have hk:keep X (gL tP c j)=!decide ((onc X (gL tP c j):Int)<3):=rfl;have hge:decide ((onc X (gL tP c j):Int)>=3)=keep X (gL tP c j):=by
   rw[hk];by_cases h:(onc X (gL tP c j):Int)<3
   ·rw[decide_eq_true h,decide_eq_false (by omega)];rfl
   ·rw[decide_eq_false h,decide_eq_true (by omega)];rfl
  have hnx : ∀ {s : J5}, s = ⟨phP (Ra4 X out (gL tP c j)), c, X, ((j + 1 : Nat) : Int), Ra4 X out (gL tP c j)⟩ → Nx (.next s) (fun t => t = phP (c.foldl (Ra4 X) []) + 1 ∧ (⟨phP out, c, X, (j : Int), out⟩ : J5).aa8 = c.foldl (Ra4 X) [])
    (λs=>∃a',s=(⟨phP a',c,X,((j+1:Nat):Int),a'⟩:J5)/\(a'.length<=j+1/\a'=(c.take (j+1)).foldl (Ra4 X) [])):=λ{s} hs=>by
   refine .nx ⟨_,hs,?_,?_⟩
   ·unfold Ra4;split
    ·have:=Fb2 (gL tP c j) out;omega
    ·omega
   ·rw[ed6 tP hj,List.foldl_append,<- i2];rfl
  cases out with
  |nil =>
   show Nx (qa7 Stp.next Stp.exit Stp.fail ⟨⟩ _) _ _;simp only[qa7,g8,i7,o5,Int.toNat_natCast,r0,hge,hf7 [] _ hl,hf8 [] _ hl,hn];rw[btD (f9 hj),bt (e8 hj)];cases hkk:keep X (gL tP c j) with
   |true=>exact hnx (by unfold Ra4;rw[hkk,if_pos rfl];rfl)
   |false=>exact hnx (by unfold Ra4;rw[hkk];rfl)
  |cons o os =>
   show Nx (qa8 Stp.next Stp.exit Stp.fail ⟨⟩ _) _ _;simp only[qa8,g8,i7,o5,Int.toNat_natCast,r1,hge,hf7 (o::os) _ hl,hf8 (o::os) _ hl,hn];rw[btD (f9 hj),bt (e8 hj),bt (e8 hj)];cases hkk:keep X (gL tP c j) with
   |true =>
    refine hnx ?_;unfold Ra4;rw[hkk,if_pos rfl];have hp:phP (rb1 (o::os) (gL tP c j))=1:=by
     cases h:rb1 (o::os) (gL tP c j) with
     |nil=>exact absurd h (Ge5 _ _)
     |cons _ _=>rfl
    rw[hp]
   |false=>exact hnx (by unfold Ra4;rw[hkk];rfl)
 ·obtain⟨i1,i2⟩:=hi;rw[List.take_of_length_le hj] at i2;cases out with
  |nil =>
   refine⟨1,?_,by rw[<- i2];rfl,i2⟩
   show qa7 Stp.next Stp.exit Stp.fail ⟨⟩ _=_;simp only[qa7];rw[bfD (by show ¬ ((j:Nat):Int)<(c.length:Int);omega)]
  |cons o os =>
   refine⟨2,?_,by rw[<- i2];rfl,i2⟩
   show qa8 Stp.next Stp.exit Stp.fail ⟨⟩ _=_;simp only[qa8];rw[bfD (by show ¬ ((j:Nat):Int)<(c.length:Int);omega)]
theorem ne0(c:List Pln)(hc:c.length<=1000000):Rd (one (r1L tP)) (Fb0 c) (λr=>r=lean c):=by
 have hl:c.length<=1000000000:=by omega
 have hX:=Ud5 c;obtain⟨t,s,h1,h2,h3⟩:=Qf0 c (pts c) hc (by omega)
 unfold Fb0 lean;simp only[g8,o5,i7,Ee1 hl,Ee2 hl,Oe2 hl,Oe3 hl];rw[h1];cases hf:ful c with
 |false=>exact⟨_,[],rfl,rfl,rfl⟩
 |true =>
  simp only[h3];rw[<- me9];subst h2;cases hF:c.foldl (Ra4 (pts c)) [] with
  |nil=>exact⟨_,[],rfl,rfl,rfl⟩
  |cons o os=>exact⟨_,o::os,rfl,uc8 tP (o::os),rfl⟩
theorem zf2(c:List Pln)(hc:c.length<=1000000):Ac9 c=lean c:=(ne0 c hc).p
theorem zf3(c:List Pln)(hc:c.length<=1000000):Bc0 c=true:=(ne0 c hc).g
def zf4(l:List Pln)(p:Pln):Bool:=l.any λq=>eqP q p
theorem ne2(l:List Pln)(p:Pln):zf4 l p=true↔p∈l:=by
 unfold zf4;rw[Qki];exact⟨λ⟨q,h,e⟩=>by rw[Kb0] at e;exact e ▸ h,λh=>⟨p,h,(Kb0 p p).2 rfl⟩⟩
noncomputable def but(r l:List Pln):List Pln:=r.filter λp=>zf4 ws p||!zf4 l p
theorem xb7(r l:List Pln)(p:Pln):p∈but r l↔p∈r/\(p∈ws\/p∉l):=by
 unfold but;rw[Qkp,Bool.or_eq_true,ne2,Bool.not_eq_true',<- Bool.not_eq_true,ne2]
theorem Ge6{c:List Pln}(hb:Bds (c++ws))(hB:Wd5 (c++ws)):∀l:List Pln,(∀p∈l,p∈c/\onc (cor (c++ws)) p<=2)->∀z,Inr (but (c++ws) l) z->Inr (c++ws) z
 |[],_,z,hz=>⟨hz.w,λp hp=>hz.h p ((xb7 _ _ _).2 ⟨hp,.inr (by simp)⟩)⟩
 |a::l,hl,z,hz=>by
  have ih:=Ge6 hb hB l λp hp=>hl p (Qkx _ hp)
  refine ih z ?_;obtain⟨ha,hn⟩:=hl a Qky;have har:a∈c++ws:=Qka _ ha;by_cases h0:a∈ws\/a∈l
  ·refine⟨hz.w,λp hp=>hz.h p ?_⟩
   obtain⟨h1,h2⟩:=(xb7 _ _ _).1 hp;refine (xb7 _ _ _).2 ⟨h1,?_⟩
   rcases h2 with h2|h2
   ·exact .inl h2
   ·by_cases hpa:p=a
    ·subst hpa
     rcases h0 with h0|h0
     ·exact .inl h0
     ·exact absurd h0 h2
    ·exact .inr λh=>(Qkc.1 h).elim hpa h2
  ·have hw:a∉ws:=λh=>h0 (.inl h)
   have hal:a∉l:=λh=>h0 (.inr h)
   have sub:∀p∈but (c++ws) l,p∈c++ws:=λp hp=>((xb7 _ _ _).1 hp).1
   refine bg9 (r:=but (c++ws) l) (r':=but (c++ws) (a::l)) (p:=a) ?_ ?_ ((xb7 _ _ _).2 ⟨har,.inr hal⟩) ?_ ((cor (c++ws)).filter λx=>rm a x==0) ?_ ?_ ?_ hz
   ·intro d hd;obtain⟨p,hp,h⟩:=Rc7 [] d hd;exact⟨p,(xb7 _ _ _).2 ⟨Qkd _ hp,.inl hp⟩,h⟩
   ·obtain⟨x,h1,h2⟩:=hB;exact⟨x,h1,λp hp=>h2 p (sub p hp)⟩
   ·intro q hq;obtain⟨h1,h2⟩:=(xb7 _ _ _).1 hq;by_cases hqa:q=a
    ·exact .inr hqa
    ·exact .inl ((xb7 _ _ _).2 ⟨h1,h2.elim .inl λh=>.inr λh'=>(Qkc.1 h').elim hqa h⟩)
   ·rw[<- List.countP_eq_length_filter];exact hn
   ·intro v hv;obtain⟨h1,h2⟩:=Qkp.1 hv;have hx:=Ic8 hb v h1;rw[me5 (hb a har) hx] at h2;exact⟨by simpa using h2,hx.w1⟩
   ·intro v hv h0;have hv':Cn (c++ws) v:=zf1 sub hv (ih v hv.toInr);obtain⟨x,hx,he⟩:=hf0 hb hv';have hok:=Ic8 hb x hx;refine⟨x,Qkp.2 ⟨hx,?_⟩,he⟩;rw[me5 (hb a har) hok];have h1:=he.rm a;rw[h0,Int.zero_mul] at h1
    have:=(Qkf.1 h1).resolve_right (by have:=hv.w;omega)
    simpa using this
theorem rd9{c:List Pln}(hf:ful c=true):(chk c==0)=true/\Bds (c++ws)/\Wd5 (c++ws):=by
 unfold ful at hf;rw[Qkk] at hf;have hb:=(mb7 hf.1).1;exact⟨hf.1,hb,(Tb3 hb (Rc7 c) (by simp[ws])).1 hf.2⟩
theorem ne3{c:List Pln}(hf:ful c=true)(p:Pln):p∈lean c↔p∈c/\keep (pts c) p=true:=by
 unfold lean;rw[if_pos hf,hf6,(rd0 _).mem_iff,Qkp]
theorem eb8(c:List Pln):(lean c).length<=c.length:=by
 unfold lean;split
 ·have h1 : (dd (Za4 (c.filter (keep (pts c))))).length ≤ (Za4 (c.filter (keep (pts c)))).length := by
   cases Za4 (c.filter (keep (pts c))) with
   |nil=>exact Qks _
   |cons a l=>have:=Fe6 a l;simp only[dd,List.length_cons];omega
  rw[rc6] at h1
  have:=List.length_filter_le (keep (pts c)) c
  omega
 ·exact Qkt _
def ipt(v:V3):Pt:=⟨v.x,v.y,v.z,1⟩
theorem Wd7{v:V3}(h:inV v=true):Okx (ipt v):=by
 obtain⟨h1,h2,h3⟩:=(xb0 v).1 h;exact⟨Int.one_pos,by show (1:Int)<=_;omega,h1.mono (by omega),h2.mono (by omega),h3.mono (by omega)⟩
theorem xe9{v:V3}(h:inV v=true):∀p∈ws,0<=rmZ p (ipt v):=by
 obtain⟨⟨a1,a2⟩,⟨a3,a4⟩,a5,a6⟩:=(xb0 v).1 h;intro p hp;simp only[ws,Qkc,Qkw,or_false] at hp
 rcases hp with rfl|rfl|rfl|rfl|rfl|rfl<;>simp only[rmZ,ipt]<;>omega
theorem Ge7{c:List Pln}{x:Pt}(hb:∀p∈c,Bd p)(hx:Okx x):inn c x=true↔∀p∈c,0<=rmZ p x:=by
 unfold inn;rw[Qkh];refine⟨λh p hp=>?_,λh p hp=>?_⟩
 ·have:=h p hp
  rw[me5 (hb p hp) hx] at this;simpa using this
 ·rw[me5 (hb p hp) hx];simpa using h p hp
def eb9(p:Pln)(v:V3):Int:=if okp p&&inV v then (if dot p.n v-p.b<0 then -1 else if dot p.n v-p.b>0 then 1 else 0) else 0
theorem if0{p:Pln}{v:V3}(hp:Bd p)(hv:inV v=true):Sm 331776 (dot p.n v):=by
 obtain⟨⟨a1,a2⟩,⟨a3,a4⟩,a5,a6⟩:=(xb0 v).1 hv;have r1:=mb hp.x1 hp.x2 a1 a2;have r2:=mb hp.y1 hp.y2 a3 a4;have r3:=mb hp.z1 hp.z2 a5 a6;unfold Sm dot;omega
theorem zf5(p:Pln)(v:V3):Ya1 p v=some (i (eb9 p v),[]):=by
 unfold Ya1 eb9;simp only[ie0,nd3,Ee5,ke7];cases hp:okp p with
 |false=>rfl
 |true =>
  cases hv:inV v with
  |false=>rfl
  |true =>
   have hb:=Nb8 hp;have hd:=if0 hb hv;have e:Ga1 p.n v=dot p.n v:=by
    unfold Ga1;simp only[sb1,Vb4];exact Ja0 (hd.mono (by omega))
   have e2:W (dot p.n v-p.b)=dot p.n v-p.b:=ka3 (by have:=hd.1;have:=hb.b2;omega) (by have:=hd.2;have:=hb.b1;omega)
   rw[e,e2];by_cases h1:dot p.n v-p.b<0
   ·simp only[Qkr,if_true,h1,decide_true];rfl
   ·by_cases h2:dot p.n v-p.b>0
    ·simp only[Qkr,if_true,h1,h2,decide_true,decide_false,if_false];rfl
    ·simp only[Qkr,if_true,h1,h2,decide_false,if_false];rfl
theorem if1(p:Pln)(v:V3):kb5 p v=eb9 p v:=by unfold kb5;rw[zf5];rfl
theorem sd0{p:Pln}{v:V3}(hp:okp p=true)(hv:inV v=true):eb9 p v>0↔dot p.n v>p.b:=by
 unfold eb9;rw[hp,hv];simp only[Qkr,if_true];split
 ·omega
 ·split<;>omega
theorem Jd8{p:Pln}{v:V3}(hp:okp p=true)(hv:inV v=true):eb9 p v=0↔dot p.n v=p.b:=by
 unfold eb9;rw[hp,hv];simp only[Qkr,if_true];split
 ·omega
 ·split<;>omega
theorem Qf1(v:V3):g3 v∣v.x/\g3 v∣v.y/\g3 v∣v.z:=by
 unfold g3;refine⟨?_,?_,?_⟩<;>rw[<- Qkaa]<;>apply Qkn.2
 ·exact Qkq (Qkj _ _) (Qkj _ _)
 ·exact Qkq (Qkj _ _) (Qkl _ _)
 ·exact Qkl _ _
theorem Qf2(v:V3)(h:g3 v≠0):g3 ⟨Int.tdiv v.x (g3 v),Int.tdiv v.y (g3 v),Int.tdiv v.z (g3 v)⟩=1:=by
 generalize hg:g3 v=g at *
 have h0:0<=g:=hg ▸ Rc0 v;obtain⟨n,rfl⟩:∃n:Nat,g=n:=⟨g.toNat,by omega⟩
 have hn:0<n:=by omega
 have hgn:Nat.gcd (Nat.gcd v.x.natAbs v.y.natAbs) v.z.natAbs=n:=by unfold g3 at hg;omega
 have d1:n∣Nat.gcd v.x.natAbs v.y.natAbs:=hgn ▸ Qkj _ _;have d3:n∣v.z.natAbs:=hgn ▸ Qkl _ _;have d4:n∣v.x.natAbs:=Qkq d1 (Qkj _ _);have d5:n∣v.y.natAbs:=Qkq d1 (Qkl _ _);unfold g3;simp only[Int.natAbs_tdiv,Int.natAbs_natCast];show ((Nat.gcd (Nat.gcd (v.x.natAbs / n) (v.y.natAbs / n)) (v.z.natAbs / n):Nat):Int)=1;rw[Nat.gcd_div d4 d5,Nat.gcd_div d1 d3,hgn,Nat.div_self hn];rfl
structure Thr(a b c:V3)(p:Pln):Prop where
 ok:okp p=true
 k:∃g:Int,0<g/\g*p.n.x=(d9 (sub b a) (sub c a)).x/\g*p.n.y=(d9 (sub b a) (sub c a)).y/\g*p.n.z=(d9 (sub b a) (sub c a)).z
 o:p.b=dot p.n a
theorem Kb3{a b c:V3}(h:(Fa2 a b c).2=true):(inV a=true/\inV b=true/\inV c=true)/\Thr a b c (Fa2 a b c).1:=by
 unfold Fa2 at h ⊢;cases ha:inV a with
 |false=>rw[ha] at h;cases h
 |true =>
  cases hb:inV b with
  |false=>rw[ha,hb] at h;cases h
  |true =>
   cases hc:inV c with
   |false=>rw[ha,hb,hc] at h;cases h
   |true =>
    rw[ha,hb,hc] at h;simp only[Qkr,if_true] at h ⊢;obtain⟨_,k1,k2,k3⟩:=vc4 ha hb hc;generalize hn:d9 (sub b a) (sub c a)=n at *
    by_cases h0:g3 n=0
    ·rw[if_pos h0] at h;cases h
    ·rw[if_neg h0];have hp:=Rc0 n;obtain⟨d1,d2,d3⟩:=Qf1 n;have q1:=L3 (g:=g3 n) k1 (by omega)
     have q2:=L3 (g:=g3 n) k2 (by omega)
     have q3:=L3 (g:=g3 n) k3 (by omega)
     refine⟨⟨trivial,trivial,trivial⟩,⟨?_,⟨g3 n,by omega,by rw[hn];exact Qkv d1,by rw[hn];exact Qkv d2,by rw[hn];exact Qkv d3⟩,rfl⟩⟩
     obtain⟨⟨a1,a2⟩,⟨a3,a4⟩,a5,a6⟩:=(xb0 a).1 ha;have r1:=mb q1.1 q1.2 a1 a2;have r2:=mb q2.1 q2.2 a3 a4;have r3:=mb q3.1 q3.2 a5 a6;unfold okp;rw[Qf2 n h0];simp only[List.all_cons,List.all_nil,Qkae,Qkk,wb8,beq_self_eq_true,true_and,and_true];refine⟨⟨q1,q2,q3⟩,?_⟩;unfold Sm dot
     simp only
     omega
theorem zf6(a b c:V3):Bd (Fa2 a b c).1:=by
 cases h:(Fa2 a b c).2 with
 |true=>exact Nb8 (Kb3 h).2.ok
 |false =>
  have:(Fa2 a b c).1=⟨⟨0,0,0⟩,0⟩:=by
   unfold Fa2 at h ⊢;split
   ·rename_i hc;rw[if_pos hc] at h;split
    ·rfl
    ·rename_i h0;rw[if_neg h0] at h;cases h
   ·rfl
  rw[this]
  constructor<;>simp
theorem if2{p:Pln}(h:Bd p):kb4 p=V8 p:=by
 unfold kb4 Oa7 V8
 simp only
 have:=h.x1;have:=h.x2;have:=h.y1;have:=h.y2;have:=h.z1;have:=h.z2;have:=h.b1;have:=h.b2
 rw[ka3 (by omega) (by omega),ka3 (by omega) (by omega),ka3 (by omega) (by omega),ka3 (by omega) (by omega)]
 simp only[Int.zero_sub]
theorem Kc2{p:Pln}(h:okp p=true):okp (V8 p)=true:=by
 unfold okp V8 g3 at *
 simp only[List.all_cons,List.all_nil,Qkae,Qkk,wb8,Int.natAbs_neg] at h ⊢;obtain⟨⟨h1,h2,h3⟩,h4,h5⟩:=h;exact⟨⟨h1.neg,h2.neg,h3.neg⟩,h4,h5.neg⟩
noncomputable def if3(l:List V3)(p:Pln):Bool:=l.any λv=>eb9 p v != 0
noncomputable def nf(l:List V3)(a c k:Nat):Bool:=(Fa2 (gL tV l a) (gL tV l c) (gL tV l k)).2&&if3 l (Fa2 (gL tV l a) (gL tV l c) (gL tV l k)).1
noncomputable def nf2(l:List V3)(a c:Nat):Bool:=(List.range c).any (nf l a c)
noncomputable def nf1(l:List V3)(a:Nat):Bool:=(List.range a).any (nf2 l a)
noncomputable def nf0(l:List V3):Bool:=(List.range l.length).any (nf1 l)
theorem ye0 {σ : Type} {step : σ → Stp σ} {mk : Nat → σ} (n : Nat) (c : Nat → Bool) (u fin : Nat) (hn : n ≤ 1000000000) (h : ∀ j, j < n → step (mk j) = sl (c j) (.exit u) (.next (mk (j + 1)))) (hf : step (mk n) = .exit fin) :
  ∃j,lp step (mk 0)=(if (List.range n).any c then u else fin,mk j):=by
 have key:=S3 (step:=step) (mk:=λj (_:Unit)=>mk j) n (λj _=>j<=n/\∀i,i<j->c i=false) (λt s=>t=(if (List.range n).any c then u else fin)/\∃j,s=mk j) hn
  (λj _ hj hi=>by
   rw[h j hj];refine Nx.sl (λhc=>.ex ⟨?_,j,rfl⟩) (λhc=>.nx ⟨(),rfl,by omega,λi hi'=>?_⟩)
   ·rw[if_pos (Qki.2 ⟨j,Qko.2 hj,hc⟩)]
   ·by_cases e:i=j
    ·rw[e];exact hc
    ·exact hi.2 i (by omega))
  (λj _ hj hi=>by
   have e:j=n:=by omega
   subst e;refine⟨fin,hf,?_,j,rfl⟩;rw[if_neg λhh=>?_]
   obtain⟨i,hi1,hi2⟩:=Qki.1 hh;rw[hi.2 i (Qko.1 hi1)] at hi2;cases hi2) 0 () ⟨by omega,by omega⟩
 obtain⟨t,s,h1,rfl,j,rfl⟩:=key;exact⟨j,h1⟩
theorem if4(l:List V3)(x1 x2 x3:Int)(okb:Bool)(p:Pln)(hl:l.length<=1000000000):∃t s,lp (E8 ⟨l,x1,x2,x3,okb,p.n.x,p.n.y,p.n.z,p.b⟩) ⟨0⟩=(t,s)/\(((okb&&if3 l p)=true/\t=1)\/((okb&&if3 l p)=false/\(t=2\/t=3))):=by
 cases okb with
 |false =>
  cases l with
  |nil =>
   refine⟨3,⟨0⟩,?_,.inr ⟨rfl,.inr rfl⟩⟩;exact Kc0 (step:=E8 ⟨[],x1,x2,x3,false,p.n.x,p.n.y,p.n.z,p.b⟩) rfl
  |cons v l =>
   refine⟨2,⟨0⟩,?_,.inr ⟨rfl,.inl rfl⟩⟩;refine Kc0 (step:=E8 ⟨v::l,x1,x2,x3,false,p.n.x,p.n.y,p.n.z,p.b⟩) ?_;simp only[E8,ha5];rw[btD (by simp only[List.length_cons];omega)]
   rfl
 |true =>
  have h:=Xa3 (step:=E8 ⟨l,x1,x2,x3,true,p.n.x,p.n.y,p.n.z,p.b⟩) (mk:=λj=>(⟨(j:Int)⟩:ma1)) (c:=λv=>eb9 p v != 0) (u:=1) (fin:=3) tV l hl
   (λj hj=>by
    simp only[E8,ha5,Ud6,if1,Int.toNat_natCast,n8 hj (show l.length<=4611686018427387904 by omega)]
    rw[btD (f9 hj),bt (e8 hj)]
    rfl)
   (by simp only[E8,ha5];rw[bfD (l7 (Qkg _))]) 0 (Qkt _)
  rw[Qkab] at h;have h:(lp (E8 ⟨l,x1,x2,x3,true,p.n.x,p.n.y,p.n.z,p.b⟩) ⟨0⟩).1=_:=h;cases hlp:lp (E8 ⟨l,x1,x2,x3,true,p.n.x,p.n.y,p.n.z,p.b⟩) ⟨0⟩ with
  |mk t s =>
  rw[hlp] at h;refine⟨t,s,rfl,?_⟩
  simp only at h
  rw[h];unfold if3;cases hh:l.any λv=>eb9 p v != 0 with
  |true=>exact .inl ⟨rfl,rfl⟩
  |false=>exact .inr ⟨rfl,.inr rfl⟩
theorem if5(l:List V3)(hl:l.length<=1000000000)(a c:Nat)(ha:a<l.length)(hc:c<a):∃j,lp (X8 ⟨(a:Int),(c:Int)⟩) ⟨l,0⟩=(if nf2 l a c then 1 else 2,⟨l,((j:Nat):Int)⟩) :=
 ye0 (step:=X8 ⟨(a:Int),(c:Int)⟩) (mk:=λj=>(⟨l,(j:Int)⟩:ma2)) c (nf l a c) 1 2 (by omega)
  (λj hj=>by
   simp only[X8,pa8,Sb3,Za2,Int.toNat_natCast,g8,i7,n8 hj (show c<=4611686018427387904 by omega)]
   rw[btD (f9 hj),bt (e8 ha),bt (e8 (show c<l.length by omega)),bt (e8 (show j<l.length by omega)),g7]
   obtain⟨t,s,h1,h2⟩:=if4 l (a:Int) (c:Int) (j:Int) (Fa2 (gL tV l a) (gL tV l c) (gL tV l j)).2 (Fa2 (gL tV l a) (gL tV l c) (gL tV l j)).1 hl;rw[h1];unfold nf
   rcases h2 with⟨e,rfl⟩|⟨e,rfl|rfl⟩<;>rw[e]<;>rfl)
  (by simp only[X8,pa8];rw[bfD (l7 (Qkg _))])
theorem if6(l:List V3)(hl:l.length<=1000000000)(a:Nat)(ha:a<l.length):∃j,lp (X9 ⟨(a:Int)⟩) ⟨l,0⟩=(if nf1 l a then 1 else 2,⟨l,((j:Nat):Int)⟩) :=
 ye0 (step:=X9 ⟨(a:Int)⟩) (mk:=λj=>(⟨l,(j:Int)⟩:ma3)) a (nf2 l a) 1 2 (by omega)
  (λj hj=>by
   obtain⟨j',h1⟩:=if5 l hl a j ha hj;simp only[X9,pa9,g8,i7,n8 hj (show a<=4611686018427387904 by omega)]
   rw[btD (f9 hj),h1];cases nf2 l a j<;>rfl)
  (by simp only[X9,pa9];rw[bfD (l7 (Qkg _))])
theorem zf7(l:List V3)(hl:l.length<=1000000000):Ya2 l=some (b (!nf0 l),[]):=by
 obtain⟨j,h⟩:=ye0 (step:=Y0 ⟨⟩) (mk:=λj=>(⟨l,(j:Int)⟩:ma4)) l.length (nf1 l) 1 2 hl
  (λj hj=>by
   obtain⟨j',h1⟩:=if6 l hl j hj;simp only[Y0,qa0,g8,i7,n8 hj (show l.length<=4611686018427387904 by omega)]
   rw[btD (f9 hj),h1];cases nf1 l j<;>rfl)
  (by simp only[Y0,qa0];rw[bfD (l7 (Qkg _))])
 have h:lp (Y0 ⟨⟩) ⟨l,0⟩=(if nf0 l then 1 else 2,⟨l,((j:Nat):Int)⟩):=h
 unfold Ya2;simp only[g8,i7];rw[h];cases nf0 l<;>rfl
theorem Qf3(l:List V3)(hl:l.length<=1000000000):Ya3 l=!nf0 l:=by unfold Ya3;rw[zf7 l hl];rfl
noncomputable def Rc8(l:List V3):Int:=if (l.length:Int)>48 then 2 else if l.all inV then (if nf0 l then 0 else 11) else 3
theorem ye1(l:List V3)(hl:l.length<=1000000000):La5 l=some (i (Rc8 l),[]):=by
 have h:=Xa3 (step:=ha6 ⟨l⟩) (mk:=λj=>(⟨(j:Int)⟩:T0)) (c:=λv=>!inV v) (u:=1) (fin:=2) tV l hl
  (λj hj=>by
   simp only[ha6,ja6,Int.toNat_natCast,Ee5,ke7,n8 hj (show l.length<=4611686018427387904 by omega)]
   rw[btD (f9 hj),bt (e8 hj),g7])
  (by simp only[ha6,ja6];rw[bfD (l7 (Qkg _))]) 0 (Qkt _)
 rw[Qkab] at h;have e:(l.any λv=>!inV v)=!l.all inV:=by rw[List.not_all_eq_any_not]
 unfold La5 Rc8;simp only[g8,i7,o5,xe0 l hl,Qf3 l hl];rw[show (⟨0⟩:T0)=⟨((0:Nat):Int)⟩ from rfl,h,e]
 by_cases h48:(l.length:Int)>48
 ·rw[if_pos h48,btD h48]
 ·rw[if_neg h48,bfD h48];cases l.all inV with
  |false=>rfl
  |true=>cases nf0 l<;>rfl
theorem Pe0(l:List V3)(hl:l.length<=1000000000):qb5 l=Rc8 l:=by unfold qb5;rw[ye1 l hl];rfl
def hold(p:Pln)(l:List V3):Bool:=!l.any λv=>decide (eb9 p v>0)
theorem if7(p:Pln)(l:List V3)(hl:l.length<=1000000000):La6 p l=some (b (hold p l),[]):=by
 have h:=Xa3 (step:=ha7 ⟨l,p.n.x,p.n.y,p.n.z,p.b⟩) (mk:=λj=>(⟨(j:Int)⟩:T1)) (c:=λv=>decide (eb9 p v>0)) (u:=1) (fin:=2) tV l hl
  (λj hj=>by
   simp only[ha7,ja7,Int.toNat_natCast,if1,Ud6,n8 hj (show l.length<=4611686018427387904 by omega)]
   rw[btD (f9 hj),bt (e8 hj),g7])
  (by simp only[ha7,ja7];rw[bfD (l7 (Qkg _))]) 0 (Qkt _)
 rw[Qkab] at h;unfold La6 hold;simp only[g8,i7];rw[show (⟨0⟩:T1)=⟨((0:Nat):Int)⟩ from rfl,h]
 cases l.any λv=>decide (eb9 p v>0)<;>rfl
theorem zf8(p:Pln)(l:List V3)(hl:l.length<=1000000000):Ca0 p l=hold p l:=by unfold Ca0;rw[if7 p l hl];rfl
theorem ye2 (x:List Pln) (y:Pln) (hx:x.length≤1000000):Rd (one (r1L tP)) (kb7 x y) (fun r=>r=ins x y):=by
  have h:=Va6 (step:=ga0 ⟨x,y.n.x,y.n.y,y.n.z,y.b⟩) (mk:=fun j=>(⟨(j:Int)⟩:ha8)) (c:=fun p=>!decide (na1 p y < 0)) (u:=1) (fin:=2) tP x (by omega)
    (fun j hj=>by
      simp only[ga0,xa1,Int.toNat_natCast,xe2,gf1,n8 hj (show x.length<=4611686018427387904 by omega)]
      rw[btD (f9 hj),bt (e8 hj),g7];show sl (decide (na1 (gL tP x j) y<0)) _ _=_;cases decide (na1 (gL tP x j) y<0)<;>rfl)
    (by simp only[ga0,xa1];rw[bfD (l7 (Qkg _))]) 0 (Qkt _)
  rw[Qkab] at h
  have key:∃ t,lp (ga0 ⟨x,y.n.x,y.n.y,y.n.z,y.b⟩) ⟨0⟩=(t,⟨((atP x y:Nat):Int)⟩)∧(t=1∨t=2):=by
    rw[show (⟨0⟩:ha8)=⟨((0:Nat):Int)⟩ from rfl,h]
    split
    · exact⟨1,by rw[Qkam];rfl,.inl rfl⟩
    · rename_i hn
      refine⟨2,?_,.inr rfl⟩
      have:atP x y=x.length:=by
        unfold atP;rw[List.findIdx_eq_length];intro p hp;cases hb:(!decide (na1 p y<0)) with
        |false=>rfl
        |true=>exact absurd (Qki.2 ⟨p,hp,hb⟩) hn
      rw[this]
  obtain⟨t,h1,h2⟩:=key;have h3:atP x y<=x.length:=List.findIdx_le_length;have hdef:ins x y=if (atP x y<x.length/\eqP (gL tP x (atP x y)) y=true) then x else qb7 x y (atP x y):=rfl
  generalize atP x y=n at *
  have hlo:inB (n:Int) (x.length+1)=true:=e8 (by omega)
  have hd:(bL tP (x.take n)).length=n:=by rw[<- o0,U9,Qkan];omega
  have hlen:(qb7 x y n).length=x.length+1:=by unfold qb7;simp only[Qkz,List.length_cons,Qkan,List.length_drop];omega
  have lt:len (bL tP (x.take n))=n:=by rw[o0];exact hd
  have ld:len (bL tP (x.drop n))=x.length-n:=by rw[U9,List.length_drop]
  have b1:(Nat.beq 1 1&&Nat.ble ((1+(x.length-n))*32) room)=true:=by rw[fa4 (by omega)];rfl
  have b2:(Nat.beq 0 0&&Nat.ble ((0+n)*32) room)=true:=by rw[fa4 (by omega)];rfl
  have e0:app [] (bL tP (x.take n))=bL tP (x.take n):=rfl;have b3:(Nat.beq (0+n) n&&Nat.ble (((0+n)+1)*32) room)=true:=by rw[fa4 (by omega),Qkam,Nat.beq_refl];rfl
  have l3:len (bL tP (x.take n++[y]))=n+1:=by rw[U9,Qkz,Qkan];simp only[List.length_singleton];omega
  have b4:(Nat.beq ((0+n)+1) (n+1)&&Nat.ble ((((0+n)+1)+(x.length-n))*32) room)=true:=by rw[fa4 (by omega),Qkam,Nat.beq_refl];rfl
  have z0:∀{k:Nat},Nat.beq k 0=true->k=0:=λ{k} h=>Nat.eq_of_beq_eq_true h
  have fin:ins x y=qb7 x y n→∀ m r,m=x.length+1→r=bL tP (qb7 x y n)→Rd (one (r1L tP)) (some (.sl 0 0 m 0,[⟨73,4,r,true,false,0⟩])) (fun r=>r=ins x y) :=
    λhq m r hm hr=>Ud7 (by rw[hlen];exact hm) hr hq.symm
  have tail : ins x y = qb7 x y n → Rd (one (r1L tP)) (sl (Nat.beq n 0) (sl (Nat.beq (x.length - n) 0) (some ((.sl 0 0 1 0), [⟨73, 4, [[(i y.n.x), (i y.n.y), (i y.n.z), (i y.b)]], true, false, 0⟩]))
      (some ((.sl 0 0 (1+(x.length-n)) 0),[⟨73,4,(app [[(i y.n.x),(i y.n.y),(i y.n.z),(i y.b)]] (bL tP (x.drop n))),true,false,0⟩])))
      (sl (Nat.beq (x.length - n) 0) (some ((.sl 0 0 ((0+n)+1) 0),[⟨73,4,bL tP (x.take n++[y]),true,false,0⟩]))
        (some ((.sl 0 0 (((0+n)+1)+(x.length-n)) 0),[⟨73,4,(app (bL tP (x.take n++[y])) (bL tP (x.drop n))),true,false,0⟩])))) (λr=>r=ins x y):=λhq=>by
    refine Rd.sl (λq1=>Rd.sl (λq2=>?_) (λq2=>?_)) (λq1=>Rd.sl (λq2=>?_) (λq2=>?_))
    · have:=z0 q1;have:=z0 q2
      refine fin hq _ _ (by omega) ?_
      have:x=[]:=List.eq_nil_of_length_eq_zero (by omega)
      subst this;rw[show n=0 by omega];rfl
    · have:=z0 q1;subst this
      exact fin hq _ _ (by omega) rfl
    · have:=z0 q2
      refine fin hq _ _ (by omega) ?_
      unfold qb7;rw[show x.drop n=[] from List.drop_eq_nil_of_le (by omega)]
    · refine fin hq _ _ (by omega) ?_
      rw[Xa2];unfold qb7;rw[List.append_assoc];rfl
  unfold kb7;simp only[g8,i7];rw[h1];simp only[Int.toNat_natCast,Ac4 x n h3,Ac5,lt,ld,b1,b2,e0,b3,Ic9,l3,b4,hlo,g7]
  have main : Rd (one (r1L tP)) (sl (decide ((n : Int) < (x.length : Int))) (sl (inB (n : Int) x.length) (sl (((gL tP x n).n.x == y.n.x) && (((gL tP x n).n.y == y.n.y) && (((gL tP x n).n.z == y.n.z) && (((gL tP x n).b == y.b) && true)))) (some (eL tP x, []))
      (sl (Nat.beq n 0) (sl (Nat.beq (x.length-n) 0) (some (.sl 0 0 1 0,[⟨73,4,[[i y.n.x,i y.n.y,i y.n.z,i y.b]],true,false,0⟩]))
      (some ((.sl 0 0 (1+(x.length-n)) 0),[⟨73,4,(app [[(i y.n.x),(i y.n.y),(i y.n.z),(i y.b)]] (bL tP (x.drop n))),true,false,0⟩])))
      (sl (Nat.beq (x.length - n) 0) (some ((.sl 0 0 ((0+n)+1) 0),[⟨73,4,bL tP (x.take n++[y]),true,false,0⟩]))
        (some ((.sl 0 0 (((0+n)+1)+(x.length-n)) 0),[⟨73,4,(app (bL tP (x.take n++[y])) (bL tP (x.drop n))),true,false,0⟩]))))) none)
      (sl (Nat.beq n 0) (sl (Nat.beq (x.length-n) 0) (some (.sl 0 0 1 0,[⟨73,4,[[i y.n.x,i y.n.y,i y.n.z,i y.b]],true,false,0⟩]))
      (some ((.sl 0 0 (1+(x.length-n)) 0),[⟨73,4,(app [[(i y.n.x),(i y.n.y),(i y.n.z),(i y.b)]] (bL tP (x.drop n))),true,false,0⟩])))
      (sl (Nat.beq (x.length - n) 0) (some ((.sl 0 0 ((0+n)+1) 0),[⟨73,4,bL tP (x.take n++[y]),true,false,0⟩]))
        (some ((.sl 0 0 (((0+n)+1)+(x.length-n)) 0),[⟨73,4,(app (bL tP (x.take n++[y])) (bL tP (x.drop n))),true,false,0⟩]))))) (λr=>r=ins x y):=by
    by_cases hn:n<x.length
    · rw[btD (f9 hn),bt (e8 hn)]
      exact Rd.sl (fun q=>⟨_,x,rfl,uc8 tP x,by rw[hdef,if_pos ⟨hn,q⟩]⟩) fun q=>tail (by
        rw[hdef,if_neg λh=>?_]
        have h:=h.2;rw[show eqP (gL tP x n) y=false from q] at h
        cases h)
    · rw[bfD (l7 hn)]
      exact tail (by rw[hdef,if_neg λh=>hn h.1])
  rcases h2 with rfl|rfl
  · exact main
  · exact main
theorem if8(x:List Pln)(y:Pln)(hx:x.length<=1000000):I9 x y=rb1 x y:=(ye2 x y hx).p.trans (xe8 y x)
noncomputable def Kb4 (l:List V3) (a c:Nat) (out:List Pln) (k:Nat):List Pln :=
  if (Fa2 (gL tV l a) (gL tV l c) (gL tV l k)).2 then
    (if hold (V8 (Fa2 (gL tV l a) (gL tV l c) (gL tV l k)).1) l then rb1 (if hold (Fa2 (gL tV l a) (gL tV l c) (gL tV l k)).1 l then rb1 out (Fa2 (gL tV l a) (gL tV l c) (gL tV l k)).1 else out) (V8 (Fa2 (gL tV l a) (gL tV l c) (gL tV l k)).1)
     else (if hold (Fa2 (gL tV l a) (gL tV l c) (gL tV l k)).1 l then rb1 out (Fa2 (gL tV l a) (gL tV l c) (gL tV l k)).1 else out))
  else out
noncomputable def F2(l:List V3)(a:Nat)(out:List Pln)(c:Nat):List Pln:=(List.range c).foldl (Kb4 l a c) out
noncomputable def F1(l:List V3)(out:List Pln)(a:Nat):List Pln:=(List.range a).foldl (F2 l a) out
noncomputable def F0(l:List V3):List Pln:=(List.range l.length).foldl (F1 l) []
theorem rc7 (x:List Pln) (y:Pln):phP (rb1 x y)=1:=by
  cases h:rb1 x y with
  |nil=>exact absurd h (Ge5 _ _)
  |cons _ _=>rfl
theorem Rc9 (l:List V3) (a c:Nat) (out:List Pln) (k:Nat):(Kb4 l a c out k).length≤out.length+2:=by
  unfold Kb4;split
  · split
    · refine Nat.le_trans (Fb2 _ _) ?_
      split
      · have:=Fb2 (Fa2 (gL tV l a) (gL tV l c) (gL tV l k)).1 out;omega
      · omega
    · split
      · have:=Fb2 (Fa2 (gL tV l a) (gL tV l c) (gL tV l k)).1 out;omega
      · omega
  · omega
theorem Q4 {τ:Type} (f:τ→Nat→τ) (a:τ) (n:Nat):(List.range (n+1)).foldl f a=f ((List.range n).foldl f a) n:=by
  rw[List.range_succ,List.foldl_append];rfl
theorem Kc3 {f:List Pln→Nat→List Pln} {m:Nat} (h:∀ o k,(f o k).length≤o.length+m) (o:List Pln):∀ n,((List.range n).foldl f o).length≤o.length+m*n
  |0=>Qks _
  | n+1=>by
    rw[Q4];have h1:=h ((List.range n).foldl f o) n;have h2:=Kc3 h o n;rw[Nat.mul_succ];omega
theorem cg0 (l : List V3) (hl : l.length ≤ 48) (a c : Nat) (ha : a < l.length) (hc : c < a) (out : List Pln) (ho : out.length ≤ 900000) :
    ∃j,lp (Z7 ⟨l,(a:Int),(c:Int)⟩) ⟨phP out,0,out⟩=(phP (F2 l a out c)+1,⟨phP (F2 l a out c),((j:Nat):Int),F2 l a out c⟩):=by
  have key:=S3 (step:=Z7 ⟨l,(a:Int),(c:Int)⟩) (mk:=fun j (o:List Pln)=>(⟨phP o,(j:Int),o⟩:A6)) c (fun j o=>j≤c∧o=(List.range j).foldl (Kb4 l a c) out) (fun t s=>t=phP (F2 l a out c)+1∧∃ j:Nat,s=⟨phP (F2 l a out c),(j:Int),F2 l a out c⟩) (by omega)
    (fun j o hj hi=>by
      obtain⟨_,hi⟩:=hi
      have hlen:o.length≤990000:=by
        rw[hi]
        have:=Kc3 (Rc9 l a c) out j
        omega
      have hn:=n8 hj (show c<=4611686018427387904 by omega)
      have hh:∀p,oa0 p l=true:=λp=>Ee7 p l (by omega)
      have hp:∀p,Ca0 p l=hold p l:=λp=>zf8 p l (by omega)
      have hg1:∀y,ta2 o y=true:=λy=>Ee8 o y (by omega)
      have hq1:∀y,I9 o y=rb1 o y:=λy=>if8 o y (by omega)
      have hg2:∀y z,ta2 (rb1 o y) z=true:=λy z=>Ee8 _ z (by have:=Fb2 y o;omega)
      have hq2:∀y z,I9 (rb1 o y) z=rb1 (rb1 o y) z:=λy z=>if8 _ z (by have:=Fb2 y o;omega)
      have hfl:kb4 (Fa2 (gL tV l a) (gL tV l c) (gL tV l j)).1=V8 (Fa2 (gL tV l a) (gL tV l c) (gL tV l j)).1:=if2 (zf6 _ _ _)
      have fin : ∀ {s : A6}, s = ⟨phP (Kb4 l a c o j), ((j + 1 : Nat) : Int), Kb4 l a c o j⟩ → Nx (.next s) (fun t => t = phP (F2 l a out c) + 1 ∧ ∃ j' : Nat, (⟨phP o, (j : Int), o⟩ : A6) = ⟨phP (F2 l a out c), (j' : Int), F2 l a out c⟩)
          (λs=>∃o',s=(⟨phP o',((j+1:Nat):Int),o'⟩:A6)/\(j+1<=c/\o'=(List.range (j+1)).foldl (Kb4 l a c) out)):=λ{s} hs =>
        .nx ⟨_,hs,by omega,by rw[Q4,<- hi]⟩
      clear hi
      unfold Kb4 at fin;generalize hT:Fa2 (gL tV l a) (gL tV l c) (gL tV l j)=T at *
      have hb1:inB (a:Int) l.length=true:=e8 ha;have hb2:inB (c:Int) l.length=true:=e8 (by omega)
      have hb3:inB (j:Int) l.length=true:=e8 (by omega)
      cases o with
      | nil =>
        show Nx (K4 Stp.next Stp.exit Stp.fail _ _) _ _;simp only[K4,Sb3,Za2,Int.toNat_natCast,g8,o5,hT,hh,hp,hfl,hg1,hq1,hg2,hq2,hn,hb1,hb2,hb3];rw[btD (f9 hj)];cases h2:T.2 with
        |false=>exact fin (by rw[h2];rfl)
        | true =>
          cases h3:hold T.1 l with
          | false =>
            cases h4:hold (V8 T.1) l with
            |false=>exact fin (by rw[h2,h3,h4];rfl)
            |true=>exact fin (by rw[h2,h3,h4];simp only[if_true,if_false,rc7,Qkm])
          | true =>
            cases h4:hold (V8 T.1) l with
            |false=>exact fin (by rw[h2,h3,h4];simp only[if_true,if_false,rc7,Qkm])
            |true=>exact fin (by rw[h2,h3,h4];simp only[if_true,rc7])
      | cons q o =>
        show Nx (K5 Stp.next Stp.exit Stp.fail _ _) _ _;simp only[K5,Sb3,Za2,Int.toNat_natCast,g8,o5,hT,hh,hp,hfl,hg1,hq1,hg2,hq2,hn,hb1,hb2,hb3];rw[btD (f9 hj)];cases h2:T.2 with
        |false=>exact fin (by rw[h2];rfl)
        | true =>
          cases h3:hold T.1 l with
          | false =>
            cases h4:hold (V8 T.1) l with
            |false=>exact fin (by rw[h2,h3,h4];rfl)
            |true=>exact fin (by rw[h2,h3,h4];simp only[if_true,if_false,rc7,Qkm])
          | true =>
            cases h4:hold (V8 T.1) l with
            |false=>exact fin (by rw[h2,h3,h4];simp only[if_true,if_false,rc7,Qkm])
            |true=>exact fin (by rw[h2,h3,h4];simp only[if_true,rc7]))
    (fun j o hj hi=>by
      obtain⟨h1,hi⟩:=hi;have e:j=c:=by omega
      subst e;have hF:o=F2 l a out j:=hi;rw[<- hF];cases o with
      | nil =>
        refine⟨1,?_,rfl,j,rfl⟩;show K4 Stp.next Stp.exit Stp.fail _ _=_;simp only[K4];rw[bfD (l7 (Qkg _))]
      | cons q o =>
        refine⟨2,?_,rfl,j,rfl⟩;show K5 Stp.next Stp.exit Stp.fail _ _=_;simp only[K5];rw[bfD (l7 (Qkg _))]) 0 out ⟨Qkt _,rfl⟩
  obtain⟨t,s,h1,rfl,j,rfl⟩:=key;exact⟨j,h1⟩
theorem cg1 (l : List V3) (hl : l.length ≤ 48) (a : Nat) (ha : a < l.length) (out : List Pln) (ho : out.length ≤ 800000) :
    ∃j,lp (Z8 ⟨(a:Int)⟩) ⟨phP out,l,0,out⟩=(phP (F1 l out a)+1,⟨phP (F1 l out a),l,((j:Nat):Int),F1 l out a⟩):=by
  have hL2:∀o k,k<=48->(F2 l a o k).length<=o.length+96:=λo k hk=>by have:=Kc3 (Rc9 l a k) o k;show ((List.range k).foldl (Kb4 l a k) o).length<=_;omega
  have hpre:∀ j,j≤a→((List.range j).foldl (F2 l a) out).length≤out.length+96*j:=by
    intro j
    induction j with
    |zero=>intro _;exact Qks _
    | succ j ih =>
      intro h;rw[Q4]
      have:=ih (by omega)
      have:=hL2 ((List.range j).foldl (F2 l a) out) j (by omega)
      omega
  have key:=S3 (step:=Z8 ⟨(a:Int)⟩) (mk:=fun j (o:List Pln)=>(⟨phP o,l,(j:Int),o⟩:A7)) a (fun j o=>j≤a∧o=(List.range j).foldl (F2 l a) out) (fun t s=>t=phP (F1 l out a)+1∧∃ j:Nat,s=⟨phP (F1 l out a),l,(j:Int),F1 l out a⟩) (by omega)
    (fun j o hj hi=>by
      obtain⟨hja,hi⟩:=hi;have hlen:o.length<=900000:=by rw[hi];have:=hpre j hja;omega
      have hn:=n8 hj (show a<=4611686018427387904 by omega)
      obtain⟨j',e1⟩:=cg0 l hl a j ha hj o hlen
      have fin : ∀ {s : A7}, s = ⟨phP (F2 l a o j), l, ((j + 1 : Nat) : Int), F2 l a o j⟩ → Nx (.next s) (fun t => t = phP (F1 l out a) + 1 ∧ ∃ j' : Nat, (⟨phP o, l, (j : Int), o⟩ : A7) = ⟨phP (F1 l out a), l, (j' : Int), F1 l out a⟩)
          (λs=>∃o',s=(⟨phP o',l,((j+1:Nat):Int),o'⟩:A7)/\(j+1<=a/\o'=(List.range (j+1)).foldl (F2 l a) out)):=λ{s} hs =>
        .nx ⟨_,hs,by omega,by rw[Q4,<- hi]⟩
      clear hi
      generalize hF:F2 l a o j=R at *
      cases o with
      | nil =>
        show Nx (K6 Stp.next Stp.exit Stp.fail _ _) _ _;simp only[K6,g8,i7,hn];have e1:lp (Z7 ⟨l,(a:Int),(j:Int)⟩) ⟨0,0,[]⟩=_:=e1;rw[btD (f9 hj),e1];cases R with
        |nil=>exact fin rfl
        |cons q R=>exact fin rfl
      | cons q o =>
        show Nx (K7 Stp.next Stp.exit Stp.fail _ _) _ _;simp only[K7,g8,i7,hn];have e1:lp (Z7 ⟨l,(a:Int),(j:Int)⟩) ⟨1,0,q::o⟩=_:=e1;rw[btD (f9 hj),e1];cases R with
        |nil=>exact fin rfl
        |cons q R=>exact fin rfl)
    (fun j o hj hi=>by
      obtain⟨h1,hi⟩:=hi;have e:j=a:=by omega
      subst e;have hF:o=F1 l out j:=hi;rw[<- hF];cases o with
      | nil =>
        refine⟨1,?_,rfl,j,rfl⟩;show K6 Stp.next Stp.exit Stp.fail _ _=_;simp only[K6];rw[bfD (l7 (Qkg _))]
      | cons q o =>
        refine⟨2,?_,rfl,j,rfl⟩;show K7 Stp.next Stp.exit Stp.fail _ _=_;simp only[K7];rw[bfD (l7 (Qkg _))]) 0 out ⟨Qkt _,rfl⟩
  obtain⟨t,s,h1,rfl,j,rfl⟩:=key;exact⟨j,h1⟩
theorem cg2 (l : List V3) (hl : l.length ≤ 48) :
    ∃j,lp (Aa1 ⟨⟩) ⟨0,l,0,[]⟩=(phP (F0 l)+1,⟨phP (F0 l),l,((j:Nat):Int),F0 l⟩):=by
  have hL2:∀a o k,k<=48->(F2 l a o k).length<=o.length+96:=λa o k hk=>by have:=Kc3 (Rc9 l a k) o k;show ((List.range k).foldl (Kb4 l a k) o).length<=_;omega
  have hL1:∀ o a,a≤48→∀ j,j≤a→((List.range j).foldl (F2 l a) o).length≤o.length+96*j:=by
    intro o a ha j
    induction j with
    |zero=>intro _;exact Qks _
    | succ j ih =>
      intro h;rw[Q4]
      have:=ih (by omega)
      have:=hL2 a ((List.range j).foldl (F2 l a) o) j (by omega)
      omega
  have hpre:∀ j,j≤l.length→((List.range j).foldl (F1 l) []).length≤5000*j:=by
    intro j
    induction j with
    |zero=>intro _;exact Qks _
    | succ j ih =>
      intro h;rw[Q4]
      have:=ih (by omega)
      have:(F1 l ((List.range j).foldl (F1 l) []) j).length<=_:=hL1 ((List.range j).foldl (F1 l) []) j (by omega) j (Qks _)
      omega
  have key:=S3 (step:=Aa1 ⟨⟩) (mk:=fun j (o:List Pln)=>(⟨phP o,l,(j:Int),o⟩:C3)) l.length (fun j o=>j≤l.length∧o=(List.range j).foldl (F1 l) []) (fun t s=>t=phP (F0 l)+1∧∃ j:Nat,s=⟨phP (F0 l),l,(j:Int),F0 l⟩) (by omega)
    (fun j o hj hi=>by
      obtain⟨hja,hi⟩:=hi;have hlen:o.length<=800000:=by rw[hi];have:=hpre j hja;omega
      have hn:=n8 hj (show l.length<=4611686018427387904 by omega)
      obtain⟨j',e1⟩:=cg1 l hl j hj o hlen
      have fin : ∀ {s : C3}, s = ⟨phP (F1 l o j), l, ((j + 1 : Nat) : Int), F1 l o j⟩ → Nx (.next s) (fun t => t = phP (F0 l) + 1 ∧ ∃ j' : Nat, (⟨phP o, l, (j : Int), o⟩ : C3) = ⟨phP (F0 l), l, (j' : Int), F0 l⟩)
          (λs=>∃o',s=(⟨phP o',l,((j+1:Nat):Int),o'⟩:C3)/\(j+1<=l.length/\o'=(List.range (j+1)).foldl (F1 l) [])):=λ{s} hs =>
        .nx ⟨_,hs,by omega,by rw[Q4,<- hi]⟩
      clear hi
      generalize hF:F1 l o j=R at *
      cases o with
      | nil =>
        show Nx (K8 Stp.next Stp.exit Stp.fail ⟨⟩ _) _ _;simp only[K8,g8,i7,hn];have e1:lp (Z8 ⟨(j:Int)⟩) ⟨0,l,0,[]⟩=_:=e1;rw[btD (f9 hj),e1];cases R with
        |nil=>exact fin rfl
        |cons q R=>exact fin rfl
      | cons q o =>
        show Nx (K9 Stp.next Stp.exit Stp.fail ⟨⟩ _) _ _;simp only[K9,g8,i7,hn];have e1:lp (Z8 ⟨(j:Int)⟩) ⟨1,l,0,q::o⟩=_:=e1;rw[btD (f9 hj),e1];cases R with
        |nil=>exact fin rfl
        |cons q R=>exact fin rfl)
    (fun j o hj hi=>by
      obtain⟨h1,hi⟩:=hi;have e:j=l.length:=by omega
      subst e;have hF:o=F0 l:=hi;rw[<- hF];cases o with
      | nil =>
        refine⟨1,?_,rfl,_,rfl⟩;show K8 Stp.next Stp.exit Stp.fail ⟨⟩ _=_;simp only[K8];rw[bfD (l7 (Qkg _))]
      | cons q o =>
        refine⟨2,?_,rfl,_,rfl⟩;show K9 Stp.next Stp.exit Stp.fail ⟨⟩ _=_;simp only[K9];rw[bfD (l7 (Qkg _))]) 0 [] ⟨Qkt _,rfl⟩
  obtain⟨t,s,h1,rfl,j,rfl⟩:=key;exact⟨j,h1⟩
noncomputable def Sc0(l:List V3):List Pln×Int:=if Rc8 l=0 then (F0 l,0) else ([],Rc8 l)
theorem if9 (l:List V3) (hl:l.length≤48):Rd (two (r1L tP) r1I) (La7 l) (fun r=>r=Sc0 l):=by
  obtain⟨j,e1⟩:=cg2 l hl;have hb:l.length<=1000000000:=by omega
  unfold La7 Sc0;simp only[g8,i7,o5,Id9 l hb,Pe0 l hb,g7];rw[e1];by_cases h0:Rc8 l=0
  · rw[if_pos h0,show (Rc8 l != 0)=false by rw[h0];rfl,J7]
    cases hF:F0 l with
    |nil=>exact⟨_,([],0),rfl,rfl,rfl⟩
    |cons q o=>exact⟨_,(q::o,0),rfl,ef7 (q::o) 0,rfl⟩
  · rw[if_neg h0,show (Rc8 l != 0)=true by simpa using h0,g7]
    exact⟨_,([],Rc8 l),rfl,rfl,rfl⟩
theorem jf0(l:List V3)(hl:l.length<=48):mc1 l=Sc0 l:=(if9 l hl).p
theorem ye3{p:Pln}(h:okp p=true):g3 p.n=1:=by
 unfold okp at h;simp only[Qkk,beq_iff_eq] at h;exact h.2.1
theorem sd1{p:Pln}(h:okp p=true):p.n≠⟨0,0,0⟩:=λe=>by
 have:=ye3 h
 rw[e] at this
 revert this
 decide
theorem jf1(c:Int)(n:V3):g3 ⟨c*n.x,c*n.y,c*n.z⟩=c.natAbs*g3 n:=by
 unfold g3;simp only[Int.natAbs_mul,Nat.gcd_mul_left];rw[Int.natCast_mul]
theorem jf2{m n:V3}(hm:g3 m=1)(hn:g3 n=1)(h:d9 m n=⟨0,0,0⟩):n=m\/n=neg m:=by
 unfold d9 at h;simp only[V3.mk.injEq] at h;obtain⟨c1,c2,c3⟩:=h;have k:∀{c d:Int},c*m.x=d*n.x->c*m.y=d*n.y->c*m.z=d*n.z->c.natAbs=d.natAbs:=λ{c d} e1 e2 e3=>by
  have a1:=jf1 c m;have a2:=jf1 d n;rw[e1,e2,e3,a2,hm,hn] at a1;omega
 have ax:=k (c:=n.x) (d:=m.x) (by grind) (by grind) (by grind)
 have ay:=k (c:=n.y) (d:=m.y) (by grind) (by grind) (by grind)
 have az:=k (c:=n.z) (d:=m.z) (by grind) (by grind) (by grind)
 have sg:∀{a c:Int},a.natAbs=c.natAbs->a=c\/a=-c:=λh=>by omega
 -- the sign of one component that is not zero is that of all
 have go:∀{s u t v:Int},u≠0->s*v=u*t->s=u->t=v:=λ{s u t v} hu h e=>by
  subst e;exact (Qkak hu h).symm
 have gn:∀{s u t v:Int},u≠0->s*v=u*t->s=-u->t=-v:=λ{s u t v} hu h e=>by
  subst e
  have:u*t=u*(-v):=by rw[<- h];grind
  exact Qkak hu this
 by_cases hx:m.x=0
 ·have hx':n.x=0:=by omega
  by_cases hy:m.y=0
  ·have hy':n.y=0:=by omega
   rcases sg az with e|e
   ·exact .inl (Qkaq (by omega) (by omega) e)
   ·exact .inr (Qkaq (by show n.x=-m.x;omega) (by show n.y=-m.y;omega) e)
  ·rcases sg ay with e|e
   ·exact .inl (Qkaq (by omega) e (go hy (by grind) e))
   ·exact .inr (Qkaq (by show n.x=-m.x;omega) e (gn hy (by grind) e))
 ·rcases sg ax with e|e
  ·exact .inl (Qkaq e (go hx (by grind) e) (go hx (by grind) e))
  ·exact .inr (Qkaq e (gn hx (by grind) e) (gn hx (by grind) e))
structure og6(l:List V3):Prop where
 h:∃a c k v,a∈l/\c∈l/\k∈l/\v∈l/\dot (d9 (sub c a) (sub k a)) (sub v a)≠0
theorem gLm{l:List V3}{j:Nat}(h:j<l.length):gL tV l j∈l:=ya6 tV h
theorem Qf4{l:List V3}(hf:nf0 l=true):og6 l:=by
 unfold nf0 at hf;obtain⟨a,ha,hf⟩:=Qki.1 hf;unfold nf1 at hf;obtain⟨c,hc,hf⟩:=Qki.1 hf;unfold nf2 at hf;obtain⟨k,hk,hf⟩:=Qki.1 hf;rw[Qko] at ha hc hk;unfold nf at hf;rw[Qkk] at hf;obtain⟨h1,h2⟩:=hf;obtain⟨⟨i1,i2,i3⟩,⟨ok,⟨g,hg,e1,e2,e3⟩,o⟩⟩:=Kb3 h1;unfold if3 at h2;obtain⟨v,hv,h2⟩:=Qki.1 h2;generalize (Fa2 (gL tV l a) (gL tV l c) (gL tV l k)).1=p at *
 refine⟨_,_,_,v,gLm ha,gLm (show c<l.length by omega),gLm (show k<l.length by omega),hv,λh0=>?_⟩
 have hs:eb9 p v≠0:=by simpa using h2
 have hiv:inV v=true:=by
  cases hi:inV v with
  |true=>rfl
  |false=>exact absurd (by unfold eb9;rw[ok,hi];rfl) hs
 apply hs;rw[Jd8 ok hiv,o]
 have:g*(dot p.n v-dot p.n (gL tV l a))=dot (d9 (sub (gL tV l c) (gL tV l a)) (sub (gL tV l k) (gL tV l a))) (sub v (gL tV l a)):=by
  unfold dot;rw[<- e1,<- e2,<- e3];unfold sub
  grind
 rw[h0] at this
 have:=(Qkf.1 this).resolve_left (by omega)
 omega
theorem jf3{a c k v n:V3}(hd:dot (d9 (sub c a) (sub k a)) (sub v a)≠0)(hn:n≠⟨0,0,0⟩)(h1:dot n c=dot n a)(h2:dot n k=dot n a)(h3:dot n v=dot n a):False:=by
 generalize hD:dot (d9 (sub c a) (sub k a)) (sub v a)=D at *
 have q1:dot n (sub c a)=0:=by unfold dot sub at *;grind
 have q2:dot n (sub k a)=0:=by unfold dot sub at *;grind
 have q3:dot n (sub v a)=0:=by unfold dot sub at *;grind
 generalize sub c a=p at *
 generalize sub k a=q at *
 generalize sub v a=r at *
 have i1:D*n.x=(d9 q r).x*dot n p+(d9 r p).x*dot n q+(d9 p q).x*dot n r:=by rw[<- hD];simp only[dot,d9];grind
 have i2:D*n.y=(d9 q r).y*dot n p+(d9 r p).y*dot n q+(d9 p q).y*dot n r:=by rw[<- hD];simp only[dot,d9];grind
 have i3:D*n.z=(d9 q r).z*dot n p+(d9 r p).z*dot n q+(d9 p q).z*dot n r:=by rw[<- hD];simp only[dot,d9];grind
 rw[q1,q2,q3] at i1 i2 i3;have z:∀{x:Int},D*x=0->x=0:=λh=>(Qkf.1 h).resolve_left hd
 exact hn (Qkaq (z (by omega)) (z (by omega)) (z (by omega)))
theorem Kc4{p:Pln}{l:List V3}(hp:okp p=true)(hl:l.all inV=true):hold p l=true↔∀v∈l,dot p.n v<=p.b:=by
 unfold hold;rw[Bool.not_eq_true',<- Bool.not_eq_true,Qki];constructor
 ·intro h v hv;have h1:¬ eb9 p v>0:=λh'=>h ⟨v,hv,by simpa using h'⟩
  rw[sd0 hp (Qkh.1 hl v hv)] at h1;omega
 ·rintro h ⟨v,hv,h1⟩;have h1:eb9 p v>0:=by simpa using h1
  rw[sd0 hp (Qkh.1 hl v hv)] at h1
  have:=h v hv
  omega
structure Fct(l:List V3)(p:Pln):Prop where
 ok:okp p=true
 hd:hold p l=true
theorem ne4(p:Pln)(v:V3):dot (V8 p).n v=-dot p.n v:=by unfold dot V8;grind
theorem Pe1 (l : List V3) (a c k : Nat) (out : List Pln) (p : Pln) : p ∈ Kb4 l a c out k ↔ p ∈ out ∨ ((Fa2 (gL tV l a) (gL tV l c) (gL tV l k)).2 = true ∧
  ((p=(Fa2 (gL tV l a) (gL tV l c) (gL tV l k)).1/\hold p l=true)\/(p=V8 (Fa2 (gL tV l a) (gL tV l c) (gL tV l k)).1/\hold p l=true))):=by
 unfold Kb4;generalize Fa2 (gL tV l a) (gL tV l c) (gL tV l k)=T;cases h2:T.2 with
 |false=>simp
 |true =>
  simp only[if_true];cases h4:hold (V8 T.1) l with
  |false =>
   simp only[Qkm,if_false];cases h3:hold T.1 l with
   |false =>
    simp only[Qkm,if_false];constructor
    ·exact λh=>.inl h
    ·rintro (h|⟨_,⟨rfl,h⟩|⟨rfl,h⟩⟩)
     ·exact h
     ·rw[h3] at h;cases h
     ·rw[h4] at h;cases h
   |true =>
    simp only[if_true,Fb1];constructor
    ·rintro (rfl|h)
     ·exact .inr ⟨trivial,.inl ⟨rfl,h3⟩⟩
     ·exact .inl h
    ·rintro (h|⟨_,⟨rfl,h⟩|⟨rfl,h⟩⟩)
     ·exact .inr h
     ·exact .inl rfl
     ·rw[h4] at h;cases h
  |true =>
   simp only[if_true,Fb1];cases h3:hold T.1 l with
   |false =>
    simp only[Qkm,if_false];constructor
    ·rintro (rfl|h)
     ·exact .inr ⟨trivial,.inr ⟨rfl,h4⟩⟩
     ·exact .inl h
    ·rintro (h|⟨_,⟨rfl,h⟩|⟨rfl,h⟩⟩)
     ·exact .inr h
     ·rw[h3] at h;cases h
     ·exact .inl rfl
   |true =>
    simp only[if_true,Fb1];constructor
    ·rintro (rfl|rfl|h)
     ·exact .inr ⟨trivial,.inr ⟨rfl,h4⟩⟩
     ·exact .inr ⟨trivial,.inl ⟨rfl,h3⟩⟩
     ·exact .inl h
    ·rintro (h|⟨_,⟨rfl,h⟩|⟨rfl,h⟩⟩)
     ·exact .inr (.inr h)
     ·exact .inr (.inl rfl)
     ·exact .inl rfl
theorem Kc5{f:List Pln->Nat->List Pln}{Q:Nat->Pln->Prop}(h:∀o k p,p∈f o k↔p∈o\/Q k p)(o:List Pln)(p:Pln):∀n,p∈(List.range n).foldl f o↔p∈o\/∃k,k<n/\Q k p
 |0=>by simp
 |n+1=>by
  rw[Q4,h,Kc5 h o p n];constructor
  ·rintro ((h|⟨k,hk,h⟩)|h)
   ·exact .inl h
   ·exact .inr ⟨k,by omega,h⟩
   ·exact .inr ⟨n,by omega,h⟩
  ·rintro (h|⟨k,hk,h⟩)
   ·exact .inl (.inl h)
   ·by_cases e:k=n
    ·subst e;exact .inr h
    ·exact .inl (.inr ⟨k,by omega,h⟩)
def Fq (l : List V3) (a c k : Nat) (p : Pln) : Prop := (Fa2 (gL tV l a) (gL tV l c) (gL tV l k)).2 = true ∧
  ((p=(Fa2 (gL tV l a) (gL tV l c) (gL tV l k)).1/\hold p l=true)\/(p=V8 (Fa2 (gL tV l a) (gL tV l c) (gL tV l k)).1/\hold p l=true))
theorem Qf5(l:List V3)(a c:Nat)(out:List Pln)(p:Pln):p∈F2 l a out c↔p∈out\/∃k,k<c/\Fq l a c k p:=Kc5 (λo k p=>Pe1 l a c k o p) out p c
theorem Qf6(l:List V3)(a:Nat)(out:List Pln)(p:Pln):p∈F1 l out a↔p∈out\/∃c,c<a/\∃k,k<c/\Fq l a c k p:=Kc5 (λo c p=>Qf5 l a c o p) out p a
theorem ye4(l:List V3)(p:Pln):p∈F0 l↔∃a,a<l.length/\∃c,c<a/\∃k,k<c/\Fq l a c k p:=by
 have:=Kc5 (λo a p=>Qf6 l a o p) [] p l.length
 simpa [F0] using this
theorem Pe2{l:List V3}{a c:Nat}{out:List Pln}{k:Nat}(h:Za6 out):Za6 (Kb4 l a c out k):=by
 unfold Kb4;split
 ·split
  ·refine nc4 _ ?_;split
   ·exact nc4 _ h
   ·exact h
  ·split
   ·exact nc4 _ h
   ·exact h
 ·exact h
theorem Kc6{f:List Pln->Nat->List Pln}(h:∀o k,Za6 o->Za6 (f o k)){o:List Pln}(ho:Za6 o):∀n,Za6 ((List.range n).foldl f o)
 |0=>ho
 |n+1=>by rw[Q4];exact h _ _ (Kc6 h ho n)
theorem Qf7{l:List V3}{a c:Nat}{out:List Pln}(h:Za6 out):Za6 (F2 l a out c):=Kc6 (λ_ _ h=>Pe2 h) h c
theorem Qf8{l:List V3}{a:Nat}{out:List Pln}(h:Za6 out):Za6 (F1 l out a):=Kc6 (λ_ _ h=>Qf7 h) h a
theorem Qf9(l:List V3):Za6 (F0 l):=Kc6 (λ_ _ h=>Qf8 h) .nil l.length
theorem Pe3{l:List Pln}(h:Za6 l):l.Nodup:=List.Pairwise.imp (λ{x y} (h:LtP x y) (e:x=y)=>ed7 y (e ▸ h)) h
theorem jf4{l:List V3}{p:Pln}(hp:p∈F0 l):Fct l p:=by
 obtain⟨a,ha,c,hc,k,hk,h1,⟨h2,h3⟩|⟨h2,h3⟩⟩:=(ye4 l p).1 hp
 ·exact⟨h2 ▸ (Kb3 h1).2.ok,h3⟩
 ·exact⟨h2 ▸ Kc2 (Kb3 h1).2.ok,h3⟩
theorem zf9{l:List V3}(hl:l.all inV=true)(hf:nf0 l=true):Wd5 (F0 l++ws):=by
 obtain⟨a,c,k,v,ha,hc,hk,hv,hd⟩:=Qf4 hf;have hin:=Qkh.1 hl
 -- a plane on whose eb9 all Qf4 lie has their middle within
 have key:∀p:Pln,p.n≠⟨0,0,0⟩->dot p.n a<=p.b->dot p.n c<=p.b->dot p.n k<=p.b->dot p.n v<=p.b->0<rmZ p ⟨a.x+c.x+k.x+v.x,a.y+c.y+k.y+v.y,a.z+c.z+k.z+v.z,4⟩:=λp hn h1 h2 h3 h4=>by
  have e:rmZ p ⟨a.x+c.x+k.x+v.x,a.y+c.y+k.y+v.y,a.z+c.z+k.z+v.z,4⟩=(p.b-dot p.n a)+(p.b-dot p.n c)+(p.b-dot p.n k)+(p.b-dot p.n v):=by simp only[rmZ,dot];grind
  rw[e];by_cases q:dot p.n a=p.b/\dot p.n c=p.b/\dot p.n k=p.b/\dot p.n v=p.b
  ·obtain⟨q1,q2,q3,q4⟩:=q;exact (jf3 hd hn (q2.trans q1.symm) (q3.trans q1.symm) (q4.trans q1.symm)).elim
  ·omega
 refine⟨⟨a.x+c.x+k.x+v.x,a.y+c.y+k.y+v.y,a.z+c.z+k.z+v.z,4⟩,by show (0:Int)<4;omega,λp hp=>?_⟩
 rcases Qkb.1 hp with h|h
 ·have hF:=jf4 h;have hb:=(Kc4 hF.ok hl).1 hF.hd;exact key p (sd1 hF.ok) (hb a ha) (hb c hc) (hb k hk) (hb v hv)
 ·have hw : ∀ x ∈ l, dot p.n x ≤ p.b := fun x hx => by
   have:=xe9 (hin x hx) p h
   simp only[rmZ,ipt,dot] at this ⊢;omega
  refine key p ?_ (hw a ha) (hw c hc) (hw k hk) (hw v hv);have h1:∀q∈ws,okp q=true:=Qkh.1 (by decide)
  exact sd1 (h1 p h)
theorem jf5(l:List Int):Rd (one r1P) (Ya0 l) (λp=>okp p=true):=by
 unfold Ya0;simp only[g8,i7];obtain⟨v1,j1,e1,a1,b1,c1,d1⟩:=va1 8 l 0 (by omega) (by omega) (by omega) (by omega)
 rw[e1]
 simp only
 obtain⟨v2,j2,e2,a2,b2,c2,d2⟩:=va1 17 l j1 (by omega) (by omega) (by omega) (by omega)
 rw[e2]
 simp only
 obtain⟨x1,x2,x3,j3,e3,_,_,_,c3,d3⟩:=mc2 8 l j2 (by omega) (by omega) (by omega) (by omega)
 rw[e3]
 simp only
 obtain⟨y1,y2,y3,j4,e4,_,_,_,c4,d4⟩:=mc2 8 l j3 (by omega) (by omega) (by omega) (by omega)
 rw[e4]
 simp only
 obtain⟨z1,z2,z3,j5,e5,_,_,_,c5,d5⟩:=mc2 8 l j4 (by omega) (by omega) (by omega) (by omega)
 rw[e5];simp only[Sb3,Za2,ef2 _ (show (0:Int)<3 by omega) (by omega),i7]
 simp only[Nat.beq_refl,Qkae,g7];have w2:W (v2-8)=v2-8:=ka3 (by omega) (by omega)
 have w1:W (1-W (2*Int.tmod v1 2))=1\/W (1-W (2*Int.tmod v1 2))=-1:=by
  have h:=Int.tmod_nonneg 2 a1;have h2:=Int.tmod_lt_of_pos v1 (show (0:Int)<2 by omega)
  rw[ka3 (n:=2*Int.tmod v1 2) (by omega) (by omega),ka3 (by omega) (by omega)]
  omega
 rw[w2];generalize W (1-W (2*Int.tmod v1 2))=s at *
 have ax:∀{a c d:Int},(a=s/\c=0/\d=0)\/(a=0/\c=s/\d=0)\/(a=0/\c=0/\d=s)->okp ⟨⟨a,c,d⟩,v2-8⟩=true:=λh=>by
  unfold okp;simp only[List.all_cons,List.all_nil,Qkae,Qkk,wb8,beq_iff_eq,Sm]
  rcases h with⟨rfl,rfl,rfl⟩|⟨rfl,rfl,rfl⟩|⟨rfl,rfl,rfl⟩<;>rcases w1 with rfl|rfl<;>exact⟨by omega,by decide,by omega⟩
 have r1:Rd (one r1P) (some (.agg [i 0,i s,i 0,i (v2-8)],[])) (λp=>okp p=true):=⟨_,⟨⟨0,s,0⟩,v2-8⟩,rfl,rfl,ax (.inr (.inl ⟨rfl,rfl,rfl⟩))⟩
 have r2:Rd (one r1P) (some (.agg [i 0,i 0,i s,i (v2-8)],[])) (λp=>okp p=true):=⟨_,⟨⟨0,0,s⟩,v2-8⟩,rfl,rfl,ax (.inr (.inr ⟨rfl,rfl,rfl⟩))⟩
 have r3:Rd (one r1P) (some (.agg [i s,i 0,i 0,i (v2-8)],[])) (λp=>okp p=true):=⟨_,⟨⟨s,0,0⟩,v2-8⟩,rfl,rfl,ax (.inl ⟨rfl,rfl,rfl⟩)⟩
 refine Rd.sl (λ_=>Rd.sl (λh=>?_) λ_=>?_) (λ_=>?_)
 ·exact⟨_,(Fa2 ⟨x1,x2,x3⟩ ⟨y1,y2,y3⟩ ⟨z1,z2,z3⟩).1,rfl,rfl,(Kb3 h).2.ok⟩
 ·exact Rd.sl (λ_=>r1) λ_=>Rd.sl (λ_=>r2) λ_=>r3
 ·exact Rd.sl (λ_=>r1) λ_=>Rd.sl (λ_=>r2) λ_=>r3
theorem Af0(l:List Int):okp (Db2 l)=true:=(jf5 l).p
theorem Jd9:g3 ⟨1,0,0⟩=1/\g3 ⟨-1,0,0⟩=1/\g3 ⟨0,1,0⟩=1/\g3 ⟨0,-1,0⟩=1/\g3 ⟨0,0,1⟩=1/\g3 ⟨0,0,-1⟩=1:=by decide
structure sd2(c:List Pln):Prop where
 l:c.length<=47
 v:∀p∈c,okp p=true
 f:Wd5 (c++ws)
theorem sd2.chk{c:List Pln}(h:sd2 c):(chk c==0)=true:=by
 rw[beq_iff_eq,db5];exact⟨by have:=h.l;omega,h.v⟩
theorem sd2.bds{c:List Pln}(h:sd2 c):Bds (c++ws):=(mb7 h.chk).1
theorem sd2.ful{c:List Pln}(h:sd2 c):ful c=true:=by
 unfold Ce.ful;rw[h.chk,(Tb3 h.bds (Rc7 c) (by simp[ws])).2 h.f]
 rfl
theorem jf6{lo hi:V3}(h1:Sm 20 lo.x/\Sm 20 lo.y/\Sm 20 lo.z)(h2:Sm 20 hi.x/\Sm 20 hi.y/\Sm 20 hi.z)(h3:lo.x<hi.x/\lo.y<hi.y/\lo.z<hi.z):sd2 (Ad3 lo hi):=by
 obtain⟨⟨a1,a2⟩,⟨a3,a4⟩,a5,a6⟩:=h1;obtain⟨⟨b1,b2⟩,⟨b3,b4⟩,b5,b6⟩:=h2;obtain⟨c1,c2,c3⟩:=h3;have w:∀{x:Int},-20<=x->x<=20->W (0-x)=-x:=λh h'=>by rw[ka3 (by omega) (by omega)];omega
 have e:Ad3 lo hi=[⟨⟨1,0,0⟩,hi.x⟩,⟨⟨-1,0,0⟩,-lo.x⟩,⟨⟨0,1,0⟩,hi.y⟩,⟨⟨0,-1,0⟩,-lo.y⟩,⟨⟨0,0,1⟩,hi.z⟩,⟨⟨0,0,-1⟩,-lo.z⟩]:=by
  unfold Ad3;rw[w a1 a2,w a3 a4,w a5 a6]
 rw[e];refine⟨by simp,λp hp=>?_,⟨⟨lo.x+hi.x,lo.y+hi.y,lo.z+hi.z,2⟩,by show (0:Int)<2;omega,λp hp=>?_⟩⟩
 ·simp only[Qkc,Qkw,or_false] at hp;unfold okp;simp only[List.all_cons,List.all_nil,Qkae,Qkk,wb8,beq_iff_eq,Sm]
  rcases hp with rfl|rfl|rfl|rfl|rfl|rfl<;>exact⟨by simp,by first|exact Jd9.1|exact Jd9.2.1|exact Jd9.2.2.1|exact Jd9.2.2.2.1|exact Jd9.2.2.2.2.1|exact Jd9.2.2.2.2.2,by simp only;omega⟩
 ·simp only[ws,List.cons_append,List.nil_append,Qkc,Qkw,or_false] at hp
  rcases hp with rfl|rfl|rfl|rfl|rfl|rfl|rfl|rfl|rfl|rfl|rfl|rfl<;>simp only[rmZ]<;>omega
theorem Pe4{l:List V3}(h:Rc8 l=0):l.all inV=true/\nf0 l=true:=by
 unfold Rc8 at h
 split at h
 ·omega
 ·split at h
  ·rename_i h2
   split at h
   ·rename_i h3;exact⟨h2,h3⟩
   ·omega
  ·omega
theorem Rf0(p:Pln)(N:Int)(v x:Pt):rmZ p ⟨N*v.px+x.px,N*v.py+x.py,N*v.pz+x.pz,N*v.pw+x.pw⟩=N*rmZ p v+rmZ p x:=by unfold rmZ;grind
theorem sd2.pts{c:List Pln}(h:sd2 c):pts c=cor (c++ws):=by unfold Ce.pts;rw[if_pos h.chk]
structure Ins(r:List Pln)(x:Pt):Prop where
 w:0<x.pw
 h:∀p∈r,0<rmZ p x
theorem Ins.inr{r:List Pln}{x:Pt}(h:Ins r x):Inr r x:=⟨h.w,λp hp=>Qku (h.h p hp)⟩
theorem sd3{r:List Pln}:Wd5 r↔∃x,Ins r x:=⟨λ⟨x,h1,h2⟩=>⟨x,h1,h2⟩,λ⟨x,h⟩=>⟨x,h.w,h.h⟩⟩
theorem Ins.mono{r r':List Pln}{x:Pt}(h:Ins r x)(hs:∀p∈r',p∈r):Ins r' x:=⟨h.w,λp hp=>h.h p (hs p hp)⟩
theorem Inr.mono{r r':List Pln}{x:Pt}(h:Inr r x)(hs:∀p∈r',p∈r):Inr r' x:=⟨h.w,λp hp=>h.h p (hs p hp)⟩
theorem Ins.app{r r':List Pln}{x:Pt}(h:Ins r x)(h':Ins r' x):Ins (r++r') x:=⟨h.w,λp hp=>(Qkb.1 hp).elim (h.h p) (h'.h p)⟩
theorem Inr.app{r r':List Pln}{x:Pt}(h:Inr r x)(h':Inr r' x):Inr (r++r') x:=⟨h.w,λp hp=>(Qkb.1 hp).elim (h.h p) (h'.h p)⟩
def tow(N:Int)(y x:Pt):Pt:=⟨N*y.px+x.px,N*y.py+x.py,N*y.pz+x.pz,N*y.pw+x.pw⟩
theorem Rf1(p:Pln)(N:Int)(y x:Pt):rmZ p (tow N y x)=N*rmZ p y+rmZ p x:=Rf0 p N y x
theorem far{f g:Pln->Int}:∀l:List Pln,(∀p∈l,0<f p)->∃N:Int,0<=N/\∀M,N<=M->∀p∈l,0<M*f p+g p
 |[],_=>⟨0,Int.le_refl _,λ_ _ p hp=>by cases hp⟩
 |a::l,h=>by
  obtain⟨N,h0,h1⟩:=far l λp hp=>h p (Qkx _ hp)
  have ha:=h a Qky;refine⟨max N ((g a).natAbs+1),by omega,λM hM p hp=>?_⟩
  rcases Qkc.1 hp with rfl|hp
  ·have:M*1<=M*f p:=Int.mul_le_mul_of_nonneg_left (by omega) (by omega)
   omega
  ·exact h1 M (by omega) p hp
theorem Af1{r:List Pln}{x y:Pt}(hy:Inr r y)(hx:Ins r x)(l:List Pln)(hl:∀p∈l,0<rmZ p y):∃z,Ins (r++l) z:=by
 obtain⟨N,h0,h1⟩:=far (f:=λp=>rmZ p y) (g:=λp=>rmZ p x) l hl
 refine⟨tow N y x,by have:=Qkap h0 (Qku hy.w);have:=hx.w;unfold tow;simp only;omega,λp hp=>?_⟩
 rw[Rf1]
 rcases Qkb.1 hp with hp|hp
 ·have:=Qkap h0 (hy.h p hp)
  have:=hx.h p hp
  omega
 ·exact h1 N (Int.le_refl _) p hp
def mvd(N:Int)(x:Pt)(d:V3):Pt:=⟨N*x.px+d.x,N*x.py+d.y,N*x.pz+d.z,N*x.pw⟩
theorem Wd8(p:Pln)(N:Int)(x:Pt)(d:V3):rmZ p (mvd N x d)=N*rmZ p x+-dot p.n d:=by simp only[rmZ,mvd,dot];grind
theorem jf7{r:List Pln}{x:Pt}(hx:Ins r x)(d:V3):∃N:Int,0<N/\Ins r (mvd N x d):=by
 obtain⟨N,h0,h1⟩:=far (f:=λp=>rmZ p x) (g:=λp=>-dot p.n d) r hx.h
 refine⟨N+1,by omega,by have:=Qkad (show 0<N+1 by omega) hx.w;unfold mvd;simp only;omega,λp hp=>?_⟩
 rw[Wd8];exact h1 (N+1) (by omega) p hp
theorem Rf2:∀p∈ws,okp p=true:=Qkh.1 (by decide)
theorem sd4{n:V3}(h:n≠⟨0,0,0⟩):0<dot n n:=by
 have k:∀a:Int,0<=a*a/\(a≠0->0<a*a):=λa=>by
  rcases Int.lt_trichotomy a 0 with h|h|h
  ·have:=Qkaj h h;exact⟨by omega,λ_=>this⟩
  ·subst h;exact⟨by decide,λh=>absurd rfl h⟩
  ·have:=Qkad h h;exact⟨by omega,λ_=>this⟩
 unfold dot
 have:=k n.x;have:=k n.y;have:=k n.z
 by_cases hx:n.x=0
 ·by_cases hy:n.y=0
  ·by_cases hz:n.z=0
   ·exact absurd (Qkaq hx hy hz) h
   ·have:=(k n.z).2 hz;omega
  ·have:=(k n.y).2 hy;omega
 ·have:=(k n.x).2 hx;omega
theorem bb2{c:List Pln}(h:(chk c==0)=true):∀p∈c++ws,okp p=true:=λp hp=>by
 rw[beq_iff_eq,db5] at h
 rcases Qkb.1 hp with hp|hp
 ·exact h.2 p hp
 ·exact Rf2 p hp
theorem na5{c:List Pln}:ful c=true↔(chk c==0)=true/\∃x,Ins (c++ws) x:=by
 unfold ful;rw[Qkk];constructor
 ·rintro⟨h1,h2⟩;exact⟨h1,sd3.1 ((Tb3 (mb7 h1).1 (Rc7 c) (by simp[ws])).1 h2)⟩
 ·rintro⟨h1,h2⟩;exact⟨h1,(Tb3 (mb7 h1).1 (Rc7 c) (by simp[ws])).2 (sd3.2 h2)⟩
theorem Kd0{a c:List Pln}(ha:(chk a==0)=true)(hc:(chk c==0)=true):apart a c=true↔∀z,Ins (a++ws) z->Ins (c++ws) z->False:=by
 unfold apart;rw[ha,hc];have hb:=(le3 ha hc).1;have h:=Tb3 (r:=a++c++ws) hb (Rc7 (a++c)) (by simp[ws])
 have key:Zc7 (a++c++ws)=true↔∃z,Ins (a++ws) z/\Ins (c++ws) z:=by
  rw[h,sd3];constructor
  ·rintro⟨z,hz⟩;exact⟨z,hz.mono λp hp=>by simp only[Qkb] at hp ⊢;rcases hp with h | h<;>simp[h],hz.mono λp hp=>by simp only[Qkb] at hp ⊢;rcases hp with h | h<;>simp[h]⟩
  ·rintro⟨z,h1,h2⟩;exact⟨z,(h1.app h2).mono λp hp=>by simp only[Qkb] at hp ⊢;rcases hp with (h | h) | h<;>simp[h]⟩
 constructor
 ·intro h z h1 h2;rw[key.2 ⟨z,h1,h2⟩] at h;cases h
 ·intro h;cases hb:Zc7 (a++c++ws) with
  |false=>rfl
  |true =>
   obtain⟨z,h1,h2⟩:=key.1 hb;exact (h z h1 h2).elim
theorem Tb4{c:List Pln}{p:Pln}(h:p∈lean c):p∈c:=by
 cases hf:ful c with
 |true=>exact ((ne3 hf p).1 h).1
 |false=>unfold lean at h;rw[hf] at h;cases h
theorem Af2{c:List Pln}(hf:ful c=false):lean c=[]:=by unfold lean;rw[hf];rfl
theorem fb0{c:List Pln}(hf:ful c=true){z:Pt}:Inr (lean c++ws) z↔Inr (c++ws) z:=by
 obtain⟨hc,hb,hB⟩:=rd9 hf;constructor
 ·intro h;have hpts:pts c=cor (c++ws):=by unfold pts;rw[if_pos hc]
  refine Ge6 hb hB (c.filter λp=>!keep (pts c) p) (λp hp=>?_) z ⟨h.w,λp hp=>?_⟩
  ·obtain⟨h1,h2⟩:=Qkp.1 hp;refine⟨h1,?_⟩;rw[hpts] at h2;unfold keep at h2;simp only[Bool.not_not,decide_eq_true_eq] at h2;omega
  ·obtain⟨h1,h2⟩:=(xb7 _ _ _).1 hp;by_cases hw:p∈ws
   ·exact h.h p (Qkd _ hw)
   ·have h2:=h2.resolve_left hw;have h1:=(Qkb.1 h1).resolve_right hw;have hk:keep (pts c) p=true:=by
     cases hk:keep (pts c) p with
     |true=>rfl
     |false=>exact absurd (Qkp.2 ⟨h1,by rw[hk];rfl⟩) h2
    exact h.h p (Qka _ ((ne3 hf p).2 ⟨h1,hk⟩))
 ·exact λh=>h.mono λp hp=>(Qkb.1 hp).elim (λh=>Qka _ (Tb4 h)) (Qkd _)
theorem nc5{c:List Pln}(hf:ful c=true){z:Pt}:Ins (lean c++ws) z↔Ins (c++ws) z:=by
 obtain⟨hc,hb,hB⟩:=rd9 hf;constructor
 ·intro h;refine⟨h.w,λp hp=>?_⟩
  have h0:=((fb0 hf).1 h.inr).h p hp;by_cases hz:rmZ p z=0
  ·exfalso;obtain⟨N,hN,hi⟩:=jf7 h p.n;have h1:=((fb0 hf).1 hi.inr).h p hp;rw[Wd8,hz] at h1
   have:=sd4 (sd1 (bb2 hc p hp))
   omega
  ·omega
 ·exact λh=>h.mono λp hp=>(Qkb.1 hp).elim (λh=>Qka _ (Tb4 h)) (Qkd _)
theorem ne5{c:List Pln}(hc:(chk c==0)=true):(chk (lean c)==0)=true:=by
 rw[beq_iff_eq,db5] at hc ⊢;exact⟨Nat.le_trans (eb8 c) hc.1,λp hp=>hc.2 p (Tb4 hp)⟩
theorem ne6{c:List Pln}(hf:ful c=true):ful (lean c)=true:=by
 obtain⟨h1,x,hx⟩:=na5.1 hf;exact na5.2 ⟨ne5 h1,x,(nc5 hf).2 hx⟩
theorem Pe5{r:List Pln}{p:Pln}(hf:ful (r++[V8 p])=true){x:Pt}(hx:Inr (r++ws) x)(h:0<rmZ p x):V8 p∈lean (r++[V8 p]):=by
 apply Qkal;intro hn;have h1:Inr (lean (r++[V8 p])++ws) x:=hx.mono λq hq=>by
  rcases Qkb.1 hq with hq|hq
  ·have:=Tb4 hq
   rcases Qkb.1 this with h2|h2
   ·exact Qka _ h2
   ·rw[Qke.1 h2] at hq;exact absurd hq hn
  ·exact Qkd _ hq
 have:=((fb0 hf).1 h1).h (V8 p) (by simp)
 rw[Aa9] at this;omega
noncomputable def B1(x fs:List Pln):Nat->List Pln
 |0=>x
 |j+1=>lean (B1 x fs j++[gL tP fs j])
noncomputable def Pa2(x fs:List Pln)(j:Nat):List Pln:=lean (B1 x fs j++[V8 (gL tP fs j)])
noncomputable def Pa3(x fs:List Pln)(j:Nat):List (List Pln):=((List.range j).map (Pa2 x fs)).filter λc=>decide (0<c.length)
noncomputable def Ha6(x fs:List Pln):Bool:=(List.range fs.length).all λj=>decide ((B1 x fs j).length<48)
noncomputable def Ha7(q x:List Pln):List (List Pln):=if apart x q then [x] else Pa3 x (lean q) (lean q).length
noncomputable def Za7(q x:List Pln):Bool:=apart x q||Ha6 x (lean q)
noncomputable def F6(ps:List (List Pln))(q:List Pln):Option (List (List Pln)) :=
 if ful q then (if ps.all (Za7 q)&&decide ((ps.flatMap (Ha7 q)).length<=200) then some (ps.flatMap (Ha7 q)) else none) else some ps
noncomputable def qa9(c:List Pln)(s:List (List Pln)):Option (List (List Pln)) :=
 s.foldl (λst q=>st.bind λps=>F6 ps q) (some (if ful c then [lean c] else []))
theorem Tb5{x fs:List Pln}{n:Nat}{y:List Pln}:y∈Pa3 x fs n↔∃j,j<n/\y=Pa2 x fs j/\y≠[]:=by
 unfold Pa3;rw[Qkp,List.mem_map];constructor
 ·rintro⟨⟨j,hj,rfl⟩,h⟩;exact⟨j,Qko.1 hj,rfl,λe=>by rw[e] at h;simp at h⟩
 ·rintro⟨j,hj,rfl,h⟩;exact⟨⟨j,Qko.2 hj,rfl⟩,by simpa using List.length_pos_iff.2 h⟩
section
variable{x fs:List Pln}(hx:(chk x==0)=true)(hf:∀p∈fs,okp p=true){z0:Pt}(h1:Ins (x++ws) z0)(h2:Ins (fs++ws) z0)(h48:Ha6 x fs=true)
include hx hf h1 h2 h48
theorem gLp{fs:List Pln}{j:Nat}(hj:j<fs.length):gL tP fs j∈fs:=ya6 tP hj
theorem ne7{j:Nat}(hj:j<fs.length):(B1 x fs j).length<48:=by
 have:=Qkh.1 h48 j (Qko.2 hj)
 simpa using this
theorem Kc7 : ∀ j, j ≤ fs.length → (chk (B1 x fs j) == 0) = true ∧ (∀ z, Inr (B1 x fs j ++ ws) z ↔ Inr (x ++ ws) z ∧ ∀ i, i < j → 0 ≤ rmZ (gL tP fs i) z) ∧
  (∀z,Ins (B1 x fs j++ws) z↔Ins (x++ws) z/\∀i,i<j->0<rmZ (gL tP fs i) z)
 |0,_=>⟨hx,λz=>⟨λh=>⟨h,λi hi=>absurd hi (Qkao i)⟩,λh=>h.1⟩,λz=>⟨λh=>⟨h,λi hi=>absurd hi (Qkao i)⟩,λh=>h.1⟩⟩
 |j+1,hj=>by
  obtain⟨k1,k2,k3⟩:=Kc7 j (by omega)
  have hl:=ne7 hx hf h1 h2 h48 (show j<fs.length by omega)
  have hpj:=hf _ (gLp hx hf h1 h2 h48 (show j<fs.length by omega))
  have hc:(chk (B1 x fs j++[gL tP fs j])==0)=true:=by
   rw[beq_iff_eq,db5] at k1 ⊢;refine⟨by rw[Qkz];simp only[List.length_singleton];omega,λp hp=>?_⟩
   rcases Qkb.1 hp with hp|hp
   ·exact k1.2 p hp
   ·rw[Qke.1 hp];exact hpj
  have h0:Ins (B1 x fs j++ws) z0:=(k3 z0).2 ⟨h1,λi hi=>h2.h _ (Qka _ (gLp hx hf h1 h2 h48 (by omega)))⟩
  have hz:0<rmZ (gL tP fs j) z0:=h2.h _ (Qka _ (gLp hx hf h1 h2 h48 (by omega)))
  have hful:ful (B1 x fs j++[gL tP fs j])=true:=na5.2 ⟨hc,z0,h0.w,λp hp=>by
   simp only[Qkb,Qke] at hp
   rcases hp with (hp|rfl)|hp
   ·exact h0.h p (Qka _ hp)
   ·exact hz
   ·exact h0.h p (Qkd _ hp)⟩
  refine⟨ne5 hc,λz=>?_,λz=>?_⟩
  ·show Inr (lean (B1 x fs j++[gL tP fs j])++ws) z↔_;rw[fb0 hful];constructor
   ·intro h;obtain⟨a1,a2⟩:=(k2 z).1 (h.mono λp hp=>by simp only[Qkb] at hp ⊢;rcases hp with h|h<;>simp[h])
    refine⟨a1,λi hi=>?_⟩
    by_cases e:i=j
    ·subst e;exact h.h _ (by simp)
    ·exact a2 i (by omega)
   ·rintro⟨a1,a2⟩
    have:=(k2 z).2 ⟨a1,λi hi=>a2 i (by omega)⟩
    refine⟨a1.w,λp hp=>?_⟩
    simp only[Qkb,Qke] at hp
    rcases hp with (hp|rfl)|hp
    ·exact this.h p (Qka _ hp)
    ·exact a2 j (by omega)
    ·exact this.h p (Qkd _ hp)
  ·show Ins (lean (B1 x fs j++[gL tP fs j])++ws) z↔_;rw[nc5 hful];constructor
   ·intro h;obtain⟨a1,a2⟩:=(k3 z).1 (h.mono λp hp=>by simp only[Qkb] at hp ⊢;rcases hp with h|h<;>simp[h])
    refine⟨a1,λi hi=>?_⟩
    by_cases e:i=j
    ·subst e;exact h.h _ (by simp)
    ·exact a2 i (by omega)
   ·rintro⟨a1,a2⟩
    have:=(k3 z).2 ⟨a1,λi hi=>a2 i (by omega)⟩
    refine⟨a1.w,λp hp=>?_⟩
    simp only[Qkb,Qke] at hp
    rcases hp with (hp|rfl)|hp
    ·exact this.h p (Qka _ hp)
    ·exact a2 j (by omega)
    ·exact this.h p (Qkd _ hp)
theorem Wd9 {j : Nat} (hj : j < fs.length) : (Pa2 x fs j = [] ↔ ful (B1 x fs j ++ [V8 (gL tP fs j)]) = false) ∧ (Pa2 x fs j ≠ [] → ful (Pa2 x fs j) = true ∧
  (∀z,Inr (Pa2 x fs j++ws) z↔Inr (B1 x fs j++ws) z/\rmZ (gL tP fs j) z<=0)/\∀z,Ins (Pa2 x fs j++ws) z↔Ins (B1 x fs j++ws) z/\rmZ (gL tP fs j) z<0):=by
 obtain⟨k1,k2,k3⟩:=Kc7 hx hf h1 h2 h48 j (by omega)
 have h0:Ins (B1 x fs j++ws) z0:=(k3 z0).2 ⟨h1,λi hi=>h2.h _ (Qka _ (gLp hx hf h1 h2 h48 (by omega)))⟩
 have hz:0<rmZ (gL tP fs j) z0:=h2.h _ (Qka _ (gLp hx hf h1 h2 h48 (by omega)))
 have e:Pa2 x fs j=[]↔ful (B1 x fs j++[V8 (gL tP fs j)])=false:=by
  constructor
  ·intro he;cases hq:ful (B1 x fs j++[V8 (gL tP fs j)]) with
   |false=>rfl
   |true =>
    have:=Pe5 hq h0.inr hz
    unfold Pa2 at he;rw[he] at this;cases this
  ·exact Af2
 refine⟨e,λhne=>?_⟩
 have hful:ful (B1 x fs j++[V8 (gL tP fs j)])=true:=by
  cases hq:ful (B1 x fs j++[V8 (gL tP fs j)]) with
  |true=>rfl
  |false=>exact absurd (e.2 hq) hne
 refine⟨ne6 hful,λz=>?_,λz=>?_⟩
 ·unfold Pa2;rw[fb0 hful];constructor
  ·intro h;refine⟨h.mono λp hp=>by simp only[Qkb] at hp ⊢;rcases hp with h | h<;>simp[h],?_⟩
   have:=h.h (V8 (gL tP fs j)) (by simp)
   rw[Aa9] at this;omega
  ·rintro⟨a1,a2⟩;refine⟨a1.w,λp hp=>?_⟩
   simp only[Qkb,Qke] at hp
   rcases hp with (hp|rfl)|hp
   ·exact a1.h p (Qka _ hp)
   ·rw[Aa9];omega
   ·exact a1.h p (Qkd _ hp)
 ·unfold Pa2;rw[nc5 hful];constructor
  ·intro h;refine⟨h.mono λp hp=>by simp only[Qkb] at hp ⊢;rcases hp with h | h<;>simp[h],?_⟩
   have:=h.h (V8 (gL tP fs j)) (by simp)
   rw[Aa9] at this;omega
  ·rintro⟨a1,a2⟩;refine⟨a1.w,λp hp=>?_⟩
   simp only[Qkb,Qke] at hp
   rcases hp with (hp|rfl)|hp
   ·exact a1.h p (Qka _ hp)
   ·rw[Aa9];omega
   ·exact a1.h p (Qkd _ hp)
theorem Ge8:∀j,j<=fs.length->∀z,Inr (x++ws) z->(∃y∈Pa3 x fs j,Inr (y++ws) z)\/∀i,i<j->0<=rmZ (gL tP fs i) z
 |0,_,z,_=>.inr λi hi=>absurd hi (Qkao i)
 |j+1,hj,z,hz=>by
  rcases Ge8 j (by omega) z hz with⟨y,hy,h⟩|h
  ·obtain⟨i,hi,h3,h4⟩:=Tb5.1 hy;exact .inl ⟨y,Tb5.2 ⟨i,by omega,h3,h4⟩,h⟩
  ·obtain⟨k1,k2,k3⟩:=Kc7 hx hf h1 h2 h48 j (by omega)
   have hr:Inr (B1 x fs j++ws) z:=(k2 z).2 ⟨hz,h⟩;by_cases hn:0<=rmZ (gL tP fs j) z
   ·refine .inr λi hi=>?_
    by_cases e:i=j
    ·subst e;exact hn
    ·exact h i (by omega)
   ·left;obtain⟨c1,c2⟩:=Wd9 hx hf h1 h2 h48 (show j<fs.length by omega)
    have h0:Ins (B1 x fs j++ws) z0:=(k3 z0).2 ⟨h1,λi hi=>h2.h _ (Qka _ (gLp hx hf h1 h2 h48 (by omega)))⟩
    obtain⟨y,hy⟩:=Af1 hr h0 [V8 (gL tP fs j)] (λp hp=>by rw[Qke.1 hp,Aa9];omega)
    have hne:Pa2 x fs j≠[]:=λe=>by
     have hq:=c1.1 e;have hl:=ne7 hx hf h1 h2 h48 (show j<fs.length by omega)
     have hc:(chk (B1 x fs j++[V8 (gL tP fs j)])==0)=true:=by
      rw[beq_iff_eq,db5] at k1 ⊢;refine⟨by rw[Qkz];simp only[List.length_singleton];omega,λp hp=>?_⟩
      rcases Qkb.1 hp with hp|hp
      ·exact k1.2 p hp
      ·rw[Qke.1 hp];exact Kc2 (hf _ (gLp hx hf h1 h2 h48 (by omega)))
     have hs:∀p∈B1 x fs j++[V8 (gL tP fs j)]++ws,p∈B1 x fs j++ws++[V8 (gL tP fs j)]:=λp hp=>by
      simp only[Qkb] at hp ⊢
      rcases hp with (h|h)|h
      ·exact .inl (.inl h)
      ·exact .inr h
      ·exact .inl (.inr h)
     have:=na5.2 ⟨hc,y,hy.mono hs⟩
     rw[hq] at this;cases this
    exact⟨_,Tb5.2 ⟨j,by omega,rfl,hne⟩,((c2 hne).2.1 z).2 ⟨hr,by omega⟩⟩
theorem Rf3 : (∀ y ∈ Pa3 x fs fs.length, ful y = true ∧ (∀ z, Inr (y ++ ws) z → Inr (x ++ ws) z) ∧ ∀ z, Ins (y ++ ws) z → Inr (fs ++ ws) z → False) ∧
  (Pa3 x fs fs.length).Pairwise λa b=>∀z,Ins (a++ws) z->Ins (b++ws) z->False:=by
 refine⟨λy hy=>?_,?_⟩
 ·obtain⟨j,hj,rfl,hne⟩:=Tb5.1 hy;obtain⟨c1,c2,c3⟩:=(Wd9 hx hf h1 h2 h48 hj).2 hne;obtain⟨k1,k2,k3⟩:=Kc7 hx hf h1 h2 h48 j (by omega)
  refine⟨c1,λz hz=>((k2 z).1 ((c2 z).1 hz).1).1,λz hz hq=>?_⟩
  have:=((c3 z).1 hz).2
  have:=hq.h _ (Qka _ (gLp hx hf h1 h2 h48 hj))
  omega
 ·unfold Pa3;rw[List.pairwise_filter,List.pairwise_map];refine List.pairwise_lt_range.imp_of_mem λ{a b} ha hb hab p1 p2 z z1 z2=>?_
  have ha:=Qko.1 ha;have hb:=Qko.1 hb;have n1:Pa2 x fs a≠[]:=λe=>by rw[e] at p1;simp at p1
  have n2:Pa2 x fs b≠[]:=λe=>by rw[e] at p2;simp at p2
  have q1:=(((Wd9 hx hf h1 h2 h48 ha).2 n1).2.2 z).1 z1;have q2:=(((Wd9 hx hf h1 h2 h48 hb).2 n2).2.2 z).1 z2;have q3:=((Kc7 hx hf h1 h2 h48 b (by omega)).2.2 z).1 q2.1
  have:=q3.2 a hab
  omega
end
structure Pcs(c:List Pln)(S ps:List (List Pln)):Prop where
 ful:∀y∈ps,ful y=true
 sub:∀y∈ps,∀z,Inr (y++ws) z->Inr (c++ws) z
 off:∀y∈ps,∀s∈S,Ce.ful s=true->∀z,Ins (y++ws) z->Inr (s++ws) z->False
 dis:ps.Pairwise λa b=>∀z,Ins (a++ws) z->Ins (b++ws) z->False
 cov:∀z,Inr (c++ws) z->(∃y∈ps,Inr (y++ws) z)\/∃s∈S,Ce.ful s=true/\Inr (s++ws) z
theorem Pe6{c:List Pln}:Pcs c [] (if ful c then [lean c] else [])\/ful c=false:=by
 cases hf:ful c with
 |false=>exact .inr rfl
 |true =>
  refine .inl ⟨λy hy=>?_,λy hy z hz=>?_,λ_ _ s hs=>(by cases hs),?_,λz hz=>.inl ⟨lean c,by simp,(fb0 hf).2 hz⟩⟩
  ·rw[if_pos rfl] at hy;rw[Qke.1 hy];exact ne6 hf
  ·rw[if_pos rfl] at hy;rw[Qke.1 hy] at hz;exact (fb0 hf).1 hz
  ·rw[if_pos rfl];exact Qkac _ _
theorem Pe7{a c:List Pln}(ha:ful a=true)(hc:ful c=true)(h:apart a c=false):∃z,Ins (a++ws) z/\Ins (c++ws) z:=by
 apply Qkal;intro hn
 have:=(Kd0 (na5.1 ha).1 (na5.1 hc).1).2 λz z1 z2=>hn ⟨z,z1,z2⟩
 rw[h] at this;cases this
theorem Af3 {q x : List Pln} (hq : ful q = true) (hx : ful x = true) (h48 : Za7 q x = true) :
  (∀y∈Ha7 q x,ful y=true/\(∀z,Inr (y++ws) z->Inr (x++ws) z)/\∀z,Ins (y++ws) z->Inr (q++ws) z->False) /\
  ((Ha7 q x).Pairwise λa b=>∀z,Ins (a++ws) z->Ins (b++ws) z->False) /\
  ∀z,Inr (x++ws) z->(∃y∈Ha7 q x,Inr (y++ws) z)\/Inr (q++ws) z:=by
 unfold Ha7;cases ha:apart x q with
 |true =>
  rw[if_pos rfl];refine⟨λy hy=>?_,Qkac _ _,λz hz=>.inl ⟨x,by simp,hz⟩⟩
  rw[Qke.1 hy];refine⟨hx,λ_ h=>h,λz z1 z2=>?_⟩
  obtain⟨_,z0,h0⟩:=na5.1 hq;obtain⟨u,hu⟩:=Af1 z2 h0 (x++ws) z1.h;exact (Kd0 (na5.1 hx).1 (na5.1 hq).1).1 ha u (hu.mono λp hp=>Qkd _ hp) (hu.mono λp hp=>Qka _ hp)
 |false =>
  rw[if_neg (by decide)]
  unfold Za7 at h48;rw[ha,Bool.false_or] at h48;obtain⟨z0,z1,z2⟩:=Pe7 hx hq ha;have hf:∀p∈lean q,okp p=true:=λp hp=>bb2 (na5.1 hq).1 p (Qka _ (Tb4 hp))
  obtain⟨o1,o2⟩:=Rf3 (na5.1 hx).1 hf z1 ((nc5 hq).2 z2) h48;refine⟨λy hy=>⟨(o1 y hy).1,(o1 y hy).2.1,λz a1 a2=>(o1 y hy).2.2 z a1 ((fb0 hq).2 a2)⟩,o2,λz hz=>?_⟩
  rcases Ge8 (na5.1 hx).1 hf z1 ((nc5 hq).2 z2) h48 _ (Qks _) z hz with h|h
  ·exact .inl h
  ·refine .inr ((fb0 hq).1 ⟨hz.w,λp hp=>?_⟩)
   rcases Qkb.1 hp with hp|hp
   ·obtain⟨i,hi,rfl⟩:=List.getElem_of_mem hp
    have:=h i hi
    rw[show gL tP (lean q) i=(lean q)[i] by simp[gL,List.getD_eq_getElem?_getD,List.getElem?_eq_getElem hi]] at this
    exact this
   ·exact hz.h p (Qkd _ hp)
theorem ye5{c:List Pln}{S ps ps':List (List Pln)}{q:List Pln}(h:Pcs c S ps)(hw:F6 ps q=some ps'):Pcs c (S++[q]) ps':=by
 unfold F6 at hw;cases hq:ful q with
 |false =>
  rw[hq,if_neg (by decide)] at hw
  injection hw with hw;subst hw;refine⟨h.ful,h.sub,λy hy s hs hf=>?_,h.dis,λz hz=>?_⟩
  ·rcases Qkb.1 hs with hs|hs
   ·exact h.off y hy s hs hf
   ·rw[Qke.1 hs,hq] at hf;cases hf
  ·exact (h.cov z hz).imp id λ⟨s,hs,h⟩=>⟨s,Qka _ hs,h⟩
 |true =>
  rw[hq,if_pos rfl] at hw
  split at hw
  case isFalse=>cases hw
  rename_i hr;injection hw with hw;subst hw;rw[Qkk,Qkh] at hr;have hp:=λx (hx:x∈ps)=>Af3 hq (h.ful x hx) (hr.1 x hx)
  refine⟨λy hy=>?_,λy hy=>?_,λy hy s hs hf z z1 z2=>?_,?_,λz hz=>?_⟩
  ·obtain⟨x,hx,hy⟩:=Qkaf.1 hy;exact ((hp x hx).1 y hy).1
  ·obtain⟨x,hx,hy⟩:=Qkaf.1 hy;exact λz hz=>h.sub x hx z (((hp x hx).1 y hy).2.1 z hz)
  ·obtain⟨x,hx,hy⟩:=Qkaf.1 hy;obtain⟨k1,k2,k3⟩:=(hp x hx).1 y hy
   rcases Qkb.1 hs with hs|hs
   ·-- Af1 z there are inner points of the piece that are inner points of x
    have zx:Ins (x++ws) z:=by
     obtain⟨_,x0,hx0⟩:=na5.1 (h.ful x hx);refine⟨z1.w,λp hp=>?_⟩
     have h0:=(k2 z z1.inr).h p hp;by_cases e:rmZ p z=0
     ·exfalso;obtain⟨N,hN,hi⟩:=jf7 z1 p.n;have h1:=(k2 _ hi.inr).h p hp;rw[Wd8,e] at h1
      have:=sd4 (sd1 (bb2 (na5.1 (h.ful x hx)).1 p hp))
      omega
     ·omega
    exact h.off x hx s hs hf z zx z2
   ·rw[Qke.1 hs] at z2;exact k3 z z1 z2
  ·rw[List.pairwise_flatMap];refine⟨λx hx=>(hp x hx).2.1,h.dis.imp_of_mem λ{a b} ha hb hab u hu v hv z z1 z2=>?_⟩
   have up:∀{x u:List Pln},x∈ps->u∈Ha7 q x->Ins (u++ws) z->Ins (x++ws) z:=λ{x u} hx hu z1=>by
    obtain⟨k1,k2,k3⟩:=(hp x hx).1 u hu;refine⟨z1.w,λp hp=>?_⟩
    have h0:=(k2 z z1.inr).h p hp;by_cases e:rmZ p z=0
    ·exfalso;obtain⟨N,hN,hi⟩:=jf7 z1 p.n;have h1:=(k2 _ hi.inr).h p hp;rw[Wd8,e] at h1
     have:=sd4 (sd1 (bb2 (na5.1 (h.ful x hx)).1 p hp))
     omega
    ·omega
   exact hab z (up ha hu z1) (up hb hv z2)
  ·rcases h.cov z hz with⟨x,hx,hxz⟩|⟨s,hs,h'⟩
   ·rcases (hp x hx).2.2 z hxz with⟨y,hy,hyz⟩|h'
    ·exact .inl ⟨y,Qkaf.2 ⟨x,hx,hy⟩,hyz⟩
    ·exact .inr ⟨q,by simp,hq,h'⟩
   ·exact .inr ⟨s,Qka _ hs,h'⟩
theorem dc2(s:List (List Pln)):s.foldl (λst q=>st.bind λps=>F6 ps q) none=none:=by
 induction s with
 |nil=>rfl
 |cons q s ih=>exact ih
theorem sd5{c:List Pln}:∀(s S ps:List (List Pln)) (r:List (List Pln)),Pcs c S ps->s.foldl (λst q=>st.bind λps=>F6 ps q) (some ps)=some r->Pcs c (S++s) r
 |[],S,ps,r,h,e=>by injection e with e;subst e;rw[List.append_nil];exact h
 |q::s,S,ps,r,h,e=>by
  have e:s.foldl (λst q=>st.bind λps=>F6 ps q) (F6 ps q)=some r:=e
  cases hw:F6 ps q with
  |none=>rw[hw,dc2] at e;cases e
  |some ps' =>
   rw[hw] at e
   have:=sd5 s (S++[q]) ps' r (ye5 h hw) e
   rw[List.append_assoc] at this;exact this
theorem ne8{c:List Pln}{s r:List (List Pln)}(hc:ful c=true)(h:qa9 c s=some r):Pcs c s r:=by
 have hs:Pcs c [] (if ful c then [lean c] else []):=Pe6.resolve_right (by rw[hc];decide)
 exact sd5 s [] _ r hs h
theorem Pe8{c:List Pln}{s r:List (List Pln)}(hc:ful c=true)(h:qa9 c s=some r):r=[]↔∀z,Inr (c++ws) z->∃q∈s,ful q=true/\Inr (q++ws) z:=by
 have hp:=ne8 hc h;constructor
 ·rintro rfl z hz;exact (hp.cov z hz).resolve_left λ⟨_,hy,_⟩=>by cases hy
 ·intro hall;cases r with
  |nil=>rfl
  |cons y r =>
   exfalso;obtain⟨_,z,hz⟩:=na5.1 (hp.ful y (by simp))
   obtain⟨q,hq,hf,hi⟩:=hall z (hp.sub y (by simp) z hz.inr)
   exact hp.off y (by simp) q hq hf z hz hi
set_option maxRecDepth 100000
noncomputable def Xd0:List (Nat×Sum):=[]
theorem Cd5:i9 prog G Xd0:=trivial
noncomputable def nc6(x:V3)(y:V3):V3:=(⟨W (x.x-y.x),W (x.y-y.y),W (x.z-y.z)⟩:V3)
noncomputable def Xc0:Sum:=oa5 (ba6 tV) (ba6 tV) (λx y=>.ret ((one r1V).enc (nc6 x y),[]))
theorem Xd1:g9 prog G 108 Xc0:=Ia3 (bd hg9 Cd5) λx y=>v7 (by kernel_rfl)
noncomputable def Cd6:List (Nat×Sum):=[(108,Xc0)]
theorem sd6:i9 prog G Cd6:=⟨Xd1,trivial⟩
noncomputable def fb1(x:Pln):Pln:=let t1:=(nc6 (⟨0,0,0⟩:V3) x.n);(⟨t1,W (0-x.b)⟩:Pln)
noncomputable def Kc8:Sum:=X6 (ba6 tP) (λx=>.ret ((one r1P).enc (fb1 x),[]))
theorem Cd7:g9 prog G 52 Kc8:=Ib6 (bd b52 sd6) λx=>v7 (by kernel_rfl)
noncomputable def Cd8:List (Nat×Sum):=[(140,Nb1),(85,Ac6),(83,Jb6),(141,Ob9)]
theorem sd7:i9 prog G Cd8:=⟨kc5,Wc5,Wb7,mc5,trivial⟩
noncomputable def fb2(x:Pln)(y:V3):Option (b7×List b8):=let t1:=(Ta4 x);let t2:=(Eb0 y);let t3:=(ua0 x.n y);let t4:=(oa2 t3 x.b);(sl (Ta5 x) (sl (!t1) (some (i 0,[])) (sl (Eb1 y) (sl (!t2) (some (i 0,[])) (sl (oa3 t3 x.b) (some (i t4,[])) none)) none)) none)
noncomputable def xb8(x:Pln)(y:V3):Int:=J8 (one r1I) (fb2 x y)
noncomputable def xb9(x:Pln)(y:V3):Bool:=okO (one r1I) (fb2 x y)
noncomputable def Kc9:Sum:=oa5 (ba6 tP) (ba6 tV) (λx y=>.guard (xb9 x y) (.ret ((one r1I).enc (xb8 x y),[])))
theorem Cd9:g9 prog G 88 Kc9:=hb8 (bd b88 sd7) (one r1I) (o:=fb2) λx y=>v7 (by kernel_rfl)
structure pf1 where
 (ka8 ka9 la0 f0 b9 f7 j6:Int)
structure pf2 where
 alt:Nat
 bs0:Bool
structure Kd1 where
 i5:List V3
 (f0 b9 f7 j6:Int)
structure vd6 where
 i5:List V3
 (is7 f0 b9 f7 j6:Int)
structure vd7 where
 is8:Int
structure Kd2 where
 alt:Nat
 is0:Int
structure sd8 where
 i5:List V3
 (f0 b9 f7 j6:Int)
structure sd9 where
 alt:Nat
 bs0:Bool
structure pf7 where
 (is3 is4 is9 na7 Re8 ze9 dg2:Int)
 (Ub0 Ub1:List V3)
structure pf8 where
 pg2:Int
structure pf9 where
 (is3 is9 na7 Re8:Int)
structure qf0 where
 ze9:Int
 (Ub0 Ub1:List V3)
structure qf1 where
 is9:Int
structure qf2 where
 na7:Int
 (Ub0 Ub1:List V3)
structure Se2 where
 (ka8 ka9 la0 f0 b9 f7 j6:Int)
structure Se3 where
 alt:Nat
 bs0:Bool
structure Kd3 where
 i5:List V3
 (f0 b9 f7 j6:Int)
structure vd8 where
 i5:List V3
 (is7 f0 b9 f7 j6:Int)
structure vd9 where
 is8:Int
structure Kd4 where
 alt:Nat
 is0:Int
structure td0 where
 i5:List V3
 (f0 b9 f7 j6:Int)
structure td1 where
 alt:Nat
 bs0:Bool
structure Kd5 where
 i5:List V3
structure wd0 where
 i5:List V3
 is7:Int
structure wd1 where
 is8:Int
structure Kd6 where
 alt:Nat
 is0:Int
structure td2 where
 i5:List V3
structure td3 where
 alt:Nat
 bs0:Bool
structure jf8 where
 hb5:List Int
 is7:Int
structure jf9 where
 is8:Int
end Go.Ev.Ce
namespace Go.Proofs
open Go.Shelf
end Go.Proofs
namespace Go.Ev.Ce
open Go Go.Ev Go.Ev.L Go.Proofs Go.Sort
def orI(a c d:Int):Int:=if a=0 then if c=0 then d else c else a
def og7(x y:V3):Int:=orI (kb9 x.x y.x) (kb9 x.y y.y) (kb9 x.z y.z)
def LtV(x y:V3):Prop:=x.x<y.x\/x.x=y.x/\(x.y<y.y\/x.y=y.y/\x.z<y.z)
instance(x y:V3):Decidable (LtV x y):=by unfold LtV;exact inferInstance
instance:Inhabited V3:=⟨⟨0,0,0⟩⟩
def cg3(l:List V3):List V3:=l.mergeSort λx y=>!ltOf og7 y x
end Go.Ev.Ce
namespace Go.Ev.Ce
open Go Go.Ev Go.Ev.L Go.Proofs
set_option maxRecDepth 100000
structure ye6 where
 (alt ns0:Nat)
 eh0:List (List b7)
structure ne9 where
 ns0:Nat
 eh0:List (List b7)
structure Xd2 where
 (ns0 os4 ns4:Nat)
structure Xd3 where
 (is3 is5:Int)
 eh0:List (List b7)
structure Xd4 where
 ns0:Nat
 eh0:List (List b7)
structure Xd5 where
 is3:Int
structure oe0 where
 (alt ns0:Nat)
 eh0:List (List b7)
structure kf0 where
 (is3 is4 is9 na7 Re8 ze9 dg2:Int)
 (Ub0 Ub1:List V3)
structure kf1 where
 ph:Nat
 pg2:Int
 eh4:List (List b7)
 bc0:Nat
 eh5:List (List b7)
structure kf2 where
 (is3 is9 na7 Re8:Int)
structure kf3 where
 ph:Nat
 ze9:Int
 (Ub0 Ub1:List V3)
 eh4:List (List b7)
 bc0:Nat
 eh5:List (List b7)
structure kf4 where
 is9:Int
structure kf5 where
 ph:Nat
 na7:Int
 (Ub0 Ub1:List V3)
 eh4:List (List b7)
 bc0:Nat
 eh5:List (List b7)
structure Se4 where
 (ka8 ka9 la0 Lb1 f0 b9 f7:Int)
structure Se5 where
 bs0:Bool
structure wd2 where
 c9:List Pln
 (f0 b9 f7:Int)
structure ed8 where
 c9:List Pln
 (is7 f0 b9 f7:Int)
structure ed9 where
 is8:Int
structure wd3 where
 alt:Nat
 is0:Int
structure bd0 where
 c9:List Pln
 (f0 b9 f7:Int)
structure bd1 where
 alt:Nat
 bs0:Bool
structure Se6 where
 (c9 xa8:List Pln)
 (is9 na7:Int)
 pg9:Nat
 qg0:Nat->List b7
 (bc1 f0 b9 f7 j6:Int)
structure Se7 where
 xa9:Int
structure Se8 where
 is9:Int
structure Se9 where
 (c9 xa8:List Pln)
 na7:Int
structure Pe9 where
 (ka8 ka9 la0:Int)
 e7:List Pln
structure ye7 where
 Md6:List Pln
 is8:Int
 e7:List Pln
 (X1 X2 X3:Int)
structure ye8 where
 ph:Nat
 is9:Int
 ns4:Nat
 eh2:List (List b7)
structure Qe0 where
 alt:Nat
 bs0:Bool
 e7:List Pln
structure Kd7 where
 ns0:Nat
 eh0:List (List b7)
 ta4:List Pln
structure wd4 where
 ns0:Nat
 is7:Int
 eh0:List (List b7)
structure wd5 where
 is8:Int
 ta4:List Pln
structure Kd8 where
 alt:Nat
 is0:Int
 ta4:List Pln
structure Kd9 where
 ns0:Nat
 eh0:List (List b7)
 ta4:List Pln
structure wd6 where
 ns0:Nat
structure wd7 where
 (is5 is6:Int)
 eh0:List (List b7)
 ta4:List Pln
structure Ld0 where
 (alt ns0:Nat)
 eh0:List (List b7)
 ta4:List Pln
structure Qe1 where
 (alt ns0:Nat)
 eh0:List (List b7)
structure pe9 where
 (f0 dg7 dg8:Int)
structure qe0 where
 Re8:Int
structure qf3 where
 (ka8 ka9 la0:Int)
 ea4:List Pln
 (of7 of8 of9:Int)
structure Te0 where
 (of7 of8 of9:Int)
 Sf6:List Pln
 ze9:Int
structure Te1 where
 ph:Nat
 bc1:Int
 ns8:Nat
 eh0:List (List b7)
structure qf4 where
 alt:Nat
 bs1:Bool
 ns0:Nat
 eh0:List (List b7)
structure qf5 where
 (ka8 ka9 la0:Int)
 ea4:List Pln
 (of7 of8 of9:Int)
structure Te2 where
 (of7 of8 of9:Int)
 Sf6:List Pln
 ze9:Int
structure Te3 where
 ph:Nat
 bc1:Int
 ns8:Nat
 eh0:List (List b7)
structure qf6 where
 alt:Nat
 bs1:Bool
 ns0:Nat
 eh0:List (List b7)
end Go.Ev.Ce
namespace Go.Ev.Ce
def Ra8(a b:V3):V3:=⟨a.x-b.x,a.y-b.y,a.z-b.z⟩
def N3(u w x:V3):V3:=d9 (Ra8 w u) (Ra8 x u)
def Sol(l:List V3):Prop:=∃a c k v,a∈l/\c∈l/\k∈l/\v∈l/\dot (N3 a c k) (Ra8 v a)≠0
theorem Sol.off{l:List V3}(h:Sol l){n:V3}(hn:n≠⟨0,0,0⟩)(b:Int):∃v∈l,dot n v≠b:=by
 obtain⟨a,c,k,v,ha,hc,hk,hv,hd⟩:=h;by_cases h1:dot n a=b
 ·by_cases h2:dot n c=b
  ·by_cases h3:dot n k=b
   ·by_cases h4:dot n v=b
    ·exfalso;unfold N3 at hd;generalize hD:dot (d9 (Ra8 c a) (Ra8 k a)) (Ra8 v a)=D at *
     have q1:dot n (Ra8 c a)=0:=by unfold dot Ra8 at *;grind
     have q2:dot n (Ra8 k a)=0:=by unfold dot Ra8 at *;grind
     have q3:dot n (Ra8 v a)=0:=by unfold dot Ra8 at *;grind
     generalize Ra8 c a=p at *
     generalize Ra8 k a=q at *
     generalize Ra8 v a=r at *
     have i1:D*n.x=(d9 q r).x*dot n p+(d9 r p).x*dot n q+(d9 p q).x*dot n r:=by rw[<- hD];simp only[dot,d9];grind
     have i2:D*n.y=(d9 q r).y*dot n p+(d9 r p).y*dot n q+(d9 p q).y*dot n r:=by rw[<- hD];simp only[dot,d9];grind
     have i3:D*n.z=(d9 q r).z*dot n p+(d9 r p).z*dot n q+(d9 p q).z*dot n r:=by rw[<- hD];simp only[dot,d9];grind
     rw[q1,q2,q3] at i1 i2 i3;have z:∀{x:Int},D*x=0->x=0:=λh=>(Qkf.1 h).resolve_left hd
     exact hn (Qkaq (z (by omega)) (z (by omega)) (z (by omega)))
    ·exact⟨v,hv,h4⟩
   ·exact⟨k,hk,h3⟩
  ·exact⟨c,hc,h2⟩
 ·exact⟨a,ha,h1⟩
theorem Sol.ne{l:List V3}(h:Sol l):∃v,v∈l:=by obtain⟨a,_,_,_,ha,_⟩:=h;exact⟨a,ha⟩
structure Fac(l:List V3)(n:V3)(b:Int):Prop where
 hd:∀v∈l,dot n v<=b
 on:∃u w x,u∈l/\w∈l/\x∈l/\N3 u w x≠⟨0,0,0⟩/\dot n u=b/\dot n w=b/\dot n x=b
end Go.Ev.Ce
namespace Go.Ev.Ce
open Go Go.Ev Go.Ev.L Go.Proofs
theorem Rf4{l:List V3}(hf:nf0 l=true):Sol l:=(Qf4 hf).h
theorem Af4{v:V3}(h:g3 v=0):v=⟨0,0,0⟩:=by
 unfold g3 at h;have h:Nat.gcd (Nat.gcd v.x.natAbs v.y.natAbs) v.z.natAbs=0:=by omega
 rw[Nat.gcd_eq_zero_iff,Nat.gcd_eq_zero_iff] at h;exact Qkaq (by show v.x=0;omega) (by show v.y=0;omega) (by show v.z=0;omega)
theorem oe1{a c k:V3}(ha:inV a=true)(hc:inV c=true)(hk:inV k=true)(h:N3 a c k≠⟨0,0,0⟩):(Fa2 a c k).2=true:=by
 unfold Fa2;rw[ha,hc,hk];simp only[Qkr,if_true];rw[if_neg (λh0=>h (Af4 h0):¬ g3 (d9 (sub c a) (sub k a))=0)]
theorem Ld1{a c k:V3}{p:Pln}(h:Thr a c k p):N3 a c k≠⟨0,0,0⟩:=λe=>by
 obtain⟨ok,⟨g,hg,e1,e2,e3⟩,_⟩:=h;have e':d9 (sub c a) (sub k a)=⟨0,0,0⟩:=e;rw[e'] at e1 e2 e3;have z:∀{x:Int},g*x=0->x=0:=λh=>(Qkf.1 h).resolve_left (by omega)
 exact sd1 ok (Qkaq (z e1) (z e2) (z e3))
theorem ye9{a c k:V3}{p:Pln}(h:Thr a c k p):dot p.n a=p.b/\dot p.n c=p.b/\dot p.n k=p.b:=by
 obtain⟨ok,⟨g,hg,e1,e2,e3⟩,o⟩:=h;have z:∀{x y:Int},g*(x-y)=0->x=y:=λh=>by have:=(Qkf.1 h).resolve_left (by omega);omega
 refine⟨o.symm,?_,?_⟩
 ·rw[o];apply z
  have:g*(dot p.n c-dot p.n a)=(g*p.n.x)*(c.x-a.x)+(g*p.n.y)*(c.y-a.y)+(g*p.n.z)*(c.z-a.z):=by simp only[dot];grind
  rw[this,e1,e2,e3];simp only[d9,sub];grind
 ·rw[o];apply z
  have:g*(dot p.n k-dot p.n a)=(g*p.n.x)*(k.x-a.x)+(g*p.n.y)*(k.y-a.y)+(g*p.n.z)*(k.z-a.z):=by simp only[dot];grind
  rw[this,e1,e2,e3];simp only[d9,sub];grind
theorem Sc1(p:Pln)(v:V3):dot (V8 p).n v=(V8 p).b↔dot p.n v=p.b:=by
 rw[ne4];show -dot p.n v=-p.b↔_;omega
theorem td4{a c k:V3}{p q:Pln}(h:Thr a c k q)(hp:okp p=true)(t1:dot p.n a=p.b)(t2:dot p.n c=p.b)(t3:dot p.n k=p.b):p=q\/p=V8 q:=by
 obtain⟨s1,s2,s3⟩:=ye9 h;obtain⟨ok,⟨g,hg,e1,e2,e3⟩,o⟩:=h;have d1:dot p.n (sub c a)=0:=by simp only[dot,sub] at *;grind
 have d2:dot p.n (sub k a)=0:=by simp only[dot,sub] at *;grind
 have hc:d9 q.n p.n=⟨0,0,0⟩:=by
  have z:∀{x:Int},g*x=0->x=0:=λh=>(Qkf.1 h).resolve_left (by omega)
  generalize sub c a=u at *
  generalize sub k a=w at *
  refine Qkaq (z ?_) (z ?_) (z ?_)
  ·have:g*(d9 q.n p.n).x=(g*q.n.y)*p.n.z-(g*q.n.z)*p.n.y:=by simp only[d9];grind
   rw[this,e2,e3]
   have:(d9 u w).y*p.n.z-(d9 u w).z*p.n.y=w.x*dot p.n u-u.x*dot p.n w:=by simp only[d9,dot];grind
   rw[this,d1,d2];simp
  ·have:g*(d9 q.n p.n).y=(g*q.n.z)*p.n.x-(g*q.n.x)*p.n.z:=by simp only[d9];grind
   rw[this,e1,e3]
   have:(d9 u w).z*p.n.x-(d9 u w).x*p.n.z=w.y*dot p.n u-u.y*dot p.n w:=by simp only[d9,dot];grind
   rw[this,d1,d2];simp
  ·have:g*(d9 q.n p.n).z=(g*q.n.x)*p.n.y-(g*q.n.y)*p.n.x:=by simp only[d9];grind
   rw[this,e1,e2]
   have:(d9 u w).x*p.n.y-(d9 u w).y*p.n.x=w.z*dot p.n u-u.z*dot p.n w:=by simp only[d9,dot];grind
   rw[this,d1,d2];simp
 obtain⟨pn,pb⟩:=p;obtain⟨qn,qb⟩:=q
 rcases jf2 (ye3 ok) (ye3 hp) hc with e|e
 ·left
  simp only at e o t1 s1 t2 t3
  subst e;rw[<- t1,s1]
 ·right
  simp only at e o t1 s1 t2 t3
  subst e;rw[<- t1];simp only[dot,neg,V8] at s1 ⊢;simp only[Pln.mk.injEq,true_and]
  grind
structure Lc0(l:List V3)(p:Pln):Prop extends Fac l p.n p.b where
 ok:okp p=true
theorem kf6{l:List V3}{p:Pln}{u w x:V3}(hu:u∈l)(hw:w∈l)(hx:x∈l)(h:Thr u w x p)(hh:∀v∈l,dot (V8 p).n v<=(V8 p).b):Lc0 l (V8 p):=by
 obtain⟨s1,s2,s3⟩:=ye9 h;exact⟨⟨hh,u,w,x,hu,hw,hx,Ld1 h,(Sc1 p u).2 s1,(Sc1 p w).2 s2,(Sc1 p x).2 s3⟩,Kc2 h.ok⟩
theorem Af5{l:List V3}{p:Pln}{u w x:V3}(hu:u∈l)(hw:w∈l)(hx:x∈l)(h:Thr u w x p)(hh:∀v∈l,dot p.n v<=p.b):Lc0 l p:=by
 obtain⟨s1,s2,s3⟩:=ye9 h;exact⟨⟨hh,u,w,x,hu,hw,hx,Ld1 h,s1,s2,s3⟩,h.ok⟩
theorem cg4{u w x:V3}(h:N3 u w x≠⟨0,0,0⟩):N3 w u x≠⟨0,0,0⟩/\N3 u x w≠⟨0,0,0⟩/\N3 x w u≠⟨0,0,0⟩/\N3 w x u≠⟨0,0,0⟩/\N3 x u w≠⟨0,0,0⟩:=by
 have e1:N3 w u x=neg (N3 u w x):=Qkaq (by simp only[N3,d9,Ra8,neg];grind) (by simp only[N3,d9,Ra8,neg];grind) (by simp only[N3,d9,Ra8,neg];grind)
 have e2:N3 u x w=neg (N3 u w x):=Qkaq (by simp only[N3,d9,Ra8,neg];grind) (by simp only[N3,d9,Ra8,neg];grind) (by simp only[N3,d9,Ra8,neg];grind)
 have e3:N3 x w u=neg (N3 u w x):=Qkaq (by simp only[N3,d9,Ra8,neg];grind) (by simp only[N3,d9,Ra8,neg];grind) (by simp only[N3,d9,Ra8,neg];grind)
 have e4:N3 w x u=N3 u w x:=Qkaq (by simp only[N3,d9,Ra8];grind) (by simp only[N3,d9,Ra8];grind) (by simp only[N3,d9,Ra8];grind)
 have e5:N3 x u w=N3 u w x:=Qkaq (by simp only[N3,d9,Ra8];grind) (by simp only[N3,d9,Ra8];grind) (by simp only[N3,d9,Ra8];grind)
 rw[e1,e2,e3,e4,e5];exact⟨Wd4 h,Wd4 h,Wd4 h,h,h⟩
theorem If7{u w x:V3}(h:N3 u w x≠⟨0,0,0⟩):u≠w/\u≠x/\w≠x:=by
 refine⟨λe=>h ?_,λe=>h ?_,λe=>h ?_⟩<;>subst e<;>refine Qkaq ?_ ?_ ?_<;>simp only[N3,d9,Ra8]<;>grind
theorem og8 {l : List V3} {u w x : V3} (hu : u ∈ l) (hw : w ∈ l) (hx : x ∈ l) (h : N3 u w x ≠ ⟨0, 0, 0⟩) :
  ∃a,a<l.length/\∃c,c<a/\∃k,k<c/\N3 (gL tV l a) (gL tV l c) (gL tV l k)≠⟨0,0,0⟩/\∀f:V3->Prop,f u->f w->f x->f (gL tV l a)/\f (gL tV l c)/\f (gL tV l k):=by
 obtain⟨i,hi,rfl⟩:=Qkag.1 hu;obtain⟨j,hj,rfl⟩:=Qkag.1 hw;obtain⟨k,hk,rfl⟩:=Qkag.1 hx;obtain⟨n1,n2,n3⟩:=If7 h;obtain⟨s1,s2,s3,s4,s5⟩:=cg4 h;have d1:i≠j:=λe=>n1 (by subst e;rfl)
 have d2:i≠k:=λe=>n2 (by subst e;rfl)
 have d3:j≠k:=λe=>n3 (by subst e;rfl)
 rw[<- Ya7 tV hi,<- Ya7 tV hj,<- Ya7 tV hk] at *
 rcases Qkai d1 with h1|h1<;>rcases Qkai d2 with h2|h2<;>rcases Qkai d3 with h3|h3
 ·exact⟨k,hk,j,h3,i,h1,s3,λf a b c=>⟨c,b,a⟩⟩
 ·exact⟨j,hj,k,h3,i,h2,s4,λf a b c=>⟨b,c,a⟩⟩
 ·omega
 ·exact⟨j,hj,i,h1,k,h2,s1,λf a b c=>⟨b,a,c⟩⟩
 ·exact⟨k,hk,i,h2,j,h1,s5,λf a b c=>⟨c,a,b⟩⟩
 ·omega
 ·exact⟨i,hi,k,h2,j,h3,s2,λf a b c=>⟨a,c,b⟩⟩
 ·exact⟨i,hi,j,h1,k,h3,h,λf a b c=>⟨a,b,c⟩⟩
theorem Af6{l:List V3}(hl:l.all inV=true)(p:Pln):p∈F0 l↔Lc0 l p:=by
 have hin:=Qkh.1 hl;constructor
 ·intro hp;obtain⟨a,ha,c,hc,k,hk,h1,h2⟩:=(ye4 l p).1 hp;have ma:=gLm ha;have mc:=gLm (show c<l.length by omega)
  have mk:=gLm (show k<l.length by omega)
  have ht:=(Kb3 h1).2
  rcases h2 with⟨rfl,h3⟩|⟨rfl,h3⟩
  ·exact Af5 ma mc mk ht ((Kc4 ht.ok hl).1 h3)
  ·exact kf6 ma mc mk ht ((Kc4 (Kc2 ht.ok) hl).1 h3)
 ·intro h;obtain⟨u,w,x,hu,hw,hx,h3,t1,t2,t3⟩:=h.on;obtain⟨a,ha,c,hc,k,hk,hn,hall⟩:=og8 hu hw hx h3;obtain⟨i1,i2,i3⟩:=hall (λv=>inV v=true) (hin u hu) (hin w hw) (hin x hx)
  obtain⟨e1,e2,e3⟩:=hall (λv=>dot p.n v=p.b) t1 t2 t3
  have h2:=oe1 i1 i2 i3 hn;refine (ye4 l p).2 ⟨a,ha,c,hc,k,hk,h2,?_⟩;have hh:=(Kc4 h.ok hl).2 h.hd
  rcases td4 (Kb3 h2).2 h.ok e1 e2 e3 with e|e
  ·exact .inl ⟨e,hh⟩
  ·exact .inr ⟨e,hh⟩
end Go.Ev.Ce
namespace Go.Ev.Ce
open Go Go.Ev Go.Ev.L Go.Proofs Go.Sort
def eqV(x y:V3):Bool:=x.x==y.x&&(x.y==y.y&&(x.z==y.z&&true))
def dvF:V3->List V3->List V3
 |_,[]=>[]
 |a,x::l=>if eqV x a then dvF x l else x::dvF x l
def ddV:List V3->List V3
 |[]=>[]
 |x::l=>x::dvF x l
structure pg6(l:List V3)(n:Nat)(cur:List V3)(m j:Nat)(R:List V3):Prop where
 len:cur.length=l.length
 t:cur.take m++dvF (gL tV l (j-1)) ((l.take n).drop j)=R
 d:cur.drop (j-1)=l.drop (j-1)
 le:m+1<=j
noncomputable def dis(l:List V3):List V3:=ddV (cg3 l)
end Go.Ev.Ce
namespace Go.Ev.Ce
open Go Go.Ev Go.Ev.L Go.Proofs
theorem oe2(p:Pln)(v:V3):fb2 p v=some (i (eb9 p v),[]):=by
 unfold fb2 eb9;simp only[De3,De4,(Vd1 v).1,(Vd1 v).2,Fe2,Fe3,g7];cases hp:okp p with
 |false=>rfl
 |true =>
  cases hv:inV v with
  |false=>rfl
  |true =>
   have hb:=Nb8 hp;have hd:=if0 hb hv;have e:ua0 p.n v=dot p.n v:=by
    unfold ua0;simp only[sb1,Vb4];exact Ja0 (hd.mono (by omega))
   rw[e];simp only[Bool.not_true,J7,Qkr,if_true,kb9];by_cases h1:dot p.n v<p.b
   ·rw[if_pos h1,if_pos (by omega)]
   ·rw[if_neg h1];by_cases h2:dot p.n v>p.b
    ·rw[if_pos h2,if_neg (by omega),if_pos (by omega)]
    ·rw[if_neg h2,if_neg (by omega),if_neg (by omega)]
theorem Af7(p:Pln)(v:V3):xb8 p v=eb9 p v:=by unfold xb8;rw[oe2];rfl
theorem Af8(p:Pln)(v:V3):xb9 p v=true:=by unfold xb9;rw[oe2];rfl
structure OkF(F:List Pln):Prop where
 l:F.length<=1000000
 v:∀p∈F,okp p=true
noncomputable def own(F:List Pln)(v:V3):List Pln:=F.filter λp=>eb9 p v==0
structure pg7(l:List V3)(n:Nat)(f:V3->Bool)(cur:List V3)(m j:Nat):Prop where
 len:cur.length=l.length
 t:cur.take m=(l.take j).filter f
 d:cur.drop j=l.drop j
 le:m<=j
 lm:m<=n
structure B8(v:V3):Prop where
 x:Sm 8 v.x
 y:Sm 8 v.y
 z:Sm 8 v.z
structure Mp(l:List V3):Prop where
 l4:4<=l.length
 l8:l.length<=8
 bd:∀v∈l,Sm 11 v.x/\Sm 11 v.y/\Sm 11 v.z
 nf:nf0 l=true
theorem Mp.inV{l:List V3}(h:Mp l):l.all inV=true:=Qkh.2 λv hv=>by
 obtain⟨h1,h2,h3⟩:=h.bd v hv;exact (xb0 v).2 ⟨h1.mono (by omega),h2.mono (by omega),h3.mono (by omega)⟩
set_option maxRecDepth 100000
structure Te4 where
 (i5 Lb2:List V3)
structure Ge9 where
 (Lb2 Sf7:List V3)
 (Re8 ze9:Int)
 pg3:List V3
 (qg1 X1 X2 X3:Int)
structure He0 where
 ph:Nat
 dg2:Int
 ns7:Nat
 (eh0 eh1:List (List b7))
 (gb7 gb8 gb9:Int)
structure He1 where
 Re8:Int
structure He2 where
 ph:Nat
 (Lb2 Sf7:List V3)
 ze9:Int
 ns7:Nat
 (eh0 eh1:List (List b7))
structure Te5 where
 (alt ns0:Nat)
 eh0:List (List b7)
structure Te6 where
 (i5 pg4:List V3)
 (p4 f0 b9 f7:Int)
structure Te7 where
 (is6 qg2:Int)
structure Af9 where
 (ka8 ka9 la0 Lb1 f0 b9 f7:Int)
structure Bf0 where
 alt:Nat
 bs0:Bool
structure wd8 where
 c9:List Pln
 (f0 b9 f7:Int)
structure fd0 where
 c9:List Pln
 (is7 f0 b9 f7:Int)
structure fd1 where
 is8:Int
structure wd9 where
 alt:Nat
 is0:Int
structure bd2 where
 c9:List Pln
 (f0 b9 f7:Int)
structure bd3 where
 alt:Nat
 bs0:Bool
noncomputable def nc7:List (Nat×Sum):=[(97,wb3)]
theorem bd4:i9 prog G nc7:=⟨Nb2,trivial⟩
structure Fa8 where
 H4:List (List Pln)
 na7:Int
structure U6 where
 p4:Int
noncomputable def Tb6(p:Fa8)(s:U6):St:=⟨ra 9 (eL (tLs tP) p.H4::i p.na7::i s.p4::ra 9 []),[]⟩
noncomputable def va7{α:Type}(k:U6->α)(e:Nat->α)(z:α)(p:Fa8)(s:U6):α:=let t1:=(ua6 (rt tP (gL (tLs tP) p.H4 s.p4.toNat)));(sl (decide (s.p4<p.na7)) (sl (inB s.p4 (List.length p.H4)) (sl (okE tP (gL (tLs tP) p.H4 s.p4.toNat)) (sl (Oa5 (rt tP (gL (tLs tP) p.H4 s.p4.toNat))) (sl (t1 != 0) (e 1) (k ⟨W (s.p4+1)⟩)) z) z) z) (e 2))
noncomputable def Ba0(p:Fa8)(s:U6):Stp U6:=va7 .next .exit .fail p s
noncomputable def ub5:Lo Fa8 U6:=⟨En nc7,0,Vf6,[1,1,0,1,4,4],[9,10,11],.p,[⟨ru2 9 (.s (.c 1 (nL (tLs tP)))::sIq::sIq::ru2 9 []),[],λa H=>(⟨rL (tLs tP) (slT a 9),aIq a 10⟩,⟨aIq a 11⟩)⟩],Ba0,[(none,λp s=>let t1:=(ua6 (rt tP (gL (tLs tP) p.H4 s.p4.toNat)));⟨[i t1],[]⟩),(some 0,λp s=>upq (Tb6 p s) [(12,b (decide (s.p4<p.na7)))])],Tb6⟩
theorem Sc2:ub5.Ok:=Lo.ok [] (by kernel_rfl) .nil rfl (.cons (λa H=>by kernel_rfl) .nil) λp s=>(.of @va7 (λF _ _ _ _ _=>by unfold va7;(repeat' apply l6 (f:=F))<;>rfl) (by kernel_rfl))
noncomputable def Ua9(x:List (List Pln)):Option (b7×List b8):=let t1:=(lp (Ba0 (⟨rt (tLs tP) x,(↑(List.length x):Int)⟩:Fa8)) (⟨0⟩:U6));let t2:=(ua6 (rt tP (gL (tLs tP) (rt (tLs tP) x) t1.2.p4.toNat)));(sl (decide ((↑(List.length x):Int)>16)) (some (i 2,[])) (sl ((cnE (tLs tP) x)&&true) (sl (Nat.beq t1.1 1) (some (i t2,[])) (sl (Nat.beq t1.1 2) (some (i 0,[])) none)) none))
noncomputable def Y1(x:List (List Pln)):Int:=J8 (one r1I) (Ua9 x)
noncomputable def Y2(x:List (List Pln)):Bool:=okO (one r1I) (Ua9 x)
noncomputable def nb3:Sum:=X6 (O3 (tLs tP)) (λx=>.guard (Y2 x) (.ret ((one r1I).enc (Y1 x),[])))
theorem Fb3:g9 prog G 49 nb3:=Ia9 (bd b49 bd4) (one r1I) (o:=Ua9) λx=>ta7 (.s .p (.s .p (.s (.s .p (.b (.u ub5.ls))) .p))) [ub5.pr] (by kernel_rfl) (.cons Sc2 .nil) (by kernel_rfl)
noncomputable def nc8:List (Nat×Sum):=[]
theorem bd5:i9 prog G nc8:=trivial
@[reducible] noncomputable def vc8:Sum:=Pb4 (En nc8) Ff5
theorem td5:g9 prog G 155 vc8:=bd kg3 bd5
noncomputable def lb2:List (Nat×Sum):=[(55,Za1),(98,Zb9),(56,Yb7),(52,Kc8),(166,Ha3),(155,vc8)]
theorem Lc1:i9 prog G lb2:=⟨db4,vc7,vc5,Cd7,db0,td5,trivial⟩
structure w9 where
 y5:List Pln
 na7:Int
 (Yd7 Yd8:List Pln)
 fd4:List (List Pln)
 (Df8 Df9:Int)
structure k8 where
 ph:Nat
 aa8:List Pln
 p4:Int
 B7:Nat
 eh3:List (List b7)
noncomputable def vb1(p:w9)(s:k8):St:=⟨ra 4 (eL tP s.aa8::ra 4 (eL tP p.y5::i p.na7::i s.p4::ra 31 (i 0::.unk::eL tP p.Yd7::.unk::.unk::.ptr 0 0 0 0::.ptr 1 0 0 0::eL tP p.Yd8::.ptr 2 0 0 0::ra 9 (eL (tLs tP) p.fd4::i p.Df8::i p.Df9::ra 25 [])))),[⟨0,1,[[.v (.slice none 0 0)]],true,false,0⟩,⟨0,1,[[i 0]],true,false,0⟩,⟨0,0,[[.v (.slice none 0 0)]],true,false,0⟩]⟩
noncomputable def vb2(p:w9)(s:k8):St:=⟨ra 4 (eL tP s.aa8::ra 4 (eL tP p.y5::i p.na7::i s.p4::ra 31 (i 0::.unk::eL tP p.Yd7::.unk::.unk::.ptr 0 0 0 0::.ptr 1 0 0 0::eL tP p.Yd8::.ptr 2 0 0 0::ra 9 (eL (tLs tP) p.fd4::i p.Df8::i p.Df9::ra 25 [])))),[⟨0,1,[[.v (.slice none 0 0)]],true,false,0⟩,⟨0,1,[[i 0]],true,false,0⟩,⟨0,0,[[.sl 3 0 s.B7 0]],true,false,0⟩,⟨24,1,s.eh3,true,false,0⟩]⟩
noncomputable def Bc1(p:w9)(s:k8):St:=(sel (Nat.beq s.ph 1) (vb2 p s) (vb1 p s))
noncomputable def A0{α:Type}(k:k8->α)(e:Nat->α)(z:α)(p:w9)(s:k8):α:=let t1:=(fb1 (gL tP p.y5 s.p4.toNat));let t2:=(u7 [rt tP s.aa8,[t1]]);let t3:=(Q3 []);let t4:=(u7 [rt tP s.aa8,[gL tP p.y5 s.p4.toNat]]);let t5:=(Q3 (slR tP t4.eh0 0 t4.ns0));let t6:=(Q3 (slR tP t2.eh0 0 t2.ns0));let w0:α:=(sl ((okE tP s.aa8)&&true) (sl (Nat.beq t4.alt 1) (sl (r7 []) (k ⟨0,t3,W (s.p4+1),0,[]⟩) z) (sl (Nat.beq t4.alt 2) (sl (okS tP t4.eh0 0 t4.ns0) (sl (r7 (slR tP t4.eh0 0 t4.ns0)) (k ⟨0,t5,W (s.p4+1),0,[]⟩) z) z) z)) z);(sl (decide (s.p4<p.na7)) (sl (inB s.p4 (List.length p.y5)) (sl (decide ((↑(List.length s.aa8):Int)>=48)) (e 1) (sl ((okE tP s.aa8)&&true) (sl (Nat.beq t2.alt 1) (sl (r7 []) (sl (decide ((↑(List.length t3):Int)>0)) (sl (decide ((↑(List.length t3):Int)>0)) (sl ((!(Nat.beq (List.length t3) 0))&&true) (sl ((okE tP s.aa8)&&true) (sl (Nat.beq t4.alt 1) (sl (r7 []) (k ⟨1,t3,W (s.p4+1),1,[[eL tP t3]]⟩) z) (sl (Nat.beq t4.alt 2) (sl (okS tP t4.eh0 0 t4.ns0) (sl (r7 (slR tP t4.eh0 0 t4.ns0)) (k ⟨1,t5,W (s.p4+1),1,[[eL tP t3]]⟩) z) z) z)) z) z) w0) (sl (decide ((↑(List.length t3):Int)>0)) z w0)) z) (sl (Nat.beq t2.alt 2) (sl (okS tP t2.eh0 0 t2.ns0) (sl (r7 (slR tP t2.eh0 0 t2.ns0)) (sl (decide ((↑(List.length t6):Int)>0)) (sl (decide ((↑(List.length t6):Int)>0)) (sl ((!(Nat.beq (List.length t6) 0))&&true) (sl ((okE tP s.aa8)&&true) (sl (Nat.beq t4.alt 1) (sl (r7 []) (k ⟨1,t3,W (s.p4+1),1,[[eL tP t6]]⟩) z) (sl (Nat.beq t4.alt 2) (sl (okS tP t4.eh0 0 t4.ns0) (sl (r7 (slR tP t4.eh0 0 t4.ns0)) (k ⟨1,t5,W (s.p4+1),1,[[eL tP t6]]⟩) z) z) z)) z) z) w0) (sl (decide ((↑(List.length t6):Int)>0)) z w0)) z) z) z)) z)) z) (e 2))
noncomputable def A1{α:Type}(k:k8->α)(e:Nat->α)(z:α)(p:w9)(s:k8):α:=let t1:=(fb1 (gL tP p.y5 s.p4.toNat));let t2:=(u7 [rt tP s.aa8,[t1]]);let t3:=(Q3 []);let t4:=(u7 [rt tP s.aa8,[gL tP p.y5 s.p4.toNat]]);let t5:=(Q3 (slR tP t4.eh0 0 t4.ns0));let t6:=(Q3 (slR tP t2.eh0 0 t2.ns0));let w0:α:=(sl ((okE tP s.aa8)&&true) (sl (Nat.beq t4.alt 1) (sl (r7 []) (k ⟨1,t3,W (s.p4+1),s.B7,s.eh3⟩) z) (sl (Nat.beq t4.alt 2) (sl (okS tP t4.eh0 0 t4.ns0) (sl (r7 (slR tP t4.eh0 0 t4.ns0)) (k ⟨1,t5,W (s.p4+1),s.B7,s.eh3⟩) z) z) z)) z);(sl (decide (s.p4<p.na7)) (sl (inB s.p4 (List.length p.y5)) (sl (decide ((↑(List.length s.aa8):Int)>=48)) (e 3) (sl ((okE tP s.aa8)&&true) (sl (Nat.beq t2.alt 1) (sl (r7 []) (sl (decide ((↑(List.length t3):Int)>0)) (sl (decide ((↑(List.length t3):Int)>0)) (sl ((!(Nat.beq (List.length t3) 0))&&true) (sl (Nat.beq s.B7 (len s.eh3)&&Nat.ble ((s.B7+1)*24) room) (sl ((okE tP s.aa8)&&true) (sl (Nat.beq t4.alt 1) (sl (r7 []) (k ⟨1,t3,W (s.p4+1),s.B7+1,app s.eh3 [[eL tP t3]]⟩) z) (sl (Nat.beq t4.alt 2) (sl (okS tP t4.eh0 0 t4.ns0) (sl (r7 (slR tP t4.eh0 0 t4.ns0)) (k ⟨1,t5,W (s.p4+1),s.B7+1,app s.eh3 [[eL tP t3]]⟩) z) z) z)) z) z) z) w0) (sl (decide ((↑(List.length t3):Int)>0)) z w0)) z) (sl (Nat.beq t2.alt 2) (sl (okS tP t2.eh0 0 t2.ns0) (sl (r7 (slR tP t2.eh0 0 t2.ns0)) (sl (decide ((↑(List.length t6):Int)>0)) (sl (decide ((↑(List.length t6):Int)>0)) (sl ((!(Nat.beq (List.length t6) 0))&&true) (sl (Nat.beq s.B7 (len s.eh3)&&Nat.ble ((s.B7+1)*24) room) (sl ((okE tP s.aa8)&&true) (sl (Nat.beq t4.alt 1) (sl (r7 []) (k ⟨1,t3,W (s.p4+1),s.B7+1,app s.eh3 [[eL tP t6]]⟩) z) (sl (Nat.beq t4.alt 2) (sl (okS tP t4.eh0 0 t4.ns0) (sl (r7 (slR tP t4.eh0 0 t4.ns0)) (k ⟨1,t5,W (s.p4+1),s.B7+1,app s.eh3 [[eL tP t6]]⟩) z) z) z)) z) z) z) w0) (sl (decide ((↑(List.length t6):Int)>0)) z w0)) z) z) z)) z)) z) (e 4))
noncomputable def m9(p:w9)(s:k8):Stp k8:=(sel (Nat.beq s.ph 1) (A1 .next .exit .fail p s) (A0 .next .exit .fail p s))
noncomputable def fb3:Lo w9 k8:=⟨En lb2,0,Mf9,[1,1,1,1,0,1,4,4,1,1,0,4,1,1,1,4,4,1,1,4,4],[4,9,10,11,43,45,48,49,50,51,61,62,63],.p,[⟨ru2 4 (sLq tP::ru2 4 (sLq tP::sIq::sIq::ru2 31 (.s (.o (.lit .i64 0))::sUq::sLq tP::sUq::sUq::sPq 0::sPq 1::sLq tP::sPq 2::ru2 9 (.s (.c 1 (nL (tLs tP)))::sIq::sIq::ru2 25 [])))),[⟨0,1,true,some [[.o .nil]]⟩,⟨0,1,true,some [[.o (.lit .i64 0)]]⟩,⟨0,0,true,some [[.o .nil]]⟩],λa H=>(⟨aLq tP a 9,aIq a 10,aLq tP a 45,aLq tP a 50,rL (tLs tP) (slT a 61),aIq a 62,aIq a 63⟩,⟨0,aLq tP a 4,aIq a 11,0,[]⟩)⟩,⟨ru2 4 (sLq tP::ru2 4 (sLq tP::sIq::sIq::ru2 31 (.s (.o (.lit .i64 0))::sUq::sLq tP::sUq::sUq::sPq 0::sPq 1::sLq tP::sPq 2::ru2 9 (.s (.c 1 (nL (tLs tP)))::sIq::sIq::ru2 25 [])))),[⟨0,1,true,some [[.o .nil]]⟩,⟨0,1,true,some [[.o (.lit .i64 0)]]⟩,⟨0,0,true,some [[.o (.sl 3 0 (some 0) none)]]⟩,⟨24,1,true,none⟩],λa H=>(⟨aLq tP a 9,aIq a 10,aLq tP a 45,aLq tP a 50,rL (tLs tP) (slT a 61),aIq a 62,aIq a 63⟩,⟨1,aLq tP a 4,aIq a 11,slN (slT (rwT (elT H 2) 0) 0),elT H 3⟩)⟩],m9,[(none,λp s=>⟨ra 4 (eL tP s.aa8::.unk::.ptr 3 0 0 0::.unk::.unk::eL tP p.y5::i p.na7::i s.p4::b (decide (s.p4<p.na7))::.tptr [i (gL tP p.y5 s.p4.toNat).n.x,i (gL tP p.y5 s.p4.toNat).n.y,i (gL tP p.y5 s.p4.toNat).n.z,i (gL tP p.y5 s.p4.toNat).b]::.agg [i (gL tP p.y5 s.p4.toNat).n.x,i (gL tP p.y5 s.p4.toNat).n.y,i (gL tP p.y5 s.p4.toNat).n.z,i (gL tP p.y5 s.p4.toNat).b]::eL tP s.aa8::i (↑(List.length s.aa8):Int)::b (decide ((↑(List.length s.aa8):Int)>=48))::.unk::b false::ra 23 (i 1::.unk::eL tP p.Yd7::.unk::.unk::.ptr 0 0 0 0::.ptr 1 0 0 0::eL tP p.Yd8::.ptr 2 0 0 0::ra 9 (eL (tLs tP) p.fd4::i p.Df8::i p.Df9::ra 25 []))),[⟨0,1,[[.v (.slice none 0 0)]],true,false,0⟩,⟨0,1,[[i 9]],true,false,0⟩,⟨0,0,[[.v (.slice none 0 0)]],true,false,0⟩,⟨0,4,[[i (gL tP p.y5 s.p4.toNat).n.x,i (gL tP p.y5 s.p4.toNat).n.y,i (gL tP p.y5 s.p4.toNat).n.z,i (gL tP p.y5 s.p4.toNat).b]],true,false,0⟩]⟩),(some 0,λp s=>upq (vb1 p s) [(12,b (decide (s.p4<p.na7)))]),(none,λp s=>⟨ra 4 (eL tP s.aa8::.unk::.ptr 4 0 0 0::.unk::.unk::eL tP p.y5::i p.na7::i s.p4::b (decide (s.p4<p.na7))::.tptr [i (gL tP p.y5 s.p4.toNat).n.x,i (gL tP p.y5 s.p4.toNat).n.y,i (gL tP p.y5 s.p4.toNat).n.z,i (gL tP p.y5 s.p4.toNat).b]::.agg [i (gL tP p.y5 s.p4.toNat).n.x,i (gL tP p.y5 s.p4.toNat).n.y,i (gL tP p.y5 s.p4.toNat).n.z,i (gL tP p.y5 s.p4.toNat).b]::eL tP s.aa8::i (↑(List.length s.aa8):Int)::b (decide ((↑(List.length s.aa8):Int)>=48))::.unk::b false::ra 23 (i 1::.unk::eL tP p.Yd7::.unk::.unk::.ptr 0 0 0 0::.ptr 1 0 0 0::eL tP p.Yd8::.ptr 2 0 0 0::ra 9 (eL (tLs tP) p.fd4::i p.Df8::i p.Df9::ra 25 []))),[⟨0,1,[[.v (.slice none 0 0)]],true,false,0⟩,⟨0,1,[[i 9]],true,false,0⟩,⟨0,0,[[.sl 3 0 s.B7 0]],true,false,0⟩,⟨24,1,s.eh3,true,false,0⟩,⟨0,4,[[i (gL tP p.y5 s.p4.toNat).n.x,i (gL tP p.y5 s.p4.toNat).n.y,i (gL tP p.y5 s.p4.toNat).n.z,i (gL tP p.y5 s.p4.toNat).b]],true,false,0⟩]⟩),(some 0,λp s=>upq (vb2 p s) [(12,b (decide (s.p4<p.na7)))])],Bc1⟩
theorem Bc2:fb3.OkM:=Lo.okM [] (by kernel_rfl) .nil rfl (.cons (λa H=>by kernel_rfl) (.cons (λa H=>by kernel_rfl) .nil)) λp s=>(.sel (Nat.beq s.ph 1) (.of @A1 (λF _ _ _ _ _=>by unfold A1;(repeat' apply l6 (f:=F))<;>rfl) (by kernel_rfl)) (.of @A0 (λF _ _ _ _ _=>by unfold A0;(repeat' apply l6 (f:=F))<;>rfl) (by kernel_rfl)))
structure S4 where
 bc1:Int
structure o8 where
 ph:Nat
 (ea4 L2:List Pln)
 A9:List (List Pln)
 xa9:Int
 B7:Nat
 eh3:List (List b7)
noncomputable def vb3(p:S4)(s:o8):St:=⟨.unk::eL tP s.ea4::.unk::.unk::.ptr 0 0 0 0::.ptr 1 0 0 0::eL tP s.L2::.ptr 2 0 0 0::ra 9 (eL (tLs tP) s.A9::i p.bc1::i s.xa9::ra 25 []),[⟨0,1,[[.v (.slice none 0 0)]],true,false,0⟩,⟨0,1,[[i 0]],true,false,0⟩,⟨0,0,[[.v (.slice none 0 0)]],true,false,0⟩]⟩
noncomputable def vb4(p:S4)(s:o8):St:=⟨.unk::eL tP s.ea4::.unk::.unk::.ptr 0 0 0 0::.ptr 1 0 0 0::eL tP s.L2::.ptr 2 0 0 0::ra 9 (eL (tLs tP) s.A9::i p.bc1::i s.xa9::ra 25 []),[⟨0,1,[[.v (.slice none 0 0)]],true,false,0⟩,⟨0,1,[[i 0]],true,false,0⟩,⟨0,0,[[.sl 3 0 s.B7 0]],true,false,0⟩,⟨24,1,s.eh3,true,false,0⟩]⟩
noncomputable def Bc3(p:S4)(s:o8):St:=(sel (Nat.beq s.ph 1) (vb4 p s) (vb3 p s))
noncomputable def o7{α:Type}(k:o8->α)(e:Nat->α)(z:α)(p:S4)(s:o8):α:=let t1:=(Oa8 (rt tP (gL (tLs tP) s.A9 s.xa9.toNat)) (rt tP s.ea4));let t2:=(lp (m9 (⟨rt tP s.L2,(↑(List.length s.L2):Int),rt tP s.ea4,rt tP s.L2,rt (tLs tP) s.A9,p.bc1,s.xa9⟩:w9)) (⟨0,rt tP (gL (tLs tP) s.A9 s.xa9.toNat),0,0,[]⟩:k8));(sl (decide (s.xa9<p.bc1)) (sl (inB s.xa9 (List.length s.A9)) (sl (okE tP (gL (tLs tP) s.A9 s.xa9.toNat)) (sl (okE tP s.ea4) (sl (Oa9 (rt tP (gL (tLs tP) s.A9 s.xa9.toNat)) (rt tP s.ea4)) (sl t1 (k ⟨1,s.ea4,s.L2,s.A9,W (s.xa9+1),1,[[eL tP (gL (tLs tP) s.A9 s.xa9.toNat)]]⟩) (sl ((cnE tP (gL (tLs tP) s.A9 s.xa9.toNat))&&((cnE tP s.L2)&&((cnE tP s.ea4)&&((cnE tP s.L2)&&((cnE (tLs tP) s.A9)&&true))))) (sl (Nat.beq t2.1 1) (e 1) (sl (Nat.beq t2.1 2) (k ⟨0,rt tP s.ea4,rt tP s.L2,rt (tLs tP) s.A9,W (s.xa9+1),0,[]⟩) (sl (Nat.beq t2.1 3) (e 2) (sl (Nat.beq t2.1 4) (k ⟨1,rt tP s.ea4,rt tP s.L2,rt (tLs tP) s.A9,W (s.xa9+1),t2.2.B7,t2.2.eh3⟩) z)))) z)) z) z) z) z) (e 3))
noncomputable def r9{α:Type}(k:o8->α)(e:Nat->α)(z:α)(p:S4)(s:o8):α:=let t1:=(Oa8 (rt tP (gL (tLs tP) s.A9 s.xa9.toNat)) (rt tP s.ea4));let t2:=(lp (m9 (⟨rt tP s.L2,(↑(List.length s.L2):Int),rt tP s.ea4,rt tP s.L2,rt (tLs tP) s.A9,p.bc1,s.xa9⟩:w9)) (⟨1,rt tP (gL (tLs tP) s.A9 s.xa9.toNat),0,s.B7,s.eh3⟩:k8));(sl (decide (s.xa9<p.bc1)) (sl (inB s.xa9 (List.length s.A9)) (sl (okE tP (gL (tLs tP) s.A9 s.xa9.toNat)) (sl (okE tP s.ea4) (sl (Oa9 (rt tP (gL (tLs tP) s.A9 s.xa9.toNat)) (rt tP s.ea4)) (sl t1 (sl (Nat.beq s.B7 (len s.eh3)&&Nat.ble ((s.B7+1)*24) room) (k ⟨1,s.ea4,s.L2,s.A9,W (s.xa9+1),s.B7+1,app s.eh3 [[eL tP (gL (tLs tP) s.A9 s.xa9.toNat)]]⟩) z) (sl ((cnE tP (gL (tLs tP) s.A9 s.xa9.toNat))&&((cnE tP s.L2)&&((cnE tP s.ea4)&&((cnE tP s.L2)&&((cnE (tLs tP) s.A9)&&true))))) (sl (Nat.beq t2.1 1) (e 4) (sl (Nat.beq t2.1 2) (k ⟨0,rt tP s.ea4,rt tP s.L2,rt (tLs tP) s.A9,W (s.xa9+1),0,[]⟩) (sl (Nat.beq t2.1 3) (e 5) (sl (Nat.beq t2.1 4) (k ⟨1,rt tP s.ea4,rt tP s.L2,rt (tLs tP) s.A9,W (s.xa9+1),t2.2.B7,t2.2.eh3⟩) z)))) z)) z) z) z) z) (e 6))
noncomputable def u9(p:S4)(s:o8):Stp o8:=(sel (Nat.beq s.ph 1) (r9 .next .exit .fail p s) (o7 .next .exit .fail p s))
noncomputable def fb4:Lo S4 o8:=⟨En lb2,0,Mf9,[1,1,1,1,0,1,4,4],[1,4,5,6,7,17,18,19],.s .p (.s .p (.s (.b (.s .p (.s .p (.s .p (.b (.i (.s .p (.s .p (.b (.u fb3.lsM)))))))))) .p)),[⟨sUq::sLq tP::sUq::sUq::sPq 0::sPq 1::sLq tP::sPq 2::ru2 9 (.s (.c 1 (nL (tLs tP)))::sIq::sIq::ru2 25 []),[⟨0,1,true,some [[.o .nil]]⟩,⟨0,1,true,some [[.o (.lit .i64 0)]]⟩,⟨0,0,true,some [[.o .nil]]⟩],λa H=>(⟨aIq a 18⟩,⟨0,aLq tP a 1,aLq tP a 6,rL (tLs tP) (slT a 17),aIq a 19,0,[]⟩)⟩,⟨sUq::sLq tP::sUq::sUq::sPq 0::sPq 1::sLq tP::sPq 2::ru2 9 (.s (.c 1 (nL (tLs tP)))::sIq::sIq::ru2 25 []),[⟨0,1,true,some [[.o .nil]]⟩,⟨0,1,true,some [[.o (.lit .i64 0)]]⟩,⟨0,0,true,some [[.o (.sl 3 0 (some 0) none)]]⟩,⟨24,1,true,none⟩],λa H=>(⟨aIq a 18⟩,⟨1,aLq tP a 1,aLq tP a 6,rL (tLs tP) (slT a 17),aIq a 19,slN (slT (rwT (elT H 2) 0) 0),elT H 3⟩)⟩],u9,[(none,λp s=>let t2:=(lp (m9 (⟨rt tP s.L2,(↑(List.length s.L2):Int),rt tP s.ea4,rt tP s.L2,rt (tLs tP) s.A9,p.bc1,s.xa9⟩:w9)) (⟨0,rt tP (gL (tLs tP) s.A9 s.xa9.toNat),0,0,[]⟩:k8));⟨.unk::eL tP (rt tP s.ea4)::.unk::.unk::.ptr 0 0 0 0::.ptr 1 0 0 0::eL tP (rt tP s.L2)::.ptr 2 0 0 0::ra 9 (eL (tLs tP) (rt (tLs tP) s.A9)::i p.bc1::i s.xa9::ra 25 []),[⟨0,1,[[.v (.slice none 0 0)]],true,false,0⟩,⟨0,1,[[i 9]],true,false,0⟩,⟨0,0,[[.v (.slice none 0 0)]],true,false,0⟩,⟨0,4,[[i (gL tP (rt tP s.L2) t2.2.p4.toNat).n.x,i (gL tP (rt tP s.L2) t2.2.p4.toNat).n.y,i (gL tP (rt tP s.L2) t2.2.p4.toNat).n.z,i (gL tP (rt tP s.L2) t2.2.p4.toNat).b]],true,false,0⟩]⟩),(none,λp s=>let t2:=(lp (m9 (⟨rt tP s.L2,(↑(List.length s.L2):Int),rt tP s.ea4,rt tP s.L2,rt (tLs tP) s.A9,p.bc1,s.xa9⟩:w9)) (⟨0,rt tP (gL (tLs tP) s.A9 s.xa9.toNat),0,0,[]⟩:k8));⟨.unk::eL tP (rt tP s.ea4)::.unk::.unk::.ptr 0 0 0 0::.ptr 1 0 0 0::eL tP (rt tP s.L2)::.ptr 2 0 0 0::ra 9 (eL (tLs tP) (rt (tLs tP) s.A9)::i p.bc1::i s.xa9::ra 25 []),[⟨0,1,[[.v (.slice none 0 0)]],true,false,0⟩,⟨0,1,[[i 9]],true,false,0⟩,⟨0,0,[[.sl 3 0 t2.2.B7 0]],true,false,0⟩,⟨24,1,t2.2.eh3,true,false,0⟩,⟨0,4,[[i (gL tP (rt tP s.L2) t2.2.p4.toNat).n.x,i (gL tP (rt tP s.L2) t2.2.p4.toNat).n.y,i (gL tP (rt tP s.L2) t2.2.p4.toNat).n.z,i (gL tP (rt tP s.L2) t2.2.p4.toNat).b]],true,false,0⟩]⟩),(some 0,λp s=>upq (vb3 p s) [(20,b (decide (s.xa9<p.bc1)))]),(none,λp s=>let t2:=(lp (m9 (⟨rt tP s.L2,(↑(List.length s.L2):Int),rt tP s.ea4,rt tP s.L2,rt (tLs tP) s.A9,p.bc1,s.xa9⟩:w9)) (⟨1,rt tP (gL (tLs tP) s.A9 s.xa9.toNat),0,s.B7,s.eh3⟩:k8));⟨.unk::eL tP (rt tP s.ea4)::.unk::.unk::.ptr 0 0 0 0::.ptr 1 0 0 0::eL tP (rt tP s.L2)::.ptr 2 0 0 0::ra 9 (eL (tLs tP) (rt (tLs tP) s.A9)::i p.bc1::i s.xa9::ra 25 []),[⟨0,1,[[.v (.slice none 0 0)]],true,false,0⟩,⟨0,1,[[i 9]],true,false,0⟩,⟨0,0,[[.v (.slice none 0 0)]],true,false,0⟩,⟨0,4,[[i (gL tP (rt tP s.L2) t2.2.p4.toNat).n.x,i (gL tP (rt tP s.L2) t2.2.p4.toNat).n.y,i (gL tP (rt tP s.L2) t2.2.p4.toNat).n.z,i (gL tP (rt tP s.L2) t2.2.p4.toNat).b]],true,false,0⟩]⟩),(none,λp s=>let t2:=(lp (m9 (⟨rt tP s.L2,(↑(List.length s.L2):Int),rt tP s.ea4,rt tP s.L2,rt (tLs tP) s.A9,p.bc1,s.xa9⟩:w9)) (⟨1,rt tP (gL (tLs tP) s.A9 s.xa9.toNat),0,s.B7,s.eh3⟩:k8));⟨.unk::eL tP (rt tP s.ea4)::.unk::.unk::.ptr 0 0 0 0::.ptr 1 0 0 0::eL tP (rt tP s.L2)::.ptr 2 0 0 0::ra 9 (eL (tLs tP) (rt (tLs tP) s.A9)::i p.bc1::i s.xa9::ra 25 []),[⟨0,1,[[.v (.slice none 0 0)]],true,false,0⟩,⟨0,1,[[i 9]],true,false,0⟩,⟨0,0,[[.sl 3 0 t2.2.B7 0]],true,false,0⟩,⟨24,1,t2.2.eh3,true,false,0⟩,⟨0,4,[[i (gL tP (rt tP s.L2) t2.2.p4.toNat).n.x,i (gL tP (rt tP s.L2) t2.2.p4.toNat).n.y,i (gL tP (rt tP s.L2) t2.2.p4.toNat).n.z,i (gL tP (rt tP s.L2) t2.2.p4.toNat).b]],true,false,0⟩]⟩),(some 0,λp s=>upq (vb4 p s) [(20,b (decide (s.xa9<p.bc1)))])],Bc3⟩
theorem Bc4:fb4.OkM:=Lo.okM [fb3.prM] (by kernel_rfl) (.cons Bc2 .nil) rfl (.cons (λa H=>by kernel_rfl) (.cons (λa H=>by kernel_rfl) .nil)) λp s=>(.sel (Nat.beq s.ph 1) (.of @r9 (λF _ _ _ _ _=>by unfold r9;(repeat' apply l6 (f:=F))<;>rfl) (by kernel_rfl)) (.of @o7 (λF _ _ _ _ _=>by unfold o7;(repeat' apply l6 (f:=F))<;>rfl) (by kernel_rfl)))
noncomputable def Fa9(x:List (List Pln))(y:List Pln):Option (b7×List b8):=let t1:=(Ba8 (rt tP y));let t2:=(Q3 (rt tP y));let t3:=(lp (u9 (⟨(↑(List.length x):Int)⟩:S4)) (⟨0,rt tP y,rt tP t2,rt (tLs tP) x,0,0,[]⟩:o8));(sl (okE tP y) (sl (Ba9 (rt tP y)) (sl (!t1) (some (.tup [eL (tLs tP) x,i 0],[])) (sl (okE tP y) (sl (r7 (rt tP y)) (sl ((cnE tP y)&&((cnE tP t2)&&((cnE (tLs tP) x)&&true))) (sl (Nat.beq t3.1 1) (some (.tup [.v (.slice none 0 0),i 9],[])) (sl (Nat.beq t3.1 2) (some (.tup [.v (.slice none 0 0),i 9],[])) (sl (Nat.beq t3.1 3) (some (.tup [.v (.slice none 0 0),i 0],[])) (sl (Nat.beq t3.1 4) (some (.tup [.v (.slice none 0 0),i 9],[])) (sl (Nat.beq t3.1 5) (some (.tup [.v (.slice none 0 0),i 9],[])) (sl (Nat.beq t3.1 6) (sl (decide ((↑t3.2.B7:Int)>200)) (some (.tup [.v (.slice none 0 0),i 9],[])) (some ((.tup [(.tree 1 t3.2.B7 (λk=>l9 t3.2.eh3 (0+k))),i 0]),[]))) none)))))) none) none) none)) none) none)
noncomputable def ba3(x:List (List Pln))(y:List Pln):List (List Pln)×Int:=J8 (two (r1L (tLs tP)) r1I) (Fa9 x y)
noncomputable def Wa6(x:List (List Pln))(y:List Pln):Bool:=okO (two (r1L (tLs tP)) r1I) (Fa9 x y)
noncomputable def dc3:Sum:=oa5 (O3 (tLs tP)) (O3 tP) (λx y=>.guard (Wa6 x y) (.ret ((two (r1L (tLs tP)) r1I).enc (ba3 x y),[])))
theorem Sc3:g9 prog G 99 dc3:=hb8 (bd b99 Lc1) (two (r1L (tLs tP)) r1I) (o:=Fa9) λx y=>cf2 (.s .p (.s .p (.s .p (.s .p (.s (.s .p (.b (.u fb4.lsM))) .p))))) [fb4.prM] (by kernel_rfl) (.cons Bc4 .nil) (by kernel_rfl)
noncomputable def nc9:List (Nat×Sum):=[(97,wb3),(49,nb3),(55,Za1),(98,Zb9),(99,dc3)]
theorem bd6:i9 prog G nc9:=⟨Nb2,Fb3,db4,vc7,Sc3,trivial⟩
structure ba4 where
 Pa6:List (List Pln)
 Ae0:Int
 e7:List Pln
structure y7 where
 ph:Nat
 Gb4:Int
 hb6:List (List Pln)
noncomputable def Kb5(p:ba4)(s:y7):St:=⟨ra 8 (.sl 0 0 1 0::ra 19 (eL (tLs tP) p.Pa6::i p.Ae0::i s.Gb4::ra 14 [])),[⟨24,1,[[eL tP p.e7]],true,false,0⟩]⟩
noncomputable def Kb6(p:ba4)(s:y7):St:=⟨ra 8 (eL (tLs tP) s.hb6::ra 19 (eL (tLs tP) p.Pa6::i p.Ae0::i s.Gb4::ra 14 [])),[]⟩
noncomputable def Sc4(p:ba4)(s:y7):St:=(sel (Nat.beq s.ph 1) (Kb6 p s) (Kb5 p s))
noncomputable def N5{α:Type}(k:y7->α)(e:Nat->α)(z:α)(p:ba4)(s:y7):α:=let t1:=(ba3 [rt tP p.e7] (rt tP (gL (tLs tP) p.Pa6 s.Gb4.toNat)));(sl (decide (s.Gb4<p.Ae0)) (sl (inB s.Gb4 (List.length p.Pa6)) (sl ((okE tP p.e7)&&true) (sl (okE tP (gL (tLs tP) p.Pa6 s.Gb4.toNat)) (sl (Wa6 [rt tP p.e7] (rt tP (gL (tLs tP) p.Pa6 s.Gb4.toNat))) (sl (t1.2 != 0) (e 1) (k ⟨1,W (s.Gb4+1),t1.1⟩)) z) z) z) z) (e 2))
noncomputable def N6{α:Type}(k:y7->α)(e:Nat->α)(z:α)(p:ba4)(s:y7):α:=let t1:=(ba3 (rt (tLs tP) s.hb6) (rt tP (gL (tLs tP) p.Pa6 s.Gb4.toNat)));(sl (decide (s.Gb4<p.Ae0)) (sl (inB s.Gb4 (List.length p.Pa6)) (sl (okE (tLs tP) s.hb6) (sl (okE tP (gL (tLs tP) p.Pa6 s.Gb4.toNat)) (sl (Wa6 (rt (tLs tP) s.hb6) (rt tP (gL (tLs tP) p.Pa6 s.Gb4.toNat))) (sl (t1.2 != 0) (e 3) (k ⟨1,W (s.Gb4+1),t1.1⟩)) z) z) z) z) (e 4))
noncomputable def M1(p:ba4)(s:y7):Stp y7:=(sel (Nat.beq s.ph 1) (N6 .next .exit .fail p s) (N5 .next .exit .fail p s))
noncomputable def ub6:Lo ba4 y7:=⟨En nc9,0,Vf4,[1,1,1,1,1,0,1,4,4],[8,28,29,30],.p,[⟨ru2 8 (.s (.o (.sl 0 0 (some 0) (some 1)))::ru2 19 (.s (.c 1 (nL (tLs tP)))::sIq::sIq::ru2 14 [])),[⟨24,1,true,some [[.c 4 (nL tP)]]⟩],λa H=>(⟨rL (tLs tP) (slT a 28),aIq a 29,hLq tP H 0 0 0⟩,⟨0,aIq a 30,[]⟩)⟩,⟨ru2 8 (.s (.c 1 (nL (tLs tP)))::ru2 19 (.s (.c 1 (nL (tLs tP)))::sIq::sIq::ru2 14 [])),[],λa H=>(⟨rL (tLs tP) (slT a 28),aIq a 29,[]⟩,⟨1,aIq a 30,rL (tLs tP) (slT a 8)⟩)⟩],M1,[(none,λp s=>let t1:=(ba3 [rt tP p.e7] (rt tP (gL (tLs tP) p.Pa6 s.Gb4.toNat)));⟨[.tup [.v (.slice none 0 0),i t1.2]],[]⟩),(some 0,λp s=>upq (Kb5 p s) [(31,b (decide (s.Gb4<p.Ae0)))]),(none,λp s=>let t1:=(ba3 (rt (tLs tP) s.hb6) (rt tP (gL (tLs tP) p.Pa6 s.Gb4.toNat)));⟨[.tup [.v (.slice none 0 0),i t1.2]],[]⟩),(some 0,λp s=>upq (Kb6 p s) [(31,b (decide (s.Gb4<p.Ae0)))])],Sc4⟩
theorem Sc5:ub6.Ok:=Lo.ok [] (by kernel_rfl) .nil rfl (.cons (λa H=>by kernel_rfl) (.cons (λa H=>by kernel_rfl) .nil)) λp s=>(.sel (Nat.beq s.ph 1) (.of @N6 (λF _ _ _ _ _=>by unfold N6;(repeat' apply l6 (f:=F))<;>rfl) (by kernel_rfl)) (.of @N5 (λF _ _ _ _ _=>by unfold N5;(repeat' apply l6 (f:=F))<;>rfl) (by kernel_rfl)))
noncomputable def Va0(x:List Pln)(y:List (List Pln)):Option (b7×List b8):=let t1:=(ua6 (rt tP x));let t2:=(Y1 (rt (tLs tP) y));let t3:=(Ba8 (rt tP x));let t4:=(Q3 (rt tP x));let t5:=(lp (M1 (⟨rt (tLs tP) y,(↑(List.length y):Int),rt tP t4⟩:ba4)) (⟨0,0,[]⟩:y7));let t6:=(ba3 [rt tP (rt tP t4)] (rt tP (gL (tLs tP) (rt (tLs tP) y) t5.2.Gb4.toNat)));let t7:=(ba3 (rt (tLs tP) t5.2.hb6) (rt tP (gL (tLs tP) (rt (tLs tP) y) t5.2.Gb4.toNat)));(sl (okE tP x) (sl (Oa5 (rt tP x)) (sl (t1 != 0) (some (.tup [.v (.slice none 0 0),i t1],[])) (sl (okE (tLs tP) y) (sl (Y2 (rt (tLs tP) y)) (sl (t2 != 0) (some (.tup [.v (.slice none 0 0),i t2],[])) (sl (okE tP x) (sl (Ba9 (rt tP x)) (sl (!t3) (some (.tup [.v (.slice none 0 0),i 0],[])) (sl (okE tP x) (sl (r7 (rt tP x)) (sl ((cnE (tLs tP) y)&&((cnE tP t4)&&true)) (sl (Nat.beq t5.1 1) (some (.tup [.v (.slice none 0 0),i t6.2],[])) (sl (Nat.beq t5.1 2) (some (.tup [.sl 0 0 1 0,i 0],[⟨24,1,[[eL tP (rt tP t4)]],true,false,0⟩])) (sl (Nat.beq t5.1 3) (some (.tup [.v (.slice none 0 0),i t7.2],[])) (sl (Nat.beq t5.1 4) (some (.tup [eL (tLs tP) t5.2.hb6,i 0],[])) none)))) none) none) none)) none) none)) none) none)) none) none)
noncomputable def Va1(x:List Pln)(y:List (List Pln)):List (List Pln)×Int:=J8 (two (r1L (tLs tP)) r1I) (Va0 x y)
noncomputable def Va2(x:List Pln)(y:List (List Pln)):Bool:=okO (two (r1L (tLs tP)) r1I) (Va0 x y)
noncomputable def nb4:Sum:=oa5 (O3 tP) (O3 (tLs tP)) (λx y=>.guard (Va2 x y) (.ret ((two (r1L (tLs tP)) r1I).enc (Va1 x y),[])))
theorem Fb4:g9 prog G 40 nb4:=hb8 (bd b40 bd6) (two (r1L (tLs tP)) r1I) (o:=Va0) λx y=>ta7 (.s .p (.s .p (.s .p (.s .p (.s .p (.s (.s .p (.b (.u ub6.ls))) .p)))))) [ub6.pr] (by kernel_rfl) (.cons Sc5 .nil) (by kernel_rfl)
noncomputable def bd7:List (Nat×Sum):=[(40,nb4)]
theorem Sc6:i9 prog G bd7:=⟨Fb4,trivial⟩
noncomputable def Ma6(x:List (List Pln))(y:List Pln):Option (b7×List b8):=let t1:=(Va1 (rt tP y) (rt (tLs tP) x));(sl (okE tP y) (sl (okE (tLs tP) x) (sl (Va2 (rt tP y) (rt (tLs tP) x)) (sl (t1.2==0) (some (.tup [b ((↑(List.length t1.1):Int)==0),i t1.2],[])) (some (.tup [b false,i t1.2],[]))) none) none) none)
noncomputable def ia2(x:List (List Pln))(y:List Pln):Bool×Int:=J8 (two r1B r1I) (Ma6 x y)
noncomputable def Ma7(x:List (List Pln))(y:List Pln):Bool:=okO (two r1B r1I) (Ma6 x y)
noncomputable def Fb5:Sum:=oa5 (O3 (tLs tP)) (O3 tP) (λx y=>.guard (Ma7 x y) (.ret ((two r1B r1I).enc (ia2 x y),[])))
theorem dc4:g9 prog G 42 Fb5:=hb8 (bd b42 Sc6) (two r1B r1I) (o:=Ma6) λx y=>v7 (by kernel_rfl)
end Go.Ev.Ce
