/- Own work. -/
import Derived.Test.YtekgjjgbdcgldaaGreatEvGe1
set_option linter.all false
def Qka:=@Bool.and_self
def Qkb:=@Nat.lt_irrefl
def Qkc:=@List.mem_cons
def Qkd:=@Bool.false_eq_true
def Qke:=@List.any_eq_true
def Qkf:=@List.getElem?_eq_getElem
def Qkg:=@List.length_append
def Qkh:=@List.all_eq_true
def Qki:=@Bool.and_eq_true
def Qkj:=@Nat.zero_le
def Qkk:=@List.getD_eq_getElem?_getD
def Qkl:=@Nat.gcd_dvd_left
def Qkm:=@Nat.gcd_dvd_right
def Qkn:=@Int.natCast_dvd_natCast
def Qko:=@List.drop_zero
def Qkp:=@List.mem_range
def Qkq:=@Nat.zero_add
def Qkr:=@Nat.dvd_trans
def Qks:=@Nat.le_trans
def Qkt:=@Nat.le_refl
def Qku:=@Int.mul_tdiv_cancel'
def Qkv:=@Nat.beq_refl
def Qkw:=@Int.dvd_natAbs
def Qkx:=@List.foldl_append
def Qky:=@List.findIdx_lt_length
def Qkz:=@Bool.and_true
def Qkaa:=@Int.mul_eq_zero
def Qkab:=@List.mem_append
def Qkac:=@Bool.not_false
def Qkad:=@List.pairwise_cons
def Qkae:=@List.find?_eq_none
def Qkaf:=@List.exists_cons_of_ne_nil
def Qkag:=@List.take_add_one
def Qkah:=@Int.eq_of_mul_eq_mul_left
def Qkai:=@List.not_mem_nil
def Qkaj:=@List.length_take
def Qkak:=@List.length_filter_le
namespace Go.Ev.Ce
open Go Go.Ev Go.Ev.L Go.Proofs
theorem yf1{p:Pln}{x:Pt}(hp:Bd p)(hx:Okx x):rm p x=rmZ p x:=by
 unfold rm rmZ;obtain⟨w1,w2,⟨a1,a2⟩,⟨a3,a4⟩,a5,a6⟩:=hx;have h0:=mb hp.b1 hp.b2 (show -600000000000<=x.pw by omega) w2
 have h1:=mb hp.x1 hp.x2 a1 a2;have h2:=mb hp.y1 hp.y2 a3 a4;have h3:=mb hp.z1 hp.z2 a5 a6;exact ka5 (by omega) (by omega)
theorem Le1{r:List Pln}(hb:Bds r){x:Pt}(hx:Okx x):inn r x=true↔Inr r x:=by
 unfold inn;rw[Qkh];constructor
 ·intro h;refine⟨hx.w1,λp hp=>?_⟩
  have:=h p hp
  rw[yf1 (hb p hp) hx] at this;simpa using this
 ·intro h p hp;rw[yf1 (hb p hp) hx];simpa using h.h p hp
theorem Gf8{p q s:Pln}(h:(mpt p q s).2=true):mw p q s≠0/\∃k:Int,k≠0/\k*(mpt p q s).1.px=(mv p q s).x/\k*(mpt p q s).1.py=(mv p q s).y/\k*(mpt p q s).1.pz=(mv p q s).z/\k*(mpt p q s).1.pw=mw p q s:=by
 unfold mpt at h ⊢;by_cases h0:mw p q s=0
 ·rw[if_pos h0] at h;cases h
 refine⟨h0,?_⟩;have hg:=ud5 (v:=mv p q s) h0;have dv:∀{x:Int},(gc (mv p q s) (mw p q s))∣x->gc (mv p q s) (mw p q s)*Int.tdiv x (gc (mv p q s) (mw p q s))=x:=λh=>Qku h
 have d1:gc (mv p q s) (mw p q s)∣(mv p q s).x:=by
  rw[<- Qkw];exact Qkn.2 (Qkr (Qkl _ _) (Qkl _ _))
 have d2:gc (mv p q s) (mw p q s)∣(mv p q s).y:=by
  rw[<- Qkw];exact Qkn.2 (Qkr (Qkl _ _) (Qkm _ _))
 have d3:gc (mv p q s) (mw p q s)∣(mv p q s).z:=by
  rw[<- Qkw];exact Qkn.2 (Qkr (Qkm _ _) (Qkl _ _))
 have d4:gc (mv p q s) (mw p q s)∣mw p q s:=by
  rw[<- Qkw];exact Qkn.2 (Qkr (Qkm _ _) (Qkm _ _))
 rw[if_neg h0];by_cases h1:mw p q s<0
 ·rw[if_pos h1];have e:∀{x:Int},(gc (mv p q s) (mw p q s))∣x->-(gc (mv p q s) (mw p q s))*Int.tdiv (-x) (gc (mv p q s) (mw p q s))=x:=λ{x} h=>by
   rw[Int.neg_mul,dv ((Int.dvd_neg).2 h),Int.neg_neg]
  exact⟨-(gc (mv p q s) (mw p q s)),by omega,e d1,e d2,e d3,e d4⟩
 ·rw[if_neg h1];exact⟨gc (mv p q s) (mw p q s),by omega,dv d1,dv d2,dv d3,dv d4⟩
theorem if8{p q s:Pln}(h:(mpt p q s).2=true):rmZ p (mpt p q s).1=0/\rmZ q (mpt p q s).1=0/\rmZ s (mpt p q s).1=0:=by
 obtain⟨_,k,hk,e1,e2,e3,e4⟩:=Gf8 h;generalize (mpt p q s).1=x at *
 have f:∀a:Pln,a.b*mw p q s-(a.n.x*(mv p q s).x+a.n.y*(mv p q s).y+a.n.z*(mv p q s).z)=0->rmZ a x=0:=λa ha=>by
  rw[<- e1,<- e2,<- e3,<- e4] at ha
  have:k*rmZ a x=0:=by rw[<- ha];unfold rmZ;grind
  exact (Qkaa.1 this).resolve_left hk
 refine⟨f p ?_,f q ?_,f s ?_⟩<;>(simp only[mw,mv,dot,g7];grind)
theorem yf2{p q s:Pln}(h:mw p q s≠0):(mpt p q s).2=true:=by
 unfold mpt;rw[if_neg h]
 split<;>rfl
theorem if9{p q s:Pln}{x:Pt}(h1:rmZ p x=0)(h2:rmZ q x=0)(h3:rmZ s x=0):mw p q s*x.px=(mv p q s).x*x.pw/\mw p q s*x.py=(mv p q s).y*x.pw/\mw p q s*x.pz=(mv p q s).z*x.pw:=by
 have i1:(mv p q s).x*x.pw-mw p q s*x.px=(g7 q.n s.n).x*rmZ p x+(g7 s.n p.n).x*rmZ q x+(g7 p.n q.n).x*rmZ s x:=by simp only[mw,mv,dot,g7,rmZ];grind
 have i2:(mv p q s).y*x.pw-mw p q s*x.py=(g7 q.n s.n).y*rmZ p x+(g7 s.n p.n).y*rmZ q x+(g7 p.n q.n).y*rmZ s x:=by simp only[mw,mv,dot,g7,rmZ];grind
 have i3:(mv p q s).z*x.pw-mw p q s*x.pz=(g7 q.n s.n).z*rmZ p x+(g7 s.n p.n).z*rmZ q x+(g7 p.n q.n).z*rmZ s x:=by simp only[mw,mv,dot,g7,rmZ];grind
 rw[h1,h2,h3] at i1 i2 i3;simp only[Int.mul_zero,Int.add_zero] at i1 i2 i3;omega
theorem Mf9{p q s:Pln}{x v:Pt}(h:mw p q s≠0)(h1:rmZ p x=0)(h2:rmZ q x=0)(h3:rmZ s x=0)(k1:rmZ p v=0)(k2:rmZ q v=0)(k3:rmZ s v=0):Eqv x v:=by
 obtain⟨a1,a2,a3⟩:=if9 h1 h2 h3;obtain⟨c1,c2,c3⟩:=if9 k1 k2 k3;have f:∀{a c m:Int},mw p q s*a=m*x.pw->mw p q s*c=m*v.pw->a*v.pw=c*x.pw:=λ{a c m} ha hc=>by
  have:mw p q s*(a*v.pw-c*x.pw)=0:=by grind
  have:=(Qkaa.1 this).resolve_left h
  omega
 exact⟨f a1 c1,f a2 c2,f a3 c3⟩
theorem Te5{r:List Pln}{p q:Pln}{out:List Pt}{s:Pln}{x:Pt}(h:x∈out):x∈Oa3 r p q out s:=by
 unfold Oa3;split
 ·exact List.mem_append_left _ h
 ·exact h
theorem yd7{r:List Pln}{p q:Pln}{x:Pt}:∀{l:List Pln} {out:List Pt},x∈out->x∈yb0 r p q l out
 |[],_,h=>h
 |s::l,out,h=>yd7 (l:=l) (out:=Oa3 r p q out s) (Te5 h)
theorem Rc7{r:List Pln}{p:Pln}{x:Pt}:∀{l:List Pln} {out:List Pt},x∈out->x∈hb9 r p l out
 |[],_,h=>h
 |_::l,_,h=>Rc7 (l:=l) (yd7 h)
theorem se6{r:List Pln}{x:Pt}:∀{l:List Pln} {out:List Pt},x∈out->x∈Pc6 r l out
 |[],_,h=>h
 |_::l,_,h=>se6 (l:=l) (Rc7 h)
theorem Te6{r:List Pln}{p q:Pln}{out:List Pt}{s:Pln}(h1:(mpt p q s).2=true)(h2:inn r (mpt p q s).1=true):(mpt p q s).1∈Oa3 r p q out s:=by
 unfold Oa3;rw[h1,h2];cases h:qc8 out (mpt p q s).1 with
 |true=>simpa using (ef3 _ _).1 h
 |false=>simp
theorem yd8{r:List Pln}{p q s:Pln}(h1:(mpt p q s).2=true)(h2:inn r (mpt p q s).1=true):∀{l:List Pln} {out:List Pt},s∈l->(mpt p q s).1∈yb0 r p q l out
 |[],_,h=>by cases h
 |t::l,out,h=>by
  show _∈yb0 r p q l (Oa3 r p q out t)
  rcases Qkc.1 h with rfl|h
  ·exact yd7 (Te6 h1 h2)
  ·exact yd8 h1 h2 h
structure Hit(r:List Pln)(Q:Pt->Prop)(p q s:Pln):Prop where
 h1:(mpt p q s).2=true
 h2:inn r (mpt p q s).1=true
 h3:Q (mpt p q s).1
theorem se7{r:List Pln}{Q:Pt->Prop}{p q s:Pln}(hq:Hit r Q p q s)(hs:Hit r Q p s q)(hne:q≠s):∀{l:List Pln} {out:List Pt},q∈l->s∈l->∃x∈hb9 r p l out,Q x
 |[],_,h,_=>by cases h
 |t::l,out,hql,hsl=>by
  show ∃x∈hb9 r p l (yb0 r p t l out),Q x
  rcases Qkc.1 hql with rfl|h1
  ·have h2:=(Qkc.1 hsl).resolve_left λh=>hne h.symm
   exact⟨_,Rc7 (yd8 hq.h1 hq.h2 h2),hq.h3⟩
  ·rcases Qkc.1 hsl with rfl|h2
   ·exact⟨_,Rc7 (yd8 hs.h1 hs.h2 h1),hs.h3⟩
   ·exact se7 hq hs hne (l:=l) h1 h2
theorem se8 {r : List Pln} {Q : Pt → Prop} {p q s : Pln} (H : ∀ a c d, (a = p ∨ a = q ∨ a = s) → (c = p ∨ c = q ∨ c = s) → (d = p ∨ d = q ∨ d = s) → a ≠ c → c ≠ d → a ≠ d → Hit r Q a c d) (h1 : p ≠ q) (h2 : q ≠ s) (h3 : p ≠ s) :
  ∀{l:List Pln} {out:List Pt},p∈l->q∈l->s∈l->∃x∈Pc6 r l out,Q x
 |[],_,h,_,_=>by cases h
 |t::l,out,hp,hq,hs=>by
  have fin:∀{a c d:Pln} {out:List Pt},(a=p\/a=q\/a=s)->(c=p\/c=q\/c=s)->(d=p\/d=q\/d=s)->a≠c->c≠d->a≠d->c∈l->d∈l->∃x∈Pc6 r l (hb9 r a l out),Q x:=λha hc hd n1 n2 n3 m1 m2=>by
   obtain⟨x,hx,hQ⟩:=se7 (H _ _ _ ha hc hd n1 n2 n3) (H _ _ _ ha hd hc n3 n2.symm n1) n2 (out:=_) m1 m2;exact⟨x,se6 hx,hQ⟩
  show ∃x∈Pc6 r l (hb9 r t l out),Q x
  rcases Qkc.1 hp with rfl|hp'
  ·exact fin (.inl rfl) (.inr (.inl rfl)) (.inr (.inr rfl)) h1 h2 h3 ((Qkc.1 hq).resolve_left (Ne.symm h1)) ((Qkc.1 hs).resolve_left (Ne.symm h3))
  ·rcases Qkc.1 hq with rfl|hq'
   ·exact fin (.inr (.inl rfl)) (.inl rfl) (.inr (.inr rfl)) (Ne.symm h1) h3 h2 hp' ((Qkc.1 hs).resolve_left (Ne.symm h2))
   ·rcases Qkc.1 hs with rfl|hs'
    ·exact fin (.inr (.inr rfl)) (.inl rfl) (.inr (.inl rfl)) (Ne.symm h3) h1 (Ne.symm h2) hp' hq'
    ·exact se8 H h1 h2 h3 hp' hq' hs'
theorem Zf2{p q s:Pln}(h:mw p q s≠0):p≠q/\q≠s/\p≠s:=by
 refine⟨λe=>h ?_,λe=>h ?_,λe=>h ?_⟩<;>(subst e;simp only[mw,dot,g7];grind)
theorem Nf0{r:List Pln}(hb:Bds r):∀x∈cor r,Cn r x:=Je4 λp hp q hq s hs h hi=>by
 obtain⟨w1,w2,w3,w4,w5⟩:=Be9 (hb p hp) (hb q hq) (hb s hs) h;obtain⟨e1,e2,e3⟩:=if8 h;exact⟨(Le1 hb ⟨w1,w5,w2,w3,w4⟩).1 hi,p,q,s,hp,hq,hs,(Gf8 h).1,e1,e2,e3⟩
theorem Nf1{r:List Pln}(hb:Bds r){v:Pt}(hv:Cn r v):∃x∈cor r,Eqv x v:=by
 obtain⟨p,q,s,hp,hq,hs,hw,e1,e2,e3⟩:=hv.c;obtain⟨n1,n2,n3⟩:=Zf2 hw;refine se8 (λa c d ha hc hd m1 m2 m3=>?_) n1 n2 n3 hp hq hs
 have hm:∀{a},(a=p\/a=q\/a=s)->a∈r/\rmZ a v=0:=λh=>by
  rcases h with rfl|rfl|rfl
  ·exact⟨hp,e1⟩
  ·exact⟨hq,e2⟩
  ·exact⟨hs,e3⟩
 have hw':mw a c d≠0:=by
  have k:mw a c d=mw p q s\/mw a c d=-mw p q s:=by
   rcases ha with rfl|rfl|rfl<;>rcases hc with rfl|rfl|rfl<;>rcases hd with rfl|rfl|rfl<;>first|exact absurd rfl m1|exact absurd rfl m2|exact absurd rfl m3|exact .inl rfl|(left;simp only[mw,dot,g7];grind;done)|(right;simp only[mw,dot,g7];grind;done)
  rcases k with k|k<;>omega
 have h:=yf2 hw';obtain⟨w1,w2,w3,w4,w5⟩:=Be9 (hb a (hm ha).1) (hb c (hm hc).1) (hb d (hm hd).1) h;obtain⟨f1,f2,f3⟩:=if8 h;have he:=Mf9 hw' f1 f2 f3 (hm ha).2 (hm hc).2 (hm hd).2;exact⟨h,(Le1 hb ⟨w1,w5,w2,w3,w4⟩).2 (he.inr w1 hv.toInr),he⟩
theorem de6(c:List Pln):Bdd (c++ws):=λd hd=>by
 have k:∀{n:V3} {m:Int},(⟨n,m⟩:Pln)∈ws->0<dot n d->∃p∈c++ws,0<dot p.n d:=λh h'=>⟨_,List.mem_append_right _ h,h'⟩
 by_cases h1:0<d.x
 ·exact k (n:=⟨1,0,0⟩) (m:=24) (by simp[ws]) (by unfold dot;simp;omega)
 by_cases h2:d.x<0
 ·exact k (n:=⟨-1,0,0⟩) (m:=24) (by simp[ws]) (by unfold dot;simp;omega)
 by_cases h3:0<d.y
 ·exact k (n:=⟨0,1,0⟩) (m:=24) (by simp[ws]) (by unfold dot;simp;omega)
 by_cases h4:d.y<0
 ·exact k (n:=⟨0,-1,0⟩) (m:=24) (by simp[ws]) (by unfold dot;simp;omega)
 by_cases h5:0<d.z
 ·exact k (n:=⟨0,0,1⟩) (m:=24) (by simp[ws]) (by unfold dot;simp;omega)
 by_cases h6:d.z<0
 ·exact k (n:=⟨0,0,-1⟩) (m:=24) (by simp[ws]) (by unfold dot;simp;omega)
 exact absurd (V3.ext' (by show d.x=0;omega) (by show d.y=0;omega) (by show d.z=0;omega)) hd
theorem Le2{r:List Pln}(hb:Bds r){p:Pln}(hp:Bd p):pos (cor r) p=true↔∃v,Cn r v/\0<rmZ p v:=by
 unfold pos;rw[Qke];constructor
 ·rintro⟨x,hx,h⟩;rw[yf1 hp (be8 hb x hx)] at h;exact⟨x,Nf0 hb x hx,by simpa using h⟩
 ·rintro⟨v,hv,h⟩;obtain⟨x,hx,he⟩:=Nf1 hb hv;refine⟨x,hx,?_⟩;rw[yf1 hp (be8 hb x hx)];have h1:=he.rm p;have h2:=Int.mul_pos h (be8 hb x hx).w1
  have:0<rmZ p x:=Int.lt_of_mul_lt_mul_right (by rw[Int.zero_mul];omega:0*v.pw<rmZ p x*v.pw) (Int.le_of_lt hv.w)
  simpa using this
theorem yc2{r:List Pln}(hb:Bds r)(hd:Bdd r)(h0:r≠[]):Gd9 r=true↔Te4 r:=by
 rw[if7 hd h0];unfold Gd9;rw[Qkh];exact⟨λh p hp=>(Le2 hb (hb p hp)).1 (h p hp),λh p hp=>(Le2 hb (hb p hp)).2 (h p hp)⟩
end Go.Ev.Ce
namespace Go.Ev.Ce
def dv(z v:Pt):V3:=⟨v.px*z.pw-z.px*v.pw,v.py*z.pw-z.py*v.pw,v.pz*z.pw-z.pz*v.pw⟩
end Go.Ev.Ce
namespace Go.Ev.Ce
open Go Go.Ev Go.Ev.L Go.Proofs
theorem Le3(p:Pln):∀(a:Pln) (l:List Pln),p∈a::ddF a l↔p∈a::l
 |a,[]=>by simp[ddF]
 |a,x::l=>by
  have ih:=Le3 p x l;unfold ddF;split
  ·rename_i h;rw[yc1] at h;subst h;rw[ih];simp
  ·simp only[Qkc] at ih ⊢;rw[ih]
theorem jf0(p:Pln):∀l:List Pln,p∈dd l↔p∈l
 |[]=>Iff.rfl
 |x::l=>Le3 p x l
theorem Le4:∀(a:Pln) (l:List Pln),(a::l).Pairwise (λx y=>(!ltOf oa8 y x)=true)->db2 (a::ddF a l)
 |a,[],_=>List.pairwise_singleton _ _
 |a,x::l,h=>by
  obtain⟨h1,h2⟩:=Qkad.1 h;have ih:=Le4 x l h2;have hle:=h1 x List.mem_cons_self;rw[ob8] at hle;have hle:¬ LtP x a:=by simpa using hle
  unfold ddF;split
  ·rename_i he;rw[yc1] at he;subst he;exact ih
  ·rename_i hne;have hlt:LtP a x:=by
    rcases Ke7 a x with h|h|h
    ·exact h
    ·exact absurd ((yc1 _ _).2 h.symm) hne
    ·exact absurd h hle
   refine Qkad.2 ⟨λp hp=>?_,ih⟩
   rcases Qkc.1 hp with e|hp'
   ·subst e;exact hlt
   ·exact Zc0 hlt ((Qkad.1 ih).1 p hp')
theorem Nf2(l:List Pln):db2 (dd (cb8 l)):=by
 have h:=ce8 l;cases hs:cb8 l with
 |nil=>exact .nil
 |cons a l'=>rw[hs] at h;exact Le4 a l' h
noncomputable def Ua5(X:List Pt)(out:List Pln)(p:Pln):List Pln:=if keep X p then vb1 out p else out
theorem Rd2(X:List Pt)(p:Pln):∀(c out:List Pln),p∈c.foldl (Ua5 X) out↔p∈out\/p∈c.filter (keep X)
 |[],out=>by simp
 |a::c,out=>by
  rw[List.foldl_cons,Rd2 X p c,List.filter_cons];unfold Ua5;split
  ·rw[Kb1,Qkc];constructor
   ·rintro ((h|h)|h)
    ·exact .inr (.inl h)
    ·exact .inl h
    ·exact .inr (.inr h)
   ·rintro (h|h|h)
    ·exact .inl (.inr h)
    ·exact .inl (.inl h)
    ·exact .inr h
  ·exact Iff.rfl
theorem Rd3(X:List Pt):∀(c out:List Pln),db2 out->db2 (c.foldl (Ua5 X) out)
 |[],_,h=>h
 |a::c,out,h=>by
  rw[List.foldl_cons];refine Rd3 X c _ ?_;unfold Ua5;split
  ·exact tc3 a h
  ·exact h
theorem se9(X:List Pt)(c:List Pln):c.foldl (Ua5 X) []=dd (cb8 (c.filter (keep X))) :=
 Qd9 (Rd3 X c [] .nil) (Nf2 _) λp=>by
  rw[Rd2,jf0,(yd2 _).mem_iff];simp
theorem Le5(x:List Pln)(y:Pln):vb1 x y≠[]:=by
 intro h
 have:=(Kb1 y y x).2 (.inl rfl)
 rw[h] at this;cases this
theorem Kb2(y:Pln):∀x:List Pln,(vb1 x y).length<=x.length+1
 |[]=>Qkt _
 |a::l=>by
  have:=Kb2 y l
  unfold vb1;split
  ·simp only[List.length_cons];omega
  ·split<;>simp only[List.length_cons]<;>omega
theorem jf1(x:List Pln)(y:Pln)(hx:x.length<=1000000):Db4 x y=vb1 x y:=(yd6 x y hx).p.trans (De8 y x)
theorem jf2(x:List Pln)(y:Pln)(hx:x.length<=1000000):Db5 x y=true:=(yd6 x y hx).g
theorem mg5(l:List Pt)(p:Pln)(n:Nat):l.foldl (λn x=>if rm p x==0 then n+1 else n) n=n+l.countP λx=>rm p x==0:=by
 induction l generalizing n with
 |nil=>rfl
 |cons x l ih =>
  rw[List.foldl_cons,ih,List.countP_cons]
  split<;>omega
theorem jf3 (c : List Pln) (X : List Pt) (o : List Pln) (hX : X.length ≤ 1000000000) (a φ : Nat) (hφ : φ ≤ 1) (ha : a < c.length) :
  lp (Xa8 ⟨c,X,(a:Int),o⟩) ⟨φ,0,0⟩=(φ+1,⟨φ,(onc X (gL tP c a):Int),(X.length:Int)⟩):=by
 have h:=Mc9 (step:=Xa8 ⟨c,X,(a:Int),o⟩) (mk:=λj (n:Nat)=>(⟨φ,(n:Int),(j:Int)⟩:T4)) (f:=λn x=>if rm (gL tP c a) x==0 then n+1 else n) (fin:=φ+1) tX X (λj n=>n<=j) hX
  (λj n hj hi=>by
   have hW:W ((n:Int)+1)=((n+1:Nat):Int):=by rw[ka5 (by omega) (by omega)];omega
   refine⟨?_,by show (if rm (gL tP c a) (gL tX X j)==0 then n+1 else n)<=j+1;split<;>omega⟩
   have hb:φ=0\/φ=1:=by omega
   rcases hb with rfl|rfl
   ·show ra9 Stp.next Stp.exit Stp.fail _ _=_;simp only[ra9,Int.toNat_natCast,md2,hW,n8 hj (show X.length<=4611686018427387904 by omega)]
    rw[btD (g9 hj),bt (d9 hj),bt (d9 ha)];cases rm (gL tP c a) (gL tX X j)==0<;>rfl
   ·show sa0 Stp.next Stp.exit Stp.fail _ _=_;simp only[sa0,Int.toNat_natCast,md2,hW,n8 hj (show X.length<=4611686018427387904 by omega)]
    rw[btD (g9 hj),bt (d9 hj),bt (d9 ha)];cases rm (gL tP c a) (gL tX X j)==0<;>rfl)
  (λn _=>by
   have hb:φ=0\/φ=1:=by omega
   rcases hb with rfl|rfl
   ·show ra9 Stp.next Stp.exit Stp.fail _ _=_;simp only[ra9];rw[bfD (l0 (Qkb _))]
   ·show sa0 Stp.next Stp.exit Stp.fail _ _=_;simp only[sa0];rw[bfD (l0 (Qkb _))]) 0 (Qkj _) 0 (Qkt _)
 have h:=h.1;rw[Qko,mg5,Qkq] at h;exact h
def phP(out:List Pln):Nat:=match out with
 |[]=>0
 |_::_=>1
theorem Nf3(c:List Pln)(X:List Pt)(hc:c.length<=1000000)(hX:X.length<=1000000000):∃t s,lp (rb0 ⟨⟩) ⟨0,c,X,0,[]⟩=(t,s)/\(t=phP (c.foldl (Ua5 X) [])+1/\s.da9=c.foldl (Ua5 X) []):=by
 refine S8 (step:=rb0 ⟨⟩) (mk:=λj (out:List Pln)=>(⟨phP out,c,X,(j:Int),out⟩:M1)) c.length (λj out=>out.length<=j/\out=(c.take j).foldl (Ua5 X) [])
  (λt s=>t=phP (c.foldl (Ua5 X) [])+1/\s.da9=c.foldl (Ua5 X) []) (by omega) (λj out hj hi=>?_) (λj out hj hi=>?_) 0 [] ⟨by simp,by simp⟩
 ·obtain⟨i1,i2⟩:=hi;have hl:out.length<=1000000:=by omega
  have hn:=n8 hj (show c.length<=4611686018427387904 by omega)
  have r0:=jf3 c X [] hX j 0 (by omega) hj
  have r1:=jf3 c X out hX j 1 (by omega) hj
  have hk:keep X (gL tP c j)=!decide ((onc X (gL tP c j):Int)<3):=rfl;have hge:decide ((onc X (gL tP c j):Int)>=3)=keep X (gL tP c j):=by
   rw[hk];by_cases h:(onc X (gL tP c j):Int)<3
   ·rw[decide_eq_true h,decide_eq_false (by omega)];rfl
   ·rw[decide_eq_false h,decide_eq_true (by omega)];rfl
  have hnx : ∀ {s : M1}, s = ⟨phP (Ua5 X out (gL tP c j)), c, X, ((j + 1 : Nat) : Int), Ua5 X out (gL tP c j)⟩ → Nx (.next s) (fun t => t = phP (c.foldl (Ua5 X) []) + 1 ∧ (⟨phP out, c, X, (j : Int), out⟩ : M1).da9 = c.foldl (Ua5 X) [])
    (λs=>∃a',s=(⟨phP a',c,X,((j+1:Nat):Int),a'⟩:M1)/\(a'.length<=j+1/\a'=(c.take (j+1)).foldl (Ua5 X) [])):=λ{s} hs=>by
   refine .nx ⟨_,hs,?_,?_⟩
   ·unfold Ua5;split
    ·have:=Kb2 (gL tP c j) out;omega
    ·omega
   ·rw[nd0 tP hj,Qkx,<- i2];rfl
  cases out with
  |nil =>
   show Nx (sa1 Stp.next Stp.exit Stp.fail ⟨⟩ _) _ _;simp only[sa1,i5,i9,j9,Int.toNat_natCast,r0,hge,jf1 [] _ hl,jf2 [] _ hl,hn];rw[btD (g9 hj),bt (d9 hj)];cases hkk:keep X (gL tP c j) with
   |true=>exact hnx (by unfold Ua5;rw[hkk,if_pos rfl];rfl)
   |false=>exact hnx (by unfold Ua5;rw[hkk];rfl)
  |cons o os =>
   show Nx (sa2 Stp.next Stp.exit Stp.fail ⟨⟩ _) _ _;simp only[sa2,i5,i9,j9,Int.toNat_natCast,r1,hge,jf1 (o::os) _ hl,jf2 (o::os) _ hl,hn];rw[btD (g9 hj),bt (d9 hj),bt (d9 hj)];cases hkk:keep X (gL tP c j) with
   |true =>
    refine hnx ?_;unfold Ua5;rw[hkk,if_pos rfl];have hp:phP (vb1 (o::os) (gL tP c j))=1:=by
     cases h:vb1 (o::os) (gL tP c j) with
     |nil=>exact absurd h (Le5 _ _)
     |cons _ _=>rfl
    rw[hp]
   |false=>exact hnx (by unfold Ua5;rw[hkk];rfl)
 ·obtain⟨i1,i2⟩:=hi;rw[List.take_of_length_le hj] at i2;cases out with
  |nil =>
   refine⟨1,?_,by rw[<- i2];rfl,i2⟩
   show sa1 Stp.next Stp.exit Stp.fail ⟨⟩ _=_;simp only[sa1];rw[bfD (by show ¬ ((j:Nat):Int)<(c.length:Int);omega)]
  |cons o os =>
   refine⟨2,?_,by rw[<- i2];rfl,i2⟩
   show sa2 Stp.next Stp.exit Stp.fail ⟨⟩ _=_;simp only[sa2];rw[bfD (by show ¬ ((j:Nat):Int)<(c.length:Int);omega)]
theorem te0(c:List Pln)(hc:c.length<=1000000):Rd (one (r1L tP)) (Jb9 c) (λr=>r=lean c):=by
 have hl:c.length<=1000000000:=by omega
 have hX:=be9 c;obtain⟨t,s,h1,h2,h3⟩:=Nf3 c (pts c) hc (by omega)
 unfold Jb9 lean;simp only[i5,j9,i9,md5 hl,md6 hl,Se8 hl,Se9 hl];rw[h1];cases hf:ful c with
 |false=>exact⟨_,[],rfl,rfl,rfl⟩
 |true =>
  simp only[h3];rw[<- se9];subst h2;cases hF:c.foldl (Ua5 (pts c)) [] with
  |nil=>exact⟨_,[],rfl,rfl,rfl⟩
  |cons o os=>exact⟨_,o::os,rfl,Cc0 tP (o::os),rfl⟩
theorem yc3(c:List Pln)(hc:c.length<=1000000):ha0 c=lean c:=(te0 c hc).p
theorem Rc8(c:List Pln)(hc:c.length<=1000000):ma0 c=true:=(te0 c hc).g
theorem jf4{c:List Pln}(hf:ful c=true):(chk c==0)=true/\Bds (c++ws)/\Te4 (c++ws):=by
 unfold ful at hf;rw[Qki] at hf;have hb:=(qb5 hf.1).1;exact⟨hf.1,hb,(yc2 hb (de6 c) (by simp[ws])).1 hf.2⟩
theorem jf5{c:List Pln}(hf:ful c=true)(p:Pln):p∈lean c↔p∈c/\keep (pts c) p=true:=by
 unfold lean;rw[if_pos hf,jf0,(yd2 _).mem_iff,List.mem_filter]
theorem Kb3(c:List Pln):(lean c).length<=c.length:=by
 unfold lean;split
 ·have h1 : (dd (cb8 (c.filter (keep (pts c))))).length ≤ (cb8 (c.filter (keep (pts c)))).length := by
   cases cb8 (c.filter (keep (pts c))) with
   |nil=>exact Qkt _
   |cons a l=>have:=Ke5 a l;simp only[dd,List.length_cons];omega
  rw[yc0] at h1
  have:=Qkak (keep (pts c)) c
  omega
 ·exact Qkj _
def ipt(v:V3):Pt:=⟨v.x,v.y,v.z,1⟩
theorem Nf4{v:V3}(h:inV v=true):∀p∈ws,0<=rmZ p (ipt v):=by
 obtain⟨⟨a1,a2⟩,⟨a3,a4⟩,a5,a6⟩:=(ec5 v).1 h;intro p hp;simp only[ws,Qkc,Qkai,or_false] at hp
 rcases hp with rfl|rfl|rfl|rfl|rfl|rfl<;>simp only[rmZ,ipt]<;>omega
def lc0(p:Pln)(v:V3):Int:=if okp p&&inV v then (if dot p.n v-p.b<0 then -1 else if dot p.n v-p.b>0 then 1 else 0) else 0
theorem Nf5{p:Pln}{v:V3}(hp:Bd p)(hv:inV v=true):Sm 331776 (dot p.n v):=by
 obtain⟨⟨a1,a2⟩,⟨a3,a4⟩,a5,a6⟩:=(ec5 v).1 hv;have r1:=mb hp.x1 hp.x2 a1 a2;have r2:=mb hp.y1 hp.y2 a3 a4;have r3:=mb hp.z1 hp.z2 a5 a6;unfold Sm dot;omega
theorem yf3(p:Pln)(v:V3):bb2 p v=some (i (lc0 p v),[]):=by
 unfold bb2 lc0;simp only[oe1,ud8,Je7,qe8];cases hp:okp p with
 |false=>rfl
 |true =>
  cases hv:inV v with
  |false=>rfl
  |true =>
   have hb:=rc1 hp;have hd:=Nf5 hb hv;have e:Ia4 p.n v=dot p.n v:=by
    unfold Ia4;simp only[Fb0,nc9];exact Oa2 (hd.mono (by omega))
   have e2:W (dot p.n v-p.b)=dot p.n v-p.b:=ka5 (by have:=hd.1;have:=hb.b2;omega) (by have:=hd.2;have:=hb.b1;omega)
   rw[e,e2];by_cases h1:dot p.n v-p.b<0
   ·simp only[Qka,if_true,h1,decide_true];rfl
   ·by_cases h2:dot p.n v-p.b>0
    ·simp only[Qka,if_true,h1,h2,decide_true,decide_false,if_false];rfl
    ·simp only[Qka,if_true,h1,h2,decide_false,if_false];rfl
theorem jf6(p:Pln)(v:V3):ob4 p v=lc0 p v:=by unfold ob4;rw[yf3];rfl
theorem te1{p:Pln}{v:V3}(hp:okp p=true)(hv:inV v=true):lc0 p v>0↔dot p.n v>p.b:=by
 unfold lc0;rw[hp,hv];simp only[Qka,if_true];split
 ·omega
 ·split<;>omega
theorem Te7{p:Pln}{v:V3}(hp:okp p=true)(hv:inV v=true):lc0 p v=0↔dot p.n v=p.b:=by
 unfold lc0;rw[hp,hv];simp only[Qka,if_true];split
 ·omega
 ·split<;>omega
theorem Nf6(v:V3):g3 v∣v.x/\g3 v∣v.y/\g3 v∣v.z:=by
 unfold g3;refine⟨?_,?_,?_⟩<;>rw[<- Qkw]<;>apply Qkn.2
 ·exact Qkr (Qkl _ _) (Qkl _ _)
 ·exact Qkr (Qkl _ _) (Qkm _ _)
 ·exact Qkm _ _
theorem Nf7(v:V3)(h:g3 v≠0):g3 ⟨Int.tdiv v.x (g3 v),Int.tdiv v.y (g3 v),Int.tdiv v.z (g3 v)⟩=1:=by
 generalize hg:g3 v=g at *
 have h0:0<=g:=hg ▸ Yc4 v;obtain⟨n,rfl⟩:∃n:Nat,g=n:=⟨g.toNat,by omega⟩
 have hn:0<n:=by omega
 have hgn:Nat.gcd (Nat.gcd v.x.natAbs v.y.natAbs) v.z.natAbs=n:=by unfold g3 at hg;omega
 have d1:n∣Nat.gcd v.x.natAbs v.y.natAbs:=hgn ▸ Qkl _ _;have d3:n∣v.z.natAbs:=hgn ▸ Qkm _ _;have d4:n∣v.x.natAbs:=Qkr d1 (Qkl _ _);have d5:n∣v.y.natAbs:=Qkr d1 (Qkm _ _);unfold g3;simp only[Int.natAbs_tdiv,Int.natAbs_natCast];show ((Nat.gcd (Nat.gcd (v.x.natAbs / n) (v.y.natAbs / n)) (v.z.natAbs / n):Nat):Int)=1;rw[Nat.gcd_div d4 d5,Nat.gcd_div d1 d3,hgn,Nat.div_self hn];rfl
structure Thr(a b c:V3)(p:Pln):Prop where
 ok:okp p=true
 k:∃g:Int,0<g/\g*p.n.x=(g7 (sub b a) (sub c a)).x/\g*p.n.y=(g7 (sub b a) (sub c a)).y/\g*p.n.z=(g7 (sub b a) (sub c a)).z
 o:p.b=dot p.n a
theorem Pb8{a b c:V3}(h:(Ga8 a b c).2=true):(inV a=true/\inV b=true/\inV c=true)/\Thr a b c (Ga8 a b c).1:=by
 unfold Ga8 at h ⊢;cases ha:inV a with
 |false=>rw[ha] at h;cases h
 |true =>
  cases hb:inV b with
  |false=>rw[ha,hb] at h;cases h
  |true =>
   cases hc:inV c with
   |false=>rw[ha,hb,hc] at h;cases h
   |true =>
    rw[ha,hb,hc] at h;simp only[Qka,if_true] at h ⊢;obtain⟨_,k1,k2,k3⟩:=Cc6 ha hb hc;generalize hn:g7 (sub b a) (sub c a)=n at *
    by_cases h0:g3 n=0
    ·rw[if_pos h0] at h;cases h
    ·rw[if_neg h0];have hp:=Yc4 n;obtain⟨d1,d2,d3⟩:=Nf6 n;have q1:=O2 (g:=g3 n) k1 (by omega)
     have q2:=O2 (g:=g3 n) k2 (by omega)
     have q3:=O2 (g:=g3 n) k3 (by omega)
     refine⟨⟨trivial,trivial,trivial⟩,⟨?_,⟨g3 n,by omega,by rw[hn];exact Qku d1,by rw[hn];exact Qku d2,by rw[hn];exact Qku d3⟩,rfl⟩⟩
     obtain⟨⟨a1,a2⟩,⟨a3,a4⟩,a5,a6⟩:=(ec5 a).1 ha;have r1:=mb q1.1 q1.2 a1 a2;have r2:=mb q2.1 q2.2 a3 a4;have r3:=mb q3.1 q3.2 a5 a6;unfold okp;rw[Nf7 n h0];simp only[List.all_cons,List.all_nil,Qkz,Qki,Bb3,beq_self_eq_true,true_and,and_true];refine⟨⟨q1,q2,q3⟩,?_⟩;unfold Sm dot
     simp only
     omega
theorem yf4(a b c:V3):Bd (Ga8 a b c).1:=by
 cases h:(Ga8 a b c).2 with
 |true=>exact rc1 (Pb8 h).2.ok
 |false =>
  have:(Ga8 a b c).1=⟨⟨0,0,0⟩,0⟩:=by
   unfold Ga8 at h ⊢;split
   ·rename_i hc;rw[if_pos hc] at h;split
    ·rfl
    ·rename_i h0;rw[if_neg h0] at h;cases h
   ·rfl
  rw[this]
  constructor<;>simp
theorem tc4{p:Pln}(h:Bd p):Ea0 p=Ca2 p:=by
 unfold Ea0 Sa0 Ca2
 simp only
 have:=h.x1;have:=h.x2;have:=h.y1;have:=h.y2;have:=h.z1;have:=h.z2;have:=h.b1;have:=h.b2
 rw[ka5 (by omega) (by omega),ka5 (by omega) (by omega),ka5 (by omega) (by omega),ka5 (by omega) (by omega)]
 simp only[Int.zero_sub]
theorem yd9{p:Pln}(h:okp p=true):okp (Ca2 p)=true:=by
 unfold okp Ca2 g3 at *
 simp only[List.all_cons,List.all_nil,Qkz,Qki,Bb3,Int.natAbs_neg] at h ⊢;obtain⟨⟨h1,h2,h3⟩,h4,h5⟩:=h;exact⟨⟨h1.neg,h2.neg,h3.neg⟩,h4,h5.neg⟩
noncomputable def jf7(l:List V3)(p:Pln):Bool:=l.any λv=>lc0 p v != 0
noncomputable def nf(l:List V3)(a c k:Nat):Bool:=(Ga8 (gL tV l a) (gL tV l c) (gL tV l k)).2&&jf7 l (Ga8 (gL tV l a) (gL tV l c) (gL tV l k)).1
noncomputable def nf2(l:List V3)(a c:Nat):Bool:=(List.range c).any (nf l a c)
noncomputable def nf1(l:List V3)(a:Nat):Bool:=(List.range a).any (nf2 l a)
noncomputable def nf0(l:List V3):Bool:=(List.range l.length).any (nf1 l)
theorem De9 {σ : Type} {step : σ → Stp σ} {mk : Nat → σ} (n : Nat) (c : Nat → Bool) (u fin : Nat) (hn : n ≤ 1000000000) (h : ∀ j, j < n → step (mk j) = sl (c j) (.exit u) (.next (mk (j + 1)))) (hf : step (mk n) = .exit fin) :
  ∃j,lp step (mk 0)=(if (List.range n).any c then u else fin,mk j):=by
 have key:=S8 (step:=step) (mk:=λj (_:Unit)=>mk j) n (λj _=>j<=n/\∀i,i<j->c i=false) (λt s=>t=(if (List.range n).any c then u else fin)/\∃j,s=mk j) hn
  (λj _ hj hi=>by
   rw[h j hj];refine Nx.sl (λhc=>.ex ⟨?_,j,rfl⟩) (λhc=>.nx ⟨(),rfl,by omega,λi hi'=>?_⟩)
   ·rw[if_pos (Qke.2 ⟨j,Qkp.2 hj,hc⟩)]
   ·by_cases e:i=j
    ·rw[e];exact hc
    ·exact hi.2 i (by omega))
  (λj _ hj hi=>by
   have e:j=n:=by omega
   subst e;refine⟨fin,hf,?_,j,rfl⟩;rw[if_neg λhh=>?_]
   obtain⟨i,hi1,hi2⟩:=Qke.1 hh;rw[hi.2 i (Qkp.1 hi1)] at hi2;cases hi2) 0 () ⟨by omega,by omega⟩
 obtain⟨t,s,h1,rfl,j,rfl⟩:=key;exact⟨j,h1⟩
theorem jf8(l:List V3)(x1 x2 x3:Int)(okb:Bool)(p:Pln)(hl:l.length<=1000000000):∃t s,lp (H9 ⟨l,x1,x2,x3,okb,p.n.x,p.n.y,p.n.z,p.b⟩) ⟨0⟩=(t,s)/\(((okb&&jf7 l p)=true/\t=1)\/((okb&&jf7 l p)=false/\(t=2\/t=3))):=by
 cases okb with
 |false =>
  cases l with
  |nil =>
   refine⟨3,⟨0⟩,?_,.inr ⟨rfl,.inr rfl⟩⟩;exact Rc6 (step:=H9 ⟨[],x1,x2,x3,false,p.n.x,p.n.y,p.n.z,p.b⟩) rfl
  |cons v l =>
   refine⟨2,⟨0⟩,?_,.inr ⟨rfl,.inl rfl⟩⟩;refine Rc6 (step:=H9 ⟨v::l,x1,x2,x3,false,p.n.x,p.n.y,p.n.z,p.b⟩) ?_;simp only[H9,ja8];rw[btD (by simp only[List.length_cons];omega)]
   rfl
 |true =>
  have h:=fb0 (step:=H9 ⟨l,x1,x2,x3,true,p.n.x,p.n.y,p.n.z,p.b⟩) (mk:=λj=>(⟨(j:Int)⟩:na8)) (c:=λv=>lc0 p v != 0) (u:=1) (fin:=3) tV l hl
   (λj hj=>by
    simp only[H9,ja8,ce0,jf6,Int.toNat_natCast,n8 hj (show l.length<=4611686018427387904 by omega)]
    rw[btD (g9 hj),bt (d9 hj)]
    rfl)
   (by simp only[H9,ja8];rw[bfD (l0 (Qkb _))]) 0 (Qkj _)
  rw[Qko] at h;have h:(lp (H9 ⟨l,x1,x2,x3,true,p.n.x,p.n.y,p.n.z,p.b⟩) ⟨0⟩).1=_:=h;cases hlp:lp (H9 ⟨l,x1,x2,x3,true,p.n.x,p.n.y,p.n.z,p.b⟩) ⟨0⟩ with
  |mk t s =>
  rw[hlp] at h;refine⟨t,s,rfl,?_⟩
  simp only at h
  rw[h];unfold jf7;cases hh:l.any λv=>lc0 p v != 0 with
  |true=>exact .inl ⟨rfl,rfl⟩
  |false=>exact .inr ⟨rfl,.inr rfl⟩
theorem jf9(l:List V3)(hl:l.length<=1000000000)(a c:Nat)(ha:a<l.length)(hc:c<a):∃j,lp (Z7 ⟨(a:Int),(c:Int)⟩) ⟨l,0⟩=(if nf2 l a c then 1 else 2,⟨l,((j:Nat):Int)⟩) :=
 De9 (step:=Z7 ⟨(a:Int),(c:Int)⟩) (mk:=λj=>(⟨l,(j:Int)⟩:na9)) c (nf l a c) 1 2 (by omega)
  (λj hj=>by
   simp only[Z7,ra2,Yb8,cb6,Int.toNat_natCast,i5,i9,n8 hj (show c<=4611686018427387904 by omega)]
   rw[btD (g9 hj),bt (d9 ha),bt (d9 (show c<l.length by omega)),bt (d9 (show j<l.length by omega)),f0]
   obtain⟨t,s,h1,h2⟩:=jf8 l (a:Int) (c:Int) (j:Int) (Ga8 (gL tV l a) (gL tV l c) (gL tV l j)).2 (Ga8 (gL tV l a) (gL tV l c) (gL tV l j)).1 hl;rw[h1];unfold nf
   rcases h2 with⟨e,rfl⟩|⟨e,rfl|rfl⟩<;>rw[e]<;>rfl)
  (by simp only[Z7,ra2];rw[bfD (l0 (Qkb _))])
theorem kf0(l:List V3)(hl:l.length<=1000000000)(a:Nat)(ha:a<l.length):∃j,lp (Z8 ⟨(a:Int)⟩) ⟨l,0⟩=(if nf1 l a then 1 else 2,⟨l,((j:Nat):Int)⟩) :=
 De9 (step:=Z8 ⟨(a:Int)⟩) (mk:=λj=>(⟨l,(j:Int)⟩:oa0)) a (nf2 l a) 1 2 (by omega)
  (λj hj=>by
   obtain⟨j',h1⟩:=jf9 l hl a j ha hj;simp only[Z8,ra3,i5,i9,n8 hj (show a<=4611686018427387904 by omega)]
   rw[btD (g9 hj),h1];cases nf2 l a j<;>rfl)
  (by simp only[Z8,ra3];rw[bfD (l0 (Qkb _))])
theorem yf5(l:List V3)(hl:l.length<=1000000000):bb3 l=some (b (!nf0 l),[]):=by
 obtain⟨j,h⟩:=De9 (step:=Z9 ⟨⟩) (mk:=λj=>(⟨l,(j:Int)⟩:oa1)) l.length (nf1 l) 1 2 hl
  (λj hj=>by
   obtain⟨j',h1⟩:=kf0 l hl j hj;simp only[Z9,ra4,i5,i9,n8 hj (show l.length<=4611686018427387904 by omega)]
   rw[btD (g9 hj),h1];cases nf1 l j<;>rfl)
  (by simp only[Z9,ra4];rw[bfD (l0 (Qkb _))])
 have h:lp (Z9 ⟨⟩) ⟨l,0⟩=(if nf0 l then 1 else 2,⟨l,((j:Nat):Int)⟩):=h
 unfold bb3;simp only[i5,i9];rw[h];cases nf0 l<;>rfl
theorem Nf8(l:List V3)(hl:l.length<=1000000000):bb4 l=!nf0 l:=by unfold bb4;rw[yf5 l hl];rfl
noncomputable def Zc1(l:List V3):Int:=if (l.length:Int)>48 then 2 else if l.all inV then (if nf0 l then 0 else 11) else 3
theorem Ee0(l:List V3)(hl:l.length<=1000000000):Oa4 l=some (i (Zc1 l),[]):=by
 have h:=fb0 (step:=ja9 ⟨l⟩) (mk:=λj=>(⟨(j:Int)⟩:V2)) (c:=λv=>!inV v) (u:=1) (fin:=2) tV l hl
  (λj hj=>by
   simp only[ja9,la7,Int.toNat_natCast,Je7,qe8,n8 hj (show l.length<=4611686018427387904 by omega)]
   rw[btD (g9 hj),bt (d9 hj),f0])
  (by simp only[ja9,la7];rw[bfD (l0 (Qkb _))]) 0 (Qkj _)
 rw[Qko] at h;have e:(l.any λv=>!inV v)=!l.all inV:=by rw[List.not_all_eq_any_not]
 unfold Oa4 Zc1;simp only[i5,i9,j9,Ce9 l hl,Nf8 l hl];rw[show (⟨0⟩:V2)=⟨((0:Nat):Int)⟩ from rfl,h,e]
 by_cases h48:(l.length:Int)>48
 ·rw[if_pos h48,btD h48]
 ·rw[if_neg h48,bfD h48];cases l.all inV with
  |false=>rfl
  |true=>cases nf0 l<;>rfl
theorem Te8(l:List V3)(hl:l.length<=1000000000):ub4 l=Zc1 l:=by unfold ub4;rw[Ee0 l hl];rfl
def hold(p:Pln)(l:List V3):Bool:=!l.any λv=>decide (lc0 p v>0)
theorem kf1(p:Pln)(l:List V3)(hl:l.length<=1000000000):Oa5 p l=some (b (hold p l),[]):=by
 have h:=fb0 (step:=ka0 ⟨l,p.n.x,p.n.y,p.n.z,p.b⟩) (mk:=λj=>(⟨(j:Int)⟩:V4)) (c:=λv=>decide (lc0 p v>0)) (u:=1) (fin:=2) tV l hl
  (λj hj=>by
   simp only[ka0,la8,Int.toNat_natCast,jf6,ce0,n8 hj (show l.length<=4611686018427387904 by omega)]
   rw[btD (g9 hj),bt (d9 hj),f0])
  (by simp only[ka0,la8];rw[bfD (l0 (Qkb _))]) 0 (Qkj _)
 rw[Qko] at h;unfold Oa5 hold;simp only[i5,i9];rw[show (⟨0⟩:V4)=⟨((0:Nat):Int)⟩ from rfl,h]
 cases l.any λv=>decide (lc0 p v>0)<;>rfl
theorem yf6(p:Pln)(l:List V3)(hl:l.length<=1000000000):Ca7 p l=hold p l:=by unfold Ca7;rw[kf1 p l hl];rfl
theorem Ee1 (x:List Pln) (y:Pln) (hx:x.length≤1000000):Rd (one (r1L tP)) (ob6 x y) (fun r=>r=ins x y):=by
  have h:=za2 (step:=ia2 ⟨x,y.n.x,y.n.y,y.n.z,y.b⟩) (mk:=fun j=>(⟨(j:Int)⟩:ka1)) (c:=fun p=>!decide (oa8 p y < 0)) (u:=1) (fin:=2) tP x (by omega)
    (fun j hj=>by
      simp only[ia2,ya0,Int.toNat_natCast,De1,if1,n8 hj (show x.length<=4611686018427387904 by omega)]
      rw[btD (g9 hj),bt (d9 hj),f0];show sl (decide (oa8 (gL tP x j) y<0)) _ _=_;cases decide (oa8 (gL tP x j) y<0)<;>rfl)
    (by simp only[ia2,ya0];rw[bfD (l0 (Qkb _))]) 0 (Qkj _)
  rw[Qko] at h
  have key:∃ t,lp (ia2 ⟨x,y.n.x,y.n.y,y.n.z,y.b⟩) ⟨0⟩=(t,⟨((atP x y:Nat):Int)⟩)∧(t=1∨t=2):=by
    rw[show (⟨0⟩:ka1)=⟨((0:Nat):Int)⟩ from rfl,h]
    split
    · exact⟨1,by rw[Qkq];rfl,.inl rfl⟩
    · rename_i hn
      refine⟨2,?_,.inr rfl⟩
      have:atP x y=x.length:=by
        unfold atP;rw[List.findIdx_eq_length];intro p hp;cases hb:(!decide (oa8 p y<0)) with
        |false=>rfl
        |true=>exact absurd (Qke.2 ⟨p,hp,hb⟩) hn
      rw[this]
  obtain⟨t,h1,h2⟩:=key;have h3:atP x y<=x.length:=List.findIdx_le_length;have hdef:ins x y=if (atP x y<x.length/\eqP (gL tP x (atP x y)) y=true) then x else Ib8 x y (atP x y):=rfl
  generalize atP x y=n at *
  have hlo:inB (n:Int) (x.length+1)=true:=d9 (by omega)
  have hd:(bL tP (x.take n)).length=n:=by rw[<- o4,H7,Qkaj];omega
  have hlen:(Ib8 x y n).length=x.length+1:=by unfold Ib8;simp only[Qkg,List.length_cons,Qkaj,List.length_drop];omega
  have lt:len (bL tP (x.take n))=n:=by rw[o4];exact hd
  have ld:len (bL tP (x.drop n))=x.length-n:=by rw[H7,List.length_drop]
  have b1:(Nat.beq 1 1&&Nat.ble ((1+(x.length-n))*32) room)=true:=by rw[S4 (by omega)];rfl
  have b2:(Nat.beq 0 0&&Nat.ble ((0+n)*32) room)=true:=by rw[S4 (by omega)];rfl
  have e0:app [] (bL tP (x.take n))=bL tP (x.take n):=rfl;have b3:(Nat.beq (0+n) n&&Nat.ble (((0+n)+1)*32) room)=true:=by rw[S4 (by omega),Qkq,Qkv];rfl
  have l3:len (bL tP (x.take n++[y]))=n+1:=by rw[H7,Qkg,Qkaj];simp only[List.length_singleton];omega
  have b4:(Nat.beq ((0+n)+1) (n+1)&&Nat.ble ((((0+n)+1)+(x.length-n))*32) room)=true:=by rw[S4 (by omega),Qkq,Qkv];rfl
  have z0:∀{k:Nat},Nat.beq k 0=true->k=0:=λ{k} h=>Nat.eq_of_beq_eq_true h
  have fin:ins x y=Ib8 x y n→∀ m r,m=x.length+1→r=bL tP (Ib8 x y n)→Rd (one (r1L tP)) (some (.sl 0 0 m 0,[⟨73,4,r,true,false,0⟩])) (fun r=>r=ins x y) :=
    λhq m r hm hr=>Ib9 (by rw[hlen];exact hm) hr hq.symm
  have tail:ins x y=Ib8 x y n→Rd (one (r1L tP)) (some ((.sl 0 0 (((0+n)+1)+(x.length - n)) 0),[⟨73,4,(app (bL tP (x.take n++[y])) (bL tP (x.drop n))),true,false,0⟩])) (fun r=>r=ins x y):=fun hq=>by
    refine fin hq _ _ (by omega) ?_
    rw[Da3];unfold Ib8;rw[List.append_assoc];rfl
  unfold ob6;simp only[i5,i9];rw[h1];simp only[Int.toNat_natCast,Ic2 x n h3,Ic3,lt,ld,b1,b2,e0,b3,Ib7,l3,b4,hlo,f0]
  have main:Rd (one (r1L tP)) (sl (decide ((n:Int) < (x.length:Int))) (sl (inB (n:Int) x.length) (sl (((gL tP x n).n.x==y.n.x)&&(((gL tP x n).n.y==y.n.y)&&(((gL tP x n).n.z==y.n.z)&&(((gL tP x n).b==y.b)&&true)))) (some (eL tP x,[])) (some ((.sl 0 0 (((0+n)+1)+(x.length - n)) 0),[⟨73,4,(app (bL tP (x.take n++[y])) (bL tP (x.drop n))),true,false,0⟩]))) none) (some ((.sl 0 0 (((0+n)+1)+(x.length - n)) 0),[⟨73,4,(app (bL tP (x.take n++[y])) (bL tP (x.drop n))),true,false,0⟩]))) (fun r=>r=ins x y):=by
    by_cases hn:n<x.length
    · rw[btD (g9 hn),bt (d9 hn)]
      exact Rd.sl (fun q=>⟨_,x,rfl,Cc0 tP x,by rw[hdef,if_pos ⟨hn,q⟩]⟩) fun q=>tail (by
        rw[hdef,if_neg λh=>?_]
        have h:=h.2;rw[show eqP (gL tP x n) y=false from q] at h
        cases h)
    · rw[bfD (l0 hn)]
      exact tail (by rw[hdef,if_neg λh=>hn h.1])
  rcases h2 with rfl|rfl
  · exact main
  · exact main
theorem kf2(x:List Pln)(y:Pln)(hx:x.length<=1000000):L4 x y=vb1 x y:=(Ee1 x y hx).p.trans (De8 y x)
noncomputable def Pb9 (l:List V3) (a c:Nat) (out:List Pln) (k:Nat):List Pln :=
  if (Ga8 (gL tV l a) (gL tV l c) (gL tV l k)).2 then
    (if hold (Ca2 (Ga8 (gL tV l a) (gL tV l c) (gL tV l k)).1) l then vb1 (if hold (Ga8 (gL tV l a) (gL tV l c) (gL tV l k)).1 l then vb1 out (Ga8 (gL tV l a) (gL tV l c) (gL tV l k)).1 else out) (Ca2 (Ga8 (gL tV l a) (gL tV l c) (gL tV l k)).1)
     else (if hold (Ga8 (gL tV l a) (gL tV l c) (gL tV l k)).1 l then vb1 out (Ga8 (gL tV l a) (gL tV l c) (gL tV l k)).1 else out))
  else out
noncomputable def F2(l:List V3)(a:Nat)(out:List Pln)(c:Nat):List Pln:=(List.range c).foldl (Pb9 l a c) out
noncomputable def F1(l:List V3)(out:List Pln)(a:Nat):List Pln:=(List.range a).foldl (F2 l a) out
noncomputable def F0(l:List V3):List Pln:=(List.range l.length).foldl (F1 l) []
theorem yc4 (x:List Pln) (y:Pln):phP (vb1 x y)=1:=by
  cases h:vb1 x y with
  |nil=>exact absurd h (Le5 _ _)
  |cons _ _=>rfl
theorem Zc2 (l:List V3) (a c:Nat) (out:List Pln) (k:Nat):(Pb9 l a c out k).length≤out.length+2:=by
  unfold Pb9;split
  · split
    · refine Qks (Kb2 _ _) ?_
      split
      · have:=Kb2 (Ga8 (gL tV l a) (gL tV l c) (gL tV l k)).1 out;omega
      · omega
    · split
      · have:=Kb2 (Ga8 (gL tV l a) (gL tV l c) (gL tV l k)).1 out;omega
      · omega
  · omega
theorem T6 {τ:Type} (f:τ→Nat→τ) (a:τ) (n:Nat):(List.range (n+1)).foldl f a=f ((List.range n).foldl f a) n:=by
  rw[List.range_succ,Qkx];rfl
theorem Rc9 {f:List Pln→Nat→List Pln} {m:Nat} (h:∀ o k,(f o k).length≤o.length+m) (o:List Pln):∀ n,((List.range n).foldl f o).length≤o.length+m*n
  |0=>Qkt _
  | n+1=>by
    rw[T6];have h1:=h ((List.range n).foldl f o) n;have h2:=Rc9 h o n;rw[Nat.mul_succ];omega
theorem Zf3 (l : List V3) (hl : l.length ≤ 48) (a c : Nat) (ha : a < l.length) (hc : c < a) (out : List Pln) (ho : out.length ≤ 900000) :
    ∃j,lp (ba4 ⟨l,(a:Int),(c:Int)⟩) ⟨phP out,0,out⟩=(phP (F2 l a out c)+1,⟨phP (F2 l a out c),((j:Nat):Int),F2 l a out c⟩):=by
  have key:=S8 (step:=ba4 ⟨l,(a:Int),(c:Int)⟩) (mk:=fun j (o:List Pln)=>(⟨phP o,(j:Int),o⟩:D0)) c (fun j o=>j≤c∧o=(List.range j).foldl (Pb9 l a c) out) (fun t s=>t=phP (F2 l a out c)+1∧∃ j:Nat,s=⟨phP (F2 l a out c),(j:Int),F2 l a out c⟩) (by omega)
    (fun j o hj hi=>by
      obtain⟨_,hi⟩:=hi
      have hlen:o.length≤990000:=by
        rw[hi]
        have:=Rc9 (Zc2 l a c) out j
        omega
      have hn:=n8 hj (show c<=4611686018427387904 by omega)
      have hh:∀p,pa6 p l=true:=λp=>Je9 p l (by omega)
      have hp:∀p,Ca7 p l=hold p l:=λp=>yf6 p l (by omega)
      have hg1:∀y,ua7 o y=true:=λy=>Ke0 o y (by omega)
      have hq1:∀y,L4 o y=vb1 o y:=λy=>kf2 o y (by omega)
      have hg2:∀y z,ua7 (vb1 o y) z=true:=λy z=>Ke0 _ z (by have:=Kb2 y o;omega)
      have hq2:∀y z,L4 (vb1 o y) z=vb1 (vb1 o y) z:=λy z=>kf2 _ z (by have:=Kb2 y o;omega)
      have hfl:Ea0 (Ga8 (gL tV l a) (gL tV l c) (gL tV l j)).1=Ca2 (Ga8 (gL tV l a) (gL tV l c) (gL tV l j)).1:=tc4 (yf4 _ _ _)
      have fin : ∀ {s : D0}, s = ⟨phP (Pb9 l a c o j), ((j + 1 : Nat) : Int), Pb9 l a c o j⟩ → Nx (.next s) (fun t => t = phP (F2 l a out c) + 1 ∧ ∃ j' : Nat, (⟨phP o, (j : Int), o⟩ : D0) = ⟨phP (F2 l a out c), (j' : Int), F2 l a out c⟩)
          (λs=>∃o',s=(⟨phP o',((j+1:Nat):Int),o'⟩:D0)/\(j+1<=c/\o'=(List.range (j+1)).foldl (Pb9 l a c) out)):=λ{s} hs =>
        .nx ⟨_,hs,by omega,by rw[T6,<- hi]⟩
      clear hi
      unfold Pb9 at fin;generalize hT:Ga8 (gL tV l a) (gL tV l c) (gL tV l j)=T at *
      have hb1:inB (a:Int) l.length=true:=d9 ha;have hb2:inB (c:Int) l.length=true:=d9 (by omega)
      have hb3:inB (j:Int) l.length=true:=d9 (by omega)
      cases o with
      | nil =>
        show Nx (N0 Stp.next Stp.exit Stp.fail _ _) _ _;simp only[N0,Yb8,cb6,Int.toNat_natCast,i5,j9,hT,hh,hp,hfl,hg1,hq1,hg2,hq2,hn,hb1,hb2,hb3];rw[btD (g9 hj)];cases h2:T.2 with
        |false=>exact fin (by rw[h2];rfl)
        | true =>
          cases h3:hold T.1 l with
          | false =>
            cases h4:hold (Ca2 T.1) l with
            |false=>exact fin (by rw[h2,h3,h4];rfl)
            |true=>exact fin (by rw[h2,h3,h4];simp only[if_true,if_false,yc4,Qkd])
          | true =>
            cases h4:hold (Ca2 T.1) l with
            |false=>exact fin (by rw[h2,h3,h4];simp only[if_true,if_false,yc4,Qkd])
            |true=>exact fin (by rw[h2,h3,h4];simp only[if_true,yc4])
      | cons q o =>
        show Nx (N1 Stp.next Stp.exit Stp.fail _ _) _ _;simp only[N1,Yb8,cb6,Int.toNat_natCast,i5,j9,hT,hh,hp,hfl,hg1,hq1,hg2,hq2,hn,hb1,hb2,hb3];rw[btD (g9 hj)];cases h2:T.2 with
        |false=>exact fin (by rw[h2];rfl)
        | true =>
          cases h3:hold T.1 l with
          | false =>
            cases h4:hold (Ca2 T.1) l with
            |false=>exact fin (by rw[h2,h3,h4];rfl)
            |true=>exact fin (by rw[h2,h3,h4];simp only[if_true,if_false,yc4,Qkd])
          | true =>
            cases h4:hold (Ca2 T.1) l with
            |false=>exact fin (by rw[h2,h3,h4];simp only[if_true,if_false,yc4,Qkd])
            |true=>exact fin (by rw[h2,h3,h4];simp only[if_true,yc4]))
    (fun j o hj hi=>by
      obtain⟨h1,hi⟩:=hi;have e:j=c:=by omega
      subst e;have hF:o=F2 l a out j:=hi;rw[<- hF];cases o with
      | nil =>
        refine⟨1,?_,rfl,j,rfl⟩;show N0 Stp.next Stp.exit Stp.fail _ _=_;simp only[N0];rw[bfD (l0 (Qkb _))]
      | cons q o =>
        refine⟨2,?_,rfl,j,rfl⟩;show N1 Stp.next Stp.exit Stp.fail _ _=_;simp only[N1];rw[bfD (l0 (Qkb _))]) 0 out ⟨Qkj _,rfl⟩
  obtain⟨t,s,h1,rfl,j,rfl⟩:=key;exact⟨j,h1⟩
theorem Zf4 (l : List V3) (hl : l.length ≤ 48) (a : Nat) (ha : a < l.length) (out : List Pln) (ho : out.length ≤ 800000) :
    ∃j,lp (ba5 ⟨(a:Int)⟩) ⟨phP out,l,0,out⟩=(phP (F1 l out a)+1,⟨phP (F1 l out a),l,((j:Nat):Int),F1 l out a⟩):=by
  have hL2:∀o k,k<=48->(F2 l a o k).length<=o.length+96:=λo k hk=>by have:=Rc9 (Zc2 l a k) o k;show ((List.range k).foldl (Pb9 l a k) o).length<=_;omega
  have hpre:∀ j,j≤a→((List.range j).foldl (F2 l a) out).length≤out.length+96*j:=by
    intro j
    induction j with
    |zero=>intro _;exact Qkt _
    | succ j ih =>
      intro h;rw[T6]
      have:=ih (by omega)
      have:=hL2 ((List.range j).foldl (F2 l a) out) j (by omega)
      omega
  have key:=S8 (step:=ba5 ⟨(a:Int)⟩) (mk:=fun j (o:List Pln)=>(⟨phP o,l,(j:Int),o⟩:D1)) a (fun j o=>j≤a∧o=(List.range j).foldl (F2 l a) out) (fun t s=>t=phP (F1 l out a)+1∧∃ j:Nat,s=⟨phP (F1 l out a),l,(j:Int),F1 l out a⟩) (by omega)
    (fun j o hj hi=>by
      obtain⟨hja,hi⟩:=hi;have hlen:o.length<=900000:=by rw[hi];have:=hpre j hja;omega
      have hn:=n8 hj (show a<=4611686018427387904 by omega)
      obtain⟨j',e1⟩:=Zf3 l hl a j ha hj o hlen
      have fin : ∀ {s : D1}, s = ⟨phP (F2 l a o j), l, ((j + 1 : Nat) : Int), F2 l a o j⟩ → Nx (.next s) (fun t => t = phP (F1 l out a) + 1 ∧ ∃ j' : Nat, (⟨phP o, l, (j : Int), o⟩ : D1) = ⟨phP (F1 l out a), l, (j' : Int), F1 l out a⟩)
          (λs=>∃o',s=(⟨phP o',l,((j+1:Nat):Int),o'⟩:D1)/\(j+1<=a/\o'=(List.range (j+1)).foldl (F2 l a) out)):=λ{s} hs =>
        .nx ⟨_,hs,by omega,by rw[T6,<- hi]⟩
      clear hi
      generalize hF:F2 l a o j=R at *
      cases o with
      | nil =>
        show Nx (N2 Stp.next Stp.exit Stp.fail _ _) _ _;simp only[N2,i5,i9,hn];have e1:lp (ba4 ⟨l,(a:Int),(j:Int)⟩) ⟨0,0,[]⟩=_:=e1;rw[btD (g9 hj),e1];cases R with
        |nil=>exact fin rfl
        |cons q R=>exact fin rfl
      | cons q o =>
        show Nx (N4 Stp.next Stp.exit Stp.fail _ _) _ _;simp only[N4,i5,i9,hn];have e1:lp (ba4 ⟨l,(a:Int),(j:Int)⟩) ⟨1,0,q::o⟩=_:=e1;rw[btD (g9 hj),e1];cases R with
        |nil=>exact fin rfl
        |cons q R=>exact fin rfl)
    (fun j o hj hi=>by
      obtain⟨h1,hi⟩:=hi;have e:j=a:=by omega
      subst e;have hF:o=F1 l out j:=hi;rw[<- hF];cases o with
      | nil =>
        refine⟨1,?_,rfl,j,rfl⟩;show N2 Stp.next Stp.exit Stp.fail _ _=_;simp only[N2];rw[bfD (l0 (Qkb _))]
      | cons q o =>
        refine⟨2,?_,rfl,j,rfl⟩;show N4 Stp.next Stp.exit Stp.fail _ _=_;simp only[N4];rw[bfD (l0 (Qkb _))]) 0 out ⟨Qkj _,rfl⟩
  obtain⟨t,s,h1,rfl,j,rfl⟩:=key;exact⟨j,h1⟩
theorem Zf5 (l : List V3) (hl : l.length ≤ 48) :
    ∃j,lp (Aa7 ⟨⟩) ⟨0,l,0,[]⟩=(phP (F0 l)+1,⟨phP (F0 l),l,((j:Nat):Int),F0 l⟩):=by
  have hL2:∀a o k,k<=48->(F2 l a o k).length<=o.length+96:=λa o k hk=>by have:=Rc9 (Zc2 l a k) o k;show ((List.range k).foldl (Pb9 l a k) o).length<=_;omega
  have hL1:∀ o a,a≤48→∀ j,j≤a→((List.range j).foldl (F2 l a) o).length≤o.length+96*j:=by
    intro o a ha j
    induction j with
    |zero=>intro _;exact Qkt _
    | succ j ih =>
      intro h;rw[T6]
      have:=ih (by omega)
      have:=hL2 a ((List.range j).foldl (F2 l a) o) j (by omega)
      omega
  have hpre:∀ j,j≤l.length→((List.range j).foldl (F1 l) []).length≤5000*j:=by
    intro j
    induction j with
    |zero=>intro _;exact Qkt _
    | succ j ih =>
      intro h;rw[T6]
      have:=ih (by omega)
      have:(F1 l ((List.range j).foldl (F1 l) []) j).length<=_:=hL1 ((List.range j).foldl (F1 l) []) j (by omega) j (Qkt _)
      omega
  have key:=S8 (step:=Aa7 ⟨⟩) (mk:=fun j (o:List Pln)=>(⟨phP o,l,(j:Int),o⟩:E0)) l.length (fun j o=>j≤l.length∧o=(List.range j).foldl (F1 l) []) (fun t s=>t=phP (F0 l)+1∧∃ j:Nat,s=⟨phP (F0 l),l,(j:Int),F0 l⟩) (by omega)
    (fun j o hj hi=>by
      obtain⟨hja,hi⟩:=hi;have hlen:o.length<=800000:=by rw[hi];have:=hpre j hja;omega
      have hn:=n8 hj (show l.length<=4611686018427387904 by omega)
      obtain⟨j',e1⟩:=Zf4 l hl j hj o hlen
      have fin : ∀ {s : E0}, s = ⟨phP (F1 l o j), l, ((j + 1 : Nat) : Int), F1 l o j⟩ → Nx (.next s) (fun t => t = phP (F0 l) + 1 ∧ ∃ j' : Nat, (⟨phP o, l, (j : Int), o⟩ : E0) = ⟨phP (F0 l), l, (j' : Int), F0 l⟩)
          (λs=>∃o',s=(⟨phP o',l,((j+1:Nat):Int),o'⟩:E0)/\(j+1<=l.length/\o'=(List.range (j+1)).foldl (F1 l) [])):=λ{s} hs =>
        .nx ⟨_,hs,by omega,by rw[T6,<- hi]⟩
      clear hi
      generalize hF:F1 l o j=R at *
      cases o with
      | nil =>
        show Nx (N5 Stp.next Stp.exit Stp.fail ⟨⟩ _) _ _;simp only[N5,i5,i9,hn];have e1:lp (ba5 ⟨(j:Int)⟩) ⟨0,l,0,[]⟩=_:=e1;rw[btD (g9 hj),e1];cases R with
        |nil=>exact fin rfl
        |cons q R=>exact fin rfl
      | cons q o =>
        show Nx (N6 Stp.next Stp.exit Stp.fail ⟨⟩ _) _ _;simp only[N6,i5,i9,hn];have e1:lp (ba5 ⟨(j:Int)⟩) ⟨1,l,0,q::o⟩=_:=e1;rw[btD (g9 hj),e1];cases R with
        |nil=>exact fin rfl
        |cons q R=>exact fin rfl)
    (fun j o hj hi=>by
      obtain⟨h1,hi⟩:=hi;have e:j=l.length:=by omega
      subst e;have hF:o=F0 l:=hi;rw[<- hF];cases o with
      | nil =>
        refine⟨1,?_,rfl,_,rfl⟩;show N5 Stp.next Stp.exit Stp.fail ⟨⟩ _=_;simp only[N5];rw[bfD (l0 (Qkb _))]
      | cons q o =>
        refine⟨2,?_,rfl,_,rfl⟩;show N6 Stp.next Stp.exit Stp.fail ⟨⟩ _=_;simp only[N6];rw[bfD (l0 (Qkb _))]) 0 [] ⟨Qkj _,rfl⟩
  obtain⟨t,s,h1,rfl,j,rfl⟩:=key;exact⟨j,h1⟩
noncomputable def Zc3(l:List V3):List Pln×Int:=if Zc1 l=0 then (F0 l,0) else ([],Zc1 l)
theorem kf3 (l:List V3) (hl:l.length≤48):Rd (two (r1L tP) r1I) (Oa6 l) (fun r=>r=Zc3 l):=by
  obtain⟨j,e1⟩:=Zf5 l hl;have hb:l.length<=1000000000:=by omega
  unfold Oa6 Zc3;simp only[i5,i9,j9,Qd4 l hb,Te8 l hb,f0];rw[e1];by_cases h0:Zc1 l=0
  · rw[if_pos h0,show (Zc1 l != 0)=false by rw[h0];rfl,p7]
    cases hF:F0 l with
    |nil=>exact⟨_,([],0),rfl,rfl,rfl⟩
    |cons q o=>exact⟨_,(q::o,0),rfl,gf5 (q::o) 0,rfl⟩
  · rw[if_neg h0,show (Zc1 l != 0)=true by simpa using h0,f0]
    exact⟨_,([],Zc1 l),rfl,rfl,rfl⟩
theorem kf4(l:List V3)(hl:l.length<=48):sc0 l=Zc3 l:=(kf3 l hl).p
theorem Ee2{p:Pln}(h:okp p=true):g3 p.n=1:=by
 unfold okp at h;simp only[Qki,beq_iff_eq] at h;exact h.2.1
theorem Le6{p:Pln}(h:okp p=true):p.n≠⟨0,0,0⟩:=λe=>by
 have:=Ee2 h
 rw[e] at this
 revert this
 decide
theorem kf5(c:Int)(n:V3):g3 ⟨c*n.x,c*n.y,c*n.z⟩=c.natAbs*g3 n:=by
 unfold g3;simp only[Int.natAbs_mul,Nat.gcd_mul_left];rw[Int.natCast_mul]
theorem kf6{m n:V3}(hm:g3 m=1)(hn:g3 n=1)(h:g7 m n=⟨0,0,0⟩):n=m\/n=neg m:=by
 unfold g7 at h;simp only[V3.mk.injEq] at h;obtain⟨c1,c2,c3⟩:=h;have k:∀{c d:Int},c*m.x=d*n.x->c*m.y=d*n.y->c*m.z=d*n.z->c.natAbs=d.natAbs:=λ{c d} e1 e2 e3=>by
  have a1:=kf5 c m;have a2:=kf5 d n;rw[e1,e2,e3,a2,hm,hn] at a1;omega
 have ax:=k (c:=n.x) (d:=m.x) (by grind) (by grind) (by grind)
 have ay:=k (c:=n.y) (d:=m.y) (by grind) (by grind) (by grind)
 have az:=k (c:=n.z) (d:=m.z) (by grind) (by grind) (by grind)
 have sg:∀{a c:Int},a.natAbs=c.natAbs->a=c\/a=-c:=λh=>by omega
 -- the sign of one component that is not zero is that of all
 have go:∀{s u t v:Int},u≠0->s*v=u*t->s=u->t=v:=λ{s u t v} hu h e=>by
  subst e;exact (Qkah hu h).symm
 have gn:∀{s u t v:Int},u≠0->s*v=u*t->s=-u->t=-v:=λ{s u t v} hu h e=>by
  subst e
  have:u*t=u*(-v):=by rw[<- h];grind
  exact Qkah hu this
 by_cases hx:m.x=0
 ·have hx':n.x=0:=by omega
  by_cases hy:m.y=0
  ·have hy':n.y=0:=by omega
   rcases sg az with e|e
   ·exact .inl (V3.ext' (by omega) (by omega) e)
   ·exact .inr (V3.ext' (by show n.x=-m.x;omega) (by show n.y=-m.y;omega) e)
  ·rcases sg ay with e|e
   ·exact .inl (V3.ext' (by omega) e (go hy (by grind) e))
   ·exact .inr (V3.ext' (by show n.x=-m.x;omega) e (gn hy (by grind) e))
 ·rcases sg ax with e|e
  ·exact .inl (V3.ext' e (go hx (by grind) e) (go hx (by grind) e))
  ·exact .inr (V3.ext' e (gn hx (by grind) e) (gn hx (by grind) e))
structure mg6(l:List V3):Prop where
 h:∃a c k v,a∈l/\c∈l/\k∈l/\v∈l/\dot (g7 (sub c a) (sub k a)) (sub v a)≠0
theorem gLm{l:List V3}{j:Nat}(h:j<l.length):gL tV l j∈l:=Y0 tV h
theorem Nf9{l:List V3}(hf:nf0 l=true):mg6 l:=by
 unfold nf0 at hf;obtain⟨a,ha,hf⟩:=Qke.1 hf;unfold nf1 at hf;obtain⟨c,hc,hf⟩:=Qke.1 hf;unfold nf2 at hf;obtain⟨k,hk,hf⟩:=Qke.1 hf;rw[Qkp] at ha hc hk;unfold nf at hf;rw[Qki] at hf;obtain⟨h1,h2⟩:=hf;obtain⟨⟨i1,i2,i3⟩,⟨ok,⟨g,hg,e1,e2,e3⟩,o⟩⟩:=Pb8 h1;unfold jf7 at h2;obtain⟨v,hv,h2⟩:=Qke.1 h2;generalize (Ga8 (gL tV l a) (gL tV l c) (gL tV l k)).1=p at *
 refine⟨_,_,_,v,gLm ha,gLm (show c<l.length by omega),gLm (show k<l.length by omega),hv,λh0=>?_⟩
 have hs:lc0 p v≠0:=by simpa using h2
 have hiv:inV v=true:=by
  cases hi:inV v with
  |true=>rfl
  |false=>exact absurd (by unfold lc0;rw[ok,hi];rfl) hs
 apply hs;rw[Te7 ok hiv,o]
 have:g*(dot p.n v-dot p.n (gL tV l a))=dot (g7 (sub (gL tV l c) (gL tV l a)) (sub (gL tV l k) (gL tV l a))) (sub v (gL tV l a)):=by
  unfold dot;rw[<- e1,<- e2,<- e3];unfold sub
  grind
 rw[h0] at this
 have:=(Qkaa.1 this).resolve_left (by omega)
 omega
theorem kf7{a c k v n:V3}(hd:dot (g7 (sub c a) (sub k a)) (sub v a)≠0)(hn:n≠⟨0,0,0⟩)(h1:dot n c=dot n a)(h2:dot n k=dot n a)(h3:dot n v=dot n a):False:=by
 generalize hD:dot (g7 (sub c a) (sub k a)) (sub v a)=D at *
 have q1:dot n (sub c a)=0:=by unfold dot sub at *;grind
 have q2:dot n (sub k a)=0:=by unfold dot sub at *;grind
 have q3:dot n (sub v a)=0:=by unfold dot sub at *;grind
 generalize sub c a=p at *
 generalize sub k a=q at *
 generalize sub v a=r at *
 have i1:D*n.x=(g7 q r).x*dot n p+(g7 r p).x*dot n q+(g7 p q).x*dot n r:=by rw[<- hD];simp only[dot,g7];grind
 have i2:D*n.y=(g7 q r).y*dot n p+(g7 r p).y*dot n q+(g7 p q).y*dot n r:=by rw[<- hD];simp only[dot,g7];grind
 have i3:D*n.z=(g7 q r).z*dot n p+(g7 r p).z*dot n q+(g7 p q).z*dot n r:=by rw[<- hD];simp only[dot,g7];grind
 rw[q1,q2,q3] at i1 i2 i3;have z:∀{x:Int},D*x=0->x=0:=λh=>(Qkaa.1 h).resolve_left hd
 exact hn (V3.ext' (z (by omega)) (z (by omega)) (z (by omega)))
theorem Sc0{p:Pln}{l:List V3}(hp:okp p=true)(hl:l.all inV=true):hold p l=true↔∀v∈l,dot p.n v<=p.b:=by
 unfold hold;rw[Bool.not_eq_true',<- Bool.not_eq_true,Qke];constructor
 ·intro h v hv;have h1:¬ lc0 p v>0:=λh'=>h ⟨v,hv,by simpa using h'⟩
  rw[te1 hp (Qkh.1 hl v hv)] at h1;omega
 ·rintro h ⟨v,hv,h1⟩;have h1:lc0 p v>0:=by simpa using h1
  rw[te1 hp (Qkh.1 hl v hv)] at h1
  have:=h v hv
  omega
structure Fct(l:List V3)(p:Pln):Prop where
 ok:okp p=true
 hd:hold p l=true
theorem te2(p:Pln)(v:V3):dot (Ca2 p).n v=-dot p.n v:=by unfold dot Ca2;grind
theorem Te9 (l : List V3) (a c k : Nat) (out : List Pln) (p : Pln) : p ∈ Pb9 l a c out k ↔ p ∈ out ∨ ((Ga8 (gL tV l a) (gL tV l c) (gL tV l k)).2 = true ∧
  ((p=(Ga8 (gL tV l a) (gL tV l c) (gL tV l k)).1/\hold p l=true)\/(p=Ca2 (Ga8 (gL tV l a) (gL tV l c) (gL tV l k)).1/\hold p l=true))):=by
 unfold Pb9;generalize Ga8 (gL tV l a) (gL tV l c) (gL tV l k)=T;cases h2:T.2 with
 |false=>simp
 |true =>
  simp only[if_true];cases h4:hold (Ca2 T.1) l with
  |false =>
   simp only[Qkd,if_false];cases h3:hold T.1 l with
   |false =>
    simp only[Qkd,if_false];constructor
    ·exact λh=>.inl h
    ·rintro (h|⟨_,⟨rfl,h⟩|⟨rfl,h⟩⟩)
     ·exact h
     ·rw[h3] at h;cases h
     ·rw[h4] at h;cases h
   |true =>
    simp only[if_true,Kb1];constructor
    ·rintro (rfl|h)
     ·exact .inr ⟨trivial,.inl ⟨rfl,h3⟩⟩
     ·exact .inl h
    ·rintro (h|⟨_,⟨rfl,h⟩|⟨rfl,h⟩⟩)
     ·exact .inr h
     ·exact .inl rfl
     ·rw[h4] at h;cases h
  |true =>
   simp only[if_true,Kb1];cases h3:hold T.1 l with
   |false =>
    simp only[Qkd,if_false];constructor
    ·rintro (rfl|h)
     ·exact .inr ⟨trivial,.inr ⟨rfl,h4⟩⟩
     ·exact .inl h
    ·rintro (h|⟨_,⟨rfl,h⟩|⟨rfl,h⟩⟩)
     ·exact .inr h
     ·rw[h3] at h;cases h
     ·exact .inl rfl
   |true =>
    simp only[if_true,Kb1];constructor
    ·rintro (rfl|rfl|h)
     ·exact .inr ⟨trivial,.inr ⟨rfl,h4⟩⟩
     ·exact .inr ⟨trivial,.inl ⟨rfl,h3⟩⟩
     ·exact .inl h
    ·rintro (h|⟨_,⟨rfl,h⟩|⟨rfl,h⟩⟩)
     ·exact .inr (.inr h)
     ·exact .inr (.inl rfl)
     ·exact .inl rfl
theorem Sc1{f:List Pln->Nat->List Pln}{Q:Nat->Pln->Prop}(h:∀o k p,p∈f o k↔p∈o\/Q k p)(o:List Pln)(p:Pln):∀n,p∈(List.range n).foldl f o↔p∈o\/∃k,k<n/\Q k p
 |0=>by simp
 |n+1=>by
  rw[T6,h,Sc1 h o p n];constructor
  ·rintro ((h|⟨k,hk,h⟩)|h)
   ·exact .inl h
   ·exact .inr ⟨k,by omega,h⟩
   ·exact .inr ⟨n,by omega,h⟩
  ·rintro (h|⟨k,hk,h⟩)
   ·exact .inl (.inl h)
   ·by_cases e:k=n
    ·subst e;exact .inr h
    ·exact .inl (.inr ⟨k,by omega,h⟩)
def Fq (l : List V3) (a c k : Nat) (p : Pln) : Prop := (Ga8 (gL tV l a) (gL tV l c) (gL tV l k)).2 = true ∧
  ((p=(Ga8 (gL tV l a) (gL tV l c) (gL tV l k)).1/\hold p l=true)\/(p=Ca2 (Ga8 (gL tV l a) (gL tV l c) (gL tV l k)).1/\hold p l=true))
theorem Of0(l:List V3)(a c:Nat)(out:List Pln)(p:Pln):p∈F2 l a out c↔p∈out\/∃k,k<c/\Fq l a c k p:=Sc1 (λo k p=>Te9 l a c k o p) out p c
theorem Of1(l:List V3)(a:Nat)(out:List Pln)(p:Pln):p∈F1 l out a↔p∈out\/∃c,c<a/\∃k,k<c/\Fq l a c k p:=Sc1 (λo c p=>Of0 l a c o p) out p a
theorem Ee3(l:List V3)(p:Pln):p∈F0 l↔∃a,a<l.length/\∃c,c<a/\∃k,k<c/\Fq l a c k p:=by
 have:=Sc1 (λo a p=>Of1 l a o p) [] p l.length
 simpa [F0] using this
theorem Ue0{l:List V3}{a c:Nat}{out:List Pln}{k:Nat}(h:db2 out):db2 (Pb9 l a c out k):=by
 unfold Pb9;split
 ·split
  ·refine tc3 _ ?_;split
   ·exact tc3 _ h
   ·exact h
  ·split
   ·exact tc3 _ h
   ·exact h
 ·exact h
theorem Sc2{f:List Pln->Nat->List Pln}(h:∀o k,db2 o->db2 (f o k)){o:List Pln}(ho:db2 o):∀n,db2 ((List.range n).foldl f o)
 |0=>ho
 |n+1=>by rw[T6];exact h _ _ (Sc2 h ho n)
theorem Of2{l:List V3}{a c:Nat}{out:List Pln}(h:db2 out):db2 (F2 l a out c):=Sc2 (λ_ _ h=>Ue0 h) h c
theorem Of3{l:List V3}{a:Nat}{out:List Pln}(h:db2 out):db2 (F1 l out a):=Sc2 (λ_ _ h=>Of2 h) h a
theorem Of4(l:List V3):db2 (F0 l):=Sc2 (λ_ _ h=>Of3 h) .nil l.length
theorem Ue1{l:List Pln}(h:db2 l):l.Nodup:=List.Pairwise.imp (λ{x y} (h:LtP x y) (e:x=y)=>nd1 y (e ▸ h)) h
theorem kf8{l:List V3}{p:Pln}(hp:p∈F0 l):Fct l p:=by
 obtain⟨a,ha,c,hc,k,hk,h1,⟨h2,h3⟩|⟨h2,h3⟩⟩:=(Ee3 l p).1 hp
 ·exact⟨h2 ▸ (Pb8 h1).2.ok,h3⟩
 ·exact⟨h2 ▸ yd9 (Pb8 h1).2.ok,h3⟩
theorem yf7{l:List V3}(hl:l.all inV=true)(hf:nf0 l=true):Te4 (F0 l++ws):=by
 obtain⟨a,c,k,v,ha,hc,hk,hv,hd⟩:=Nf9 hf;have hin:=Qkh.1 hl
 -- a plane on whose lc0 all Nf9 lie has their middle within
 have key:∀p:Pln,p.n≠⟨0,0,0⟩->dot p.n a<=p.b->dot p.n c<=p.b->dot p.n k<=p.b->dot p.n v<=p.b->0<rmZ p ⟨a.x+c.x+k.x+v.x,a.y+c.y+k.y+v.y,a.z+c.z+k.z+v.z,4⟩:=λp hn h1 h2 h3 h4=>by
  have e:rmZ p ⟨a.x+c.x+k.x+v.x,a.y+c.y+k.y+v.y,a.z+c.z+k.z+v.z,4⟩=(p.b-dot p.n a)+(p.b-dot p.n c)+(p.b-dot p.n k)+(p.b-dot p.n v):=by simp only[rmZ,dot];grind
  rw[e];by_cases q:dot p.n a=p.b/\dot p.n c=p.b/\dot p.n k=p.b/\dot p.n v=p.b
  ·obtain⟨q1,q2,q3,q4⟩:=q;exact (kf7 hd hn (q2.trans q1.symm) (q3.trans q1.symm) (q4.trans q1.symm)).elim
  ·omega
 refine⟨⟨a.x+c.x+k.x+v.x,a.y+c.y+k.y+v.y,a.z+c.z+k.z+v.z,4⟩,by show (0:Int)<4;omega,λp hp=>?_⟩
 rcases Qkab.1 hp with h|h
 ·have hF:=kf8 h;have hb:=(Sc0 hF.ok hl).1 hF.hd;exact key p (Le6 hF.ok) (hb a ha) (hb c hc) (hb k hk) (hb v hv)
 ·have hw : ∀ x ∈ l, dot p.n x ≤ p.b := fun x hx => by
   have:=Nf4 (hin x hx) p h
   simp only[rmZ,ipt,dot] at this ⊢;omega
  refine key p ?_ (hw a ha) (hw c hc) (hw k hk) (hw v hv);have h1:∀q∈ws,okp q=true:=Qkh.1 (by decide)
  exact Le6 (h1 p h)
theorem kf9(l:List Int):Rd (one r1P) (bb1 l) (λp=>okp p=true):=by
 unfold bb1;simp only[i5,i9];obtain⟨v1,j1,e1,a1,b1,c1,d1⟩:=za3 8 l 0 (by omega) (by omega) (by omega) (by omega)
 rw[e1]
 simp only
 obtain⟨v2,j2,e2,a2,b2,c2,d2⟩:=za3 17 l j1 (by omega) (by omega) (by omega) (by omega)
 rw[e2]
 simp only
 obtain⟨x1,x2,x3,j3,e3,_,_,_,c3,d3⟩:=Ic1 8 l j2 (by omega) (by omega) (by omega) (by omega)
 rw[e3]
 simp only
 obtain⟨y1,y2,y3,j4,e4,_,_,_,c4,d4⟩:=Ic1 8 l j3 (by omega) (by omega) (by omega) (by omega)
 rw[e4]
 simp only
 obtain⟨z1,z2,z3,j5,e5,_,_,_,c5,d5⟩:=Ic1 8 l j4 (by omega) (by omega) (by omega) (by omega)
 rw[e5];simp only[Yb8,cb6,ed1 _ (show (0:Int)<3 by omega) (by omega),i9]
 simp only[Qkv,Qkz,f0];have w2:W (v2-8)=v2-8:=ka5 (by omega) (by omega)
 have w1:W (1-W (2*Int.tmod v1 2))=1\/W (1-W (2*Int.tmod v1 2))=-1:=by
  have h:=Int.tmod_nonneg 2 a1;have h2:=Int.tmod_lt_of_pos v1 (show (0:Int)<2 by omega)
  rw[ka5 (n:=2*Int.tmod v1 2) (by omega) (by omega),ka5 (by omega) (by omega)]
  omega
 rw[w2];generalize W (1-W (2*Int.tmod v1 2))=s at *
 have ax:∀{a c d:Int},(a=s/\c=0/\d=0)\/(a=0/\c=s/\d=0)\/(a=0/\c=0/\d=s)->okp ⟨⟨a,c,d⟩,v2-8⟩=true:=λh=>by
  unfold okp;simp only[List.all_cons,List.all_nil,Qkz,Qki,Bb3,beq_iff_eq,Sm]
  rcases h with⟨rfl,rfl,rfl⟩|⟨rfl,rfl,rfl⟩|⟨rfl,rfl,rfl⟩<;>rcases w1 with rfl|rfl<;>exact⟨by omega,by decide,by omega⟩
 have r1:Rd (one r1P) (some (.agg [i 0,i s,i 0,i (v2-8)],[])) (λp=>okp p=true):=⟨_,⟨⟨0,s,0⟩,v2-8⟩,rfl,rfl,ax (.inr (.inl ⟨rfl,rfl,rfl⟩))⟩
 have r2:Rd (one r1P) (some (.agg [i 0,i 0,i s,i (v2-8)],[])) (λp=>okp p=true):=⟨_,⟨⟨0,0,s⟩,v2-8⟩,rfl,rfl,ax (.inr (.inr ⟨rfl,rfl,rfl⟩))⟩
 have r3:Rd (one r1P) (some (.agg [i s,i 0,i 0,i (v2-8)],[])) (λp=>okp p=true):=⟨_,⟨⟨s,0,0⟩,v2-8⟩,rfl,rfl,ax (.inl ⟨rfl,rfl,rfl⟩)⟩
 refine Rd.sl (λ_=>Rd.sl (λh=>?_) λ_=>?_) (λ_=>?_)
 ·exact⟨_,(Ga8 ⟨x1,x2,x3⟩ ⟨y1,y2,y3⟩ ⟨z1,z2,z3⟩).1,rfl,rfl,(Pb8 h).2.ok⟩
 ·exact Rd.sl (λ_=>r1) λ_=>Rd.sl (λ_=>r2) λ_=>r3
 ·exact Rd.sl (λ_=>r1) λ_=>Rd.sl (λ_=>r2) λ_=>r3
theorem yf8(l:List Int):okp (Ib0 l)=true:=(kf9 l).p
theorem Rd4:g3 ⟨1,0,0⟩=1/\g3 ⟨-1,0,0⟩=1/\g3 ⟨0,1,0⟩=1/\g3 ⟨0,-1,0⟩=1/\g3 ⟨0,0,1⟩=1/\g3 ⟨0,0,-1⟩=1:=by decide
structure zd0(c:List Pln):Prop where
 l:c.length<=47
 v:∀p∈c,okp p=true
 f:Te4 (c++ws)
theorem zd0.chk{c:List Pln}(h:zd0 c):(chk c==0)=true:=by
 rw[beq_iff_eq,Hb8];exact⟨by have:=h.l;omega,h.v⟩
theorem zd0.bds{c:List Pln}(h:zd0 c):Bds (c++ws):=(qb5 h.chk).1
theorem zd0.ful{c:List Pln}(h:zd0 c):ful c=true:=by
 unfold Ce.ful;rw[h.chk,(yc2 h.bds (de6 c) (by simp[ws])).2 h.f]
 rfl
theorem lf0{lo hi:V3}(h1:Sm 20 lo.x/\Sm 20 lo.y/\Sm 20 lo.z)(h2:Sm 20 hi.x/\Sm 20 hi.y/\Sm 20 hi.z)(h3:lo.x<hi.x/\lo.y<hi.y/\lo.z<hi.z):zd0 (Gd8 lo hi):=by
 obtain⟨⟨a1,a2⟩,⟨a3,a4⟩,a5,a6⟩:=h1;obtain⟨⟨b1,b2⟩,⟨b3,b4⟩,b5,b6⟩:=h2;obtain⟨c1,c2,c3⟩:=h3;have w:∀{x:Int},-20<=x->x<=20->W (0-x)=-x:=λh h'=>by rw[ka5 (by omega) (by omega)];omega
 have e:Gd8 lo hi=[⟨⟨1,0,0⟩,hi.x⟩,⟨⟨-1,0,0⟩,-lo.x⟩,⟨⟨0,1,0⟩,hi.y⟩,⟨⟨0,-1,0⟩,-lo.y⟩,⟨⟨0,0,1⟩,hi.z⟩,⟨⟨0,0,-1⟩,-lo.z⟩]:=by
  unfold Gd8;rw[w a1 a2,w a3 a4,w a5 a6]
 rw[e];refine⟨by simp,λp hp=>?_,⟨⟨lo.x+hi.x,lo.y+hi.y,lo.z+hi.z,2⟩,by show (0:Int)<2;omega,λp hp=>?_⟩⟩
 ·simp only[Qkc,Qkai,or_false] at hp;unfold okp;simp only[List.all_cons,List.all_nil,Qkz,Qki,Bb3,beq_iff_eq,Sm]
  rcases hp with rfl|rfl|rfl|rfl|rfl|rfl<;>exact⟨by simp,by first|exact Rd4.1|exact Rd4.2.1|exact Rd4.2.2.1|exact Rd4.2.2.2.1|exact Rd4.2.2.2.2.1|exact Rd4.2.2.2.2.2,by simp only;omega⟩
 ·simp only[ws,List.cons_append,List.nil_append,Qkc,Qkai,or_false] at hp
  rcases hp with rfl|rfl|rfl|rfl|rfl|rfl|rfl|rfl|rfl|rfl|rfl|rfl<;>simp only[rmZ]<;>omega
theorem Ue2{l:List V3}(h:Zc1 l=0):l.all inV=true/\nf0 l=true:=by
 unfold Zc1 at h
 split at h
 ·omega
 ·split at h
  ·rename_i h2
   split at h
   ·rename_i h3;exact⟨h2,h3⟩
   ·omega
  ·omega
theorem zd0.pts{c:List Pln}(h:zd0 c):pts c=cor (c++ws):=by unfold Ce.pts;rw[if_pos h.chk]
structure Ins(r:List Pln)(x:Pt):Prop where
 w:0<x.pw
 h:∀p∈r,0<rmZ p x
theorem Ins.inr{r:List Pln}{x:Pt}(h:Ins r x):Inr r x:=⟨h.w,λp hp=>Int.le_of_lt (h.h p hp)⟩
theorem te3{r:List Pln}:Te4 r↔∃x,Ins r x:=⟨λ⟨x,h1,h2⟩=>⟨x,h1,h2⟩,λ⟨x,h⟩=>⟨x,h.w,h.h⟩⟩
theorem Ins.mono{r r':List Pln}{x:Pt}(h:Ins r x)(hs:∀p∈r',p∈r):Ins r' x:=⟨h.w,λp hp=>h.h p (hs p hp)⟩
theorem Inr.mono{r r':List Pln}{x:Pt}(h:Inr r x)(hs:∀p∈r',p∈r):Inr r' x:=⟨h.w,λp hp=>h.h p (hs p hp)⟩
theorem Ins.app{r r':List Pln}{x:Pt}(h:Ins r x)(h':Ins r' x):Ins (r++r') x:=⟨h.w,λp hp=>(Qkab.1 hp).elim (h.h p) (h'.h p)⟩
theorem Inr.app{r r':List Pln}{x:Pt}(h:Inr r x)(h':Inr r' x):Inr (r++r') x:=⟨h.w,λp hp=>(Qkab.1 hp).elim (h.h p) (h'.h p)⟩
theorem far{f g:Pln->Int}:∀l:List Pln,(∀p∈l,0<f p)->∃N:Int,0<=N/\∀M,N<=M->∀p∈l,0<M*f p+g p
 |[],_=>⟨0,Int.le_refl _,λ_ _ p hp=>by cases hp⟩
 |a::l,h=>by
  obtain⟨N,h0,h1⟩:=far l λp hp=>h p (List.mem_cons_of_mem _ hp)
  have ha:=h a List.mem_cons_self;refine⟨max N ((g a).natAbs+1),by omega,λM hM p hp=>?_⟩
  rcases Qkc.1 hp with rfl|hp
  ·have:M*1<=M*f p:=Int.mul_le_mul_of_nonneg_left (by omega) (by omega)
   omega
  ·exact h1 M (by omega) p hp
theorem Of5:∀p∈ws,okp p=true:=Qkh.1 (by decide)
theorem Fc9{c:List Pln}(h:(chk c==0)=true):∀p∈c++ws,okp p=true:=λp hp=>by
 rw[beq_iff_eq,Hb8] at h
 rcases Qkab.1 hp with hp|hp
 ·exact h.2 p hp
 ·exact Of5 p hp
theorem Le7{c:List Pln}:ful c=true↔(chk c==0)=true/\∃x,Ins (c++ws) x:=by
 unfold ful;rw[Qki];constructor
 ·rintro⟨h1,h2⟩;exact⟨h1,te3.1 ((yc2 (qb5 h1).1 (de6 c) (by simp[ws])).1 h2)⟩
 ·rintro⟨h1,h2⟩;exact⟨h1,(yc2 (qb5 h1).1 (de6 c) (by simp[ws])).2 (te3.2 h2)⟩
theorem te4{c:List Pln}{p:Pln}(h:p∈lean c):p∈c:=by
 cases hf:ful c with
 |true=>exact ((jf5 hf p).1 h).1
 |false=>unfold lean at h;rw[hf] at h;cases h
noncomputable def C5(x fs:List Pln):Nat->List Pln
 |0=>x
 |j+1=>lean (C5 x fs j++[gL tP fs j])
noncomputable def db6(x fs:List Pln)(j:Nat):List Pln:=lean (C5 x fs j++[Ca2 (gL tP fs j)])
noncomputable def ia8(x fs:List Pln)(j:Nat):List (List Pln):=((List.range j).map (db6 x fs)).filter λc=>decide (0<c.length)
noncomputable def Z4(x fs:List Pln):Bool:=(List.range fs.length).all λj=>decide ((C5 x fs j).length<48)
noncomputable def ua3(q x:List Pln):List (List Pln):=if apart x q then [x] else ia8 x (lean q) (lean q).length
noncomputable def ta4(q x:List Pln):Bool:=apart x q||Z4 x (lean q)
noncomputable def K6(ps:List (List Pln))(q:List Pln):Option (List (List Pln)) :=
 if ful q then (if ps.all (ta4 q)&&decide ((ps.flatMap (ua3 q)).length<=200) then some (ps.flatMap (ua3 q)) else none) else some ps
noncomputable def ya7(c:List Pln)(s:List (List Pln)):Option (List (List Pln)) :=
 s.foldl (λst q=>st.bind λps=>K6 ps q) (some (if ful c then [lean c] else []))
theorem lf1{x fs:List Pln}{n:Nat}{y:List Pln}:y∈ia8 x fs n↔∃j,j<n/\y=db6 x fs j/\y≠[]:=by
 unfold ia8;rw[List.mem_filter,List.mem_map];constructor
 ·rintro⟨⟨j,hj,rfl⟩,h⟩;exact⟨j,Qkp.1 hj,rfl,λe=>by rw[e] at h;simp at h⟩
 ·rintro⟨j,hj,rfl,h⟩;exact⟨⟨j,Qkp.2 hj,rfl⟩,by simpa using List.length_pos_iff.2 h⟩
section
variable{x fs:List Pln}(hx:(chk x==0)=true)(hf:∀p∈fs,okp p=true){z0:Pt}(h1:Ins (x++ws) z0)(h2:Ins (fs++ws) z0)(h48:Z4 x fs=true)
include hx hf h1 h2 h48
end
structure Pcs(c:List Pln)(S ps:List (List Pln)):Prop where
 ful:∀y∈ps,ful y=true
 sub:∀y∈ps,∀z,Inr (y++ws) z->Inr (c++ws) z
 off:∀y∈ps,∀s∈S,Ce.ful s=true->∀z,Ins (y++ws) z->Inr (s++ws) z->False
 dis:ps.Pairwise λa b=>∀z,Ins (a++ws) z->Ins (b++ws) z->False
 cov:∀z,Inr (c++ws) z->(∃y∈ps,Inr (y++ws) z)\/∃s∈S,Ce.ful s=true/\Inr (s++ws) z
theorem jd4(s:List (List Pln)):s.foldl (λst q=>st.bind λps=>K6 ps q) none=none:=by
 induction s with
 |nil=>rfl
 |cons q s ih=>exact ih
set_option maxRecDepth 100000
noncomputable def de7:List (Nat×Sum):=[]
theorem Jd1:i8 prog G de7:=trivial
noncomputable def tc5(x:V3)(y:V3):V3:=(⟨W (x.x-y.x),W (x.y-y.y),W (x.z-y.z)⟩:V3)
noncomputable def ed4:Sum:=ga1 (da1 tV) (da1 tV) (λx y=>.ret ((one r1V).enc (tc5 x y),[]))
theorem de8:i7 prog G 108 ed4:=Ka8 (bd fg3 Jd1) λx y=>w9 (by kernel_rfl)
noncomputable def Jd2:List (Nat×Sum):=[(108,ed4)]
theorem zd1:i8 prog G Jd2:=⟨de8,trivial⟩
noncomputable def jb0(x:Pln):Pln:=let t1:=(tc5 (⟨0,0,0⟩:V3) x.n);(⟨t1,W (0-x.b)⟩:Pln)
noncomputable def Sc3:Sum:=Z5 (da1 tP) (λx=>.ret ((one r1P).enc (jb0 x),[]))
theorem Jd3:i7 prog G 52 Sc3:=Ob1 (bd b52 zd1) λx=>w9 (by kernel_rfl)
noncomputable def tc6:List (Nat×Sum):=[(97,Ab7)]
theorem jd5:i8 prog G tc6:=⟨Tb3,trivial⟩
structure Ha4 where
 Lb7:List (List Pln)
 xa2:Int
structure X6 where
 p8:Int
noncomputable def Zb6(p:Ha4)(s:X6):St:=⟨ra 9 (eL (tLs tP) p.Lb7::i p.xa2::i s.p8::ra 9 []),[]⟩
noncomputable def wa7{α:Type}(k:X6->α)(e:Nat->α)(z:α)(p:Ha4)(s:X6):α:=let t1:=(va9 (rt tP (gL (tLs tP) p.Lb7 s.p8.toNat)));(sl (decide (s.p8<p.xa2)) (sl (inB s.p8 (List.length p.Lb7)) (sl (okE tP (gL (tLs tP) p.Lb7 s.p8.toNat)) (sl (Ra8 (rt tP (gL (tLs tP) p.Lb7 s.p8.toNat))) (sl (t1 != 0) (e 1) (k ⟨W (s.p8+1)⟩)) z) z) z) (e 2))
noncomputable def Ba4(p:Ha4)(s:X6):Stp X6:=wa7 .next .exit .fail p s
noncomputable def yb8:Lo Ha4 X6:=⟨En tc6,0,Sf8,[1,1,0,1,4,4],[9,10,11],.p,[⟨ru2 9 (.s (.c 1 (nL (tLs tP)))::sIq::sIq::ru2 9 []),[],λa H=>(⟨rL (tLs tP) (slT a 9),aIq a 10⟩,⟨aIq a 11⟩)⟩],Ba4,[(none,λp s=>let t1:=(va9 (rt tP (gL (tLs tP) p.Lb7 s.p8.toNat)));⟨[i t1],[]⟩),(some 0,λp s=>upq (Zb6 p s) [(12,b (decide (s.p8<p.xa2)))])],Zb6⟩
theorem Zc4:yb8.Ok:=Lo.ok [] (by kernel_rfl) .nil rfl (.cons (λa H=>by kernel_rfl) .nil) λp s=>(.of @wa7 (λF _ _ _ _ _=>by unfold wa7;(repeat' apply l5 (f:=F))<;>rfl) (by kernel_rfl))
noncomputable def Xa9(x:List (List Pln)):Option (b8×List b9):=let t1:=(lp (Ba4 (⟨rt (tLs tP) x,(↑(List.length x):Int)⟩:Ha4)) (⟨0⟩:X6));let t2:=(va9 (rt tP (gL (tLs tP) (rt (tLs tP) x) t1.2.p8.toNat)));(sl (decide ((↑(List.length x):Int)>16)) (some (i 2,[])) (sl ((cnE (tLs tP) x)&&true) (sl (Nat.beq t1.1 1) (some (i t2,[])) (sl (Nat.beq t1.1 2) (some (i 0,[])) none)) none))
noncomputable def V6(x:List (List Pln)):Int:=I6 (one r1I) (Xa9 x)
noncomputable def V7(x:List (List Pln)):Bool:=okO (one r1I) (Xa9 x)
noncomputable def Ya0:Sum:=Z5 (G4 (tLs tP)) (λx=>.guard (V7 x) (.ret ((one r1I).enc (V6 x),[])))
theorem jb1:i7 prog G 49 Ya0:=La4 (bd b49 jd5) (one r1I) (o:=Xa9) λx=>ma5 (.s .p (.s .p (.s (.s .p (.b (.u yb8.ls))) .p))) [yb8.pr] (by kernel_rfl) (.cons Zc4 .nil) (by kernel_rfl)
noncomputable def tc7:List (Nat×Sum):=[]
theorem jd6:i8 prog G tc7:=trivial
@[reducible] noncomputable def Dc0:Sum:=Vb9 (En tc7) Df9
theorem zd2:i7 prog G 155 Dc0:=bd ig0 jd6
noncomputable def pb0:List (Nat×Sum):=[(55,cb5),(98,fc8),(56,ec7),(52,Sc3),(166,Ka2),(155,Dc0)]
theorem Sc4:i8 prog G pb0:=⟨hb7,Cc9,Cc8,Jd3,gb9,zd2,trivial⟩
structure A6 where
 A8:List Pln
 xa2:Int
 (fe2 fe3:List Pln)
 nd7:List (List Pln)
 (Bf9 Cf0:Int)
structure l9 where
 ph:Nat
 da9:List Pln
 p8:Int
 D6:Nat
 eh3:List (List b8)
noncomputable def zb5(p:A6)(s:l9):St:=⟨ra 4 (eL tP s.da9::ra 4 (eL tP p.A8::i p.xa2::i s.p8::ra 31 (i 0::.unk::eL tP p.fe2::.unk::.unk::.ptr 0 0 0 0::.ptr 1 0 0 0::eL tP p.fe3::.ptr 2 0 0 0::ra 9 (eL (tLs tP) p.nd7::i p.Bf9::i p.Cf0::ra 25 [])))),[⟨0,1,[[.v (.slice none 0 0)]],true,false,0⟩,⟨0,1,[[i 0]],true,false,0⟩,⟨0,0,[[.v (.slice none 0 0)]],true,false,0⟩]⟩
noncomputable def zb6(p:A6)(s:l9):St:=⟨ra 4 (eL tP s.da9::ra 4 (eL tP p.A8::i p.xa2::i s.p8::ra 31 (i 0::.unk::eL tP p.fe2::.unk::.unk::.ptr 0 0 0 0::.ptr 1 0 0 0::eL tP p.fe3::.ptr 2 0 0 0::ra 9 (eL (tLs tP) p.nd7::i p.Bf9::i p.Cf0::ra 25 [])))),[⟨0,1,[[.v (.slice none 0 0)]],true,false,0⟩,⟨0,1,[[i 0]],true,false,0⟩,⟨0,0,[[.sl 3 0 s.D6 0]],true,false,0⟩,⟨24,1,s.eh3,true,false,0⟩]⟩
noncomputable def Ic6(p:A6)(s:l9):St:=(sel (Nat.beq s.ph 1) (zb6 p s) (zb5 p s))
noncomputable def C3{α:Type}(k:l9->α)(e:Nat->α)(z:α)(p:A6)(s:l9):α:=let t1:=(jb0 (gL tP p.A8 s.p8.toNat));let t2:=(y5 [rt tP s.da9,[t1]]);let t3:=(T5 []);let t4:=(y5 [rt tP s.da9,[gL tP p.A8 s.p8.toNat]]);let t5:=(T5 (slR tP t4.eh0 0 t4.ns0));let t6:=(T5 (slR tP t2.eh0 0 t2.ns0));let w0:α:=(sl ((okE tP s.da9)&&true) (sl (Nat.beq t4.alt 1) (sl (s8 []) (k ⟨0,t3,W (s.p8+1),0,[]⟩) z) (sl (Nat.beq t4.alt 2) (sl (okS tP t4.eh0 0 t4.ns0) (sl (s8 (slR tP t4.eh0 0 t4.ns0)) (k ⟨0,t5,W (s.p8+1),0,[]⟩) z) z) z)) z);(sl (decide (s.p8<p.xa2)) (sl (inB s.p8 (List.length p.A8)) (sl (decide ((↑(List.length s.da9):Int)>=48)) (e 1) (sl ((okE tP s.da9)&&true) (sl (Nat.beq t2.alt 1) (sl (s8 []) (sl (decide ((↑(List.length t3):Int)>0)) (sl (decide ((↑(List.length t3):Int)>0)) (sl ((!(Nat.beq (List.length t3) 0))&&true) (sl ((okE tP s.da9)&&true) (sl (Nat.beq t4.alt 1) (sl (s8 []) (k ⟨1,t3,W (s.p8+1),1,[[eL tP t3]]⟩) z) (sl (Nat.beq t4.alt 2) (sl (okS tP t4.eh0 0 t4.ns0) (sl (s8 (slR tP t4.eh0 0 t4.ns0)) (k ⟨1,t5,W (s.p8+1),1,[[eL tP t3]]⟩) z) z) z)) z) z) w0) (sl (decide ((↑(List.length t3):Int)>0)) z w0)) z) (sl (Nat.beq t2.alt 2) (sl (okS tP t2.eh0 0 t2.ns0) (sl (s8 (slR tP t2.eh0 0 t2.ns0)) (sl (decide ((↑(List.length t6):Int)>0)) (sl (decide ((↑(List.length t6):Int)>0)) (sl ((!(Nat.beq (List.length t6) 0))&&true) (sl ((okE tP s.da9)&&true) (sl (Nat.beq t4.alt 1) (sl (s8 []) (k ⟨1,t3,W (s.p8+1),1,[[eL tP t6]]⟩) z) (sl (Nat.beq t4.alt 2) (sl (okS tP t4.eh0 0 t4.ns0) (sl (s8 (slR tP t4.eh0 0 t4.ns0)) (k ⟨1,t5,W (s.p8+1),1,[[eL tP t6]]⟩) z) z) z)) z) z) w0) (sl (decide ((↑(List.length t6):Int)>0)) z w0)) z) z) z)) z)) z) (e 2))
noncomputable def C4{α:Type}(k:l9->α)(e:Nat->α)(z:α)(p:A6)(s:l9):α:=let t1:=(jb0 (gL tP p.A8 s.p8.toNat));let t2:=(y5 [rt tP s.da9,[t1]]);let t3:=(T5 []);let t4:=(y5 [rt tP s.da9,[gL tP p.A8 s.p8.toNat]]);let t5:=(T5 (slR tP t4.eh0 0 t4.ns0));let t6:=(T5 (slR tP t2.eh0 0 t2.ns0));let w0:α:=(sl ((okE tP s.da9)&&true) (sl (Nat.beq t4.alt 1) (sl (s8 []) (k ⟨1,t3,W (s.p8+1),s.D6,s.eh3⟩) z) (sl (Nat.beq t4.alt 2) (sl (okS tP t4.eh0 0 t4.ns0) (sl (s8 (slR tP t4.eh0 0 t4.ns0)) (k ⟨1,t5,W (s.p8+1),s.D6,s.eh3⟩) z) z) z)) z);(sl (decide (s.p8<p.xa2)) (sl (inB s.p8 (List.length p.A8)) (sl (decide ((↑(List.length s.da9):Int)>=48)) (e 3) (sl ((okE tP s.da9)&&true) (sl (Nat.beq t2.alt 1) (sl (s8 []) (sl (decide ((↑(List.length t3):Int)>0)) (sl (decide ((↑(List.length t3):Int)>0)) (sl ((!(Nat.beq (List.length t3) 0))&&true) (sl (Nat.beq s.D6 (len s.eh3)&&Nat.ble ((s.D6+1)*24) room) (sl ((okE tP s.da9)&&true) (sl (Nat.beq t4.alt 1) (sl (s8 []) (k ⟨1,t3,W (s.p8+1),s.D6+1,app s.eh3 [[eL tP t3]]⟩) z) (sl (Nat.beq t4.alt 2) (sl (okS tP t4.eh0 0 t4.ns0) (sl (s8 (slR tP t4.eh0 0 t4.ns0)) (k ⟨1,t5,W (s.p8+1),s.D6+1,app s.eh3 [[eL tP t3]]⟩) z) z) z)) z) z) z) w0) (sl (decide ((↑(List.length t3):Int)>0)) z w0)) z) (sl (Nat.beq t2.alt 2) (sl (okS tP t2.eh0 0 t2.ns0) (sl (s8 (slR tP t2.eh0 0 t2.ns0)) (sl (decide ((↑(List.length t6):Int)>0)) (sl (decide ((↑(List.length t6):Int)>0)) (sl ((!(Nat.beq (List.length t6) 0))&&true) (sl (Nat.beq s.D6 (len s.eh3)&&Nat.ble ((s.D6+1)*24) room) (sl ((okE tP s.da9)&&true) (sl (Nat.beq t4.alt 1) (sl (s8 []) (k ⟨1,t3,W (s.p8+1),s.D6+1,app s.eh3 [[eL tP t6]]⟩) z) (sl (Nat.beq t4.alt 2) (sl (okS tP t4.eh0 0 t4.ns0) (sl (s8 (slR tP t4.eh0 0 t4.ns0)) (k ⟨1,t5,W (s.p8+1),s.D6+1,app s.eh3 [[eL tP t6]]⟩) z) z) z)) z) z) z) w0) (sl (decide ((↑(List.length t6):Int)>0)) z w0)) z) z) z)) z)) z) (e 4))
noncomputable def o2(p:A6)(s:l9):Stp l9:=(sel (Nat.beq s.ph 1) (C4 .next .exit .fail p s) (C3 .next .exit .fail p s))
noncomputable def jb2:Lo A6 l9:=⟨En pb0,0,Kf5,[1,1,1,1,0,1,4,4,1,1,0,4,1,1,1,4,4,1,1,4,4],[4,9,10,11,43,45,48,49,50,51,61,62,63],.p,[⟨ru2 4 (sLq tP::ru2 4 (sLq tP::sIq::sIq::ru2 31 (.s (.o (.lit .i64 0))::sUq::sLq tP::sUq::sUq::sPq 0::sPq 1::sLq tP::sPq 2::ru2 9 (.s (.c 1 (nL (tLs tP)))::sIq::sIq::ru2 25 [])))),[⟨0,1,true,some [[.o .nil]]⟩,⟨0,1,true,some [[.o (.lit .i64 0)]]⟩,⟨0,0,true,some [[.o .nil]]⟩],λa H=>(⟨aLq tP a 9,aIq a 10,aLq tP a 45,aLq tP a 50,rL (tLs tP) (slT a 61),aIq a 62,aIq a 63⟩,⟨0,aLq tP a 4,aIq a 11,0,[]⟩)⟩,⟨ru2 4 (sLq tP::ru2 4 (sLq tP::sIq::sIq::ru2 31 (.s (.o (.lit .i64 0))::sUq::sLq tP::sUq::sUq::sPq 0::sPq 1::sLq tP::sPq 2::ru2 9 (.s (.c 1 (nL (tLs tP)))::sIq::sIq::ru2 25 [])))),[⟨0,1,true,some [[.o .nil]]⟩,⟨0,1,true,some [[.o (.lit .i64 0)]]⟩,⟨0,0,true,some [[.o (.sl 3 0 (some 0) none)]]⟩,⟨24,1,true,none⟩],λa H=>(⟨aLq tP a 9,aIq a 10,aLq tP a 45,aLq tP a 50,rL (tLs tP) (slT a 61),aIq a 62,aIq a 63⟩,⟨1,aLq tP a 4,aIq a 11,slN (slT (rwT (elT H 2) 0) 0),elT H 3⟩)⟩],o2,[(none,λp s=>⟨ra 4 (eL tP s.da9::.unk::.ptr 3 0 0 0::.unk::.unk::eL tP p.A8::i p.xa2::i s.p8::b (decide (s.p8<p.xa2))::.tptr [i (gL tP p.A8 s.p8.toNat).n.x,i (gL tP p.A8 s.p8.toNat).n.y,i (gL tP p.A8 s.p8.toNat).n.z,i (gL tP p.A8 s.p8.toNat).b]::.agg [i (gL tP p.A8 s.p8.toNat).n.x,i (gL tP p.A8 s.p8.toNat).n.y,i (gL tP p.A8 s.p8.toNat).n.z,i (gL tP p.A8 s.p8.toNat).b]::eL tP s.da9::i (↑(List.length s.da9):Int)::b (decide ((↑(List.length s.da9):Int)>=48))::.unk::b false::ra 23 (i 1::.unk::eL tP p.fe2::.unk::.unk::.ptr 0 0 0 0::.ptr 1 0 0 0::eL tP p.fe3::.ptr 2 0 0 0::ra 9 (eL (tLs tP) p.nd7::i p.Bf9::i p.Cf0::ra 25 []))),[⟨0,1,[[.v (.slice none 0 0)]],true,false,0⟩,⟨0,1,[[i 9]],true,false,0⟩,⟨0,0,[[.v (.slice none 0 0)]],true,false,0⟩,⟨0,4,[[i (gL tP p.A8 s.p8.toNat).n.x,i (gL tP p.A8 s.p8.toNat).n.y,i (gL tP p.A8 s.p8.toNat).n.z,i (gL tP p.A8 s.p8.toNat).b]],true,false,0⟩]⟩),(some 0,λp s=>upq (zb5 p s) [(12,b (decide (s.p8<p.xa2)))]),(none,λp s=>⟨ra 4 (eL tP s.da9::.unk::.ptr 4 0 0 0::.unk::.unk::eL tP p.A8::i p.xa2::i s.p8::b (decide (s.p8<p.xa2))::.tptr [i (gL tP p.A8 s.p8.toNat).n.x,i (gL tP p.A8 s.p8.toNat).n.y,i (gL tP p.A8 s.p8.toNat).n.z,i (gL tP p.A8 s.p8.toNat).b]::.agg [i (gL tP p.A8 s.p8.toNat).n.x,i (gL tP p.A8 s.p8.toNat).n.y,i (gL tP p.A8 s.p8.toNat).n.z,i (gL tP p.A8 s.p8.toNat).b]::eL tP s.da9::i (↑(List.length s.da9):Int)::b (decide ((↑(List.length s.da9):Int)>=48))::.unk::b false::ra 23 (i 1::.unk::eL tP p.fe2::.unk::.unk::.ptr 0 0 0 0::.ptr 1 0 0 0::eL tP p.fe3::.ptr 2 0 0 0::ra 9 (eL (tLs tP) p.nd7::i p.Bf9::i p.Cf0::ra 25 []))),[⟨0,1,[[.v (.slice none 0 0)]],true,false,0⟩,⟨0,1,[[i 9]],true,false,0⟩,⟨0,0,[[.sl 3 0 s.D6 0]],true,false,0⟩,⟨24,1,s.eh3,true,false,0⟩,⟨0,4,[[i (gL tP p.A8 s.p8.toNat).n.x,i (gL tP p.A8 s.p8.toNat).n.y,i (gL tP p.A8 s.p8.toNat).n.z,i (gL tP p.A8 s.p8.toNat).b]],true,false,0⟩]⟩),(some 0,λp s=>upq (zb6 p s) [(12,b (decide (s.p8<p.xa2)))])],Ic6⟩
theorem Ic7:jb2.OkM:=Lo.okM [] (by kernel_rfl) .nil rfl (.cons (λa H=>by kernel_rfl) (.cons (λa H=>by kernel_rfl) .nil)) λp s=>(.sel (Nat.beq s.ph 1) (.of @C4 (λF _ _ _ _ _=>by unfold C4;(repeat' apply l5 (f:=F))<;>rfl) (by kernel_rfl)) (.of @C3 (λF _ _ _ _ _=>by unfold C3;(repeat' apply l5 (f:=F))<;>rfl) (by kernel_rfl)))
structure U7 where
 Ac1:Int
structure p5 where
 ph:Nat
 (y6 O1:List Pln)
 D3:List (List Pln)
 Ca1:Int
 D6:Nat
 eh3:List (List b8)
noncomputable def zb7(p:U7)(s:p5):St:=⟨.unk::eL tP s.y6::.unk::.unk::.ptr 0 0 0 0::.ptr 1 0 0 0::eL tP s.O1::.ptr 2 0 0 0::ra 9 (eL (tLs tP) s.D3::i p.Ac1::i s.Ca1::ra 25 []),[⟨0,1,[[.v (.slice none 0 0)]],true,false,0⟩,⟨0,1,[[i 0]],true,false,0⟩,⟨0,0,[[.v (.slice none 0 0)]],true,false,0⟩]⟩
noncomputable def zb8(p:U7)(s:p5):St:=⟨.unk::eL tP s.y6::.unk::.unk::.ptr 0 0 0 0::.ptr 1 0 0 0::eL tP s.O1::.ptr 2 0 0 0::ra 9 (eL (tLs tP) s.D3::i p.Ac1::i s.Ca1::ra 25 []),[⟨0,1,[[.v (.slice none 0 0)]],true,false,0⟩,⟨0,1,[[i 0]],true,false,0⟩,⟨0,0,[[.sl 3 0 s.D6 0]],true,false,0⟩,⟨24,1,s.eh3,true,false,0⟩]⟩
noncomputable def Ic8(p:U7)(s:p5):St:=(sel (Nat.beq s.ph 1) (zb8 p s) (zb7 p s))
noncomputable def p4{α:Type}(k:p5->α)(e:Nat->α)(z:α)(p:U7)(s:p5):α:=let t1:=(Sa1 (rt tP (gL (tLs tP) s.D3 s.Ca1.toNat)) (rt tP s.y6));let t2:=(lp (o2 (⟨rt tP s.O1,(↑(List.length s.O1):Int),rt tP s.y6,rt tP s.O1,rt (tLs tP) s.D3,p.Ac1,s.Ca1⟩:A6)) (⟨0,rt tP (gL (tLs tP) s.D3 s.Ca1.toNat),0,0,[]⟩:l9));(sl (decide (s.Ca1<p.Ac1)) (sl (inB s.Ca1 (List.length s.D3)) (sl (okE tP (gL (tLs tP) s.D3 s.Ca1.toNat)) (sl (okE tP s.y6) (sl (Sa2 (rt tP (gL (tLs tP) s.D3 s.Ca1.toNat)) (rt tP s.y6)) (sl t1 (k ⟨1,s.y6,s.O1,s.D3,W (s.Ca1+1),1,[[eL tP (gL (tLs tP) s.D3 s.Ca1.toNat)]]⟩) (sl ((cnE tP (gL (tLs tP) s.D3 s.Ca1.toNat))&&((cnE tP s.O1)&&((cnE tP s.y6)&&((cnE tP s.O1)&&((cnE (tLs tP) s.D3)&&true))))) (sl (Nat.beq t2.1 1) (e 1) (sl (Nat.beq t2.1 2) (k ⟨0,rt tP s.y6,rt tP s.O1,rt (tLs tP) s.D3,W (s.Ca1+1),0,[]⟩) (sl (Nat.beq t2.1 3) (e 2) (sl (Nat.beq t2.1 4) (k ⟨1,rt tP s.y6,rt tP s.O1,rt (tLs tP) s.D3,W (s.Ca1+1),t2.2.D6,t2.2.eh3⟩) z)))) z)) z) z) z) z) (e 3))
noncomputable def u7{α:Type}(k:p5->α)(e:Nat->α)(z:α)(p:U7)(s:p5):α:=let t1:=(Sa1 (rt tP (gL (tLs tP) s.D3 s.Ca1.toNat)) (rt tP s.y6));let t2:=(lp (o2 (⟨rt tP s.O1,(↑(List.length s.O1):Int),rt tP s.y6,rt tP s.O1,rt (tLs tP) s.D3,p.Ac1,s.Ca1⟩:A6)) (⟨1,rt tP (gL (tLs tP) s.D3 s.Ca1.toNat),0,s.D6,s.eh3⟩:l9));(sl (decide (s.Ca1<p.Ac1)) (sl (inB s.Ca1 (List.length s.D3)) (sl (okE tP (gL (tLs tP) s.D3 s.Ca1.toNat)) (sl (okE tP s.y6) (sl (Sa2 (rt tP (gL (tLs tP) s.D3 s.Ca1.toNat)) (rt tP s.y6)) (sl t1 (sl (Nat.beq s.D6 (len s.eh3)&&Nat.ble ((s.D6+1)*24) room) (k ⟨1,s.y6,s.O1,s.D3,W (s.Ca1+1),s.D6+1,app s.eh3 [[eL tP (gL (tLs tP) s.D3 s.Ca1.toNat)]]⟩) z) (sl ((cnE tP (gL (tLs tP) s.D3 s.Ca1.toNat))&&((cnE tP s.O1)&&((cnE tP s.y6)&&((cnE tP s.O1)&&((cnE (tLs tP) s.D3)&&true))))) (sl (Nat.beq t2.1 1) (e 4) (sl (Nat.beq t2.1 2) (k ⟨0,rt tP s.y6,rt tP s.O1,rt (tLs tP) s.D3,W (s.Ca1+1),0,[]⟩) (sl (Nat.beq t2.1 3) (e 5) (sl (Nat.beq t2.1 4) (k ⟨1,rt tP s.y6,rt tP s.O1,rt (tLs tP) s.D3,W (s.Ca1+1),t2.2.D6,t2.2.eh3⟩) z)))) z)) z) z) z) z) (e 6))
noncomputable def y9(p:U7)(s:p5):Stp p5:=(sel (Nat.beq s.ph 1) (u7 .next .exit .fail p s) (p4 .next .exit .fail p s))
noncomputable def jb3:Lo U7 p5:=⟨En pb0,0,Kf5,[1,1,1,1,0,1,4,4],[1,4,5,6,7,17,18,19],.s .p (.s .p (.s (.b (.s .p (.s .p (.s .p (.b (.i (.s .p (.s .p (.b (.u jb2.lsM)))))))))) .p)),[⟨sUq::sLq tP::sUq::sUq::sPq 0::sPq 1::sLq tP::sPq 2::ru2 9 (.s (.c 1 (nL (tLs tP)))::sIq::sIq::ru2 25 []),[⟨0,1,true,some [[.o .nil]]⟩,⟨0,1,true,some [[.o (.lit .i64 0)]]⟩,⟨0,0,true,some [[.o .nil]]⟩],λa H=>(⟨aIq a 18⟩,⟨0,aLq tP a 1,aLq tP a 6,rL (tLs tP) (slT a 17),aIq a 19,0,[]⟩)⟩,⟨sUq::sLq tP::sUq::sUq::sPq 0::sPq 1::sLq tP::sPq 2::ru2 9 (.s (.c 1 (nL (tLs tP)))::sIq::sIq::ru2 25 []),[⟨0,1,true,some [[.o .nil]]⟩,⟨0,1,true,some [[.o (.lit .i64 0)]]⟩,⟨0,0,true,some [[.o (.sl 3 0 (some 0) none)]]⟩,⟨24,1,true,none⟩],λa H=>(⟨aIq a 18⟩,⟨1,aLq tP a 1,aLq tP a 6,rL (tLs tP) (slT a 17),aIq a 19,slN (slT (rwT (elT H 2) 0) 0),elT H 3⟩)⟩],y9,[(none,λp s=>let t2:=(lp (o2 (⟨rt tP s.O1,(↑(List.length s.O1):Int),rt tP s.y6,rt tP s.O1,rt (tLs tP) s.D3,p.Ac1,s.Ca1⟩:A6)) (⟨0,rt tP (gL (tLs tP) s.D3 s.Ca1.toNat),0,0,[]⟩:l9));⟨.unk::eL tP (rt tP s.y6)::.unk::.unk::.ptr 0 0 0 0::.ptr 1 0 0 0::eL tP (rt tP s.O1)::.ptr 2 0 0 0::ra 9 (eL (tLs tP) (rt (tLs tP) s.D3)::i p.Ac1::i s.Ca1::ra 25 []),[⟨0,1,[[.v (.slice none 0 0)]],true,false,0⟩,⟨0,1,[[i 9]],true,false,0⟩,⟨0,0,[[.v (.slice none 0 0)]],true,false,0⟩,⟨0,4,[[i (gL tP (rt tP s.O1) t2.2.p8.toNat).n.x,i (gL tP (rt tP s.O1) t2.2.p8.toNat).n.y,i (gL tP (rt tP s.O1) t2.2.p8.toNat).n.z,i (gL tP (rt tP s.O1) t2.2.p8.toNat).b]],true,false,0⟩]⟩),(none,λp s=>let t2:=(lp (o2 (⟨rt tP s.O1,(↑(List.length s.O1):Int),rt tP s.y6,rt tP s.O1,rt (tLs tP) s.D3,p.Ac1,s.Ca1⟩:A6)) (⟨0,rt tP (gL (tLs tP) s.D3 s.Ca1.toNat),0,0,[]⟩:l9));⟨.unk::eL tP (rt tP s.y6)::.unk::.unk::.ptr 0 0 0 0::.ptr 1 0 0 0::eL tP (rt tP s.O1)::.ptr 2 0 0 0::ra 9 (eL (tLs tP) (rt (tLs tP) s.D3)::i p.Ac1::i s.Ca1::ra 25 []),[⟨0,1,[[.v (.slice none 0 0)]],true,false,0⟩,⟨0,1,[[i 9]],true,false,0⟩,⟨0,0,[[.sl 3 0 t2.2.D6 0]],true,false,0⟩,⟨24,1,t2.2.eh3,true,false,0⟩,⟨0,4,[[i (gL tP (rt tP s.O1) t2.2.p8.toNat).n.x,i (gL tP (rt tP s.O1) t2.2.p8.toNat).n.y,i (gL tP (rt tP s.O1) t2.2.p8.toNat).n.z,i (gL tP (rt tP s.O1) t2.2.p8.toNat).b]],true,false,0⟩]⟩),(some 0,λp s=>upq (zb7 p s) [(20,b (decide (s.Ca1<p.Ac1)))]),(none,λp s=>let t2:=(lp (o2 (⟨rt tP s.O1,(↑(List.length s.O1):Int),rt tP s.y6,rt tP s.O1,rt (tLs tP) s.D3,p.Ac1,s.Ca1⟩:A6)) (⟨1,rt tP (gL (tLs tP) s.D3 s.Ca1.toNat),0,s.D6,s.eh3⟩:l9));⟨.unk::eL tP (rt tP s.y6)::.unk::.unk::.ptr 0 0 0 0::.ptr 1 0 0 0::eL tP (rt tP s.O1)::.ptr 2 0 0 0::ra 9 (eL (tLs tP) (rt (tLs tP) s.D3)::i p.Ac1::i s.Ca1::ra 25 []),[⟨0,1,[[.v (.slice none 0 0)]],true,false,0⟩,⟨0,1,[[i 9]],true,false,0⟩,⟨0,0,[[.v (.slice none 0 0)]],true,false,0⟩,⟨0,4,[[i (gL tP (rt tP s.O1) t2.2.p8.toNat).n.x,i (gL tP (rt tP s.O1) t2.2.p8.toNat).n.y,i (gL tP (rt tP s.O1) t2.2.p8.toNat).n.z,i (gL tP (rt tP s.O1) t2.2.p8.toNat).b]],true,false,0⟩]⟩),(none,λp s=>let t2:=(lp (o2 (⟨rt tP s.O1,(↑(List.length s.O1):Int),rt tP s.y6,rt tP s.O1,rt (tLs tP) s.D3,p.Ac1,s.Ca1⟩:A6)) (⟨1,rt tP (gL (tLs tP) s.D3 s.Ca1.toNat),0,s.D6,s.eh3⟩:l9));⟨.unk::eL tP (rt tP s.y6)::.unk::.unk::.ptr 0 0 0 0::.ptr 1 0 0 0::eL tP (rt tP s.O1)::.ptr 2 0 0 0::ra 9 (eL (tLs tP) (rt (tLs tP) s.D3)::i p.Ac1::i s.Ca1::ra 25 []),[⟨0,1,[[.v (.slice none 0 0)]],true,false,0⟩,⟨0,1,[[i 9]],true,false,0⟩,⟨0,0,[[.sl 3 0 t2.2.D6 0]],true,false,0⟩,⟨24,1,t2.2.eh3,true,false,0⟩,⟨0,4,[[i (gL tP (rt tP s.O1) t2.2.p8.toNat).n.x,i (gL tP (rt tP s.O1) t2.2.p8.toNat).n.y,i (gL tP (rt tP s.O1) t2.2.p8.toNat).n.z,i (gL tP (rt tP s.O1) t2.2.p8.toNat).b]],true,false,0⟩]⟩),(some 0,λp s=>upq (zb8 p s) [(20,b (decide (s.Ca1<p.Ac1)))])],Ic8⟩
theorem Ic9:jb3.OkM:=Lo.okM [jb2.prM] (by kernel_rfl) (.cons Ic7 .nil) rfl (.cons (λa H=>by kernel_rfl) (.cons (λa H=>by kernel_rfl) .nil)) λp s=>(.sel (Nat.beq s.ph 1) (.of @u7 (λF _ _ _ _ _=>by unfold u7;(repeat' apply l5 (f:=F))<;>rfl) (by kernel_rfl)) (.of @p4 (λF _ _ _ _ _=>by unfold p4;(repeat' apply l5 (f:=F))<;>rfl) (by kernel_rfl)))
noncomputable def Ha5(x:List (List Pln))(y:List Pln):Option (b8×List b9):=let t1:=(Ca5 (rt tP y));let t2:=(T5 (rt tP y));let t3:=(lp (y9 (⟨(↑(List.length x):Int)⟩:U7)) (⟨0,rt tP y,rt tP t2,rt (tLs tP) x,0,0,[]⟩:p5));(sl (okE tP y) (sl (Ca6 (rt tP y)) (sl (!t1) (some (.tup [eL (tLs tP) x,i 0],[])) (sl (okE tP y) (sl (s8 (rt tP y)) (sl ((cnE tP y)&&((cnE tP t2)&&((cnE (tLs tP) x)&&true))) (sl (Nat.beq t3.1 1) (some (.tup [.v (.slice none 0 0),i 9],[])) (sl (Nat.beq t3.1 2) (some (.tup [.v (.slice none 0 0),i 9],[])) (sl (Nat.beq t3.1 3) (some (.tup [.v (.slice none 0 0),i 0],[])) (sl (Nat.beq t3.1 4) (some (.tup [.v (.slice none 0 0),i 9],[])) (sl (Nat.beq t3.1 5) (some (.tup [.v (.slice none 0 0),i 9],[])) (sl (Nat.beq t3.1 6) (sl (decide ((↑t3.2.D6:Int)>200)) (some (.tup [.v (.slice none 0 0),i 9],[])) (some ((.tup [(.tree 1 t3.2.D6 (λk=>d8 t3.2.eh3 (0+k))),i 0]),[]))) none)))))) none) none) none)) none) none)
noncomputable def da5(x:List (List Pln))(y:List Pln):List (List Pln)×Int:=I6 (two (r1L (tLs tP)) r1I) (Ha5 x y)
noncomputable def ab1(x:List (List Pln))(y:List Pln):Bool:=okO (two (r1L (tLs tP)) r1I) (Ha5 x y)
noncomputable def ic8:Sum:=ga1 (G4 (tLs tP)) (G4 tP) (λx y=>.guard (ab1 x y) (.ret ((two (r1L (tLs tP)) r1I).enc (da5 x y),[])))
theorem Zc5:i7 prog G 99 ic8:=La5 (bd b99 Sc4) (two (r1L (tLs tP)) r1I) (o:=Ha5) λx y=>df5 (.s .p (.s .p (.s .p (.s .p (.s (.s .p (.b (.u jb3.lsM))) .p))))) [jb3.prM] (by kernel_rfl) (.cons Ic9 .nil) (by kernel_rfl)
noncomputable def tc8:List (Nat×Sum):=[(97,Ab7),(49,Ya0),(55,cb5),(98,fc8),(99,ic8)]
theorem jd7:i8 prog G tc8:=⟨Tb3,jb1,hb7,Cc9,Zc5,trivial⟩
structure da6 where
 Sa7:List (List Pln)
 Fe4:Int
 f9:List Pln
structure B9 where
 ph:Nat
 Lb8:Int
 lb4:List (List Pln)
noncomputable def Qb0(p:da6)(s:B9):St:=⟨ra 8 (.sl 0 0 1 0::ra 19 (eL (tLs tP) p.Sa7::i p.Fe4::i s.Lb8::ra 14 [])),[⟨24,1,[[eL tP p.f9]],true,false,0⟩]⟩
noncomputable def Qb1(p:da6)(s:B9):St:=⟨ra 8 (eL (tLs tP) s.lb4::ra 19 (eL (tLs tP) p.Sa7::i p.Fe4::i s.Lb8::ra 14 [])),[]⟩
noncomputable def Zc6(p:da6)(s:B9):St:=(sel (Nat.beq s.ph 1) (Qb1 p s) (Qb0 p s))
noncomputable def Q5{α:Type}(k:B9->α)(e:Nat->α)(z:α)(p:da6)(s:B9):α:=let t1:=(da5 [rt tP p.f9] (rt tP (gL (tLs tP) p.Sa7 s.Lb8.toNat)));(sl (decide (s.Lb8<p.Fe4)) (sl (inB s.Lb8 (List.length p.Sa7)) (sl ((okE tP p.f9)&&true) (sl (okE tP (gL (tLs tP) p.Sa7 s.Lb8.toNat)) (sl (ab1 [rt tP p.f9] (rt tP (gL (tLs tP) p.Sa7 s.Lb8.toNat))) (sl (t1.2 != 0) (e 1) (k ⟨1,W (s.Lb8+1),t1.1⟩)) z) z) z) z) (e 2))
noncomputable def Q6{α:Type}(k:B9->α)(e:Nat->α)(z:α)(p:da6)(s:B9):α:=let t1:=(da5 (rt (tLs tP) s.lb4) (rt tP (gL (tLs tP) p.Sa7 s.Lb8.toNat)));(sl (decide (s.Lb8<p.Fe4)) (sl (inB s.Lb8 (List.length p.Sa7)) (sl (okE (tLs tP) s.lb4) (sl (okE tP (gL (tLs tP) p.Sa7 s.Lb8.toNat)) (sl (ab1 (rt (tLs tP) s.lb4) (rt tP (gL (tLs tP) p.Sa7 s.Lb8.toNat))) (sl (t1.2 != 0) (e 3) (k ⟨1,W (s.Lb8+1),t1.1⟩)) z) z) z) z) (e 4))
noncomputable def O9(p:da6)(s:B9):Stp B9:=(sel (Nat.beq s.ph 1) (Q6 .next .exit .fail p s) (Q5 .next .exit .fail p s))
noncomputable def yb9:Lo da6 B9:=⟨En tc8,0,Sf3,[1,1,1,1,1,0,1,4,4],[8,28,29,30],.p,[⟨ru2 8 (.s (.o (.sl 0 0 (some 0) (some 1)))::ru2 19 (.s (.c 1 (nL (tLs tP)))::sIq::sIq::ru2 14 [])),[⟨24,1,true,some [[.c 4 (nL tP)]]⟩],λa H=>(⟨rL (tLs tP) (slT a 28),aIq a 29,hLq tP H 0 0 0⟩,⟨0,aIq a 30,[]⟩)⟩,⟨ru2 8 (.s (.c 1 (nL (tLs tP)))::ru2 19 (.s (.c 1 (nL (tLs tP)))::sIq::sIq::ru2 14 [])),[],λa H=>(⟨rL (tLs tP) (slT a 28),aIq a 29,[]⟩,⟨1,aIq a 30,rL (tLs tP) (slT a 8)⟩)⟩],O9,[(none,λp s=>let t1:=(da5 [rt tP p.f9] (rt tP (gL (tLs tP) p.Sa7 s.Lb8.toNat)));⟨[.tup [.v (.slice none 0 0),i t1.2]],[]⟩),(some 0,λp s=>upq (Qb0 p s) [(31,b (decide (s.Lb8<p.Fe4)))]),(none,λp s=>let t1:=(da5 (rt (tLs tP) s.lb4) (rt tP (gL (tLs tP) p.Sa7 s.Lb8.toNat)));⟨[.tup [.v (.slice none 0 0),i t1.2]],[]⟩),(some 0,λp s=>upq (Qb1 p s) [(31,b (decide (s.Lb8<p.Fe4)))])],Zc6⟩
theorem Zc7:yb9.Ok:=Lo.ok [] (by kernel_rfl) .nil rfl (.cons (λa H=>by kernel_rfl) (.cons (λa H=>by kernel_rfl) .nil)) λp s=>(.sel (Nat.beq s.ph 1) (.of @Q6 (λF _ _ _ _ _=>by unfold Q6;(repeat' apply l5 (f:=F))<;>rfl) (by kernel_rfl)) (.of @Q5 (λF _ _ _ _ _=>by unfold Q5;(repeat' apply l5 (f:=F))<;>rfl) (by kernel_rfl)))
noncomputable def Ya1(x:List Pln)(y:List (List Pln)):Option (b8×List b9):=let t1:=(va9 (rt tP x));let t2:=(V6 (rt (tLs tP) y));let t3:=(Ca5 (rt tP x));let t4:=(T5 (rt tP x));let t5:=(lp (O9 (⟨rt (tLs tP) y,(↑(List.length y):Int),rt tP t4⟩:da6)) (⟨0,0,[]⟩:B9));let t6:=(da5 [rt tP (rt tP t4)] (rt tP (gL (tLs tP) (rt (tLs tP) y) t5.2.Lb8.toNat)));let t7:=(da5 (rt (tLs tP) t5.2.lb4) (rt tP (gL (tLs tP) (rt (tLs tP) y) t5.2.Lb8.toNat)));(sl (okE tP x) (sl (Ra8 (rt tP x)) (sl (t1 != 0) (some (.tup [.v (.slice none 0 0),i t1],[])) (sl (okE (tLs tP) y) (sl (V7 (rt (tLs tP) y)) (sl (t2 != 0) (some (.tup [.v (.slice none 0 0),i t2],[])) (sl (okE tP x) (sl (Ca6 (rt tP x)) (sl (!t3) (some (.tup [.v (.slice none 0 0),i 0],[])) (sl (okE tP x) (sl (s8 (rt tP x)) (sl ((cnE (tLs tP) y)&&((cnE tP t4)&&true)) (sl (Nat.beq t5.1 1) (some (.tup [.v (.slice none 0 0),i t6.2],[])) (sl (Nat.beq t5.1 2) (some (.tup [.sl 0 0 1 0,i 0],[⟨24,1,[[eL tP (rt tP t4)]],true,false,0⟩])) (sl (Nat.beq t5.1 3) (some (.tup [.v (.slice none 0 0),i t7.2],[])) (sl (Nat.beq t5.1 4) (some (.tup [eL (tLs tP) t5.2.lb4,i 0],[])) none)))) none) none) none)) none) none)) none) none)) none) none)
noncomputable def Ya2(x:List Pln)(y:List (List Pln)):List (List Pln)×Int:=I6 (two (r1L (tLs tP)) r1I) (Ya1 x y)
noncomputable def Ya3(x:List Pln)(y:List (List Pln)):Bool:=okO (two (r1L (tLs tP)) r1I) (Ya1 x y)
noncomputable def rb2:Sum:=ga1 (G4 tP) (G4 (tLs tP)) (λx y=>.guard (Ya3 x y) (.ret ((two (r1L (tLs tP)) r1I).enc (Ya2 x y),[])))
theorem Kb4:i7 prog G 40 rb2:=La5 (bd b40 jd7) (two (r1L (tLs tP)) r1I) (o:=Ya1) λx y=>ma5 (.s .p (.s .p (.s .p (.s .p (.s .p (.s (.s .p (.b (.u yb9.ls))) .p)))))) [yb9.pr] (by kernel_rfl) (.cons Zc7 .nil) (by kernel_rfl)
noncomputable def jd8:List (Nat×Sum):=[(40,rb2)]
theorem Zc8:i8 prog G jd8:=⟨Kb4,trivial⟩
noncomputable def Pa4(x:List (List Pln))(y:List Pln):Option (b8×List b9):=let t1:=(Ya2 (rt tP y) (rt (tLs tP) x));(sl (okE tP y) (sl (okE (tLs tP) x) (sl (Ya3 (rt tP y) (rt (tLs tP) x)) (sl (t1.2==0) (some (.tup [b ((↑(List.length t1.1):Int)==0),i t1.2],[])) (some (.tup [b false,i t1.2],[]))) none) none) none)
noncomputable def ca1(x:List (List Pln))(y:List Pln):Bool×Int:=I6 (two r1B r1I) (Pa4 x y)
noncomputable def Ba5(x:List (List Pln))(y:List Pln):Bool:=okO (two r1B r1I) (Pa4 x y)
noncomputable def jb4:Sum:=ga1 (G4 (tLs tP)) (G4 tP) (λx y=>.guard (Ba5 x y) (.ret ((two r1B r1I).enc (ca1 x y),[])))
theorem zb0:i7 prog G 42 jb4:=La5 (bd b42 Zc8) (two r1B r1I) (o:=Pa4) λx y=>w9 (by kernel_rfl)
theorem Ue3(ls:List (List Pln))(hn:ls.length<=1000000000)(hl:ls.flatten.length<=1000000000):y5 ls=if ls.flatten=[] then ⟨1,0,[]⟩ else ⟨2,ls.flatten.length,bL tP ls.flatten⟩:=by
 unfold y5 P1;simp only[i5,i9];obtain⟨m,hm⟩:=oe7 ls hn hl;rw[hm];by_cases h0:ls.flatten=[]
 ·obtain⟨s,hs⟩:=Je0 ls hn h0;rw[if_pos h0,hs];rw[show (⟨(ls.flatten.length:Int),m⟩:w6)=⟨0,m⟩ by rw[h0];rfl]
  rfl
 ·obtain⟨m',hm'⟩:=oe8 ls hn;rw[if_neg h0];simp only[Int.toNat_natCast];rw[hm'];have h1:0<ls.flatten.length:=List.length_pos_iff.2 h0;have e1:((ls.flatten.length:Int)==0)=false:=by rw[beq_eq_false_iff_ne];omega
  have e2:Bool.and (decide ((0:Int)<(ls.flatten.length:Int))) (Nat.ble (ls.flatten.length*32) room)=true:=by
   rw[S4 (by omega),decide_eq_true (by omega)]
   rfl
  rw[e1,e2];rfl
theorem Le8(r:List Pln)(p:Pln)(hr:r.length<=1000000):y5 [r,[p]]=⟨2,(r++[p]).length,bL tP (r++[p])⟩:=by
 have e:[r,[p]].flatten=r++[p]:=by simp
 rw[Ue3 [r,[p]] (by simp) (by rw[e,Qkg];simp only[List.length_singleton];omega),e,if_neg (by simp)]
theorem yf9(r:List Pln)(p:Pln):slR tP (bL tP (r++[p])) 0 (r++[p]).length=r++[p]:=Sb1 tP _
theorem zf0(r:List Pln)(p:Pln):okS tP (bL tP (r++[p])) 0 (r++[p]).length=true:=Sb2 tP _
theorem nd2{p:Pln}(h:Bd p):jb0 p=Ca2 p:=by
 unfold jb0 tc5 Ca2
 simp only
 have:=h.x1;have:=h.x2;have:=h.y1;have:=h.y2;have:=h.z1;have:=h.z2;have:=h.b1;have:=h.b2
 rw[ka5 (by omega) (by omega),ka5 (by omega) (by omega),ka5 (by omega) (by omega),ka5 (by omega) (by omega)]
 simp only[Int.zero_sub]
def phL(O:List (List Pln)):Nat:=match O with
 |[]=>0
 |_::_=>1
theorem Sc5(O:List (List Pln))(c:List Pln):phL (O++[c])=1:=by cases O<;>rfl
theorem te5(O:List (List Pln))(c:List Pln):app (bL (tLs tP) O) [[eL tP c]]=bL (tLs tP) (O++[c]):=Da3 (tLs tP) O [c]
theorem zd3(O:List (List Pln))(h:O.length<=1000000):(Nat.beq O.length (len (bL (tLs tP) O))&&Nat.ble ((O.length+1)*24) room)=true:=by
 rw[H7,Qkv,Bool.true_and];exact Nat.ble_eq_true_of_le (by unfold room;omega)
theorem Rd5(x fs:List Pln)(j:Nat):ia8 x fs (j+1)=ia8 x fs j++(if 0<(db6 x fs j).length then [db6 x fs j] else []):=by
 unfold ia8;rw[List.range_succ,List.map_append,List.filter_append];congr 1;by_cases h:0<(db6 x fs j).length
 ·rw[if_pos h];simp[h]
 ·rw[if_neg h];simp[h]
theorem Sc6(x fs:List Pln)(j:Nat):(ia8 x fs j).length<=j:=by
 unfold ia8
 have:=Qkak (λc:List Pln=>decide (0<c.length)) ((List.range j).map (db6 x fs))
 simpa using this
theorem Ee4:Nat.beq 2 1=false:=rfl
theorem Ee5:Nat.beq 2 2=true:=rfl
theorem zf1 (x fs q : List Pln) (xs : List (List Pln)) (a c : Int) (O : List (List Pln)) (hf : ∀ p ∈ fs, okp p = true) (hfl : fs.length ≤ 1000) (hO : O.length ≤ 900000) :
  ∃t s,lp (o2 ⟨fs,(fs.length:Int),q,fs,xs,a,c⟩) ⟨phL O,x,0,O.length,bL (tLs tP) O⟩=(t,s) /\
   ((Z4 x fs=true->t=phL (O++ia8 x fs fs.length)*2+2/\s.D6=(O++ia8 x fs fs.length).length/\s.eh3=bL (tLs tP) (O++ia8 x fs fs.length))/\(Z4 x fs=false->t=1\/t=3)):=by
 refine S8 (step:=o2 ⟨fs,(fs.length:Int),q,fs,xs,a,c⟩) (mk:=λj (O':List (List Pln))=>(⟨phL O',C5 x fs j,(j:Int),O'.length,bL (tLs tP) O'⟩:l9)) fs.length
  (λj O'=>j<=fs.length/\O'=O++ia8 x fs j/\∀i,i<j->(C5 x fs i).length<48)
  (λt s=>(Z4 x fs=true->t=phL (O++ia8 x fs fs.length)*2+2/\s.D6=(O++ia8 x fs fs.length).length/\s.eh3=bL (tLs tP) (O++ia8 x fs fs.length))/\(Z4 x fs=false->t=1\/t=3)) (by omega)
  (λj O' hj hi=>?_) (λj O' hj hi=>?_) 0 O ⟨Qkj _,by simp[ia8],λi hi=>absurd hi (Nat.not_lt_zero i)⟩
 ·obtain⟨_,hO',hr⟩:=hi;have hn:W ((j:Int)+1)=((j+1:Nat):Int):=n8 hj (by omega)
  have hp:=hf _ (Y0 tP hj);have hb:=rc1 hp;have hOl:O'.length<=1000000:=by
   rw[hO',Qkg]
   have:=Sc6 x fs j
   omega
  have hroom:=zd3 O' hOl;by_cases h48:(C5 x fs j).length<48
  ·have e1:decide (((C5 x fs j).length:Int)>=48)=false:=decide_eq_false (by omega)
   have c1:=Le8 (C5 x fs j) (Ca2 (gL tP fs j)) (by omega)
   have c2:=Le8 (C5 x fs j) (gL tP fs j) (by omega)
   have l1:s8 (C5 x fs j++[Ca2 (gL tP fs j)])=true:=decide_eq_true (by rw[Qkg];simp only[List.length_singleton];omega)
   have l2:s8 (C5 x fs j++[gL tP fs j])=true:=decide_eq_true (by rw[Qkg];simp only[List.length_singleton];omega)
   have m1:T5 (C5 x fs j++[Ca2 (gL tP fs j)])=db6 x fs j:=rfl;have m2:T5 (C5 x fs j++[gL tP fs j])=C5 x fs (j+1):=rfl;have hnew:O++ia8 x fs (j+1)=O'++(if 0<(db6 x fs j).length then [db6 x fs j] else []):=by rw[Rd5,<- List.append_assoc,<- hO']
   have hnx : ∀ {s : l9}, s = ⟨phL (O ++ ia8 x fs (j + 1)), C5 x fs (j + 1), ((j + 1 : Nat) : Int), (O ++ ia8 x fs (j + 1)).length, bL (tLs tP) (O ++ ia8 x fs (j + 1))⟩ →
     Nx (.next s) (λt=>(Z4 x fs=true->t=phL (O++ia8 x fs fs.length)*2+2/\(⟨phL O',C5 x fs j,(j:Int),O'.length,bL (tLs tP) O'⟩:l9).D6=(O++ia8 x fs fs.length).length/\(⟨phL O',C5 x fs j,(j:Int),O'.length,bL (tLs tP) O'⟩:l9).eh3=bL (tLs tP) (O++ia8 x fs fs.length))/\(Z4 x fs=false->t=1\/t=3))
      (λs=>∃O'',s=(⟨phL O'',C5 x fs (j+1),((j+1:Nat):Int),O''.length,bL (tLs tP) O''⟩:l9)/\(j+1<=fs.length/\O''=O++ia8 x fs (j+1)/\∀i,i<j+1->(C5 x fs i).length<48)) :=
    λ{s} hs=>.nx ⟨_,hs,hj,rfl,λi hi=>by
     by_cases e:i=j
     ·subst e;exact h48
     ·exact hr i (by omega)⟩
   by_cases hc:0<(db6 x fs j).length
   ·have e2:decide (((db6 x fs j).length:Int)>0)=true:=decide_eq_true (by omega)
    have e3:Nat.beq (db6 x fs j).length 0=false:=by
     cases h:(db6 x fs j).length with
     |zero=>omega
     |succ n=>rfl
    rw[if_pos hc] at hnew;cases O' with
    |nil =>
     have e:o2 ⟨fs,(fs.length:Int),q,fs,xs,a,c⟩ ⟨phL [],C5 x fs j,(j:Int),([]:List (List Pln)).length,bL (tLs tP) []⟩=.next ⟨1,C5 x fs (j+1),((j+1:Nat):Int),1,[[eL tP (db6 x fs j)]]⟩:=by
      show C3 Stp.next Stp.exit Stp.fail _ _=_;simp only[C3,Int.toNat_natCast,i5,j9,nd2 hb,c1,c2,hn,yf9,zf0,l1,l2,m1,m2,Ee4,Ee5,e1,e2,e3,f0,p7,Qka,Qkac];rw[btD (g9 hj),bt (d9 hj)]
     rw[e];exact hnx (by rw[hnew];rfl)
    |cons o os =>
     have e:o2 ⟨fs,(fs.length:Int),q,fs,xs,a,c⟩ ⟨phL (o::os),C5 x fs j,(j:Int),(o::os).length,bL (tLs tP) (o::os)⟩=.next ⟨1,C5 x fs (j+1),((j+1:Nat):Int),(o::os).length+1,bL (tLs tP) (o::os++[db6 x fs j])⟩:=by
      show C4 Stp.next Stp.exit Stp.fail _ _=_;simp only[C4,Int.toNat_natCast,i5,j9,nd2 hb,c1,c2,hn,yf9,zf0,l1,l2,m1,m2,Ee4,Ee5,e1,e2,e3,hroom,te5,f0,p7,Qka,Qkac];rw[btD (g9 hj),bt (d9 hj)]
     rw[e];exact hnx (by rw[hnew,Sc5,Qkg];rfl)
   ·have e2:decide (((db6 x fs j).length:Int)>0)=false:=decide_eq_false (by omega)
    rw[if_neg hc,List.append_nil] at hnew;cases O' with
    |nil =>
     have e:o2 ⟨fs,(fs.length:Int),q,fs,xs,a,c⟩ ⟨phL [],C5 x fs j,(j:Int),([]:List (List Pln)).length,bL (tLs tP) []⟩=.next ⟨0,C5 x fs (j+1),((j+1:Nat):Int),0,[]⟩:=by
      show C3 Stp.next Stp.exit Stp.fail _ _=_;simp only[C3,Int.toNat_natCast,i5,j9,nd2 hb,c1,c2,hn,yf9,zf0,l1,l2,m1,m2,Ee4,Ee5,e1,e2,f0,p7,Qka,Qkac];rw[btD (g9 hj),bt (d9 hj)]
     rw[e];exact hnx (by rw[hnew];rfl)
    |cons o os =>
     have e:o2 ⟨fs,(fs.length:Int),q,fs,xs,a,c⟩ ⟨phL (o::os),C5 x fs j,(j:Int),(o::os).length,bL (tLs tP) (o::os)⟩=.next ⟨1,C5 x fs (j+1),((j+1:Nat):Int),(o::os).length,bL (tLs tP) (o::os)⟩:=by
      show C4 Stp.next Stp.exit Stp.fail _ _=_;simp only[C4,Int.toNat_natCast,i5,j9,nd2 hb,c1,c2,hn,yf9,zf0,l1,l2,m1,m2,Ee4,Ee5,e1,e2,f0,p7,Qka,Qkac];rw[btD (g9 hj),bt (d9 hj)]
     rw[e];exact hnx (by rw[hnew];rfl)
  ·have e1:decide (((C5 x fs j).length:Int)>=48)=true:=decide_eq_true (by omega)
   have hno:Z4 x fs=false:=by
    cases h:Z4 x fs with
    |false=>rfl
    |true =>
     have:=Qkh.1 h j (Qkp.2 hj)
     exact absurd (by simpa using this) h48
   have hex:∀{t:Nat},(t=1\/t=3)->(Z4 x fs=true->t=phL (O++ia8 x fs fs.length)*2+2/\(⟨phL O',C5 x fs j,(j:Int),O'.length,bL (tLs tP) O'⟩:l9).D6=(O++ia8 x fs fs.length).length/\(⟨phL O',C5 x fs j,(j:Int),O'.length,bL (tLs tP) O'⟩:l9).eh3=bL (tLs tP) (O++ia8 x fs fs.length))/\(Z4 x fs=false->t=1\/t=3):=λh=>⟨λh'=>(by rw[hno] at h';cases h'),λ_=>h⟩
   cases O' with
   |nil =>
    have e:o2 ⟨fs,(fs.length:Int),q,fs,xs,a,c⟩ ⟨phL [],C5 x fs j,(j:Int),([]:List (List Pln)).length,bL (tLs tP) []⟩=.exit 1:=by
     show C3 Stp.next Stp.exit Stp.fail _ _=_;simp only[C3,e1,f0];rw[btD (g9 hj),bt (d9 hj)]
    rw[e];exact .ex (hex (.inl rfl))
   |cons o os =>
    have e:o2 ⟨fs,(fs.length:Int),q,fs,xs,a,c⟩ ⟨phL (o::os),C5 x fs j,(j:Int),(o::os).length,bL (tLs tP) (o::os)⟩=.exit 3:=by
     show C4 Stp.next Stp.exit Stp.fail _ _=_;simp only[C4,e1,f0];rw[btD (g9 hj),bt (d9 hj)]
    rw[e];exact .ex (hex (.inr rfl))
 ·obtain⟨h1,hO',hr⟩:=hi;have hje:j=fs.length:=by omega
  subst hje;have hyes:Z4 x fs=true:=Qkh.2 λi hi=>by simpa using hr i (Qkp.1 hi)
  refine⟨phL O'*2+2,?_,λ_=>?_,λh=>(by rw[hyes] at h;cases h)⟩
  ·cases O' with
   |nil =>
    show C3 Stp.next Stp.exit Stp.fail _ _=_;simp only[C3];rw[bfD (l0 (Qkb _))];rfl
   |cons o os =>
    show C4 Stp.next Stp.exit Stp.fail _ _=_;simp only[C4];rw[bfD (l0 (Qkb _))];rfl
  ·rw[<- hO'];exact⟨rfl,rfl,rfl⟩
theorem Rd6{α β:Type}(t:Ty α)(l:List α)(f:α->List β){j:Nat}(hj:j<l.length):(l.take (j+1)).flatMap f=(l.take j).flatMap f++f (gL t l j):=by
 rw[Qkag,Qkf hj,List.flatMap_append];simp[gL,Qkk,Qkf hj]
theorem Rd7{α:Type}(t:Ty α)(l:List α)(f:α->Bool){j:Nat}(hj:j<l.length):(l.take (j+1)).all f=((l.take j).all f&&f (gL t l j)):=by
 rw[Qkag,Qkf hj,List.all_append];simp[gL,Qkk,Qkf hj]
theorem lf2{q x:List Pln}(h:(lean q).length<=48):(ua3 q x).length<=48:=by
 unfold ua3;split
 ·simp
 ·exact Qks (Sc6 _ _ _) h
theorem zd4{q:List Pln}(h:(lean q).length<=48):∀l:List (List Pln),(l.flatMap (ua3 q)).length<=48*l.length
 |[]=>by simp
 |x::l=>by
  have:=zd4 h l
  have:=lf2 (x:=x) h
  simp only[List.flatMap_cons,Qkg,List.length_cons];omega
structure W0(q:List Pln)(xs:List (List Pln))(t:Nat)(s:p5):Prop where
 y:xs.all (ta4 q)=true->t=phL (xs.flatMap (ua3 q))*3+3/\s.D6=(xs.flatMap (ua3 q)).length/\s.eh3=bL (tLs tP) (xs.flatMap (ua3 q))
 n:xs.all (ta4 q)=false->t=1\/t=2\/t=4\/t=5
theorem nbA:Nat.beq 1 2=false/\Nat.beq 1 3=false/\Nat.beq 1 4=false/\Nat.beq 1 1=true/\Nat.beq 3 1=false/\Nat.beq 3 2=false/\Nat.beq 3 3=true/\Nat.beq 4 1=false/\Nat.beq 4 2=false/\Nat.beq 4 3=false/\Nat.beq 4 4=true/\Nat.beq 2 3=false/\Nat.beq 2 4=false:=⟨rfl,rfl,rfl,rfl,rfl,rfl,rfl,rfl,rfl,rfl,rfl,rfl,rfl⟩
theorem zf2 (q : List Pln) (xs : List (List Pln)) (hq : q.length ≤ 1000000) (hxs : xs.length ≤ 10000) (hx : ∀ x ∈ xs, x.length ≤ 1000000) (hf : ∀ p ∈ lean q, okp p = true) (hfl : (lean q).length ≤ 48) :
  ∃t s,lp (y9 ⟨(xs.length:Int)⟩) ⟨0,q,lean q,xs,0,0,[]⟩=(t,s)/\W0 q xs t s:=by
 refine S8 (step:=y9 ⟨(xs.length:Int)⟩) (mk:=λj (O':List (List Pln))=>(⟨phL O',q,lean q,xs,(j:Int),O'.length,bL (tLs tP) O'⟩:p5)) xs.length
  (λj O'=>j<=xs.length/\O'=(xs.take j).flatMap (ua3 q)/\(xs.take j).all (ta4 q)=true) (W0 q xs) (by omega)
  (λj O' hj hi=>?_) (λj O' hj hi=>?_) 0 [] ⟨Qkj _,by simp,by simp⟩
 ·obtain⟨_,hO',hr⟩:=hi;have hn:W ((j:Int)+1)=((j+1:Nat):Int):=n8 hj (by omega)
  have hxl:=hx _ (Y0 (tLs tP) hj);have hOl:O'.length<=800000:=by
   rw[hO']
   have:=zd4 hfl (xs.take j)
   have:=List.length_take_le j xs
   omega
  have hroom:=zd3 O' (by omega)
  have hA:=Ke1 (a:=gL (tLs tP) xs j) (c:=q) (by omega) (by omega)
  have gA:=Ke2 (a:=gL (tLs tP) xs j) (c:=q) (by omega) (by omega)
  have hnew:=Rd6 (tLs tP) xs (ua3 q) hj;have hall:=Rd7 (tLs tP) xs (ta4 q) hj;rw[<- hO'] at hnew;rw[hr,Bool.true_and] at hall;have hfull:∀{v:Bool},ta4 q (gL (tLs tP) xs j)=v->v=false->xs.all (ta4 q)=false:=λ{v} h hv=>by
   rw[List.all_eq_false];exact⟨_,Y0 (tLs tP) hj,by rw[h,hv];decide⟩
  have hnx : ta4 q (gL (tLs tP) xs j) = true → ∀ {s : p5}, s = ⟨phL ((xs.take (j + 1)).flatMap (ua3 q)), q, lean q, xs, ((j + 1 : Nat) : Int), ((xs.take (j + 1)).flatMap (ua3 q)).length, bL (tLs tP) ((xs.take (j + 1)).flatMap (ua3 q))⟩ →
    Nx (.next s) (λt=>W0 q xs t (⟨phL O',q,lean q,xs,(j:Int),O'.length,bL (tLs tP) O'⟩:p5))
     (λs=>∃O'',s=(⟨phL O'',q,lean q,xs,((j+1:Nat):Int),O''.length,bL (tLs tP) O''⟩:p5)/\(j+1<=xs.length/\O''=(xs.take (j+1)).flatMap (ua3 q)/\(xs.take (j+1)).all (ta4 q)=true)) :=
   λh {s} hs=>.nx ⟨_,hs,hj,rfl,by rw[hall,h]⟩
  have hex:ta4 q (gL (tLs tP) xs j)=false->∀{t:Nat},(t=1\/t=2\/t=4\/t=5)->W0 q xs t (⟨phL O',q,lean q,xs,(j:Int),O'.length,bL (tLs tP) O'⟩:p5):=λh {t} ht =>
   ⟨λh'=>(by rw[hfull h rfl] at h';cases h'),λ_=>ht⟩
  have hgx:inB (j:Int) xs.length=true:=d9 hj;have hlt:((j:Int)<(xs.length:Int)):=g9 hj;generalize hX:gL (tLs tP) xs j=x at *
  obtain⟨z1,z2,z3,z4,z5,z6,z7,z8,z9,zA,zB,zC,zD⟩:=nbA;cases hap:apart x q with
  |true =>
   have hp:ua3 q x=[x]:=by unfold ua3;rw[hap,if_pos rfl]
   have hro:ta4 q x=true:=by unfold ta4;rw[hap];rfl
   rw[hap] at hA;rw[hp] at hnew;cases O' with
   |nil =>
    have e:y9 ⟨(xs.length:Int)⟩ ⟨phL [],q,lean q,xs,(j:Int),([]:List (List Pln)).length,bL (tLs tP) []⟩=.next ⟨1,q,lean q,xs,((j+1:Nat):Int),1,[[eL tP x]]⟩:=by
     show p4 Stp.next Stp.exit Stp.fail _ _=_;simp only[p4,Int.toNat_natCast,i5,j9,hX,hA,gA,hn,hgx,f0];rw[btD hlt]
    rw[e];exact hnx hro (by rw[hnew];rfl)
   |cons o os =>
    have e:y9 ⟨(xs.length:Int)⟩ ⟨phL (o::os),q,lean q,xs,(j:Int),(o::os).length,bL (tLs tP) (o::os)⟩=.next ⟨1,q,lean q,xs,((j+1:Nat):Int),(o::os).length+1,bL (tLs tP) (o::os++[x])⟩:=by
     show u7 Stp.next Stp.exit Stp.fail _ _=_;simp only[u7,Int.toNat_natCast,i5,j9,hX,hA,gA,hn,hgx,hroom,te5,f0];rw[btD hlt]
    rw[e];exact hnx hro (by rw[hnew,Sc5,Qkg];rfl)
  |false =>
   have hp:ua3 q x=ia8 x (lean q) (lean q).length:=by unfold ua3;rw[hap,if_neg (by decide)]
   have hro:ta4 q x=Z4 x (lean q):=by unfold ta4;rw[hap];rfl
   rw[hap] at hA;rw[hp] at hnew;obtain⟨t,s,hlp,hy,hno⟩:=zf1 x (lean q) q xs (xs.length:Int) (j:Int) O' hf (by omega) (by omega)
   cases hr48:Z4 x (lean q) with
   |true =>
    obtain⟨h1,h2,h3⟩:=hy hr48;rw[<- hnew] at h1 h2 h3;cases O' with
    |nil =>
     have hlp:lp (o2 ⟨lean q,((lean q).length:Int),q,lean q,xs,(xs.length:Int),(j:Int)⟩) ⟨0,x,0,0,[]⟩=(t,s):=hlp;by_cases hO:(xs.take (j+1)).flatMap (ua3 q)=[]
     ·rw[hO] at h1;have h1:t=2:=h1;subst h1;have e:y9 ⟨(xs.length:Int)⟩ ⟨phL [],q,lean q,xs,(j:Int),([]:List (List Pln)).length,bL (tLs tP) []⟩=.next ⟨0,q,lean q,xs,((j+1:Nat):Int),0,[]⟩:=by
       show p4 Stp.next Stp.exit Stp.fail _ _=_;simp only[p4,Int.toNat_natCast,i5,j9,i9,hX,hA,gA,hn,hgx,hlp,Ee4,Ee5,f0,p7,Qka];rw[btD hlt]
      rw[e];exact hnx (hro.trans hr48) (by rw[hO];rfl)
     ·obtain⟨o,os,hO⟩:=Qkaf hO;rw[hO] at h1 h2 h3;have h1:t=4:=h1;subst h1;have e:y9 ⟨(xs.length:Int)⟩ ⟨phL [],q,lean q,xs,(j:Int),([]:List (List Pln)).length,bL (tLs tP) []⟩=.next ⟨1,q,lean q,xs,((j+1:Nat):Int),s.D6,s.eh3⟩:=by
       show p4 Stp.next Stp.exit Stp.fail _ _=_;simp only[p4,Int.toNat_natCast,i5,j9,i9,hX,hA,gA,hn,hgx,hlp,z8,z9,zA,zB,f0,p7,Qka];rw[btD hlt]
      rw[e];exact hnx (hro.trans hr48) (by rw[h2,h3,hO];rfl)
    |cons o os =>
     have hlp:lp (o2 ⟨lean q,((lean q).length:Int),q,lean q,xs,(xs.length:Int),(j:Int)⟩) ⟨1,x,0,(o::os).length,bL (tLs tP) (o::os)⟩=(t,s):=hlp;have h1:t=4:=by rw[h1,hnew];rfl
     subst h1;have e:y9 ⟨(xs.length:Int)⟩ ⟨phL (o::os),q,lean q,xs,(j:Int),(o::os).length,bL (tLs tP) (o::os)⟩=.next ⟨1,q,lean q,xs,((j+1:Nat):Int),s.D6,s.eh3⟩:=by
      show u7 Stp.next Stp.exit Stp.fail _ _=_;simp only[u7,Int.toNat_natCast,i5,j9,i9,hX,hA,gA,hn,hgx,hlp,z8,z9,zA,zB,f0,p7,Qka];rw[btD hlt]
     rw[e];exact hnx (hro.trans hr48) (by rw[h2,h3,hnew];rfl)
   |false =>
    have ht:=hno hr48;cases O' with
    |nil =>
     have hlp:lp (o2 ⟨lean q,((lean q).length:Int),q,lean q,xs,(xs.length:Int),(j:Int)⟩) ⟨0,x,0,0,[]⟩=(t,s):=hlp
     rcases ht with rfl|rfl
     ·have e : y9 ⟨(xs.length : Int)⟩ ⟨phL [], q, lean q, xs, (j : Int), ([] : List (List Pln)).length, bL (tLs tP) []⟩ = .exit 1 := by
       show p4 Stp.next Stp.exit Stp.fail _ _=_;simp only[p4,Int.toNat_natCast,i5,j9,i9,hX,hA,gA,hn,hgx,hlp,z4,f0,p7,Qka];rw[btD hlt]
      rw[e];exact .ex (hex (hro.trans hr48) (by simp))
     ·have e : y9 ⟨(xs.length : Int)⟩ ⟨phL [], q, lean q, xs, (j : Int), ([] : List (List Pln)).length, bL (tLs tP) []⟩ = .exit 2 := by
       show p4 Stp.next Stp.exit Stp.fail _ _=_;simp only[p4,Int.toNat_natCast,i5,j9,i9,hX,hA,gA,hn,hgx,hlp,z5,z6,z7,f0,p7,Qka];rw[btD hlt]
      rw[e];exact .ex (hex (hro.trans hr48) (by simp))
    |cons o os =>
     have hlp:lp (o2 ⟨lean q,((lean q).length:Int),q,lean q,xs,(xs.length:Int),(j:Int)⟩) ⟨1,x,0,(o::os).length,bL (tLs tP) (o::os)⟩=(t,s):=hlp
     rcases ht with rfl|rfl
     ·have e : y9 ⟨(xs.length : Int)⟩ ⟨phL (o :: os), q, lean q, xs, (j : Int), (o :: os).length, bL (tLs tP) (o :: os)⟩ = .exit 4 := by
       show u7 Stp.next Stp.exit Stp.fail _ _=_;simp only[u7,Int.toNat_natCast,i5,j9,i9,hX,hA,gA,hn,hgx,hlp,z4,f0,p7,Qka];rw[btD hlt]
      rw[e];exact .ex (hex (hro.trans hr48) (by simp))
     ·have e : y9 ⟨(xs.length : Int)⟩ ⟨phL (o :: os), q, lean q, xs, (j : Int), (o :: os).length, bL (tLs tP) (o :: os)⟩ = .exit 5 := by
       show u7 Stp.next Stp.exit Stp.fail _ _=_;simp only[u7,Int.toNat_natCast,i5,j9,i9,hX,hA,gA,hn,hgx,hlp,z5,z6,z7,f0,p7,Qka];rw[btD hlt]
      rw[e];exact .ex (hex (hro.trans hr48) (by simp))
 ·obtain⟨h1,hO',hr⟩:=hi;have hje:j=xs.length:=by omega
  subst hje;rw[List.take_length] at hO' hr;refine⟨phL O'*3+3,?_,λ_=>?_,λh=>(by rw[hr] at h;cases h)⟩
  ·cases O' with
   |nil =>
    show p4 Stp.next Stp.exit Stp.fail _ _=_;simp only[p4];rw[bfD (l0 (Qkb _))];rfl
   |cons o os =>
    show u7 Stp.next Stp.exit Stp.fail _ _=_;simp only[u7];rw[bfD (l0 (Qkb _))];rfl
  ·rw[<- hO'];exact⟨rfl,rfl,rfl⟩
noncomputable def I5(x:List (List Pln))(y:List Pln):List (List Pln)×Int:=match K6 x y with
 |some r=>(r,0)
 |none=>([],9)
theorem te6{α:Type}(t:Ty α)(l:List α)(n:Int):(two (r1L t) r1I).rd (.tup [eL t l,i n],[])=some (l,n):=by
 have h:(r1L t).rd [] (eL t l)=some l:=by
  show Bool.rec (motive:=λ_=>Option (List α)) none (some (rt t l)) (Bool.and (Nat.beq t.es t.es) (okE t l))=_
  rw[i5,j9,Qkv];rfl
 simp only[two,h];rfl
theorem Zf6{α:Type}(t:Ty α)(l:List α)(n:Int):(two (r1L t) r1I).rd (.tup [.tree t.es l.length (λk=>d8 (bL t l) (0+k)),i n],[])=some (l,n):=by
 have h:(r1L t).rd [] (.tree t.es l.length (λk=>d8 (bL t l) (0+k)))=some l:=by
  show Bool.rec (motive:=λ_=>Option (List α)) none (some (lsL t l.length λk=>d8 (bL t l) (0+k))) (Bool.and (Nat.beq t.es t.es) (okL t l.length λk=>d8 (bL t l) (0+k)))=_
  rw[Fc7 t (l:=l) rfl λk hk=>by rw[Qkq,Q8 t hk],eb8 t (f:=λk=>gL t l k) λk hk=>by rw[Qkq,Q8 t hk],Qkv]
  rfl
 simp only[two,h];rfl
theorem Le9{α:Type}(t:Ty α)(k:Nat)(l:List α)(n:Int):(two (r1L t) r1I).rd (.tup [.sl 0 0 l.length 0,i n],[⟨k,t.es,bL t l,true,false,0⟩])=some (l,n):=by
 have h:(r1L t).rd [⟨k,t.es,bL t l,true,false,0⟩] (.sl 0 0 l.length 0)=some l:=De2 t k l;simp only[two,h];rfl
theorem zd5(x:List (List Pln))(y:List Pln)(hy:y.length<=1000000)(hx:x.length<=10000)(hxl:∀c∈x,c.length<=1000000):Rd (two (r1L (tLs tP)) r1I) (Ha5 x y) (λr=>r=I5 x y):=by
 have hF:=vd6 (c:=y) (by omega);have gF:=vd7 (c:=y) (by omega)
 have hL:T5 y=lean y:=rfl;have gL':s8 y=true:=decide_eq_true hy;unfold Ha5 I5 K6;simp only[i5,j9,i9,hF,gF,hL,gL',f0,Qka];cases hf:ful y with
 |false=>exact⟨_,(x,0),rfl,te6 (tLs tP) x 0,rfl⟩
 |true =>
  have hc:=(Le7.1 hf).1;have hfl:(lean y).length<=48:=by
   have:=Kb3 y
   rw[beq_iff_eq,Hb8] at hc;omega
  obtain⟨t,s,hlp,hw⟩:=zf2 y x hy hx hxl (λp hp=>Fc9 hc p (List.mem_append_left _ (te4 hp))) hfl
  simp only[hlp,Bool.not_true,p7,if_true];cases hr:x.all (ta4 y) with
  |false =>
   rcases hw.n hr with rfl|rfl|rfl|rfl<;>exact⟨_,([],9),rfl,rfl,rfl⟩
  |true =>
   obtain⟨h1,h2,h3⟩:=hw.y hr;by_cases hO:x.flatMap (ua3 y)=[]
   ·rw[hO] at h1 ⊢;have h1:t=3:=h1;subst h1;exact⟨_,([],0),rfl,rfl,rfl⟩
   ·have h1 : t = 6 := by
     obtain⟨o,os,hO⟩:=Qkaf hO;rw[h1,hO];rfl
    subst h1;rw[h2,h3];by_cases h200:(x.flatMap (ua3 y)).length<=200
    ·rw[decide_eq_true h200];refine⟨_,(x.flatMap (ua3 y),0),?_,Zf6 (tLs tP) _ 0,rfl⟩
     have:decide (((x.flatMap (ua3 y)).length:Int)>200)=false:=decide_eq_false (by omega)
     rw[this];rfl
    ·rw[decide_eq_false h200]
     have:decide (((x.flatMap (ua3 y)).length:Int)>200)=true:=decide_eq_true (by omega)
     rw[this];exact⟨_,([],9),rfl,rfl,rfl⟩
theorem yc5{x:List (List Pln)}{y:List Pln}(hy:y.length<=1000000)(hx:x.length<=10000)(hxl:∀c∈x,c.length<=1000000):da5 x y=I5 x y:=(zd5 x y hy hx hxl).p
theorem Ue4{x:List (List Pln)}{y:List Pln}(hy:y.length<=1000000)(hx:x.length<=10000)(hxl:∀c∈x,c.length<=1000000):ab1 x y=true:=(zd5 x y hy hx hxl).g
noncomputable def schk(s:List (List Pln)):Int:=if (s.length:Int)>16 then 2 else match s.find? λc=>chk c != 0 with
 |some c=>chk c
 |none=>0
theorem nd3{α:Type}(t:Ty α)(l:List α)(f:α->Bool)(h:l.any f=true):l.find? f=some (gL t l (l.findIdx f)):=by
 have hlt:l.findIdx f<l.length:=Qky.2 (Qke.1 h);rw[List.find?_eq_some_iff_getElem];refine⟨?_,l.findIdx f,hlt,?_,λj hj=>?_⟩
 ·simp only[gL,Qkk,Qkf hlt,Option.getD_some];exact List.findIdx_getElem (w:=hlt)
 ·simp[gL,Qkk,Qkf hlt]
 ·have:=List.not_of_lt_findIdx hj
  simpa using this
theorem Rd8(s:List (List Pln))(hs:s.length<=1000000)(hl:∀c∈s,c.length<=1000000):Xa9 s=some (i (schk s),[]):=by
 have h:=za2 (step:=Ba4 ⟨s,(s.length:Int)⟩) (mk:=λj=>(⟨(j:Int)⟩:X6)) (c:=λc=>chk c != 0) (u:=1) (fin:=2) (tLs tP) s (by omega)
  (λj hj=>by
   have hc:=hl _ (Y0 (tLs tP) hj);simp only[Ba4,wa7,Int.toNat_natCast,i5,j9,md4 _ (show (gL (tLs tP) s j).length<=1000000000 by omega),ae2 _ (show (gL (tLs tP) s j).length<=1000000000 by omega),n8 hj (show s.length<=4611686018427387904 by omega),f0]
   rw[btD (g9 hj),bt (d9 hj)])
  (by simp only[Ba4,wa7];rw[bfD (l0 (Qkb _))]) 0 (Qkj _)
 rw[Qko,Qkq] at h;unfold Xa9 schk;simp only[i5,j9,i9];rw[show (⟨0⟩:X6)=⟨((0:Nat):Int)⟩ from rfl,h]
 by_cases h16:(s.length:Int)>16
 ·rw[btD h16,if_pos h16]
 ·rw[bfD h16,if_neg h16];cases ha:s.any λc=>chk c != 0 with
  |true =>
   have hlt:s.findIdx (λc=>chk c != 0)<s.length:=Qky.2 (Qke.1 ha)
   have hc:=hl _ (Y0 (tLs tP) hlt);rw[nd3 (tLs tP) s _ ha];simp only[Int.toNat_natCast,if_true,md4 _ (show (gL (tLs tP) s (s.findIdx λc=>chk c != 0)).length<=1000000000 by omega)]
   rfl
  |false =>
   rw[Qkae.2 λc hc=>by have:=List.any_eq_false.1 ha c hc;simpa using this]
   rfl
theorem Zb7{s:List (List Pln)}(hs:s.length<=1000000)(hl:∀c∈s,c.length<=1000000):V6 s=schk s:=by unfold V6;rw[Rd8 s hs hl];rfl
theorem Zb8{s:List (List Pln)}(hs:s.length<=1000000)(hl:∀c∈s,c.length<=1000000):V7 s=true:=by unfold V7;rw[Rd8 s hs hl];rfl
theorem zd6{c:List Pln}(h:chk c=0):c.length<=48:=(Hb8.1 h).1
theorem Zc9{s:List (List Pln)}(h:schk s=0):s.length<=16/\∀c∈s,chk c=0:=by
 unfold schk at h
 split at h
 ·cases h
 ·refine⟨by omega,λc hc=>?_⟩
  cases hf:s.find? λc=>chk c != 0 with
  |none=>simpa using Qkae.1 hf c hc
  |some d =>
   rw[hf] at h
   have:=List.find?_some hf
   simp only at h
   rw[h] at this;cases this
theorem jb5{ps r:List (List Pln)}{q:List Pln}(h:K6 ps q=some r)(hp:ps.length<=200):r.length<=200:=by
 unfold K6 at h
 split at h
 ·split at h
  ·rename_i h';injection h with h;subst h;rw[Qki] at h';exact of_decide_eq_true h'.2
  ·cases h
 ·injection h with h;subst h;exact hp
theorem lf3(x fs:List Pln)(j:Nat)(h:(C5 x fs j).length<48):(db6 x fs j).length<=48:=by
 unfold db6
 have:=Kb3 (C5 x fs j++[Ca2 (gL tP fs j)])
 rw[Qkg] at this;simp only[List.length_singleton] at this;omega
theorem vb2{ps r:List (List Pln)}{q:List Pln}(h:K6 ps q=some r)(hp:∀c∈ps,c.length<=48):∀c∈r,c.length<=48:=by
 unfold K6 at h
 split at h
 ·split at h
  ·rename_i h';injection h with h;subst h;rw[Qki,Qkh] at h';intro c hc;obtain⟨x,hx,hc⟩:=List.mem_flatMap.1 hc;have hr:=h'.1 x hx;unfold ua3 at hc;unfold ta4 at hr;cases ha:apart x q with
   |true=>rw[ha,if_pos rfl] at hc;rw[List.mem_singleton.1 hc];exact hp x hx
   |false =>
    rw[ha,if_neg (by decide)] at hc
    rw[ha,Bool.false_or] at hr;obtain⟨j,hj,rfl,_⟩:=lf1.1 hc
    have:=Qkh.1 hr j (Qkp.2 hj)
    exact lf3 x _ j (by simpa using this)
  ·cases h
 ·injection h with h;subst h;exact hp
noncomputable def Ha6(s:List (List Pln))(o:Option (List (List Pln))):Option (List (List Pln)):=s.foldl (λst q=>st.bind λps=>K6 ps q) o
noncomputable def Ka5(x:List Pln)(y:List (List Pln)):List (List Pln)×Int :=
 if chk x != 0 then ([],chk x) else if schk y != 0 then ([],schk y) else match ya7 x y with
  |some r=>(r,0)
  |none=>([],9)
structure M0(c:List Pln)(ys:List (List Pln))(t:Nat)(s:B9):Prop where
 y:∀r,Ha6 ys (some [c])=some r->(ys=[]/\t=2)\/(ys≠[]/\t=4/\s.lb4=r)
 n:Ha6 ys (some [c])=none->(t=1/\∃j,s.Lb8=((j:Nat):Int)/\I5 [c] (gL (tLs tP) ys j)=([],9))\/(t=3/\∃j,s.Lb8=((j:Nat):Int)/\I5 s.lb4 (gL (tLs tP) ys j)=([],9)/\j<ys.length/\s.lb4.length<=200/\∀c∈s.lb4,c.length<=48)
theorem Kb5(s:List (List Pln)):Ha6 s none=none:=jd4 s
theorem zd7{ys:List (List Pln)}{j:Nat}(hj:j<ys.length)(o:Option (List (List Pln))):Ha6 (ys.take (j+1)) o=(Ha6 (ys.take j) o).bind λps=>K6 ps (gL (tLs tP) ys j):=by
 unfold Ha6;rw[Qkag,Qkf hj,Qkx];simp[gL,Qkk,Qkf hj]
theorem ed5(ys:List (List Pln))(j:Nat)(o:Option (List (List Pln))):Ha6 ys o=Ha6 (ys.drop j) (Ha6 (ys.take j) o):=by
 unfold Ha6;rw[<- Qkx,List.take_append_drop]
theorem zf3 (c : List Pln) (ys : List (List Pln)) (hc : c.length ≤ 48) (hn : ys.length ≤ 1000) (hy : ∀ q ∈ ys, q.length ≤ 1000000) :
  ∃t s,lp (O9 ⟨ys,(ys.length:Int),c⟩) ⟨0,0,[]⟩=(t,s)/\M0 c ys t s:=by
 refine S8 (step:=O9 ⟨ys,(ys.length:Int),c⟩) (mk:=λj (ps:List (List Pln))=>(⟨if j=0 then 0 else 1,(j:Int),if j=0 then [] else ps⟩:B9)) ys.length
  (λj ps=>j<=ys.length/\Ha6 (ys.take j) (some [c])=some ps/\ps.length<=200/\∀x∈ps,x.length<=48) (M0 c ys) (by omega)
  (λj ps hj hi=>?_) (λj ps hj hi=>?_) 0 [c] ⟨Qkj _,rfl,by simp,by simpa using hc⟩
 ·obtain⟨_,hm,hl,hle⟩:=hi;have hw1:W ((j:Int)+1)=((j+1:Nat):Int):=n8 hj (by omega)
  have hq:=hy _ (Y0 (tLs tP) hj);have hgx:inB (j:Int) ys.length=true:=d9 hj;have hmj:=zd7 hj (some [c]);have hsp:=ed5 ys (j+1) (some [c]);rw[hm] at hmj;have pw:=yc5 (x:=ps) hq (by omega) λx hx=>Qks (hle x hx) (by omega)
  have gw:=Ue4 (x:=ps) hq (by omega) λx hx=>Qks (hle x hx) (by omega)
  have hmj:Ha6 (ys.take (j+1)) (some [c])=K6 ps (gL (tLs tP) ys j):=hmj;by_cases h0:j=0
  ·subst h0;have hps:ps=[c]:=by
    have:some [c]=some ps:=hm
    injection this with this;exact this.symm
   subst hps;cases hw:K6 [c] (gL (tLs tP) ys 0) with
   |some r =>
    have hR:I5 [c] (gL (tLs tP) ys 0)=(r,0):=by unfold I5;rw[hw]
    rw[hR] at pw;have e:O9 ⟨ys,(ys.length:Int),c⟩ ⟨0,((0:Nat):Int),[]⟩=.next ⟨1,((0+1:Nat):Int),r⟩:=by
     show Q5 Stp.next Stp.exit Stp.fail _ _=_;simp only[Q5,Int.toNat_natCast,i5,j9,pw,gw,hw1,hgx,f0,Qka];rw[btD (g9 hj)];rfl
    show Nx (O9 ⟨ys,(ys.length:Int),c⟩ ⟨0,((0:Nat):Int),[]⟩) _ _;rw[e];exact .nx ⟨r,rfl,hj,hmj.trans hw,jb5 hw (by simp),vb2 hw (by simpa using hc)⟩
   |none =>
    have hR:I5 [c] (gL (tLs tP) ys 0)=([],9):=by unfold I5;rw[hw]
    rw[hR] at pw;have e:O9 ⟨ys,(ys.length:Int),c⟩ ⟨0,((0:Nat):Int),[]⟩=.exit 1:=by
     show Q5 Stp.next Stp.exit Stp.fail _ _=_;simp only[Q5,Int.toNat_natCast,i5,j9,pw,gw,hw1,hgx,f0,Qka];rw[btD (g9 hj)];rfl
    show Nx (O9 ⟨ys,(ys.length:Int),c⟩ ⟨0,((0:Nat):Int),[]⟩) _ _;rw[e];rw[hmj,hw,Kb5] at hsp;exact .ex ⟨λr hr=>(by rw[hsp] at hr;cases hr),λ_=>.inl ⟨rfl,0,rfl,hR⟩⟩
  ·have em:(⟨if j=0 then 0 else 1,(j:Int),if j=0 then [] else ps⟩:B9)=⟨1,(j:Int),ps⟩:=by rw[if_neg h0,if_neg h0]
   rw[em];cases hw:K6 ps (gL (tLs tP) ys j) with
   |some r =>
    have hR:I5 ps (gL (tLs tP) ys j)=(r,0):=by unfold I5;rw[hw]
    rw[hR] at pw;have e:O9 ⟨ys,(ys.length:Int),c⟩ ⟨1,(j:Int),ps⟩=.next ⟨1,((j+1:Nat):Int),r⟩:=by
     show Q6 Stp.next Stp.exit Stp.fail _ _=_;simp only[Q6,Int.toNat_natCast,i5,j9,pw,gw,hw1,hgx,f0,Qka];rw[btD (g9 hj)];rfl
    rw[e];exact .nx ⟨r,by rw[if_neg (by omega),if_neg (by omega)],hj,hmj.trans hw,jb5 hw hl,vb2 hw hle⟩
   |none =>
    have hR:I5 ps (gL (tLs tP) ys j)=([],9):=by unfold I5;rw[hw]
    rw[hR] at pw;have e:O9 ⟨ys,(ys.length:Int),c⟩ ⟨1,(j:Int),ps⟩=.exit 3:=by
     show Q6 Stp.next Stp.exit Stp.fail _ _=_;simp only[Q6,Int.toNat_natCast,i5,j9,pw,gw,hw1,hgx,f0,Qka];rw[btD (g9 hj)];rfl
    rw[e];rw[hmj,hw,Kb5] at hsp;exact .ex ⟨λr hr=>(by rw[hsp] at hr;cases hr),λ_=>.inr ⟨rfl,j,rfl,hR,hj,hl,hle⟩⟩
 ·obtain⟨h1,hm,hl,hle⟩:=hi;have hje:j=ys.length:=by omega
  subst hje;rw[List.take_length] at hm;by_cases h0:ys.length=0
  ·have hnil:ys=[]:=List.length_eq_zero_iff.1 h0;subst hnil;refine⟨2,?_,λr hr=>.inl ⟨rfl,rfl⟩,λh=>(by rw[hm] at h;cases h)⟩
   show Q5 Stp.next Stp.exit Stp.fail ⟨[],((([]:List (List Pln)).length:Nat):Int),c⟩ ⟨0,((([]:List (List Pln)).length:Nat):Int),[]⟩=_;simp only[Q5];rfl
  ·have em:(⟨if ys.length=0 then 0 else 1,(ys.length:Int),if ys.length=0 then [] else ps⟩:B9)=⟨1,(ys.length:Int),ps⟩:=by rw[if_neg h0,if_neg h0]
   rw[em];refine⟨4,?_,λr hr=>.inr ⟨λe=>h0 (by rw[e];rfl),rfl,?_⟩,λh=>(by rw[hm] at h;cases h)⟩
   ·show Q6 Stp.next Stp.exit Stp.fail _ _=_;simp only[Q6];rw[bfD (l0 (Qkb _))]
   ·rw[hm] at hr;injection hr
theorem Rd9{c:List Pln}(h:ful c=false):∀s:List (List Pln),ya7 c s=some []:=by
 intro s;unfold ya7;rw[h,if_neg (by decide)]
 induction s with
 |nil=>rfl
 |cons q s ih =>
  have:K6 [] q=some []:=by unfold K6;split<;>rfl
  show s.foldl _ (K6 [] q)=_;rw[this];exact ih
theorem te7(x:List Pln)(y:List (List Pln))(hx:x.length<=1000000)(hn:y.length<=1000000)(hy:∀q∈y,q.length<=1000000):Rd (two (r1L (tLs tP)) r1I) (Ya1 x y) (λr=>r=Ka5 x y):=by
 have hC:=md4 x (show x.length<=1000000000 by omega);have gC:=ae2 x (show x.length<=1000000000 by omega)
 have hS:=Zb7 hn hy;have gS:=Zb8 hn hy;have hF:=vd6 (c:=x) (by omega);have gF:=vd7 (c:=x) (by omega)
 have hL:T5 x=lean x:=rfl;have gL':s8 x=true:=decide_eq_true hx;unfold Ya1 Ka5;simp only[i5,j9,i9,hC,gC,hS,gS,hF,gF,hL,gL',f0,Qka];cases hc:chk x != 0 with
 |true=>exact⟨_,([],chk x),rfl,rfl,rfl⟩
 |false =>
  cases hs:schk y != 0 with
  |true=>exact⟨_,([],schk y),rfl,rfl,rfl⟩
  |false =>
   have hc0:chk x=0:=by simpa using hc
   have hs0:=Zc9 (show schk y=0 by simpa using hs)
   simp only[p7,Qkd,if_false];cases hf:ful x with
   |false =>
    rw[Rd9 hf];exact⟨_,([],0),rfl,rfl,rfl⟩
   |true =>
    simp only[Bool.not_true,p7];have hm:ya7 x y=Ha6 y (some [lean x]):=by unfold ya7 Ha6;rw[hf];rfl
    have hll:(lean x).length<=48:=Qks (Kb3 x) (zd6 hc0);obtain⟨t,s,hlp,hM⟩:=zf3 (lean x) y hll (by omega) hy
    rw[hlp,hm];cases hr:Ha6 y (some [lean x]) with
    |some r =>
     rcases hM.y r hr with⟨rfl,rfl⟩|⟨_,rfl,rfl⟩
     ·have : r = [lean x] := by
       have:some [lean x]=some r:=hr
       injection this with this;exact this.symm
      subst this;exact⟨_,([lean x],0),rfl,Le9 (tLs tP) 24 [lean x] 0,rfl⟩
     ·exact⟨_,(s.lb4,0),rfl,te6 (tLs tP) _ 0,rfl⟩
    |none =>
     rcases hM.n hr with⟨rfl,j,h1,h2⟩|⟨rfl,j,h1,h2,hj,h4,h5⟩
     ·by_cases hj:j<y.length
      ·have pw:=yc5 (x:=[lean x]) (hy _ (Y0 (tLs tP) hj)) (by simp) (by simpa using Qks hll (by omega))
       rw[h2] at pw;simp only[h1,Int.toNat_natCast,pw];exact⟨_,([],9),rfl,rfl,rfl⟩
      ·have hd:gL (tLs tP) y j=[]:=by simp[gL,Qkk,List.getElem?_eq_none (show y.length<=j by omega)];rfl
       have pw:=yc5 (x:=[lean x]) (y:=gL (tLs tP) y j) (by rw[hd];simp) (by simp) (by simpa using Qks hll (by omega))
       rw[h2] at pw;simp only[h1,Int.toNat_natCast,pw];exact⟨_,([],9),rfl,rfl,rfl⟩
     ·have pw:=yc5 (x:=s.lb4) (hy _ (Y0 (tLs tP) hj)) (by omega) λc hc=>Qks (h5 c hc) (by omega)
      rw[h2] at pw;simp only[h1,Int.toNat_natCast,pw];exact⟨_,([],9),rfl,rfl,rfl⟩
theorem de9{x:List Pln}{y:List (List Pln)}(hx:x.length<=1000000)(hn:y.length<=1000000)(hy:∀q∈y,q.length<=1000000):Ya2 x y=Ka5 x y:=(te7 x y hx hn hy).p
theorem ee0{x:List Pln}{y:List (List Pln)}(hx:x.length<=1000000)(hn:y.length<=1000000)(hy:∀q∈y,q.length<=1000000):Ya3 x y=true:=(te7 x y hx hn hy).g
noncomputable def y8(x:List (List Pln))(y:List Pln):Bool×Int:=((Ka5 y x).2==0&&((Ka5 y x).1.length:Int)==0,(Ka5 y x).2)
theorem Sd0(x:List (List Pln))(y:List Pln)(hy:y.length<=1000000)(hn:x.length<=1000000)(hx:∀q∈x,q.length<=1000000):Pa4 x y=some (.tup [b (y8 x y).1,i (y8 x y).2],[]):=by
 unfold Pa4 y8;simp only[i5,j9,de9 hy hn hx,ee0 hy hn hx,f0];cases (Ka5 y x).2==0<;>rfl
theorem tc9{x:List (List Pln)}{y:List Pln}(hy:y.length<=1000000)(hn:x.length<=1000000)(hx:∀q∈x,q.length<=1000000):ca1 x y=y8 x y:=by unfold ca1;rw[Sd0 x y hy hn hx];rfl
theorem zd8{x:List (List Pln)}{y:List Pln}(hy:y.length<=1000000)(hn:x.length<=1000000)(hx:∀q∈x,q.length<=1000000):Ba5 x y=true:=by unfold Ba5;rw[Sd0 x y hy hn hx];rfl
structure ab2 where
 (d7 f9:List Pln)
noncomputable def ad1:List (Nat×Sum):=[(56,ec7)]
theorem Sc7:i8 prog G ad1:=⟨Cc8,trivial⟩
structure ab3 where
 alt:Nat
 bs0:Bool
noncomputable def ua8{α:Type}(kk:ab3->α)(x:ab2):α:=let t1:=(Sa1 (rt tP x.f9) (rt tP x.d7));(sl (okE tP x.f9) (sl (okE tP x.d7) (sl (Sa2 (rt tP x.f9) (rt tP x.d7)) (kk ⟨1,!t1⟩) (kk ⟨0,false⟩)) (kk ⟨0,false⟩)) (kk ⟨0,false⟩))
noncomputable def ab4(x:ab2):ab3:=ua8 (λr=>r) x
noncomputable def pb1(x:ab2)(r:ab3):DT (b8×List b9):=(.ite (Nat.beq r.alt 1) (.ret (b r.bs0,[⟨0,1,[[eL tP x.f9]],true,false,0⟩])) .fail)
theorem jd9{α β:Type}(F:α->β)(kk:ab3->α)(x:ab2):F (ua8 kk x)=ua8 (λr=>F (kk r)) x:=by unfold ua8;(repeat' apply l5 (f:=F))<;>rfl
noncomputable def ic9:Sum:=eb9 ⟨[sLq tP,sPq 0],[⟨0,1,true,some [[.c 4 (nL tP)]]⟩],λa H=>(⟨aLq tP a 0,hLq tP H 0 0 0⟩,())⟩ (λx=>pb1 x (ab4 x))
theorem ad2:i7 prog G 104 ic9:=Q9 (enc:=λx=>⟨[eL tP x.d7,.ptr 0 0 0 0],[⟨0,1,[[eL tP x.f9]],true,false,0⟩]⟩) (λa H=>by kernel_rfl) (bd eg9 Sc7) λx=>w9 (Eq.trans (b:=ua8 (λr=>(pb1 x r).run) x) (by kernel_rfl) (jd9 (λr=>(pb1 x r).run) (λr=>r) x).symm)
structure ca2 where
 k8:List (List Pln)
 f9:List Pln
noncomputable def La2:List (Nat×Sum):=[(104,ic9)]
theorem zb1:i8 prog G La2:=⟨ad2,trivial⟩
structure N8 where
 k8:List (List Pln)
 is7:Int
structure p6 where
 is8:Int
 f9:List Pln
noncomputable def Ca9(p:N8)(s:p6):St:=⟨eL (tLs tP) p.k8::.fn 104 [.ptr 0 0 0 0]::ra 5 (i p.is7::i s.is8::ra 10 []),[⟨0,1,[[eL tP s.f9]],true,false,0⟩]⟩
noncomputable def J3{α:Type}(k:p6->α)(e:Nat->α)(z:α)(p:N8)(s:p6):α:=let t1:=(ab4 ⟨rt tP (gL (tLs tP) p.k8 s.is8.toNat),rt tP s.f9⟩);(sl (decide (s.is8<p.is7)) (sl (inB s.is8 (List.length p.k8)) (sl ((cnE tP (gL (tLs tP) p.k8 s.is8.toNat))&&((cnE tP s.f9)&&true)) (sl (Nat.beq t1.alt 1) (sl t1.bs0 (e 1) (k ⟨W (s.is8+1),rt tP s.f9⟩)) z) z) z) (e 2))
noncomputable def K7(p:N8)(s:p6):Stp p6:=J3 .next .exit .fail p s
noncomputable def ma1:Lo N8 p6:=⟨En La2,1,df1,[1,0,1,4,4],[0,1,7,8],.p,[⟨.s (.c 1 (nL (tLs tP)))::.fn 104 [.o (.ptr 0 0 0 0)]::ru2 5 (sIq::sIq::ru2 10 []),[⟨0,1,true,some [[.c 4 (nL tP)]]⟩],λa H=>(⟨rL (tLs tP) (slT a 0),aIq a 7⟩,⟨aIq a 8,hLq tP H 0 0 0⟩)⟩],K7,[(none,λp s=>⟨[i s.is8],[⟨0,1,[[eL tP (rt tP s.f9)]],true,false,0⟩]⟩),(some 0,λp s=>upq (Ca9 p s) [(9,b (decide (s.is8<p.is7)))])],Ca9⟩
theorem vb3:ma1.Ok:=Lo.ok [] (by kernel_rfl) .nil rfl (.cons (λa H=>by kernel_rfl) .nil) λp s=>(.of @J3 (λF _ _ _ _ _=>by unfold J3;(repeat' apply l5 (f:=F))<;>rfl) (by kernel_rfl))
structure ca3 where
 alt:Nat
 is0:Int
 f9:List Pln
noncomputable def J4{α:Type}(kk:ca3->α)(x:ca2):α:=let t1:=(lp (K7 (⟨rt (tLs tP) x.k8,(↑(List.length x.k8):Int)⟩:N8)) (⟨0,rt tP x.f9⟩:p6));(sl ((cnE (tLs tP) x.k8)&&((cnE tP x.f9)&&true)) (sl (Nat.beq t1.1 1) (kk ⟨1,t1.2.is8,rt tP t1.2.f9⟩) (sl (Nat.beq t1.1 2) (kk ⟨1,-1,t1.2.f9⟩) (kk ⟨0,0,[]⟩))) (kk ⟨0,0,[]⟩))
noncomputable def ca4(x:ca2):ca3:=J4 (λr=>r) x
noncomputable def pa2(x:ca2)(r:ca3):DT (b8×List b9):=(.ite (Nat.beq r.alt 1) (.ret (i r.is0,[⟨0,1,[[eL tP r.f9]],true,false,0⟩])) .fail)
theorem Kb6{α β:Type}(F:α->β)(kk:ca3->α)(x:ca2):F (J4 kk x)=J4 (λr=>F (kk r)) x:=by unfold J4;(repeat' apply l5 (f:=F))<;>rfl
noncomputable def Pa5:Sum:=eb9 ⟨[.s (.c 1 (nL (tLs tP))),.fn 104 [.o (.ptr 0 0 0 0)]],[⟨0,1,true,some [[.c 4 (nL tP)]]⟩],λa H=>(⟨rL (tLs tP) (slT a 0),hLq tP H 0 0 0⟩,())⟩ (λx=>pa2 x (ca4 x))
theorem Cb1:i7 prog G 161 Pa5:=Q9 (enc:=λx=>⟨[eL (tLs tP) x.k8,.fn 104 [.ptr 0 0 0 0]],[⟨0,1,[[eL tP x.f9]],true,false,0⟩]⟩) (λa H=>by kernel_rfl) (bd Xf5 zb1) λx=>ma5 (.s .p (.s (.s .p (.b (.u ma1.ls))) .p)) [ma1.pr] (by kernel_rfl) (.cons vb3 .nil) (Eq.trans (b:=J4 (λr=>(pa2 x r).run) x) (by kernel_rfl) (Kb6 (λr=>(pa2 x r).run) (λr=>r) x).symm)
structure U8 where
 k8:List (List Pln)
 f9:List Pln
noncomputable def pb2:List (Nat×Sum):=[(161,Pa5)]
theorem lb7:i8 prog G pb2:=⟨Cb1,trivial⟩
structure U9 where
 alt:Nat
 bs0:Bool
 f9:List Pln
noncomputable def D7{α:Type}(kk:U9->α)(x:U8):α:=let t1:=(ca4 ⟨rt (tLs tP) x.k8,rt tP x.f9⟩);(sl ((cnE (tLs tP) x.k8)&&((cnE tP x.f9)&&true)) (sl (Nat.beq t1.alt 1) (kk ⟨1,decide (t1.is0>=0),t1.f9⟩) (kk ⟨0,false,[]⟩)) (kk ⟨0,false,[]⟩))
noncomputable def ka4(x:U8):U9:=D7 (λr=>r) x
noncomputable def ha3(x:U8)(r:U9):DT (b8×List b9):=(.ite (Nat.beq r.alt 1) (.ret (b r.bs0,[⟨0,1,[[eL tP r.f9]],true,false,0⟩])) .fail)
theorem vb4{α β:Type}(F:α->β)(kk:U9->α)(x:U8):F (D7 kk x)=D7 (λr=>F (kk r)) x:=by unfold D7;(repeat' apply l5 (f:=F))<;>rfl
noncomputable def Da0:Sum:=eb9 ⟨[.s (.c 1 (nL (tLs tP))),.fn 104 [.o (.ptr 0 0 0 0)]],[⟨0,1,true,some [[.c 4 (nL tP)]]⟩],λa H=>(⟨rL (tLs tP) (slT a 0),hLq tP H 0 0 0⟩,())⟩ (λx=>ha3 x (ka4 x))
theorem pb3:i7 prog G 103 Da0:=Q9 (enc:=λx=>⟨[eL (tLs tP) x.k8,.fn 104 [.ptr 0 0 0 0]],[⟨0,1,[[eL tP x.f9]],true,false,0⟩]⟩) (λa H=>by kernel_rfl) (bd Xf2 lb7) λx=>w9 (Eq.trans (b:=D7 (λr=>(ha3 x r).run) x) (by kernel_rfl) (vb4 (λr=>(ha3 x r).run) (λr=>r) x).symm)
noncomputable def zd9:List (Nat×Sum):=[(103,Da0)]
theorem kd0:i8 prog G zd9:=⟨pb3,trivial⟩
noncomputable def Ya4(x:List Pln)(y:List (List Pln)):Option (b8×List b9):=let t1:=(ka4 ⟨rt (tLs tP) y,rt tP x⟩);(sl ((cnE (tLs tP) y)&&((cnE tP x)&&true)) (sl (Nat.beq t1.alt 1) (some (b (!t1.bs0),[])) none) none)
noncomputable def Ya5(x:List Pln)(y:List (List Pln)):Bool:=I6 (one r1B) (Ya4 x y)
noncomputable def Ja6(x:List Pln)(y:List (List Pln)):Bool:=okO (one r1B) (Ya4 x y)
noncomputable def Vb3:Sum:=ga1 (G4 tP) (G4 (tLs tP)) (λx y=>.guard (Ja6 x y) (.ret ((one r1B).enc (Ya5 x y),[])))
theorem uc0:i7 prog G 45 Vb3:=La5 (bd b45 kd0) (one r1B) (o:=Ya4) λx y=>w9 (by kernel_rfl)
noncomputable def Dc1:List (Nat×Sum):=[(49,Ya0),(42,jb4)]
theorem Ad0:i8 prog G Dc1:=⟨jb1,zb0,trivial⟩
structure Ba6 where
 (Td7 Td8 Td9 Ud0:List (List Pln))
 ag5:Int
 lb5:List (List Pln)
 of9:Int
 (Cd9 bb5:List (List Pln))
structure ca5 where
 bs9:Bool
 (xa2 vc2:Int)
noncomputable def jc0(p:Ba6)(s:ca5):St:=⟨ra 9 (b s.bs9::i s.xa2::.unk::.ptr 0 0 0 0::ra 20 (.agg [eL (tLs tP) p.Td7,eL (tLs tP) p.Td8,eL (tLs tP) p.Td9,eL (tLs tP) p.Ud0]::i p.ag5::ra 3 (eL (tLs tP) p.lb5::i p.of9::i s.vc2::ra 16 []))),[⟨0,2,[[eL (tLs tP) p.Cd9,eL (tLs tP) p.bb5]],true,false,0⟩]⟩
noncomputable def Ba7{α:Type}(k:ca5->α)(e:Nat->α)(z:α)(p:Ba6)(s:ca5):α:=let t1:=(ca1 (rt (tLs tP) p.bb5) (rt tP (gL (tLs tP) p.lb5 s.vc2.toNat)));(sl (decide (s.vc2<p.of9)) (sl (inB s.vc2 (List.length p.lb5)) (sl (okE (tLs tP) p.bb5) (sl (okE tP (gL (tLs tP) p.lb5 s.vc2.toNat)) (sl (Ba5 (rt (tLs tP) p.bb5) (rt tP (gL (tLs tP) p.lb5 s.vc2.toNat))) (sl (!t1.1) (e 1) (k ⟨t1.1,t1.2,W (s.vc2+1)⟩)) z) z) z) z) (e 2))
noncomputable def ma2(p:Ba6)(s:ca5):Stp ca5:=Ba7 .next .exit .fail p s
noncomputable def Kb7:Lo Ba6 ca5:=⟨En Dc1,0,Sf7,[1,1,1,1,0,1,4,4,1,1,0,4,1,1,4,4],[9,10,12,33,34,38,39,40],.p,[⟨ru2 9 (sBq::sIq::sUq::sPq 0::ru2 20 (.agg [.c 1 (nL (tLs tP)),.c 1 (nL (tLs tP)),.c 1 (nL (tLs tP)),.c 1 (nL (tLs tP))]::sIq::ru2 3 (.s (.c 1 (nL (tLs tP)))::sIq::sIq::ru2 16 []))),[⟨0,2,true,some [[.c 1 (nL (tLs tP)),.c 1 (nL (tLs tP))]]⟩],λa H=>(⟨rL (tLs tP) (slT (cellsOf (slT a 33)) 0),rL (tLs tP) (slT (cellsOf (slT a 33)) 1),rL (tLs tP) (slT (cellsOf (slT a 33)) 2),rL (tLs tP) (slT (cellsOf (slT a 33)) 3),aIq a 34,rL (tLs tP) (slT a 38),aIq a 39,rL (tLs tP) (slT (rwT (elT H 0) 0) 0),rL (tLs tP) (slT (rwT (elT H 0) 0) 1)⟩,⟨aBq a 9,aIq a 10,aIq a 40⟩)⟩],ma2,[(some 2,λp s=>let t1:=(ca1 (rt (tLs tP) p.bb5) (rt tP (gL (tLs tP) p.lb5 s.vc2.toNat)));⟨ra 9 (b t1.1::i t1.2::.unk::.ptr 0 0 0 0::.unk::eL tP (gL (tLs tP) p.lb5 s.vc2.toNat)::ra 18 (.agg [eL (tLs tP) p.Td7,eL (tLs tP) p.Td8,eL (tLs tP) p.Td9,eL (tLs tP) p.Ud0]::i p.ag5::ra 3 (eL (tLs tP) p.lb5::i p.of9::i s.vc2::b (decide (s.vc2<p.of9))::.tptr [eL tP (gL (tLs tP) p.lb5 s.vc2.toNat)]::eL tP (gL (tLs tP) p.lb5 s.vc2.toNat)::.tup [b t1.1,i t1.2]::.ptr 0 0 1 0::eL (tLs tP) p.bb5::eL tP (gL (tLs tP) p.lb5 s.vc2.toNat)::.tup [b t1.1,i t1.2]::b t1.1::i t1.2::b t1.1::b (!t1.1)::ra 4 []))),[⟨0,2,[[eL (tLs tP) p.Cd9,eL (tLs tP) p.bb5]],true,false,0⟩]⟩),(some 4,λp s=>upq (jc0 p s) [(41,b (decide (s.vc2<p.of9)))])],jc0⟩
theorem kd1:Kb7.Ok:=Lo.ok [] (by kernel_rfl) .nil rfl (.cons (λa H=>by kernel_rfl) .nil) λp s=>(.of @Ba7 (λF _ _ _ _ _=>by unfold Ba7;(repeat' apply l5 (f:=F))<;>rfl) (by kernel_rfl))
noncomputable def jb6(x:List (List Pln))(y:List (List Pln)):Option (b8×List b9):=let t1:=(V6 (rt (tLs tP) x));let t2:=(V6 (rt (tLs tP) y));let t3:=(lp (ma2 (⟨rt (tLs tP) x,rt (tLs tP) y,rt (tLs tP) y,rt (tLs tP) x,0,rt (tLs tP) x,(↑(List.length x):Int),rt (tLs tP) x,rt (tLs tP) y⟩:Ba6)) (⟨true,0,0⟩:ca5));let t4:=(ca1 (rt (tLs tP) (rt (tLs tP) y)) (rt tP (gL (tLs tP) (rt (tLs tP) x) t3.2.vc2.toNat)));let t5:=(lp (ma2 (⟨rt (tLs tP) (rt (tLs tP) x),rt (tLs tP) (rt (tLs tP) y),rt (tLs tP) (rt (tLs tP) y),rt (tLs tP) (rt (tLs tP) x),1,rt (tLs tP) (rt (tLs tP) y),(↑(List.length (rt (tLs tP) y)):Int),rt (tLs tP) (rt (tLs tP) y),rt (tLs tP) (rt (tLs tP) x)⟩:Ba6)) (⟨t3.2.bs9,t3.2.xa2,0⟩:ca5));let t6:=(ca1 (rt (tLs tP) (rt (tLs tP) (rt (tLs tP) x))) (rt tP (gL (tLs tP) (rt (tLs tP) (rt (tLs tP) y)) t5.2.vc2.toNat)));(sl (okE (tLs tP) x) (sl (V7 (rt (tLs tP) x)) (sl (t1 != 0) (some (.tup [b false,i t1],[])) (sl (okE (tLs tP) y) (sl (V7 (rt (tLs tP) y)) (sl (t2 != 0) (some (.tup [b false,i t2],[])) (sl ((cnE (tLs tP) x)&&((cnE (tLs tP) y)&&((cnE (tLs tP) y)&&((cnE (tLs tP) x)&&((cnE (tLs tP) x)&&((cnE (tLs tP) x)&&((cnE (tLs tP) y)&&true))))))) (sl (Nat.beq t3.1 1) (some (.tup [b t4.1,i t4.2],[])) (sl (Nat.beq t3.1 2) (sl ((cnE (tLs tP) (rt (tLs tP) x))&&((cnE (tLs tP) (rt (tLs tP) y))&&((cnE (tLs tP) (rt (tLs tP) y))&&((cnE (tLs tP) (rt (tLs tP) x))&&((cnE (tLs tP) (rt (tLs tP) y))&&((cnE (tLs tP) (rt (tLs tP) y))&&((cnE (tLs tP) (rt (tLs tP) x))&&true))))))) (sl (Nat.beq t5.1 1) (some (.tup [b t6.1,i t6.2],[])) (sl (Nat.beq t5.1 2) (some (.tup [b t5.2.bs9,i t5.2.xa2],[])) none)) none) none)) none)) none) none)) none) none)
noncomputable def jb7(x:List (List Pln))(y:List (List Pln)):Bool×Int:=I6 (two r1B r1I) (jb6 x y)
noncomputable def jb8(x:List (List Pln))(y:List (List Pln)):Bool:=okO (two r1B r1I) (jb6 x y)
noncomputable def fc9:Sum:=ga1 (G4 (tLs tP)) (G4 (tLs tP)) (λx y=>.guard (jb8 x y) (.ret ((two r1B r1I).enc (jb7 x y),[])))
theorem Dc2:i7 prog G 47 fc9:=La5 (bd b47 Ad0) (two r1B r1I) (o:=jb6) λx y=>ma5 (.s .p (.s .p (.s .p (.s .p (.s (.s .p (.b (.l (.s .p (.s .p (.s (.b (.s .p (.s .p (.b (.u Kb7.ls))))) .p)))))) .p))))) [Kb7.pr] (by kernel_rfl) (.cons kd1 .nil) (by kernel_rfl)
noncomputable def rb3(c:List Pln)(s:List (List Pln)):Bool:=!s.any λq=>!apart c q
theorem Ue5{c q:List Pln}(hc:c.length<=1000000)(hq:q.length<=1000000):ab4 ⟨q,c⟩=⟨1,!apart c q⟩:=by
 unfold ab4 ua8;simp only[i5,j9,Ke1 (a:=c) (c:=q) (by omega) (by omega),Ke2 (a:=c) (c:=q) (by omega) (by omega),f0]
theorem Sd1(c:List Pln)(s:List (List Pln))(hc:c.length<=1000000)(hs:s.length<=1000000)(hl:∀q∈s,q.length<=1000000):Ya4 c s=some (b (rb3 c s),[]):=by
 have h:=za2 (step:=K7 ⟨s,(s.length:Int)⟩) (mk:=λj=>(⟨(j:Int),c⟩:p6)) (c:=λq=>!apart c q) (u:=1) (fin:=2) (tLs tP) s (by omega)
  (λj hj=>by
   have hq:=hl _ (Y0 (tLs tP) hj);simp only[K7,J3,Int.toNat_natCast,i5,i9,Ue5 hc hq,n8 hj (show s.length<=4611686018427387904 by omega),f0,Qka]
   rw[btD (g9 hj),bt (d9 hj)]
   rfl)
  (by simp only[K7,J3];rw[bfD (l0 (Qkb _))]) 0 (Qkj _)
 rw[Qko,Qkq] at h;have hI:ca4 ⟨s,c⟩=⟨1,if s.any (λq=>!apart c q) then ((s.findIdx (λq=>!apart c q):Nat):Int) else -1,c⟩:=by
  unfold ca4 J4;simp only[i5,i9];rw[show (⟨0,c⟩:p6)=⟨((0:Nat):Int),c⟩ from rfl,h]
  cases s.any (λq=>!apart c q)<;>rfl
 unfold Ya4 rb3 ka4 D7;simp only[i5,i9,hI];cases hA:s.any (λq=>!apart c q) with
 |true =>
  simp only[if_true]
  have:decide (((s.findIdx (λq=>!apart c q):Nat):Int)>=0)=true:=decide_eq_true (by omega)
  rw[this];rfl
 |false=>rfl
theorem te8{c:List Pln}{s:List (List Pln)}(hc:c.length<=1000000)(hs:s.length<=1000000)(hl:∀q∈s,q.length<=1000000):Ya5 c s=rb3 c s:=by unfold Ya5;rw[Sd1 c s hc hs hl];rfl
theorem te9{c:List Pln}{s:List (List Pln)}(hc:c.length<=1000000)(hs:s.length<=1000000)(hl:∀q∈s,q.length<=1000000):Ja6 c s=true:=by unfold Ja6;rw[Sd1 c s hc hs hl];rfl
noncomputable def inR(s t:List (List Pln)):Bool×Int:=match s.find? λc=>!(y8 t c).1 with
 |some c=>y8 t c
 |none=>(true,0)
noncomputable def vb5(x y:List (List Pln)):Bool×Int:=if schk x != 0 then (false,schk x) else if schk y != 0 then (false,schk y) else if (inR x y).1 then inR y x else inR x y
theorem Sc8{x:List (List Pln)}{y:List Pln}(h:(y8 x y).1=true):(y8 x y).2=0:=by
 unfold y8 at *
 rw[Qki] at h;exact beq_iff_eq.1 h.1
theorem Sd2 (a0 a1 a2 a3 : List (List Pln)) (n34 : Int) (s t u : List (List Pln)) (hs : s.length ≤ 1000000) (hl : ∀ q ∈ s, q.length ≤ 1000000) (ht : t.length ≤ 1000000) (htl : ∀ q ∈ t, q.length ≤ 1000000) :
  lp (ma2 ⟨a0,a1,a2,a3,n34,s,(s.length:Int),u,t⟩) ⟨true,0,0⟩=if s.any (λc=>!(y8 t c).1) then (1,⟨true,0,((s.findIdx (λc=>!(y8 t c).1):Nat):Int)⟩) else (2,⟨true,0,(s.length:Int)⟩):=by
 have h:=za2 (step:=ma2 ⟨a0,a1,a2,a3,n34,s,(s.length:Int),u,t⟩) (mk:=λj=>(⟨true,0,(j:Int)⟩:ca5)) (c:=λc=>!(y8 t c).1) (u:=1) (fin:=2) (tLs tP) s (by omega)
  (λj hj=>by
   have hq:=hl _ (Y0 (tLs tP) hj);simp only[ma2,Ba7,Int.toNat_natCast,i5,j9,tc9 hq ht htl,zd8 hq ht htl,n8 hj (show s.length<=4611686018427387904 by omega),f0]
   rw[btD (g9 hj),bt (d9 hj)];cases hc:(y8 t (gL (tLs tP) s j)).1 with
   |false=>rfl
   |true=>rw[Sc8 hc])
  (by simp only[ma2,Ba7];rw[bfD (l0 (Qkb _))]) 0 (Qkj _)
 rw[Qko,Qkq] at h;exact h
theorem nd4{s t:List (List Pln)}(h:s.any (λc=>!(y8 t c).1)=true):inR s t=y8 t (gL (tLs tP) s (s.findIdx λc=>!(y8 t c).1))/\(inR s t).1=false/\gL (tLs tP) s (s.findIdx λc=>!(y8 t c).1)∈s:=by
 have hlt:s.findIdx (λc=>!(y8 t c).1)<s.length:=Qky.2 (Qke.1 h)
 have e:inR s t=y8 t (gL (tLs tP) s (s.findIdx λc=>!(y8 t c).1)):=by unfold inR;rw[nd3 (tLs tP) s _ h]
 have:=List.find?_some (nd3 (tLs tP) s _ h)
 exact⟨e,by rw[e];simpa using this,Y0 (tLs tP) hlt⟩
theorem Zb9{s t:List (List Pln)}(h:s.any (λc=>!(y8 t c).1)=false):inR s t=(true,0):=by
 unfold inR;rw[Qkae.2 λc hc=>by have:=List.any_eq_false.1 h c hc;simpa using this]
theorem ue0(x y:List (List Pln))(hx:x.length<=1000000)(hxl:∀q∈x,q.length<=1000000)(hy:y.length<=1000000)(hyl:∀q∈y,q.length<=1000000):jb6 x y=some (.tup [b (vb5 x y).1,i (vb5 x y).2],[]):=by
 unfold jb6 vb5;simp only[i5,j9,i9,Zb7 hx hxl,Zb8 hx hxl,Zb7 hy hyl,Zb8 hy hyl,f0,Qka];rw[Sd2 x y y x 0 x y x hx hxl hy hyl];cases h1:schk x != 0 with
 |true=>rfl
 |false =>
  cases h2:schk y != 0 with
  |true=>rfl
  |false =>
   simp only[p7,Qkd,if_false];cases ha:x.any λc=>!(y8 y c).1 with
   |true =>
    obtain⟨e1,e2,e3⟩:=nd4 ha;simp only[if_true,Int.toNat_natCast,tc9 (hxl _ e3) hy hyl,e2,Qkd,if_false];rw[e1] at e2 ⊢;rw[e2];rfl
   |false =>
    have e:=Zb9 ha;simp only[Qkd,if_false,e,if_true];rw[Sd2 x y y x 1 y x y hy hyl hx hxl];cases hc:y.any λc=>!(y8 x c).1 with
    |true =>
     obtain⟨e1,e2,e3⟩:=nd4 hc;simp only[if_true,Int.toNat_natCast,tc9 (hyl _ e3) hx hxl];rw[e1];rfl
    |false =>
     rw[Zb9 hc];rfl
theorem Me0{x y:List (List Pln)}(hx:x.length<=1000000)(hxl:∀q∈x,q.length<=1000000)(hy:y.length<=1000000)(hyl:∀q∈y,q.length<=1000000):jb7 x y=vb5 x y:=by unfold jb7;rw[ue0 x y hx hxl hy hyl];rfl
theorem Me1{x y:List (List Pln)}(hx:x.length<=1000000)(hxl:∀q∈x,q.length<=1000000)(hy:y.length<=1000000)(hyl:∀q∈y,q.length<=1000000):jb8 x y=true:=by unfold jb8;rw[ue0 x y hx hxl hy hyl];rfl
end Go.Ev.Ce
