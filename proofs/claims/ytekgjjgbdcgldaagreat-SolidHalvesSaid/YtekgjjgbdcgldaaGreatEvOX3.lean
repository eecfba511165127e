/- Own work. -/
import Derived.Test.YtekgjjgbdcgldaaGreatEvOGe2
set_option linter.all false
def Qka:=@List.mem_append_left
def Qkb:=@List.mem_append
def Qkc:=@Bool.and_self
def Qkd:=@List.mem_singleton
def Qke:=@Nat.lt_irrefl
def Qkf:=@List.mem_append_right
def Qkg:=@List.length_append
def Qkh:=@List.getElem?_eq_getElem
def Qki:=@List.mem_cons
def Qkj:=@List.getD_eq_getElem?_getD
def Qkk:=@List.any_eq_true
def Qkl:=@Bool.and_eq_true
def Qkm:=@List.all_eq_true
def Qkn:=@List.mem_range
def Qko:=@Bool.false_eq_true
def Qkp:=@Nat.zero_le
def Qkq:=@Nat.le_trans
def Qkr:=@Int.mul_eq_zero
def Qks:=@List.mem_filter
def Qkt:=@Nat.le_refl
def Qku:=@List.drop_zero
def Qkv:=@Nat.zero_add
def Qkw:=@List.not_mem_nil
def Qkx:=@List.mem_cons_of_mem
def Qky:=@Nat.gcd_dvd_left
def Qkz:=@List.mem_flatMap
def Qkaa:=@Int.le_of_lt
def Qkab:=@List.mem_cons_self
def Qkac:=@Nat.beq_refl
def Qkad:=@List.pairwise_singleton
def Qkae:=@List.foldl_append
def Qkaf:=@Nat.gcd_dvd_right
def Qkag:=@Bool.and_true
def Qkah:=@Int.mul_tdiv_cancel'
def Qkai:=@Nat.not_lt_zero
def Qkaj:=@Bool.not_false
def Qkak:=@Int.mul_pos
def Qkal:=@List.pairwise_cons
def Qkam:=@Nat.dvd_trans
def Qkan:=@List.exists_cons_of_ne_nil
def Qkao:=@List.append_assoc
def Qkap:=@List.take_add_one
def Qkaq:=@Int.mul_pos_of_neg_of_neg
def Qkar:=@Int.eq_of_mul_eq_mul_left
def Qkas:=@Classical.byContradiction
def Qkat:=@List.length_take
def Qkau:=@List.findIdx_lt_length
def Qkav:=@Int.mul_nonneg
def Qkaw:=@List.length_filter_le
def Qkax:=@Go.Ev.Ce.V3.ext'
namespace Go.Ev.Ce
def dv(z v:Pt):V3:=⟨v.px*z.pw-z.px*v.pw,v.py*z.pw-z.py*v.pw,v.pz*z.pw-z.pz*v.pw⟩
def thr(n:V3)(z:Pt):Pln:=⟨⟨z.pw*n.x,z.pw*n.y,z.pw*n.z⟩,n.x*z.px+n.y*z.py+n.z*z.pz⟩
theorem Le6(n:V3)(z x:Pt):rmZ (thr n z) x=-dot n (dv z x):=by simp only[rmZ,thr,dot,dv];grind
theorem Le7{p:Pln}{z v:Pt}(hz:rmZ p z≠0)(hv:rmZ p v=0)(hw:0<v.pw):dv z v≠⟨0,0,0⟩:=λh=>by
 unfold dv at h;simp only[V3.mk.injEq] at h;obtain⟨e1,e2,e3⟩:=h
 have:rmZ p z*v.pw=rmZ p v*z.pw:=by unfold rmZ;grind
 rw[hv,Int.zero_mul] at this;exact (Qkr.1 this).elim hz (by omega)
theorem pf1{p:Pln}{z:Pt}(hz:rmZ p z≠0):∀l:List Pt,l.length<=2->(∀v∈l,rmZ p v=0/\0<v.pw)->∃n,n≠(⟨0,0,0⟩:V3)/\∀v∈l,dot n (dv z v)=0
 |[],_,_=>⟨⟨1,0,0⟩,by simp,λv h=>by cases h⟩
 |[v],_,h=>by
  obtain⟨h1,h2⟩:=h v (by simp)
  obtain⟨d,hd,he⟩:=of8 (Le7 hz h1 h2);exact⟨d,hd,λu hu=>by rw[Qkd.1 hu,<- he];unfold dot;grind⟩
 |[v,u],_,h=>by
  obtain⟨h1,h2⟩:=h v (by simp)
  by_cases hc:d9 (dv z v) (dv z u)=⟨0,0,0⟩
  ·obtain⟨d,hd,he⟩:=of8 (Le7 hz h1 h2);have hu:dot (dv z u) d=0:=by
    by_cases h0:dot (dv z u) d=0
    ·exact h0
    ·exact absurd hc (Vd6 (Le7 hz h1 h2) he h0)
   refine⟨d,hd,λx hx=>?_⟩
   simp only[Qki,Qkw,or_false] at hx
   rcases hx with rfl|rfl
   ·rw[<- he];unfold dot;grind
   ·rw[<- hu];unfold dot;grind
  ·refine⟨_,hc,λx hx=>?_⟩
   simp only[Qki,Qkw,or_false] at hx
   rcases hx with rfl|rfl
   ·rw[<- Mc8 (dv z x) (dv z u)];unfold dot;grind
   ·rw[<- Mc9 (dv z v) (dv z x)];unfold dot;grind
 |_::_::_::_,h,_=>by simp at h
def pf2(p:Pln)(z v:Pt):Pt:=⟨rmZ p v*z.px-rmZ p z*v.px,rmZ p v*z.py-rmZ p z*v.py,rmZ p v*z.pz-rmZ p z*v.pz,rmZ p v*z.pw-rmZ p z*v.pw⟩
theorem Hd3(p q:Pln)(z v:Pt):rmZ q (pf2 p z v)=rmZ p v*rmZ q z-rmZ p z*rmZ q v:=by
 generalize ha:rmZ p v=a;generalize hb:rmZ p z=c;simp only[rmZ,pf2] at *
 rw[ha,hb]
 grind
theorem af0{r r':List Pln}(hs:∀p∈r',p∈r){v:Pt}(h:Cn r' v)(hi:Inr r v):Cn r v:=by
 obtain⟨p,q,s,hp,hq,hs',hw,e⟩:=h.c;exact⟨hi,p,q,s,hs p hp,hs q hq,hs s hs',hw,e⟩
theorem Le8{r:List Pln}(hb:Bdd r)(hB:Hd2 r){h:Pln}(hn:h.n≠⟨0,0,0⟩):¬ ∀x,Inr r x->rmZ h x=0:=λH=>by
 obtain⟨x,hw,hx⟩:=hB;have hi:Inr r x:=⟨hw,λp hp=>Qkaa (hx p hp)⟩
 obtain⟨q,hq,h1,h2⟩:=step hi h.n (hb h.n hn);have h3:=H _ h2;rw[Vd5,H _ hi] at h3;have h4:=hx q hq;have h5:0<dot h.n h.n:=by
  have k:∀a:Int,a≠0->0<a*a:=λa ha=>by
   rcases Int.lt_or_gt_of_ne ha with h|h
   ·exact Qkaq h h
   ·exact Qkak h h
  have k0:∀a:Int,0<=a*a:=λa=>by
   by_cases h:a=0
   ·subst h;decide
   ·exact Qkaa (k a h)
  have a1:=k0 h.n.x;have a2:=k0 h.n.y;have a3:=k0 h.n.z;unfold dot;by_cases c1:h.n.x=0
  ·by_cases c2:h.n.y=0
   ·have:=k h.n.z (λc3=>hn (Qkax c1 c2 c3));omega
   ·have:=k _ c2;omega
  ·have:=k _ c1;omega
 have:=Qkak h4 h5
 omega
theorem Bf1 {r r' : List Pln} {p : Pln} (hb : Bdd r) (hB : Hd2 r) (hp : p ∈ r) (hr : ∀ q ∈ r, q ∈ r' ∨ q = p)
  (l:List Pt) (hl:l.length<=2) (hl0:∀v∈l,rmZ p v=0/\0<v.pw) (hc:∀v,Cn r v->rmZ p v=0->∃x∈l,Eqv x v) {z:Pt} (hz:Inr r' z):Inr r z:=by
 by_cases h0:0<=rmZ p z
 ·exact⟨hz.w,λq hq=>(hr q hq).elim (hz.h q) λe=>e ▸ h0⟩
 exfalso;have hneg:rmZ p z<0:=by omega
 obtain⟨n,hn,hv⟩:=pf1 (p:=p) (z:=z) (by omega) l hl hl0
 have hn':(thr n z).n≠⟨0,0,0⟩:=λe=>hn (by
  unfold thr at e;simp only[V3.mk.injEq] at e;have k:∀{a:Int},z.pw*a=0->a=0:=λh=>(Qkr.1 h).resolve_left (by have:=hz.w;omega)
  exact Qkax (k e.1) (k e.2.1) (k e.2.2))
 -- the face lies in that plane
 have hface:∀u,Inr r u->rmZ p u=0->rmZ (thr n z) u=0:=λu hu hu0=>by
  have hbd:Bdd (o3 p::r):=λd hd=>by
   obtain⟨q,hq,h⟩:=hb d hd;exact⟨q,Qkx _ hq,h⟩
  have hiu:Inr (o3 p::r) u:=⟨hu.w,λq hq=>by
   rcases Qki.1 hq with rfl|hq
   ·rw[R2,hu0];decide
   ·exact hu.h q hq⟩
  have hvx:∀v,Cn (o3 p::r) v->rmZ (thr n z) v=0:=λv hcv=>by
   have hir:Inr r v:=⟨hcv.w,λq hq=>hcv.h q (Qkx _ hq)⟩
   have hp0:rmZ p v=0:=by
    have h1:=hcv.h (o3 p) Qkab;rw[R2] at h1;have h2:=hir.h p hp;omega
   obtain⟨a,c,d,ha,hc',hd,hw,e1,e2,e3⟩:=hcv.c
   -- a plane that is turned round gives the same Le0
   have fl:∀{a c d:Pln},mw (o3 a) c d=-mw a c d/\mw c (o3 a) d=-mw c a d/\mw c d (o3 a)=-mw c d a:=λ{a c d}=>by
    refine⟨?_,?_,?_⟩<;>(simp only[mw,dot,d9,o3];grind)
   have hr0:∀{a:Pln},rmZ (o3 a) v=0->rmZ a v=0:=λh=>by rw[R2] at h;omega
   have hcn:Cn r v:=by
    refine⟨hir,?_⟩
    rcases Qki.1 ha with rfl|ha<;>rcases Qki.1 hc' with rfl|hc'<;>rcases Qki.1 hd with rfl|hd
    ·exact absurd (by simp only[mw,dot,d9];grind) hw
    ·exact absurd (by simp only[mw,dot,d9];grind) hw
    ·exact absurd (by simp only[mw,dot,d9];grind) hw
    ·exact⟨p,c,d,hp,hc',hd,by have:=(fl (a:=p) (c:=c) (d:=d)).1;omega,hp0,e2,e3⟩
    ·exact absurd (by simp only[mw,dot,d9];grind) hw
    ·exact⟨a,p,d,ha,hp,hd,by have:=(fl (a:=p) (c:=a) (d:=d)).2.1;omega,e1,hp0,e3⟩
    ·exact⟨a,c,p,ha,hc',hp,by have:=(fl (a:=p) (c:=a) (d:=c)).2.2;omega,e1,e2,hp0⟩
    ·exact⟨a,c,d,ha,hc',hd,hw,e1,e2,e3⟩
   obtain⟨x,hx,he⟩:=hc v hcn hp0;have h1:=he.rm (thr n z);rw[Le6 n z x,hv x hx] at h1;have h1:rmZ (thr n z) v*x.pw=0:=by omega
   exact (Qkr.1 h1).resolve_right (by have:=(hl0 x hx).2;omega)
  have a1:=nb3 hbd (h:=thr n z) (λv hv=>by rw[hvx v hv];decide) hiu
  have a2:=nb3 hbd (h:=o3 (thr n z)) (λv hv=>by rw[R2,hvx v hv];decide) hiu
  rw[R2] at a2;omega
 -- so do all vertices
 have hall:∀v,Inr r v->rmZ (thr n z) v=0:=λv hi=>by
  by_cases hv0:rmZ p v=0
  ·exact hface v hi hv0
  have hvp:0<rmZ p v:=by have:=hi.h p hp;omega
  have hu:Inr r (pf2 p z v):=by
   have w1:=Qkak hvp hz.w;have w2:rmZ p z*v.pw<0:=Int.mul_neg_of_neg_of_pos hneg hi.w;refine⟨by show 0<rmZ p v*z.pw-rmZ p z*v.pw;omega,λq hq=>?_⟩
   rw[Hd3]
   rcases hr q hq with h|rfl
   ·have b1:=Qkav (Qkaa hvp) (hz.h q h);have b2:rmZ p z*rmZ q v<=0:=Int.mul_nonpos_of_nonpos_of_nonneg (Qkaa hneg) (hi.h q hq);omega
   ·have:=Int.mul_comm (rmZ q v) (rmZ q z);omega
  have h1:=hface _ hu (by rw[Hd3];have:=Int.mul_comm (rmZ p v) (rmZ p z);omega)
  rw[Hd3] at h1;have h2:rmZ (thr n z) z=0:=by rw[Le6];simp only[dot,dv];grind
  rw[h2] at h1;have h1:rmZ p z*rmZ (thr n z) v=0:=by omega
  exact (Qkr.1 h1).resolve_left (by omega)
 exact Le8 hb hB hn' hall
end Go.Ev.Ce
namespace Go.Ev.Ce
open Go Go.Ev Go.Ev.L Go.Proofs
theorem ne6(p:Pln):∀(a:Pln) (l:List Pln),p∈a::ddF a l↔p∈a::l
 |a,[]=>by simp[ddF]
 |a,x::l=>by
  have ih:=ne6 p x l;unfold ddF;split
  ·rename_i h;rw[Cb4] at h;subst h;rw[ih];simp
  ·simp only[Qki] at ih ⊢;rw[ih]
theorem Le9(p:Pln):∀l:List Pln,p∈dd l↔p∈l
 |[]=>Iff.rfl
 |x::l=>ne6 p x l
theorem ne7:∀(a:Pln) (l:List Pln),(a::l).Pairwise (λx y=>(!ltOf ja7 y x)=true)->Ua1 (a::ddF a l)
 |a,[],_=>Qkad _ _
 |a,x::l,h=>by
  obtain⟨h1,h2⟩:=Qkal.1 h;have ih:=ne7 x l h2;have hle:=h1 x Qkab;rw[db2] at hle;have hle:¬ LtP x a:=by simpa using hle
  unfold ddF;split
  ·rename_i he;rw[Cb4] at he;subst he;exact ih
  ·rename_i hne;have hlt:LtP a x:=by
    rcases ne0 a x with h|h|h
    ·exact h
    ·exact absurd ((Cb4 _ _).2 h.symm) hne
    ·exact absurd h hle
   refine Qkal.2 ⟨λp hp=>?_,ih⟩
   rcases Qki.1 hp with e|hp'
   ·subst e;exact hlt
   ·exact Hc9 hlt ((Qkal.1 ih).1 p hp')
theorem Me0(l:List Pln):Ua1 (dd (Ta9 l)):=by
 have h:=Gd5 l;cases hs:Ta9 l with
 |nil=>exact .nil
 |cons a l'=>rw[hs] at h;exact ne7 a l' h
noncomputable def Ma5(X:List Pt)(out:List Pln)(p:Pln):List Pln:=if keep X p then kb0 out p else out
theorem vd9(X:List Pt)(p:Pln):∀(c out:List Pln),p∈c.foldl (Ma5 X) out↔p∈out\/p∈c.filter (keep X)
 |[],out=>by simp
 |a::c,out=>by
  rw[List.foldl_cons,vd9 X p c,List.filter_cons];unfold Ma5;split
  ·rw[xb6,Qki];constructor
   ·rintro ((h|h)|h)
    ·exact .inr (.inl h)
    ·exact .inl h
    ·exact .inr (.inr h)
   ·rintro (h|h|h)
    ·exact .inl (.inr h)
    ·exact .inl (.inl h)
    ·exact .inr h
  ·exact Iff.rfl
theorem wd0(X:List Pt):∀(c out:List Pln),Ua1 out->Ua1 (c.foldl (Ma5 X) out)
 |[],_,h=>h
 |a::c,out,h=>by
  rw[List.foldl_cons];refine wd0 X c _ ?_;unfold Ma5;split
  ·exact dc9 a h
  ·exact h
theorem Wd0(X:List Pt)(c:List Pln):c.foldl (Ma5 X) []=dd (Ta9 (c.filter (keep X))) :=
 vd7 (wd0 X c [] .nil) (Me0 _) λp=>by
  rw[vd9,Le9,(fd3 _).mem_iff];simp
theorem ne8(x:List Pln)(y:Pln):kb0 x y≠[]:=by
 intro h
 have:=(xb6 y y x).2 (.inl rfl)
 rw[h] at this;cases this
theorem xb7(y:Pln):∀x:List Pln,(kb0 x y).length<=x.length+1
 |[]=>Qkt _
 |a::l=>by
  have:=xb7 y l
  unfold kb0;split
  ·simp only[List.length_cons];omega
  ·split<;>simp only[List.length_cons]<;>omega
theorem Me1(x:List Pln)(y:Pln)(hx:x.length<=1000000):rb9 x y=kb0 x y:=(fd8 x y hx).p.trans (fe9 y x)
theorem Me2(x:List Pln)(y:Pln)(hx:x.length<=1000000):sb0 x y=true:=(fd8 x y hx).g
theorem Mf5(l:List Pt)(p:Pln)(n:Nat):l.foldl (λn x=>if rm p x==0 then n+1 else n) n=n+l.countP λx=>rm p x==0:=by
 induction l generalizing n with
 |nil=>rfl
 |cons x l ih =>
  rw[List.foldl_cons,ih,List.countP_cons]
  split<;>omega
theorem Me3 (c : List Pln) (X : List Pt) (o : List Pln) (hX : X.length ≤ 1000000000) (a φ : Nat) (hφ : φ ≤ 1) (ha : a < c.length) :
  lp (Pa7 ⟨c,X,(a:Int),o⟩) ⟨φ,0,0⟩=(φ+1,⟨φ,(onc X (gL tP c a):Int),(X.length:Int)⟩):=by
 have h:=wc5 (step:=Pa7 ⟨c,X,(a:Int),o⟩) (mk:=λj (n:Nat)=>(⟨φ,(n:Int),(j:Int)⟩:O8)) (f:=λn x=>if rm (gL tP c a) x==0 then n+1 else n) (fin:=φ+1) tX X (λj n=>n<=j) hX
  (λj n hj hi=>by
   have hW:W ((n:Int)+1)=((n+1:Nat):Int):=by rw[ha0 (by omega) (by omega)];omega
   refine⟨?_,by show (if rm (gL tP c a) (gL tX X j)==0 then n+1 else n)<=j+1;split<;>omega⟩
   have hb:φ=0\/φ=1:=by omega
   rcases hb with rfl|rfl
   ·show ma7 Stp.next Stp.exit Stp.fail _ _=_;simp only[ma7,Int.toNat_natCast,Tc4,hW,o4 hj (show X.length<=4611686018427387904 by omega)]
    rw[btD (i6 hj),bt (f7 hj),bt (f7 ha)];cases rm (gL tP c a) (gL tX X j)==0<;>rfl
   ·show ma8 Stp.next Stp.exit Stp.fail _ _=_;simp only[ma8,Int.toNat_natCast,Tc4,hW,o4 hj (show X.length<=4611686018427387904 by omega)]
    rw[btD (i6 hj),bt (f7 hj),bt (f7 ha)];cases rm (gL tP c a) (gL tX X j)==0<;>rfl)
  (λn _=>by
   have hb:φ=0\/φ=1:=by omega
   rcases hb with rfl|rfl
   ·show ma7 Stp.next Stp.exit Stp.fail _ _=_;simp only[ma7];rw[bfD (r8 (Qke _))]
   ·show ma8 Stp.next Stp.exit Stp.fail _ _=_;simp only[ma8];rw[bfD (r8 (Qke _))]) 0 (Qkp _) 0 (Qkt _)
 have h:=h.1;rw[Qku,Mf5,Qkv] at h;exact h
def phP(out:List Pln):Nat:=match out with
 |[]=>0
 |_::_=>1
theorem pf7(c:List Pln)(X:List Pt)(hc:c.length<=1000000)(hX:X.length<=1000000000):∃t s,lp (fb3 ⟨⟩) ⟨0,c,X,0,[]⟩=(t,s)/\(t=phP (c.foldl (Ma5 X) [])+1/\s.Y7=c.foldl (Ma5 X) []):=by
 refine da0 (step:=fb3 ⟨⟩) (mk:=λj (out:List Pln)=>(⟨phP out,c,X,(j:Int),out⟩:I8)) c.length (λj out=>out.length<=j/\out=(c.take j).foldl (Ma5 X) [])
  (λt s=>t=phP (c.foldl (Ma5 X) [])+1/\s.Y7=c.foldl (Ma5 X) []) (by omega) (λj out hj hi=>?_) (λj out hj hi=>?_) 0 [] ⟨by simp,by simp⟩
 ·obtain⟨i1,i2⟩:=hi;have hl:out.length<=1000000:=by omega
  have hn:=o4 hj (show c.length<=4611686018427387904 by omega)
  have r0:=Me3 c X [] hX j 0 (by omega) hj
  have r1:=Me3 c X out hX j 1 (by omega) hj
  have hk:keep X (gL tP c j)=!decide ((onc X (gL tP c j):Int)<3):=rfl;have hge:decide ((onc X (gL tP c j):Int)>=3)=keep X (gL tP c j):=by
   rw[hk];by_cases h:(onc X (gL tP c j):Int)<3
   ·rw[decide_eq_true h,decide_eq_false (by omega)];rfl
   ·rw[decide_eq_false h,decide_eq_true (by omega)];rfl
  have hnx : ∀ {s : I8}, s = ⟨phP (Ma5 X out (gL tP c j)), c, X, ((j + 1 : Nat) : Int), Ma5 X out (gL tP c j)⟩ → Nx (.next s) (fun t => t = phP (c.foldl (Ma5 X) []) + 1 ∧ (⟨phP out, c, X, (j : Int), out⟩ : I8).Y7 = c.foldl (Ma5 X) [])
    (λs=>∃a',s=(⟨phP a',c,X,((j+1:Nat):Int),a'⟩:I8)/\(a'.length<=j+1/\a'=(c.take (j+1)).foldl (Ma5 X) [])):=λ{s} hs=>by
   refine .nx ⟨_,hs,?_,?_⟩
   ·unfold Ma5;split
    ·have:=xb7 (gL tP c j) out;omega
    ·omega
   ·rw[Uc1 tP hj,Qkae,<- i2];rfl
  cases out with
  |nil =>
   show Nx (ma9 Stp.next Stp.exit Stp.fail ⟨⟩ _) _ _;simp only[ma9,i5,i8,q8,Int.toNat_natCast,r0,hge,Me1 [] _ hl,Me2 [] _ hl,hn];rw[btD (i6 hj),bt (f7 hj)];cases hkk:keep X (gL tP c j) with
   |true=>exact hnx (by unfold Ma5;rw[hkk,if_pos rfl];rfl)
   |false=>exact hnx (by unfold Ma5;rw[hkk];rfl)
  |cons o os =>
   show Nx (na0 Stp.next Stp.exit Stp.fail ⟨⟩ _) _ _;simp only[na0,i5,i8,q8,Int.toNat_natCast,r1,hge,Me1 (o::os) _ hl,Me2 (o::os) _ hl,hn];rw[btD (i6 hj),bt (f7 hj),bt (f7 hj)];cases hkk:keep X (gL tP c j) with
   |true =>
    refine hnx ?_;unfold Ma5;rw[hkk,if_pos rfl];have hp:phP (kb0 (o::os) (gL tP c j))=1:=by
     cases h:kb0 (o::os) (gL tP c j) with
     |nil=>exact absurd h (ne8 _ _)
     |cons _ _=>rfl
    rw[hp]
   |false=>exact hnx (by unfold Ma5;rw[hkk];rfl)
 ·obtain⟨i1,i2⟩:=hi;rw[List.take_of_length_le hj] at i2;cases out with
  |nil =>
   refine⟨1,?_,by rw[<- i2];rfl,i2⟩
   show ma9 Stp.next Stp.exit Stp.fail ⟨⟩ _=_;simp only[ma9];rw[bfD (by show ¬ ((j:Nat):Int)<(c.length:Int);omega)]
  |cons o os =>
   refine⟨2,?_,by rw[<- i2];rfl,i2⟩
   show na0 Stp.next Stp.exit Stp.fail ⟨⟩ _=_;simp only[na0];rw[bfD (by show ¬ ((j:Nat):Int)<(c.length:Int);omega)]
theorem Wd1(c:List Pln)(hc:c.length<=1000000):Rd (one (r1L tP)) (xb5 c) (λr=>r=lean c):=by
 have hl:c.length<=1000000000:=by omega
 have hX:=Fd3 c;obtain⟨t,s,h1,h2,h3⟩:=pf7 c (pts c) hc (by omega)
 unfold xb5 lean;simp only[i5,q8,i8,le7 hl,le8 hl,ve3 hl,ve4 hl];rw[h1];cases hf:ful c with
 |false=>exact⟨_,[],rfl,rfl,rfl⟩
 |true =>
  simp only[h3];rw[<- Wd0];subst h2;cases hF:c.foldl (Ma5 (pts c)) [] with
  |nil=>exact⟨_,[],rfl,rfl,rfl⟩
  |cons o os=>exact⟨_,o::os,rfl,zc6 tP (o::os),rfl⟩
theorem af1(c:List Pln)(hc:c.length<=1000000):sc2 c=lean c:=(Wd1 c hc).p
theorem af2(c:List Pln)(hc:c.length<=1000000):sc3 c=true:=(Wd1 c hc).g
def af3(l:List Pln)(p:Pln):Bool:=l.any λq=>eqP q p
theorem Wd2(l:List Pln)(p:Pln):af3 l p=true↔p∈l:=by
 unfold af3;rw[Qkk];exact⟨λ⟨q,h,e⟩=>by rw[Cb4] at e;exact e ▸ h,λh=>⟨p,h,(Cb4 p p).2 rfl⟩⟩
noncomputable def but(r l:List Pln):List Pln:=r.filter λp=>af3 ws p||!af3 l p
theorem qb5(r l:List Pln)(p:Pln):p∈but r l↔p∈r/\(p∈ws\/p∉l):=by
 unfold but;rw[Qks,Bool.or_eq_true,Wd2,Bool.not_eq_true',<- Bool.not_eq_true,Wd2]
theorem ne9{c:List Pln}(hb:Bds (c++ws))(hB:Hd2 (c++ws)):∀l:List Pln,(∀p∈l,p∈c/\onc (cor (c++ws)) p<=2)->∀z,Inr (but (c++ws) l) z->Inr (c++ws) z
 |[],_,z,hz=>⟨hz.w,λp hp=>hz.h p ((qb5 _ _ _).2 ⟨hp,.inr (by simp)⟩)⟩
 |a::l,hl,z,hz=>by
  have ih:=ne9 hb hB l λp hp=>hl p (Qkx _ hp)
  refine ih z ?_;obtain⟨ha,hn⟩:=hl a Qkab;have har:a∈c++ws:=Qka _ ha;by_cases h0:a∈ws\/a∈l
  ·refine⟨hz.w,λp hp=>hz.h p ?_⟩
   obtain⟨h1,h2⟩:=(qb5 _ _ _).1 hp;refine (qb5 _ _ _).2 ⟨h1,?_⟩
   rcases h2 with h2|h2
   ·exact .inl h2
   ·by_cases hpa:p=a
    ·subst hpa
     rcases h0 with h0|h0
     ·exact .inl h0
     ·exact absurd h0 h2
    ·exact .inr λh=>(Qki.1 h).elim hpa h2
  ·have hw:a∉ws:=λh=>h0 (.inl h)
   have hal:a∉l:=λh=>h0 (.inr h)
   have sub:∀p∈but (c++ws) l,p∈c++ws:=λp hp=>((qb5 _ _ _).1 hp).1
   refine Bf1 (r:=but (c++ws) l) (r':=but (c++ws) (a::l)) (p:=a) ?_ ?_ ((qb5 _ _ _).2 ⟨har,.inr hal⟩) ?_ ((cor (c++ws)).filter λx=>rm a x==0) ?_ ?_ ?_ hz
   ·intro d hd;obtain⟨p,hp,h⟩:=Ic0 [] d hd;exact⟨p,(qb5 _ _ _).2 ⟨Qkf _ hp,.inl hp⟩,h⟩
   ·obtain⟨x,h1,h2⟩:=hB;exact⟨x,h1,λp hp=>h2 p (sub p hp)⟩
   ·intro q hq;obtain⟨h1,h2⟩:=(qb5 _ _ _).1 hq;by_cases hqa:q=a
    ·exact .inr hqa
    ·exact .inl ((qb5 _ _ _).2 ⟨h1,h2.elim .inl λh=>.inr λh'=>(Qki.1 h').elim hqa h⟩)
   ·rw[<- List.countP_eq_length_filter];exact hn
   ·intro v hv;obtain⟨h1,h2⟩:=Qks.1 hv;have hx:=Ac3 hb v h1;rw[ve9 (hb a har) hx] at h2;exact⟨by simpa using h2,hx.w1⟩
   ·intro v hv h0;have hv':Cn (c++ws) v:=af0 sub hv (ih v hv.toInr);obtain⟨x,hx,he⟩:=Le5 hb hv';have hok:=Ac3 hb x hx;refine⟨x,Qks.2 ⟨hx,?_⟩,he⟩;rw[ve9 (hb a har) hok];have h1:=he.rm a;rw[h0,Int.zero_mul] at h1
    have:=(Qkr.1 h1).resolve_right (by have:=hv.w;omega)
    simpa using this
theorem gd1{c:List Pln}(hf:ful c=true):(chk c==0)=true/\Bds (c++ws)/\Hd2 (c++ws):=by
 unfold ful at hf;rw[Qkl] at hf;have hb:=(eb9 hf.1).1;exact⟨hf.1,hb,(Lb2 hb (Ic0 c) (by simp[ws])).1 hf.2⟩
theorem Wd3{c:List Pln}(hf:ful c=true)(p:Pln):p∈lean c↔p∈c/\keep (pts c) p=true:=by
 unfold lean;rw[if_pos hf,Le9,(fd3 _).mem_iff,Qks]
theorem ec0(c:List Pln):(lean c).length<=c.length:=by
 unfold lean;split
 ·have h1 : (dd (Ta9 (c.filter (keep (pts c))))).length ≤ (Ta9 (c.filter (keep (pts c)))).length := by
   cases Ta9 (c.filter (keep (pts c))) with
   |nil=>exact Qkt _
   |cons a l=>have:=me8 a l;simp only[dd,List.length_cons];omega
  rw[ic2] at h1
  have:=Qkaw (keep (pts c)) c
  omega
 ·exact Qkp _
def ipt(v:V3):Pt:=⟨v.x,v.y,v.z,1⟩
theorem pf9{v:V3}(h:inV v=true):∀p∈ws,0<=rmZ p (ipt v):=by
 obtain⟨⟨a1,a2⟩,⟨a3,a4⟩,a5,a6⟩:=(Qb0 v).1 h;intro p hp;simp only[ws,Qki,Qkw,or_false] at hp
 rcases hp with rfl|rfl|rfl|rfl|rfl|rfl<;>simp only[rmZ,ipt]<;>omega
def Vb4(p:Pln)(v:V3):Int:=if okp p&&inV v then (if dot p.n v-p.b<0 then -1 else if dot p.n v-p.b>0 then 1 else 0) else 0
theorem qf0{p:Pln}{v:V3}(hp:Bd p)(hv:inV v=true):Sm 331776 (dot p.n v):=by
 obtain⟨⟨a1,a2⟩,⟨a3,a4⟩,a5,a6⟩:=(Qb0 v).1 hv;have r1:=mb hp.x1 hp.x2 a1 a2;have r2:=mb hp.y1 hp.y2 a3 a4;have r3:=mb hp.z1 hp.z2 a5 a6;unfold Sm dot;omega
theorem af4(p:Pln)(v:V3):Sa5 p v=some (i (Vb4 p v),[]):=by
 unfold Sa5 Vb4;simp only[Rd2,cd0,me1,Ud1];cases hp:okp p with
 |false=>rfl
 |true =>
  cases hv:inV v with
  |false=>rfl
  |true =>
   have hb:=Pb1 hp;have hd:=qf0 hb hv;have e:Ca1 p.n v=dot p.n v:=by
    unfold Ca1;simp only[tb5,Yb3];exact Ha2 (hd.mono (by omega))
   have e2:W (dot p.n v-p.b)=dot p.n v-p.b:=ha0 (by have:=hd.1;have:=hb.b2;omega) (by have:=hd.2;have:=hb.b1;omega)
   rw[e,e2];by_cases h1:dot p.n v-p.b<0
   ·simp only[Qkc,if_true,h1,decide_true];rfl
   ·by_cases h2:dot p.n v-p.b>0
    ·simp only[Qkc,if_true,h1,h2,decide_true,decide_false,if_false];rfl
    ·simp only[Qkc,if_true,h1,h2,decide_false,if_false];rfl
theorem Me4(p:Pln)(v:V3):cb8 p v=Vb4 p v:=by unfold cb8;rw[af4];rfl
theorem Wd4{p:Pln}{v:V3}(hp:okp p=true)(hv:inV v=true):Vb4 p v>0↔dot p.n v>p.b:=by
 unfold Vb4;rw[hp,hv];simp only[Qkc,if_true];split
 ·omega
 ·split<;>omega
theorem we2{p:Pln}{v:V3}(hp:okp p=true)(hv:inV v=true):Vb4 p v=0↔dot p.n v=p.b:=by
 unfold Vb4;rw[hp,hv];simp only[Qkc,if_true];split
 ·omega
 ·split<;>omega
theorem qf1(v:V3):g3 v∣v.x/\g3 v∣v.y/\g3 v∣v.z:=by
 unfold g3;refine⟨?_,?_,?_⟩<;>rw[<- Int.dvd_natAbs]<;>apply Int.natCast_dvd_natCast.2
 ·exact Qkam (Qky _ _) (Qky _ _)
 ·exact Qkam (Qky _ _) (Qkaf _ _)
 ·exact Qkaf _ _
theorem qf2(v:V3)(h:g3 v≠0):g3 ⟨Int.tdiv v.x (g3 v),Int.tdiv v.y (g3 v),Int.tdiv v.z (g3 v)⟩=1:=by
 generalize hg:g3 v=g at *
 have h0:0<=g:=hg ▸ Hc3 v;obtain⟨n,rfl⟩:∃n:Nat,g=n:=⟨g.toNat,by omega⟩
 have hn:0<n:=by omega
 have hgn:Nat.gcd (Nat.gcd v.x.natAbs v.y.natAbs) v.z.natAbs=n:=by unfold g3 at hg;omega
 have d1:n∣Nat.gcd v.x.natAbs v.y.natAbs:=hgn ▸ Qky _ _;have d3:n∣v.z.natAbs:=hgn ▸ Qkaf _ _;have d4:n∣v.x.natAbs:=Qkam d1 (Qky _ _);have d5:n∣v.y.natAbs:=Qkam d1 (Qkaf _ _);unfold g3;simp only[Int.natAbs_tdiv,Int.natAbs_natCast];show ((Nat.gcd (Nat.gcd (v.x.natAbs / n) (v.y.natAbs / n)) (v.z.natAbs / n):Nat):Int)=1;rw[Nat.gcd_div d4 d5,Nat.gcd_div d1 d3,hgn,Nat.div_self hn];rfl
structure Thr(a b c:V3)(p:Pln):Prop where
 ok:okp p=true
 k:∃g:Int,0<g/\g*p.n.x=(d9 (sub b a) (sub c a)).x/\g*p.n.y=(d9 (sub b a) (sub c a)).y/\g*p.n.z=(d9 (sub b a) (sub c a)).z
 o:p.b=dot p.n a
theorem Cb7{a b c:V3}(h:(Aa8 a b c).2=true):(inV a=true/\inV b=true/\inV c=true)/\Thr a b c (Aa8 a b c).1:=by
 unfold Aa8 at h ⊢;cases ha:inV a with
 |false=>rw[ha] at h;cases h
 |true =>
  cases hb:inV b with
  |false=>rw[ha,hb] at h;cases h
  |true =>
   cases hc:inV c with
   |false=>rw[ha,hb,hc] at h;cases h
   |true =>
    rw[ha,hb,hc] at h;simp only[Qkc,if_true] at h ⊢;obtain⟨_,k1,k2,k3⟩:=mc6 ha hb hc;generalize hn:d9 (sub b a) (sub c a)=n at *
    by_cases h0:g3 n=0
    ·rw[if_pos h0] at h;cases h
    ·rw[if_neg h0];have hp:=Hc3 n;obtain⟨d1,d2,d3⟩:=qf1 n;have q1:=K3 (g:=g3 n) k1 (by omega)
     have q2:=K3 (g:=g3 n) k2 (by omega)
     have q3:=K3 (g:=g3 n) k3 (by omega)
     refine⟨⟨trivial,trivial,trivial⟩,⟨?_,⟨g3 n,by omega,by rw[hn];exact Qkah d1,by rw[hn];exact Qkah d2,by rw[hn];exact Qkah d3⟩,rfl⟩⟩
     obtain⟨⟨a1,a2⟩,⟨a3,a4⟩,a5,a6⟩:=(Qb0 a).1 ha;have r1:=mb q1.1 q1.2 a1 a2;have r2:=mb q2.1 q2.2 a3 a4;have r3:=mb q3.1 q3.2 a5 a6;unfold okp;rw[qf2 n h0];simp only[List.all_cons,List.all_nil,Qkag,Qkl,pb6,beq_self_eq_true,true_and,and_true];refine⟨⟨q1,q2,q3⟩,?_⟩;unfold Sm dot
     simp only
     omega
theorem af5(a b c:V3):Bd (Aa8 a b c).1:=by
 cases h:(Aa8 a b c).2 with
 |true=>exact Pb1 (Cb7 h).2.ok
 |false =>
  have:(Aa8 a b c).1=⟨⟨0,0,0⟩,0⟩:=by
   unfold Aa8 at h ⊢;split
   ·rename_i hc;rw[if_pos hc] at h;split
    ·rfl
    ·rename_i h0;rw[if_neg h0] at h;cases h
   ·rfl
  rw[this]
  constructor<;>simp
theorem Me5{p:Pln}(h:Bd p):cb7 p=o3 p:=by
 unfold cb7 Ka2 o3
 simp only
 have:=h.x1;have:=h.x2;have:=h.y1;have:=h.y2;have:=h.z1;have:=h.z2;have:=h.b1;have:=h.b2
 rw[ha0 (by omega) (by omega),ha0 (by omega) (by omega),ha0 (by omega) (by omega),ha0 (by omega) (by omega)]
 simp only[Int.zero_sub]
theorem Ya8{p:Pln}(h:okp p=true):okp (o3 p)=true:=by
 unfold okp o3 g3 at *
 simp only[List.all_cons,List.all_nil,Qkag,Qkl,pb6,Int.natAbs_neg] at h ⊢;obtain⟨⟨h1,h2,h3⟩,h4,h5⟩:=h;exact⟨⟨h1.neg,h2.neg,h3.neg⟩,h4,h5.neg⟩
noncomputable def Me6(l:List V3)(p:Pln):Bool:=l.any λv=>Vb4 p v != 0
noncomputable def nf(l:List V3)(a c k:Nat):Bool:=(Aa8 (gL tV l a) (gL tV l c) (gL tV l k)).2&&Me6 l (Aa8 (gL tV l a) (gL tV l c) (gL tV l k)).1
noncomputable def nf2(l:List V3)(a c:Nat):Bool:=(List.range c).any (nf l a c)
noncomputable def nf1(l:List V3)(a:Nat):Bool:=(List.range a).any (nf2 l a)
noncomputable def nf0(l:List V3):Bool:=(List.range l.length).any (nf1 l)
theorem ge0 {σ : Type} {step : σ → Stp σ} {mk : Nat → σ} (n : Nat) (c : Nat → Bool) (u fin : Nat) (hn : n ≤ 1000000000) (h : ∀ j, j < n → step (mk j) = sl (c j) (.exit u) (.next (mk (j + 1)))) (hf : step (mk n) = .exit fin) :
  ∃j,lp step (mk 0)=(if (List.range n).any c then u else fin,mk j):=by
 have key:=da0 (step:=step) (mk:=λj (_:Unit)=>mk j) n (λj _=>j<=n/\∀i,i<j->c i=false) (λt s=>t=(if (List.range n).any c then u else fin)/\∃j,s=mk j) hn
  (λj _ hj hi=>by
   rw[h j hj];refine Nx.sl (λhc=>.ex ⟨?_,j,rfl⟩) (λhc=>.nx ⟨(),rfl,by omega,λi hi'=>?_⟩)
   ·rw[if_pos (Qkk.2 ⟨j,Qkn.2 hj,hc⟩)]
   ·by_cases e:i=j
    ·rw[e];exact hc
    ·exact hi.2 i (by omega))
  (λj _ hj hi=>by
   have e:j=n:=by omega
   subst e;refine⟨fin,hf,?_,j,rfl⟩;rw[if_neg λhh=>?_]
   obtain⟨i,hi1,hi2⟩:=Qkk.1 hh;rw[hi.2 i (Qkn.1 hi1)] at hi2;cases hi2) 0 () ⟨by omega,by omega⟩
 obtain⟨t,s,h1,rfl,j,rfl⟩:=key;exact⟨j,h1⟩
theorem Me7(l:List V3)(x1 x2 x3:Int)(okb:Bool)(p:Pln)(hl:l.length<=1000000000):∃t s,lp (E4 ⟨l,x1,x2,x3,okb,p.n.x,p.n.y,p.n.z,p.b⟩) ⟨0⟩=(t,s)/\(((okb&&Me6 l p)=true/\t=1)\/((okb&&Me6 l p)=false/\(t=2\/t=3))):=by
 cases okb with
 |false =>
  cases l with
  |nil =>
   refine⟨3,⟨0⟩,?_,.inr ⟨rfl,.inr rfl⟩⟩;exact Bc3 (step:=E4 ⟨[],x1,x2,x3,false,p.n.x,p.n.y,p.n.z,p.b⟩) rfl
  |cons v l =>
   refine⟨2,⟨0⟩,?_,.inr ⟨rfl,.inl rfl⟩⟩;refine Bc3 (step:=E4 ⟨v::l,x1,x2,x3,false,p.n.x,p.n.y,p.n.z,p.b⟩) ?_;simp only[E4,ea1];rw[btD (by simp only[List.length_cons];omega)]
   rfl
 |true =>
  have h:=lb0 (step:=E4 ⟨l,x1,x2,x3,true,p.n.x,p.n.y,p.n.z,p.b⟩) (mk:=λj=>(⟨(j:Int)⟩:ia7)) (c:=λv=>Vb4 p v != 0) (u:=1) (fin:=3) tV l hl
   (λj hj=>by
    simp only[E4,ea1,Fd4,Me4,Int.toNat_natCast,o4 hj (show l.length<=4611686018427387904 by omega)]
    rw[btD (i6 hj),bt (f7 hj)]
    rfl)
   (by simp only[E4,ea1];rw[bfD (r8 (Qke _))]) 0 (Qkp _)
  rw[Qku] at h;have h:(lp (E4 ⟨l,x1,x2,x3,true,p.n.x,p.n.y,p.n.z,p.b⟩) ⟨0⟩).1=_:=h;cases hlp:lp (E4 ⟨l,x1,x2,x3,true,p.n.x,p.n.y,p.n.z,p.b⟩) ⟨0⟩ with
  |mk t s =>
  rw[hlp] at h;refine⟨t,s,rfl,?_⟩
  simp only at h
  rw[h];unfold Me6;cases hh:l.any λv=>Vb4 p v != 0 with
  |true=>exact .inl ⟨rfl,rfl⟩
  |false=>exact .inr ⟨rfl,.inr rfl⟩
theorem Me8(l:List V3)(hl:l.length<=1000000000)(a c:Nat)(ha:a<l.length)(hc:c<a):∃j,lp (U6 ⟨(a:Int),(c:Int)⟩) ⟨l,0⟩=(if nf2 l a c then 1 else 2,⟨l,((j:Nat):Int)⟩) :=
 ge0 (step:=U6 ⟨(a:Int),(c:Int)⟩) (mk:=λj=>(⟨l,(j:Int)⟩:ia8)) c (nf l a c) 1 2 (by omega)
  (λj hj=>by
   simp only[U6,ma1,Kb4,Ta7,Int.toNat_natCast,i5,i8,o4 hj (show c<=4611686018427387904 by omega)]
   rw[btD (i6 hj),bt (f7 ha),bt (f7 (show c<l.length by omega)),bt (f7 (show j<l.length by omega)),g9]
   obtain⟨t,s,h1,h2⟩:=Me7 l (a:Int) (c:Int) (j:Int) (Aa8 (gL tV l a) (gL tV l c) (gL tV l j)).2 (Aa8 (gL tV l a) (gL tV l c) (gL tV l j)).1 hl;rw[h1];unfold nf
   rcases h2 with⟨e,rfl⟩|⟨e,rfl|rfl⟩<;>rw[e]<;>rfl)
  (by simp only[U6,ma1];rw[bfD (r8 (Qke _))])
theorem Me9(l:List V3)(hl:l.length<=1000000000)(a:Nat)(ha:a<l.length):∃j,lp (U7 ⟨(a:Int)⟩) ⟨l,0⟩=(if nf1 l a then 1 else 2,⟨l,((j:Nat):Int)⟩) :=
 ge0 (step:=U7 ⟨(a:Int)⟩) (mk:=λj=>(⟨l,(j:Int)⟩:ia9)) a (nf2 l a) 1 2 (by omega)
  (λj hj=>by
   obtain⟨j',h1⟩:=Me8 l hl a j ha hj;simp only[U7,ma2,i5,i8,o4 hj (show a<=4611686018427387904 by omega)]
   rw[btD (i6 hj),h1];cases nf2 l a j<;>rfl)
  (by simp only[U7,ma2];rw[bfD (r8 (Qke _))])
theorem af6(l:List V3)(hl:l.length<=1000000000):Sa6 l=some (b (!nf0 l),[]):=by
 obtain⟨j,h⟩:=ge0 (step:=U8 ⟨⟩) (mk:=λj=>(⟨l,(j:Int)⟩:ja0)) l.length (nf1 l) 1 2 hl
  (λj hj=>by
   obtain⟨j',h1⟩:=Me9 l hl j hj;simp only[U8,ma3,i5,i8,o4 hj (show l.length<=4611686018427387904 by omega)]
   rw[btD (i6 hj),h1];cases nf1 l j<;>rfl)
  (by simp only[U8,ma3];rw[bfD (r8 (Qke _))])
 have h:lp (U8 ⟨⟩) ⟨l,0⟩=(if nf0 l then 1 else 2,⟨l,((j:Nat):Int)⟩):=h
 unfold Sa6;simp only[i5,i8];rw[h];cases nf0 l<;>rfl
theorem qf3(l:List V3)(hl:l.length<=1000000000):Sa7 l=!nf0 l:=by unfold Sa7;rw[af6 l hl];rfl
noncomputable def Ic1(l:List V3):Int:=if (l.length:Int)>48 then 2 else if l.all inV then (if nf0 l then 0 else 11) else 3
theorem ge1(l:List V3)(hl:l.length<=1000000000):Ha5 l=some (i (Ic1 l),[]):=by
 have h:=lb0 (step:=ea2 ⟨l⟩) (mk:=λj=>(⟨(j:Int)⟩:Q7)) (c:=λv=>!inV v) (u:=1) (fin:=2) tV l hl
  (λj hj=>by
   simp only[ea2,ga3,Int.toNat_natCast,me1,Ud1,o4 hj (show l.length<=4611686018427387904 by omega)]
   rw[btD (i6 hj),bt (f7 hj),g9])
  (by simp only[ea2,ga3];rw[bfD (r8 (Qke _))]) 0 (Qkp _)
 rw[Qku] at h;have e:(l.any λv=>!inV v)=!l.all inV:=by rw[List.not_all_eq_any_not]
 unfold Ha5 Ic1;simp only[i5,i8,q8,fe2 l hl,qf3 l hl];rw[show (⟨0⟩:Q7)=⟨((0:Nat):Int)⟩ from rfl,h,e]
 by_cases h48:(l.length:Int)>48
 ·rw[if_pos h48,btD h48]
 ·rw[if_neg h48,bfD h48];cases l.all inV with
  |false=>rfl
  |true=>cases nf0 l<;>rfl
theorem we3(l:List V3)(hl:l.length<=1000000000):jb5 l=Ic1 l:=by unfold jb5;rw[ge1 l hl];rfl
def hold(p:Pln)(l:List V3):Bool:=!l.any λv=>decide (Vb4 p v>0)
theorem Ne0(p:Pln)(l:List V3)(hl:l.length<=1000000000):Ha6 p l=some (b (hold p l),[]):=by
 have h:=lb0 (step:=ea3 ⟨l,p.n.x,p.n.y,p.n.z,p.b⟩) (mk:=λj=>(⟨(j:Int)⟩:Q8)) (c:=λv=>decide (Vb4 p v>0)) (u:=1) (fin:=2) tV l hl
  (λj hj=>by
   simp only[ea3,ga4,Int.toNat_natCast,Me4,Fd4,o4 hj (show l.length<=4611686018427387904 by omega)]
   rw[btD (i6 hj),bt (f7 hj),g9])
  (by simp only[ea3,ga4];rw[bfD (r8 (Qke _))]) 0 (Qkp _)
 rw[Qku] at h;unfold Ha6 hold;simp only[i5,i8];rw[show (⟨0⟩:Q8)=⟨((0:Nat):Int)⟩ from rfl,h]
 cases l.any λv=>decide (Vb4 p v>0)<;>rfl
theorem af7(p:Pln)(l:List V3)(hl:l.length<=1000000000):wa8 p l=hold p l:=by unfold wa8;rw[Ne0 p l hl];rfl
theorem ge2 (x:List Pln) (y:Pln) (hx:x.length≤1000000):Rd (one (r1L tP)) (db0 x y) (fun r=>r=ins x y):=by
  have h:=Qa3 (step:=ca7 ⟨x,y.n.x,y.n.y,y.n.z,y.b⟩) (mk:=fun j=>(⟨(j:Int)⟩:ea4)) (c:=fun p=>!decide (ja7 p y < 0)) (u:=1) (fin:=2) tP x (by omega)
    (fun j hj=>by
      simp only[ca7,sa2,Int.toNat_natCast,fe4,Ke6,o4 hj (show x.length<=4611686018427387904 by omega)]
      rw[btD (i6 hj),bt (f7 hj),g9];show sl (decide (ja7 (gL tP x j) y<0)) _ _=_;cases decide (ja7 (gL tP x j) y<0)<;>rfl)
    (by simp only[ca7,sa2];rw[bfD (r8 (Qke _))]) 0 (Qkp _)
  rw[Qku] at h
  have key:∃ t,lp (ca7 ⟨x,y.n.x,y.n.y,y.n.z,y.b⟩) ⟨0⟩=(t,⟨((atP x y:Nat):Int)⟩)∧(t=1∨t=2):=by
    rw[show (⟨0⟩:ea4)=⟨((0:Nat):Int)⟩ from rfl,h]
    split
    · exact⟨1,by rw[Qkv];rfl,.inl rfl⟩
    · rename_i hn
      refine⟨2,?_,.inr rfl⟩
      have:atP x y=x.length:=by
        unfold atP;rw[List.findIdx_eq_length];intro p hp;cases hb:(!decide (ja7 p y<0)) with
        |false=>rfl
        |true=>exact absurd (Qkk.2 ⟨p,hp,hb⟩) hn
      rw[this]
  obtain⟨t,h1,h2⟩:=key;have h3:atP x y<=x.length:=List.findIdx_le_length;have hdef:ins x y=if (atP x y<x.length/\eqP (gL tP x (atP x y)) y=true) then x else wb5 x y (atP x y):=rfl
  generalize atP x y=n at *
  have hlo:inB (n:Int) (x.length+1)=true:=f7 (by omega)
  have hd:(bL tP (x.take n)).length=n:=by rw[<- n7,P7,Qkat];omega
  have hlen:(wb5 x y n).length=x.length+1:=by unfold wb5;simp only[Qkg,List.length_cons,Qkat,List.length_drop];omega
  have lt:len (bL tP (x.take n))=n:=by rw[n7];exact hd
  have ld:len (bL tP (x.drop n))=x.length-n:=by rw[P7,List.length_drop]
  have b1:(Nat.beq 1 1&&Nat.ble ((1+(x.length-n))*32) room)=true:=by rw[ca1 (by omega)];rfl
  have b2:(Nat.beq 0 0&&Nat.ble ((0+n)*32) room)=true:=by rw[ca1 (by omega)];rfl
  have e0:app [] (bL tP (x.take n))=bL tP (x.take n):=rfl;have b3:(Nat.beq (0+n) n&&Nat.ble (((0+n)+1)*32) room)=true:=by rw[ca1 (by omega),Qkv,Qkac];rfl
  have l3:len (bL tP (x.take n++[y]))=n+1:=by rw[P7,Qkg,Qkat];simp only[List.length_singleton];omega
  have b4:(Nat.beq ((0+n)+1) (n+1)&&Nat.ble ((((0+n)+1)+(x.length-n))*32) room)=true:=by rw[ca1 (by omega),Qkv,Qkac];rfl
  have z0:∀{k:Nat},Nat.beq k 0=true->k=0:=λ{k} h=>Nat.eq_of_beq_eq_true h
  have fin:ins x y=wb5 x y n→∀ m r,m=x.length+1→r=bL tP (wb5 x y n)→Rd (one (r1L tP)) (some (.sl 0 0 m 0,[⟨73,4,r,true,false,0⟩])) (fun r=>r=ins x y) :=
    λhq m r hm hr=>Fd5 (by rw[hlen];exact hm) hr hq.symm
  have tail:ins x y=wb5 x y n→Rd (one (r1L tP)) (some ((.sl 0 0 (((0+n)+1)+(x.length - n)) 0),[⟨73,4,(app (bL tP (x.take n++[y])) (bL tP (x.drop n))),true,false,0⟩])) (fun r=>r=ins x y):=fun hq=>by
    refine fin hq _ _ (by omega) ?_
    rw[Ra8];unfold wb5;rw[Qkao];rfl
  unfold db0;simp only[i5,i8];rw[h1];simp only[Int.toNat_natCast,rc8 x n h3,rc9,lt,ld,b1,b2,e0,b3,cc8,l3,b4,hlo,g9]
  have main:Rd (one (r1L tP)) (sl (decide ((n:Int) < (x.length:Int))) (sl (inB (n:Int) x.length) (sl (((gL tP x n).n.x==y.n.x)&&(((gL tP x n).n.y==y.n.y)&&(((gL tP x n).n.z==y.n.z)&&(((gL tP x n).b==y.b)&&true)))) (some (eL tP x,[])) (some ((.sl 0 0 (((0+n)+1)+(x.length - n)) 0),[⟨73,4,(app (bL tP (x.take n++[y])) (bL tP (x.drop n))),true,false,0⟩]))) none) (some ((.sl 0 0 (((0+n)+1)+(x.length - n)) 0),[⟨73,4,(app (bL tP (x.take n++[y])) (bL tP (x.drop n))),true,false,0⟩]))) (fun r=>r=ins x y):=by
    by_cases hn:n<x.length
    · rw[btD (i6 hn),bt (f7 hn)]
      exact Rd.sl (fun q=>⟨_,x,rfl,zc6 tP x,by rw[hdef,if_pos ⟨hn,q⟩]⟩) fun q=>tail (by
        rw[hdef,if_neg λh=>?_]
        have h:=h.2;rw[show eqP (gL tP x n) y=false from q] at h
        cases h)
    · rw[bfD (r8 hn)]
      exact tail (by rw[hdef,if_neg λh=>hn h.1])
  rcases h2 with rfl|rfl
  · exact main
  · exact main
theorem Ne1(x:List Pln)(y:Pln)(hx:x.length<=1000000):H9 x y=kb0 x y:=(ge2 x y hx).p.trans (fe9 y x)
noncomputable def Cb8 (l:List V3) (a c:Nat) (out:List Pln) (k:Nat):List Pln :=
  if (Aa8 (gL tV l a) (gL tV l c) (gL tV l k)).2 then
    (if hold (o3 (Aa8 (gL tV l a) (gL tV l c) (gL tV l k)).1) l then kb0 (if hold (Aa8 (gL tV l a) (gL tV l c) (gL tV l k)).1 l then kb0 out (Aa8 (gL tV l a) (gL tV l c) (gL tV l k)).1 else out) (o3 (Aa8 (gL tV l a) (gL tV l c) (gL tV l k)).1)
     else (if hold (Aa8 (gL tV l a) (gL tV l c) (gL tV l k)).1 l then kb0 out (Aa8 (gL tV l a) (gL tV l c) (gL tV l k)).1 else out))
  else out
noncomputable def F2(l:List V3)(a:Nat)(out:List Pln)(c:Nat):List Pln:=(List.range c).foldl (Cb8 l a c) out
noncomputable def F1(l:List V3)(out:List Pln)(a:Nat):List Pln:=(List.range a).foldl (F2 l a) out
noncomputable def F0(l:List V3):List Pln:=(List.range l.length).foldl (F1 l) []
theorem ic3 (x:List Pln) (y:Pln):phP (kb0 x y)=1:=by
  cases h:kb0 x y with
  |nil=>exact absurd h (ne8 _ _)
  |cons _ _=>rfl
theorem Ic2 (l:List V3) (a c:Nat) (out:List Pln) (k:Nat):(Cb8 l a c out k).length≤out.length+2:=by
  unfold Cb8;split
  · split
    · refine Qkq (xb7 _ _) ?_
      split
      · have:=xb7 (Aa8 (gL tV l a) (gL tV l c) (gL tV l k)).1 out;omega
      · omega
    · split
      · have:=xb7 (Aa8 (gL tV l a) (gL tV l c) (gL tV l k)).1 out;omega
      · omega
  · omega
theorem P0 {τ:Type} (f:τ→Nat→τ) (a:τ) (n:Nat):(List.range (n+1)).foldl f a=f ((List.range n).foldl f a) n:=by
  rw[List.range_succ,Qkae];rfl
theorem Bc5 {f:List Pln→Nat→List Pln} {m:Nat} (h:∀ o k,(f o k).length≤o.length+m) (o:List Pln):∀ n,((List.range n).foldl f o).length≤o.length+m*n
  |0=>Qkt _
  | n+1=>by
    rw[P0];have h1:=h ((List.range n).foldl f o) n;have h2:=Bc5 h o n;rw[Nat.mul_succ];omega
theorem Bf2 (l : List V3) (hl : l.length ≤ 48) (a c : Nat) (ha : a < l.length) (hc : c < a) (out : List Pln) (ho : out.length ≤ 900000) :
    ∃j,lp (X0 ⟨l,(a:Int),(c:Int)⟩) ⟨phP out,0,out⟩=(phP (F2 l a out c)+1,⟨phP (F2 l a out c),((j:Nat):Int),F2 l a out c⟩):=by
  have key:=da0 (step:=X0 ⟨l,(a:Int),(c:Int)⟩) (mk:=fun j (o:List Pln)=>(⟨phP o,(j:Int),o⟩:A8)) c (fun j o=>j≤c∧o=(List.range j).foldl (Cb8 l a c) out) (fun t s=>t=phP (F2 l a out c)+1∧∃ j:Nat,s=⟨phP (F2 l a out c),(j:Int),F2 l a out c⟩) (by omega)
    (fun j o hj hi=>by
      obtain⟨_,hi⟩:=hi
      have hlen:o.length≤990000:=by
        rw[hi]
        have:=Bc5 (Ic2 l a c) out j
        omega
      have hn:=o4 hj (show c<=4611686018427387904 by omega)
      have hh:∀p,ka6 p l=true:=λp=>me4 p l (by omega)
      have hp:∀p,wa8 p l=hold p l:=λp=>af7 p l (by omega)
      have hg1:∀y,pa2 o y=true:=λy=>me5 o y (by omega)
      have hq1:∀y,H9 o y=kb0 o y:=λy=>Ne1 o y (by omega)
      have hg2:∀y z,pa2 (kb0 o y) z=true:=λy z=>me5 _ z (by have:=xb7 y o;omega)
      have hq2:∀y z,H9 (kb0 o y) z=kb0 (kb0 o y) z:=λy z=>Ne1 _ z (by have:=xb7 y o;omega)
      have hfl:cb7 (Aa8 (gL tV l a) (gL tV l c) (gL tV l j)).1=o3 (Aa8 (gL tV l a) (gL tV l c) (gL tV l j)).1:=Me5 (af5 _ _ _)
      have fin : ∀ {s : A8}, s = ⟨phP (Cb8 l a c o j), ((j + 1 : Nat) : Int), Cb8 l a c o j⟩ → Nx (.next s) (fun t => t = phP (F2 l a out c) + 1 ∧ ∃ j' : Nat, (⟨phP o, (j : Int), o⟩ : A8) = ⟨phP (F2 l a out c), (j' : Int), F2 l a out c⟩)
          (λs=>∃o',s=(⟨phP o',((j+1:Nat):Int),o'⟩:A8)/\(j+1<=c/\o'=(List.range (j+1)).foldl (Cb8 l a c) out)):=λ{s} hs =>
        .nx ⟨_,hs,by omega,by rw[P0,<- hi]⟩
      clear hi
      unfold Cb8 at fin;generalize hT:Aa8 (gL tV l a) (gL tV l c) (gL tV l j)=T at *
      have hb1:inB (a:Int) l.length=true:=f7 ha;have hb2:inB (c:Int) l.length=true:=f7 (by omega)
      have hb3:inB (j:Int) l.length=true:=f7 (by omega)
      cases o with
      | nil =>
        show Nx (J4 Stp.next Stp.exit Stp.fail _ _) _ _;simp only[J4,Kb4,Ta7,Int.toNat_natCast,i5,q8,hT,hh,hp,hfl,hg1,hq1,hg2,hq2,hn,hb1,hb2,hb3];rw[btD (i6 hj)];cases h2:T.2 with
        |false=>exact fin (by rw[h2];rfl)
        | true =>
          cases h3:hold T.1 l with
          | false =>
            cases h4:hold (o3 T.1) l with
            |false=>exact fin (by rw[h2,h3,h4];rfl)
            |true=>exact fin (by rw[h2,h3,h4];simp only[if_true,if_false,ic3,Qko])
          | true =>
            cases h4:hold (o3 T.1) l with
            |false=>exact fin (by rw[h2,h3,h4];simp only[if_true,if_false,ic3,Qko])
            |true=>exact fin (by rw[h2,h3,h4];simp only[if_true,ic3])
      | cons q o =>
        show Nx (J5 Stp.next Stp.exit Stp.fail _ _) _ _;simp only[J5,Kb4,Ta7,Int.toNat_natCast,i5,q8,hT,hh,hp,hfl,hg1,hq1,hg2,hq2,hn,hb1,hb2,hb3];rw[btD (i6 hj)];cases h2:T.2 with
        |false=>exact fin (by rw[h2];rfl)
        | true =>
          cases h3:hold T.1 l with
          | false =>
            cases h4:hold (o3 T.1) l with
            |false=>exact fin (by rw[h2,h3,h4];rfl)
            |true=>exact fin (by rw[h2,h3,h4];simp only[if_true,if_false,ic3,Qko])
          | true =>
            cases h4:hold (o3 T.1) l with
            |false=>exact fin (by rw[h2,h3,h4];simp only[if_true,if_false,ic3,Qko])
            |true=>exact fin (by rw[h2,h3,h4];simp only[if_true,ic3]))
    (fun j o hj hi=>by
      obtain⟨h1,hi⟩:=hi;have e:j=c:=by omega
      subst e;have hF:o=F2 l a out j:=hi;rw[<- hF];cases o with
      | nil =>
        refine⟨1,?_,rfl,j,rfl⟩;show J4 Stp.next Stp.exit Stp.fail _ _=_;simp only[J4];rw[bfD (r8 (Qke _))]
      | cons q o =>
        refine⟨2,?_,rfl,j,rfl⟩;show J5 Stp.next Stp.exit Stp.fail _ _=_;simp only[J5];rw[bfD (r8 (Qke _))]) 0 out ⟨Qkp _,rfl⟩
  obtain⟨t,s,h1,rfl,j,rfl⟩:=key;exact⟨j,h1⟩
theorem Bf3 (l : List V3) (hl : l.length ≤ 48) (a : Nat) (ha : a < l.length) (out : List Pln) (ho : out.length ≤ 800000) :
    ∃j,lp (X1 ⟨(a:Int)⟩) ⟨phP out,l,0,out⟩=(phP (F1 l out a)+1,⟨phP (F1 l out a),l,((j:Nat):Int),F1 l out a⟩):=by
  have hL2:∀o k,k<=48->(F2 l a o k).length<=o.length+96:=λo k hk=>by have:=Bc5 (Ic2 l a k) o k;show ((List.range k).foldl (Cb8 l a k) o).length<=_;omega
  have hpre:∀ j,j≤a→((List.range j).foldl (F2 l a) out).length≤out.length+96*j:=by
    intro j
    induction j with
    |zero=>intro _;exact Qkt _
    | succ j ih =>
      intro h;rw[P0]
      have:=ih (by omega)
      have:=hL2 ((List.range j).foldl (F2 l a) out) j (by omega)
      omega
  have key:=da0 (step:=X1 ⟨(a:Int)⟩) (mk:=fun j (o:List Pln)=>(⟨phP o,l,(j:Int),o⟩:A9)) a (fun j o=>j≤a∧o=(List.range j).foldl (F2 l a) out) (fun t s=>t=phP (F1 l out a)+1∧∃ j:Nat,s=⟨phP (F1 l out a),l,(j:Int),F1 l out a⟩) (by omega)
    (fun j o hj hi=>by
      obtain⟨hja,hi⟩:=hi;have hlen:o.length<=900000:=by rw[hi];have:=hpre j hja;omega
      have hn:=o4 hj (show a<=4611686018427387904 by omega)
      obtain⟨j',e1⟩:=Bf2 l hl a j ha hj o hlen
      have fin : ∀ {s : A9}, s = ⟨phP (F2 l a o j), l, ((j + 1 : Nat) : Int), F2 l a o j⟩ → Nx (.next s) (fun t => t = phP (F1 l out a) + 1 ∧ ∃ j' : Nat, (⟨phP o, l, (j : Int), o⟩ : A9) = ⟨phP (F1 l out a), l, (j' : Int), F1 l out a⟩)
          (λs=>∃o',s=(⟨phP o',l,((j+1:Nat):Int),o'⟩:A9)/\(j+1<=a/\o'=(List.range (j+1)).foldl (F2 l a) out)):=λ{s} hs =>
        .nx ⟨_,hs,by omega,by rw[P0,<- hi]⟩
      clear hi
      generalize hF:F2 l a o j=R at *
      cases o with
      | nil =>
        show Nx (J6 Stp.next Stp.exit Stp.fail _ _) _ _;simp only[J6,i5,i8,hn];have e1:lp (X0 ⟨l,(a:Int),(j:Int)⟩) ⟨0,0,[]⟩=_:=e1;rw[btD (i6 hj),e1];cases R with
        |nil=>exact fin rfl
        |cons q R=>exact fin rfl
      | cons q o =>
        show Nx (J7 Stp.next Stp.exit Stp.fail _ _) _ _;simp only[J7,i5,i8,hn];have e1:lp (X0 ⟨l,(a:Int),(j:Int)⟩) ⟨1,0,q::o⟩=_:=e1;rw[btD (i6 hj),e1];cases R with
        |nil=>exact fin rfl
        |cons q R=>exact fin rfl)
    (fun j o hj hi=>by
      obtain⟨h1,hi⟩:=hi;have e:j=a:=by omega
      subst e;have hF:o=F1 l out j:=hi;rw[<- hF];cases o with
      | nil =>
        refine⟨1,?_,rfl,j,rfl⟩;show J6 Stp.next Stp.exit Stp.fail _ _=_;simp only[J6];rw[bfD (r8 (Qke _))]
      | cons q o =>
        refine⟨2,?_,rfl,j,rfl⟩;show J7 Stp.next Stp.exit Stp.fail _ _=_;simp only[J7];rw[bfD (r8 (Qke _))]) 0 out ⟨Qkp _,rfl⟩
  obtain⟨t,s,h1,rfl,j,rfl⟩:=key;exact⟨j,h1⟩
theorem Bf4 (l : List V3) (hl : l.length ≤ 48) :
    ∃j,lp (va1 ⟨⟩) ⟨0,l,0,[]⟩=(phP (F0 l)+1,⟨phP (F0 l),l,((j:Nat):Int),F0 l⟩):=by
  have hL2:∀a o k,k<=48->(F2 l a o k).length<=o.length+96:=λa o k hk=>by have:=Bc5 (Ic2 l a k) o k;show ((List.range k).foldl (Cb8 l a k) o).length<=_;omega
  have hL1:∀ o a,a≤48→∀ j,j≤a→((List.range j).foldl (F2 l a) o).length≤o.length+96*j:=by
    intro o a ha j
    induction j with
    |zero=>intro _;exact Qkt _
    | succ j ih =>
      intro h;rw[P0]
      have:=ih (by omega)
      have:=hL2 a ((List.range j).foldl (F2 l a) o) j (by omega)
      omega
  have hpre:∀ j,j≤l.length→((List.range j).foldl (F1 l) []).length≤5000*j:=by
    intro j
    induction j with
    |zero=>intro _;exact Qkt _
    | succ j ih =>
      intro h;rw[P0]
      have:=ih (by omega)
      have:(F1 l ((List.range j).foldl (F1 l) []) j).length<=_:=hL1 ((List.range j).foldl (F1 l) []) j (by omega) j (Qkt _)
      omega
  have key:=da0 (step:=va1 ⟨⟩) (mk:=fun j (o:List Pln)=>(⟨phP o,l,(j:Int),o⟩:C0)) l.length (fun j o=>j≤l.length∧o=(List.range j).foldl (F1 l) []) (fun t s=>t=phP (F0 l)+1∧∃ j:Nat,s=⟨phP (F0 l),l,(j:Int),F0 l⟩) (by omega)
    (fun j o hj hi=>by
      obtain⟨hja,hi⟩:=hi;have hlen:o.length<=800000:=by rw[hi];have:=hpre j hja;omega
      have hn:=o4 hj (show l.length<=4611686018427387904 by omega)
      obtain⟨j',e1⟩:=Bf3 l hl j hj o hlen
      have fin : ∀ {s : C0}, s = ⟨phP (F1 l o j), l, ((j + 1 : Nat) : Int), F1 l o j⟩ → Nx (.next s) (fun t => t = phP (F0 l) + 1 ∧ ∃ j' : Nat, (⟨phP o, l, (j : Int), o⟩ : C0) = ⟨phP (F0 l), l, (j' : Int), F0 l⟩)
          (λs=>∃o',s=(⟨phP o',l,((j+1:Nat):Int),o'⟩:C0)/\(j+1<=l.length/\o'=(List.range (j+1)).foldl (F1 l) [])):=λ{s} hs =>
        .nx ⟨_,hs,by omega,by rw[P0,<- hi]⟩
      clear hi
      generalize hF:F1 l o j=R at *
      cases o with
      | nil =>
        show Nx (J8 Stp.next Stp.exit Stp.fail ⟨⟩ _) _ _;simp only[J8,i5,i8,hn];have e1:lp (X1 ⟨(j:Int)⟩) ⟨0,l,0,[]⟩=_:=e1;rw[btD (i6 hj),e1];cases R with
        |nil=>exact fin rfl
        |cons q R=>exact fin rfl
      | cons q o =>
        show Nx (J9 Stp.next Stp.exit Stp.fail ⟨⟩ _) _ _;simp only[J9,i5,i8,hn];have e1:lp (X1 ⟨(j:Int)⟩) ⟨1,l,0,q::o⟩=_:=e1;rw[btD (i6 hj),e1];cases R with
        |nil=>exact fin rfl
        |cons q R=>exact fin rfl)
    (fun j o hj hi=>by
      obtain⟨h1,hi⟩:=hi;have e:j=l.length:=by omega
      subst e;have hF:o=F0 l:=hi;rw[<- hF];cases o with
      | nil =>
        refine⟨1,?_,rfl,_,rfl⟩;show J8 Stp.next Stp.exit Stp.fail ⟨⟩ _=_;simp only[J8];rw[bfD (r8 (Qke _))]
      | cons q o =>
        refine⟨2,?_,rfl,_,rfl⟩;show J9 Stp.next Stp.exit Stp.fail ⟨⟩ _=_;simp only[J9];rw[bfD (r8 (Qke _))]) 0 [] ⟨Qkp _,rfl⟩
  obtain⟨t,s,h1,rfl,j,rfl⟩:=key;exact⟨j,h1⟩
noncomputable def Ic3(l:List V3):List Pln×Int:=if Ic1 l=0 then (F0 l,0) else ([],Ic1 l)
theorem Ne2 (l:List V3) (hl:l.length≤48):Rd (two (r1L tP) r1I) (Ha7 l) (fun r=>r=Ic3 l):=by
  obtain⟨j,e1⟩:=Bf4 l hl;have hb:l.length<=1000000000:=by omega
  unfold Ha7 Ic3;simp only[i5,i8,q8,vd2 l hb,we3 l hb,g9];rw[e1];by_cases h0:Ic1 l=0
  · rw[if_pos h0,show (Ic1 l != 0)=false by rw[h0];rfl,N2]
    cases hF:F0 l with
    |nil=>exact⟨_,([],0),rfl,rfl,rfl⟩
    |cons q o=>exact⟨_,(q::o,0),rfl,Je3 (q::o) 0,rfl⟩
  · rw[if_neg h0,show (Ic1 l != 0)=true by simpa using h0,g9]
    exact⟨_,([],Ic1 l),rfl,rfl,rfl⟩
theorem Ne3(l:List V3)(hl:l.length<=48):cc7 l=Ic3 l:=(Ne2 l hl).p
theorem ge3{p:Pln}(h:okp p=true):g3 p.n=1:=by
 unfold okp at h;simp only[Qkl,beq_iff_eq] at h;exact h.2.1
theorem Nc0{p:Pln}(h:okp p=true):p.n≠⟨0,0,0⟩:=λe=>by
 have:=ge3 h
 rw[e] at this
 revert this
 decide
theorem Ne4(c:Int)(n:V3):g3 ⟨c*n.x,c*n.y,c*n.z⟩=c.natAbs*g3 n:=by
 unfold g3;simp only[Int.natAbs_mul,Nat.gcd_mul_left];rw[Int.natCast_mul]
theorem Ne5{m n:V3}(hm:g3 m=1)(hn:g3 n=1)(h:d9 m n=⟨0,0,0⟩):n=m\/n=neg m:=by
 unfold d9 at h;simp only[V3.mk.injEq] at h;obtain⟨c1,c2,c3⟩:=h;have k:∀{c d:Int},c*m.x=d*n.x->c*m.y=d*n.y->c*m.z=d*n.z->c.natAbs=d.natAbs:=λ{c d} e1 e2 e3=>by
  have a1:=Ne4 c m;have a2:=Ne4 d n;rw[e1,e2,e3,a2,hm,hn] at a1;omega
 have ax:=k (c:=n.x) (d:=m.x) (by grind) (by grind) (by grind)
 have ay:=k (c:=n.y) (d:=m.y) (by grind) (by grind) (by grind)
 have az:=k (c:=n.z) (d:=m.z) (by grind) (by grind) (by grind)
 have sg:∀{a c:Int},a.natAbs=c.natAbs->a=c\/a=-c:=λh=>by omega
 -- the sign of one component that is not zero is that of all
 have go:∀{s u t v:Int},u≠0->s*v=u*t->s=u->t=v:=λ{s u t v} hu h e=>by
  subst e;exact (Qkar hu h).symm
 have gn:∀{s u t v:Int},u≠0->s*v=u*t->s=-u->t=-v:=λ{s u t v} hu h e=>by
  subst e
  have:u*t=u*(-v):=by rw[<- h];grind
  exact Qkar hu this
 by_cases hx:m.x=0
 ·have hx':n.x=0:=by omega
  by_cases hy:m.y=0
  ·have hy':n.y=0:=by omega
   rcases sg az with e|e
   ·exact .inl (Qkax (by omega) (by omega) e)
   ·exact .inr (Qkax (by show n.x=-m.x;omega) (by show n.y=-m.y;omega) e)
  ·rcases sg ay with e|e
   ·exact .inl (Qkax (by omega) e (go hy (by grind) e))
   ·exact .inr (Qkax (by show n.x=-m.x;omega) e (gn hy (by grind) e))
 ·rcases sg ax with e|e
  ·exact .inl (Qkax e (go hx (by grind) e) (go hx (by grind) e))
  ·exact .inr (Qkax e (gn hx (by grind) e) (gn hx (by grind) e))
structure Mf6(l:List V3):Prop where
 h:∃a c k v,a∈l/\c∈l/\k∈l/\v∈l/\dot (d9 (sub c a) (sub k a)) (sub v a)≠0
theorem gLm{l:List V3}{j:Nat}(h:j<l.length):gL tV l j∈l:=ta9 tV h
theorem qf4{l:List V3}(hf:nf0 l=true):Mf6 l:=by
 unfold nf0 at hf;obtain⟨a,ha,hf⟩:=Qkk.1 hf;unfold nf1 at hf;obtain⟨c,hc,hf⟩:=Qkk.1 hf;unfold nf2 at hf;obtain⟨k,hk,hf⟩:=Qkk.1 hf;rw[Qkn] at ha hc hk;unfold nf at hf;rw[Qkl] at hf;obtain⟨h1,h2⟩:=hf;obtain⟨⟨i1,i2,i3⟩,⟨ok,⟨g,hg,e1,e2,e3⟩,o⟩⟩:=Cb7 h1;unfold Me6 at h2;obtain⟨v,hv,h2⟩:=Qkk.1 h2;generalize (Aa8 (gL tV l a) (gL tV l c) (gL tV l k)).1=p at *
 refine⟨_,_,_,v,gLm ha,gLm (show c<l.length by omega),gLm (show k<l.length by omega),hv,λh0=>?_⟩
 have hs:Vb4 p v≠0:=by simpa using h2
 have hiv:inV v=true:=by
  cases hi:inV v with
  |true=>rfl
  |false=>exact absurd (by unfold Vb4;rw[ok,hi];rfl) hs
 apply hs;rw[we2 ok hiv,o]
 have:g*(dot p.n v-dot p.n (gL tV l a))=dot (d9 (sub (gL tV l c) (gL tV l a)) (sub (gL tV l k) (gL tV l a))) (sub v (gL tV l a)):=by
  unfold dot;rw[<- e1,<- e2,<- e3];unfold sub
  grind
 rw[h0] at this
 have:=(Qkr.1 this).resolve_left (by omega)
 omega
theorem Ne6{a c k v n:V3}(hd:dot (d9 (sub c a) (sub k a)) (sub v a)≠0)(hn:n≠⟨0,0,0⟩)(h1:dot n c=dot n a)(h2:dot n k=dot n a)(h3:dot n v=dot n a):False:=by
 generalize hD:dot (d9 (sub c a) (sub k a)) (sub v a)=D at *
 have q1:dot n (sub c a)=0:=by unfold dot sub at *;grind
 have q2:dot n (sub k a)=0:=by unfold dot sub at *;grind
 have q3:dot n (sub v a)=0:=by unfold dot sub at *;grind
 generalize sub c a=p at *
 generalize sub k a=q at *
 generalize sub v a=r at *
 have i1:D*n.x=(d9 q r).x*dot n p+(d9 r p).x*dot n q+(d9 p q).x*dot n r:=by rw[<- hD];simp only[dot,d9];grind
 have i2:D*n.y=(d9 q r).y*dot n p+(d9 r p).y*dot n q+(d9 p q).y*dot n r:=by rw[<- hD];simp only[dot,d9];grind
 have i3:D*n.z=(d9 q r).z*dot n p+(d9 r p).z*dot n q+(d9 p q).z*dot n r:=by rw[<- hD];simp only[dot,d9];grind
 rw[q1,q2,q3] at i1 i2 i3;have z:∀{x:Int},D*x=0->x=0:=λh=>(Qkr.1 h).resolve_left hd
 exact hn (Qkax (z (by omega)) (z (by omega)) (z (by omega)))
theorem Bc6{p:Pln}{l:List V3}(hp:okp p=true)(hl:l.all inV=true):hold p l=true↔∀v∈l,dot p.n v<=p.b:=by
 unfold hold;rw[Bool.not_eq_true',<- Bool.not_eq_true,Qkk];constructor
 ·intro h v hv;have h1:¬ Vb4 p v>0:=λh'=>h ⟨v,hv,by simpa using h'⟩
  rw[Wd4 hp (Qkm.1 hl v hv)] at h1;omega
 ·rintro h ⟨v,hv,h1⟩;have h1:Vb4 p v>0:=by simpa using h1
  rw[Wd4 hp (Qkm.1 hl v hv)] at h1
  have:=h v hv
  omega
structure Fct(l:List V3)(p:Pln):Prop where
 ok:okp p=true
 hd:hold p l=true
theorem we4(p:Pln):o3 (o3 p)=p:=by
 unfold o3;simp only[Int.neg_neg]
theorem Wd5(p:Pln)(v:V3):dot (o3 p).n v=-dot p.n v:=by unfold dot o3;grind
theorem we5 (l : List V3) (a c k : Nat) (out : List Pln) (p : Pln) : p ∈ Cb8 l a c out k ↔ p ∈ out ∨ ((Aa8 (gL tV l a) (gL tV l c) (gL tV l k)).2 = true ∧
  ((p=(Aa8 (gL tV l a) (gL tV l c) (gL tV l k)).1/\hold p l=true)\/(p=o3 (Aa8 (gL tV l a) (gL tV l c) (gL tV l k)).1/\hold p l=true))):=by
 unfold Cb8;generalize Aa8 (gL tV l a) (gL tV l c) (gL tV l k)=T;cases h2:T.2 with
 |false=>simp
 |true =>
  simp only[if_true];cases h4:hold (o3 T.1) l with
  |false =>
   simp only[Qko,if_false];cases h3:hold T.1 l with
   |false =>
    simp only[Qko,if_false];constructor
    ·exact λh=>.inl h
    ·rintro (h|⟨_,⟨rfl,h⟩|⟨rfl,h⟩⟩)
     ·exact h
     ·rw[h3] at h;cases h
     ·rw[h4] at h;cases h
   |true =>
    simp only[if_true,xb6];constructor
    ·rintro (rfl|h)
     ·exact .inr ⟨trivial,.inl ⟨rfl,h3⟩⟩
     ·exact .inl h
    ·rintro (h|⟨_,⟨rfl,h⟩|⟨rfl,h⟩⟩)
     ·exact .inr h
     ·exact .inl rfl
     ·rw[h4] at h;cases h
  |true =>
   simp only[if_true,xb6];cases h3:hold T.1 l with
   |false =>
    simp only[Qko,if_false];constructor
    ·rintro (rfl|h)
     ·exact .inr ⟨trivial,.inr ⟨rfl,h4⟩⟩
     ·exact .inl h
    ·rintro (h|⟨_,⟨rfl,h⟩|⟨rfl,h⟩⟩)
     ·exact .inr h
     ·rw[h3] at h;cases h
     ·exact .inl rfl
   |true =>
    simp only[if_true,xb6];constructor
    ·rintro (rfl|rfl|h)
     ·exact .inr ⟨trivial,.inr ⟨rfl,h4⟩⟩
     ·exact .inr ⟨trivial,.inl ⟨rfl,h3⟩⟩
     ·exact .inl h
    ·rintro (h|⟨_,⟨rfl,h⟩|⟨rfl,h⟩⟩)
     ·exact .inr (.inr h)
     ·exact .inr (.inl rfl)
     ·exact .inl rfl
theorem Bc7{f:List Pln->Nat->List Pln}{Q:Nat->Pln->Prop}(h:∀o k p,p∈f o k↔p∈o\/Q k p)(o:List Pln)(p:Pln):∀n,p∈(List.range n).foldl f o↔p∈o\/∃k,k<n/\Q k p
 |0=>by simp
 |n+1=>by
  rw[P0,h,Bc7 h o p n];constructor
  ·rintro ((h|⟨k,hk,h⟩)|h)
   ·exact .inl h
   ·exact .inr ⟨k,by omega,h⟩
   ·exact .inr ⟨n,by omega,h⟩
  ·rintro (h|⟨k,hk,h⟩)
   ·exact .inl (.inl h)
   ·by_cases e:k=n
    ·subst e;exact .inr h
    ·exact .inl (.inr ⟨k,by omega,h⟩)
def Fq (l : List V3) (a c k : Nat) (p : Pln) : Prop := (Aa8 (gL tV l a) (gL tV l c) (gL tV l k)).2 = true ∧
  ((p=(Aa8 (gL tV l a) (gL tV l c) (gL tV l k)).1/\hold p l=true)\/(p=o3 (Aa8 (gL tV l a) (gL tV l c) (gL tV l k)).1/\hold p l=true))
theorem qf5(l:List V3)(a c:Nat)(out:List Pln)(p:Pln):p∈F2 l a out c↔p∈out\/∃k,k<c/\Fq l a c k p:=Bc7 (λo k p=>we5 l a c k o p) out p c
theorem qf6(l:List V3)(a:Nat)(out:List Pln)(p:Pln):p∈F1 l out a↔p∈out\/∃c,c<a/\∃k,k<c/\Fq l a c k p:=Bc7 (λo c p=>qf5 l a c o p) out p a
theorem ge4(l:List V3)(p:Pln):p∈F0 l↔∃a,a<l.length/\∃c,c<a/\∃k,k<c/\Fq l a c k p:=by
 have:=Bc7 (λo a p=>qf6 l a o p) [] p l.length
 simpa [F0] using this
theorem we6{l:List V3}{a c:Nat}{out:List Pln}{k:Nat}(h:Ua1 out):Ua1 (Cb8 l a c out k):=by
 unfold Cb8;split
 ·split
  ·refine dc9 _ ?_;split
   ·exact dc9 _ h
   ·exact h
  ·split
   ·exact dc9 _ h
   ·exact h
 ·exact h
theorem Bc8{f:List Pln->Nat->List Pln}(h:∀o k,Ua1 o->Ua1 (f o k)){o:List Pln}(ho:Ua1 o):∀n,Ua1 ((List.range n).foldl f o)
 |0=>ho
 |n+1=>by rw[P0];exact h _ _ (Bc8 h ho n)
theorem qf7{l:List V3}{a c:Nat}{out:List Pln}(h:Ua1 out):Ua1 (F2 l a out c):=Bc8 (λ_ _ h=>we6 h) h c
theorem qf8{l:List V3}{a:Nat}{out:List Pln}(h:Ua1 out):Ua1 (F1 l out a):=Bc8 (λ_ _ h=>qf7 h) h a
theorem qf9(l:List V3):Ua1 (F0 l):=Bc8 (λ_ _ h=>qf8 h) .nil l.length
theorem wd1{l:List Pln}(h:Ua1 l):l.Nodup:=List.Pairwise.imp (λ{x y} (h:LtP x y) (e:x=y)=>Uc2 y (e ▸ h)) h
theorem Ne7{l:List V3}{p:Pln}(hp:p∈F0 l):Fct l p:=by
 obtain⟨a,ha,c,hc,k,hk,h1,⟨h2,h3⟩|⟨h2,h3⟩⟩:=(ge4 l p).1 hp
 ·exact⟨h2 ▸ (Cb7 h1).2.ok,h3⟩
 ·exact⟨h2 ▸ Ya8 (Cb7 h1).2.ok,h3⟩
theorem af8{l:List V3}(hl:l.all inV=true)(hf:nf0 l=true):Hd2 (F0 l++ws):=by
 obtain⟨a,c,k,v,ha,hc,hk,hv,hd⟩:=qf4 hf;have hin:=Qkm.1 hl
 -- a plane on whose Vb4 all qf4 lie has their middle within
 have key:∀p:Pln,p.n≠⟨0,0,0⟩->dot p.n a<=p.b->dot p.n c<=p.b->dot p.n k<=p.b->dot p.n v<=p.b->0<rmZ p ⟨a.x+c.x+k.x+v.x,a.y+c.y+k.y+v.y,a.z+c.z+k.z+v.z,4⟩:=λp hn h1 h2 h3 h4=>by
  have e:rmZ p ⟨a.x+c.x+k.x+v.x,a.y+c.y+k.y+v.y,a.z+c.z+k.z+v.z,4⟩=(p.b-dot p.n a)+(p.b-dot p.n c)+(p.b-dot p.n k)+(p.b-dot p.n v):=by simp only[rmZ,dot];grind
  rw[e];by_cases q:dot p.n a=p.b/\dot p.n c=p.b/\dot p.n k=p.b/\dot p.n v=p.b
  ·obtain⟨q1,q2,q3,q4⟩:=q;exact (Ne6 hd hn (q2.trans q1.symm) (q3.trans q1.symm) (q4.trans q1.symm)).elim
  ·omega
 refine⟨⟨a.x+c.x+k.x+v.x,a.y+c.y+k.y+v.y,a.z+c.z+k.z+v.z,4⟩,by show (0:Int)<4;omega,λp hp=>?_⟩
 rcases Qkb.1 hp with h|h
 ·have hF:=Ne7 h;have hb:=(Bc6 hF.ok hl).1 hF.hd;exact key p (Nc0 hF.ok) (hb a ha) (hb c hc) (hb k hk) (hb v hv)
 ·have hw : ∀ x ∈ l, dot p.n x ≤ p.b := fun x hx => by
   have:=pf9 (hin x hx) p h
   simp only[rmZ,ipt,dot] at this ⊢;omega
  refine key p ?_ (hw a ha) (hw c hc) (hw k hk) (hw v hv);have h1:∀q∈ws,okp q=true:=Qkm.1 (by decide)
  exact Nc0 (h1 p h)
theorem Ne8(l:List Int):Rd (one r1P) (Sa4 l) (λp=>okp p=true):=by
 unfold Sa4;simp only[i5,i8];obtain⟨v1,j1,e1,a1,b1,c1,d1⟩:=ta3 8 l 0 (by omega) (by omega) (by omega) (by omega)
 rw[e1]
 simp only
 obtain⟨v2,j2,e2,a2,b2,c2,d2⟩:=ta3 17 l j1 (by omega) (by omega) (by omega) (by omega)
 rw[e2]
 simp only
 obtain⟨x1,x2,x3,j3,e3,_,_,_,c3,d3⟩:=rc7 8 l j2 (by omega) (by omega) (by omega) (by omega)
 rw[e3]
 simp only
 obtain⟨y1,y2,y3,j4,e4,_,_,_,c4,d4⟩:=rc7 8 l j3 (by omega) (by omega) (by omega) (by omega)
 rw[e4]
 simp only
 obtain⟨z1,z2,z3,j5,e5,_,_,_,c5,d5⟩:=rc7 8 l j4 (by omega) (by omega) (by omega) (by omega)
 rw[e5];simp only[Kb4,Ta7,Ie8 _ (show (0:Int)<3 by omega) (by omega),i8]
 simp only[Qkac,Qkag,g9];have w2:W (v2-8)=v2-8:=ha0 (by omega) (by omega)
 have w1:W (1-W (2*Int.tmod v1 2))=1\/W (1-W (2*Int.tmod v1 2))=-1:=by
  have h:=Int.tmod_nonneg 2 a1;have h2:=Int.tmod_lt_of_pos v1 (show (0:Int)<2 by omega)
  rw[ha0 (n:=2*Int.tmod v1 2) (by omega) (by omega),ha0 (by omega) (by omega)]
  omega
 rw[w2];generalize W (1-W (2*Int.tmod v1 2))=s at *
 have ax:∀{a c d:Int},(a=s/\c=0/\d=0)\/(a=0/\c=s/\d=0)\/(a=0/\c=0/\d=s)->okp ⟨⟨a,c,d⟩,v2-8⟩=true:=λh=>by
  unfold okp;simp only[List.all_cons,List.all_nil,Qkag,Qkl,pb6,beq_iff_eq,Sm]
  rcases h with⟨rfl,rfl,rfl⟩|⟨rfl,rfl,rfl⟩|⟨rfl,rfl,rfl⟩<;>rcases w1 with rfl|rfl<;>exact⟨by omega,by decide,by omega⟩
 have r1:Rd (one r1P) (some (.agg [i 0,i s,i 0,i (v2-8)],[])) (λp=>okp p=true):=⟨_,⟨⟨0,s,0⟩,v2-8⟩,rfl,rfl,ax (.inr (.inl ⟨rfl,rfl,rfl⟩))⟩
 have r2:Rd (one r1P) (some (.agg [i 0,i 0,i s,i (v2-8)],[])) (λp=>okp p=true):=⟨_,⟨⟨0,0,s⟩,v2-8⟩,rfl,rfl,ax (.inr (.inr ⟨rfl,rfl,rfl⟩))⟩
 have r3:Rd (one r1P) (some (.agg [i s,i 0,i 0,i (v2-8)],[])) (λp=>okp p=true):=⟨_,⟨⟨s,0,0⟩,v2-8⟩,rfl,rfl,ax (.inl ⟨rfl,rfl,rfl⟩)⟩
 refine Rd.sl (λ_=>Rd.sl (λh=>?_) λ_=>?_) (λ_=>?_)
 ·exact⟨_,(Aa8 ⟨x1,x2,x3⟩ ⟨y1,y2,y3⟩ ⟨z1,z2,z3⟩).1,rfl,rfl,(Cb7 h).2.ok⟩
 ·exact Rd.sl (λ_=>r1) λ_=>Rd.sl (λ_=>r2) λ_=>r3
 ·exact Rd.sl (λ_=>r1) λ_=>Rd.sl (λ_=>r2) λ_=>r3
theorem Hd4(l:List Int):okp (ya0 l)=true:=(Ne8 l).p
theorem wd2:g3 ⟨1,0,0⟩=1/\g3 ⟨-1,0,0⟩=1/\g3 ⟨0,1,0⟩=1/\g3 ⟨0,-1,0⟩=1/\g3 ⟨0,0,1⟩=1/\g3 ⟨0,0,-1⟩=1:=by decide
structure gd2(c:List Pln):Prop where
 l:c.length<=47
 v:∀p∈c,okp p=true
 f:Hd2 (c++ws)
theorem gd2.chk{c:List Pln}(h:gd2 c):(chk c==0)=true:=by
 rw[beq_iff_eq,Ha3];exact⟨by have:=h.l;omega,h.v⟩
theorem gd2.bds{c:List Pln}(h:gd2 c):Bds (c++ws):=(eb9 h.chk).1
theorem gd2.ful{c:List Pln}(h:gd2 c):ful c=true:=by
 unfold Ce.ful;rw[h.chk,(Lb2 h.bds (Ic0 c) (by simp[ws])).2 h.f]
 rfl
theorem Ne9{lo hi:V3}(h1:Sm 20 lo.x/\Sm 20 lo.y/\Sm 20 lo.z)(h2:Sm 20 hi.x/\Sm 20 hi.y/\Sm 20 hi.z)(h3:lo.x<hi.x/\lo.y<hi.y/\lo.z<hi.z):gd2 (nd3 lo hi):=by
 obtain⟨⟨a1,a2⟩,⟨a3,a4⟩,a5,a6⟩:=h1;obtain⟨⟨b1,b2⟩,⟨b3,b4⟩,b5,b6⟩:=h2;obtain⟨c1,c2,c3⟩:=h3;have w:∀{x:Int},-20<=x->x<=20->W (0-x)=-x:=λh h'=>by rw[ha0 (by omega) (by omega)];omega
 have e:nd3 lo hi=[⟨⟨1,0,0⟩,hi.x⟩,⟨⟨-1,0,0⟩,-lo.x⟩,⟨⟨0,1,0⟩,hi.y⟩,⟨⟨0,-1,0⟩,-lo.y⟩,⟨⟨0,0,1⟩,hi.z⟩,⟨⟨0,0,-1⟩,-lo.z⟩]:=by
  unfold nd3;rw[w a1 a2,w a3 a4,w a5 a6]
 rw[e];refine⟨by simp,λp hp=>?_,⟨⟨lo.x+hi.x,lo.y+hi.y,lo.z+hi.z,2⟩,by show (0:Int)<2;omega,λp hp=>?_⟩⟩
 ·simp only[Qki,Qkw,or_false] at hp;unfold okp;simp only[List.all_cons,List.all_nil,Qkag,Qkl,pb6,beq_iff_eq,Sm]
  rcases hp with rfl|rfl|rfl|rfl|rfl|rfl<;>exact⟨by simp,by first|exact wd2.1|exact wd2.2.1|exact wd2.2.2.1|exact wd2.2.2.2.1|exact wd2.2.2.2.2.1|exact wd2.2.2.2.2.2,by simp only;omega⟩
 ·simp only[ws,List.cons_append,List.nil_append,Qki,Qkw,or_false] at hp
  rcases hp with rfl|rfl|rfl|rfl|rfl|rfl|rfl|rfl|rfl|rfl|rfl|rfl<;>simp only[rmZ]<;>omega
theorem we7{l:List V3}(h:Ic1 l=0):l.all inV=true/\nf0 l=true:=by
 unfold Ic1 at h
 split at h
 ·omega
 ·split at h
  ·rename_i h2
   split at h
   ·rename_i h3;exact⟨h2,h3⟩
   ·omega
  ·omega
theorem rf0(p:Pln)(N:Int)(v x:Pt):rmZ p ⟨N*v.px+x.px,N*v.py+x.py,N*v.pz+x.pz,N*v.pw+x.pw⟩=N*rmZ p v+rmZ p x:=by unfold rmZ;grind
theorem gd2.pts{c:List Pln}(h:gd2 c):pts c=cor (c++ws):=by unfold Ce.pts;rw[if_pos h.chk]
structure Ins(r:List Pln)(x:Pt):Prop where
 w:0<x.pw
 h:∀p∈r,0<rmZ p x
theorem Ins.inr{r:List Pln}{x:Pt}(h:Ins r x):Inr r x:=⟨h.w,λp hp=>Qkaa (h.h p hp)⟩
theorem gd3{r:List Pln}:Hd2 r↔∃x,Ins r x:=⟨λ⟨x,h1,h2⟩=>⟨x,h1,h2⟩,λ⟨x,h⟩=>⟨x,h.w,h.h⟩⟩
theorem Ins.mono{r r':List Pln}{x:Pt}(h:Ins r x)(hs:∀p∈r',p∈r):Ins r' x:=⟨h.w,λp hp=>h.h p (hs p hp)⟩
theorem Inr.mono{r r':List Pln}{x:Pt}(h:Inr r x)(hs:∀p∈r',p∈r):Inr r' x:=⟨h.w,λp hp=>h.h p (hs p hp)⟩
theorem Ins.app{r r':List Pln}{x:Pt}(h:Ins r x)(h':Ins r' x):Ins (r++r') x:=⟨h.w,λp hp=>(Qkb.1 hp).elim (h.h p) (h'.h p)⟩
theorem Inr.app{r r':List Pln}{x:Pt}(h:Inr r x)(h':Inr r' x):Inr (r++r') x:=⟨h.w,λp hp=>(Qkb.1 hp).elim (h.h p) (h'.h p)⟩
def tow(N:Int)(y x:Pt):Pt:=⟨N*y.px+x.px,N*y.py+x.py,N*y.pz+x.pz,N*y.pw+x.pw⟩
theorem rf1(p:Pln)(N:Int)(y x:Pt):rmZ p (tow N y x)=N*rmZ p y+rmZ p x:=rf0 p N y x
theorem far{f g:Pln->Int}:∀l:List Pln,(∀p∈l,0<f p)->∃N:Int,0<=N/\∀M,N<=M->∀p∈l,0<M*f p+g p
 |[],_=>⟨0,Int.le_refl _,λ_ _ p hp=>by cases hp⟩
 |a::l,h=>by
  obtain⟨N,h0,h1⟩:=far l λp hp=>h p (Qkx _ hp)
  have ha:=h a Qkab;refine⟨max N ((g a).natAbs+1),by omega,λM hM p hp=>?_⟩
  rcases Qki.1 hp with rfl|hp
  ·have:M*1<=M*f p:=Int.mul_le_mul_of_nonneg_left (by omega) (by omega)
   omega
  ·exact h1 M (by omega) p hp
theorem Oe0{r:List Pln}{x y:Pt}(hy:Inr r y)(hx:Ins r x)(l:List Pln)(hl:∀p∈l,0<rmZ p y):∃z,Ins (r++l) z:=by
 obtain⟨N,h0,h1⟩:=far (f:=λp=>rmZ p y) (g:=λp=>rmZ p x) l hl
 refine⟨tow N y x,by have:=Qkav h0 (Qkaa hy.w);have:=hx.w;unfold tow;simp only;omega,λp hp=>?_⟩
 rw[rf1]
 rcases Qkb.1 hp with hp|hp
 ·have:=Qkav h0 (hy.h p hp)
  have:=hx.h p hp
  omega
 ·exact h1 N (Int.le_refl _) p hp
def mvd(N:Int)(x:Pt)(d:V3):Pt:=⟨N*x.px+d.x,N*x.py+d.y,N*x.pz+d.z,N*x.pw⟩
theorem gd4(p:Pln)(N:Int)(x:Pt)(d:V3):rmZ p (mvd N x d)=N*rmZ p x+-dot p.n d:=by simp only[rmZ,mvd,dot];grind
theorem oe0{r:List Pln}{x:Pt}(hx:Ins r x)(d:V3):∃N:Int,0<N/\Ins r (mvd N x d):=by
 obtain⟨N,h0,h1⟩:=far (f:=λp=>rmZ p x) (g:=λp=>-dot p.n d) r hx.h
 refine⟨N+1,by omega,by have:=Qkak (show 0<N+1 by omega) hx.w;unfold mvd;simp only;omega,λp hp=>?_⟩
 rw[gd4];exact h1 (N+1) (by omega) p hp
theorem rf2:∀p∈ws,okp p=true:=Qkm.1 (by decide)
theorem Bc9{n:V3}(h:n≠⟨0,0,0⟩):0<dot n n:=by
 have k:∀a:Int,0<=a*a/\(a≠0->0<a*a):=λa=>by
  rcases Int.lt_trichotomy a 0 with h|h|h
  ·have:=Qkaq h h;exact⟨by omega,λ_=>this⟩
  ·subst h;exact⟨by decide,λh=>absurd rfl h⟩
  ·have:=Qkak h h;exact⟨by omega,λ_=>this⟩
 unfold dot
 have:=k n.x;have:=k n.y;have:=k n.z
 by_cases hx:n.x=0
 ·by_cases hy:n.y=0
  ·by_cases hz:n.z=0
   ·exact absurd (Qkax hx hy hz) h
   ·have:=(k n.z).2 hz;omega
  ·have:=(k n.y).2 hy;omega
 ·have:=(k n.x).2 hx;omega
theorem tb9{c:List Pln}(h:(chk c==0)=true):∀p∈c++ws,okp p=true:=λp hp=>by
 rw[beq_iff_eq,Ha3] at h
 rcases Qkb.1 hp with hp|hp
 ·exact h.2 p hp
 ·exact rf2 p hp
theorem N0{c:List Pln}:ful c=true↔(chk c==0)=true/\∃x,Ins (c++ws) x:=by
 unfold ful;rw[Qkl];constructor
 ·rintro⟨h1,h2⟩;exact⟨h1,gd3.1 ((Lb2 (eb9 h1).1 (Ic0 c) (by simp[ws])).1 h2)⟩
 ·rintro⟨h1,h2⟩;exact⟨h1,(Lb2 (eb9 h1).1 (Ic0 c) (by simp[ws])).2 (gd3.2 h2)⟩
theorem Ic4{a c:List Pln}(ha:(chk a==0)=true)(hc:(chk c==0)=true):apart a c=true↔∀z,Ins (a++ws) z->Ins (c++ws) z->False:=by
 unfold apart;rw[ha,hc];have hb:=(Ud5 ha hc).1;have h:=Lb2 (r:=a++c++ws) hb (Ic0 (a++c)) (by simp[ws])
 have key:Qc0 (a++c++ws)=true↔∃z,Ins (a++ws) z/\Ins (c++ws) z:=by
  rw[h,gd3];constructor
  ·rintro⟨z,hz⟩;exact⟨z,hz.mono λp hp=>by simp only[Qkb] at hp ⊢;rcases hp with h | h<;>simp[h],hz.mono λp hp=>by simp only[Qkb] at hp ⊢;rcases hp with h | h<;>simp[h]⟩
  ·rintro⟨z,h1,h2⟩;exact⟨z,(h1.app h2).mono λp hp=>by simp only[Qkb] at hp ⊢;rcases hp with (h | h) | h<;>simp[h]⟩
 constructor
 ·intro h z h1 h2;rw[key.2 ⟨z,h1,h2⟩] at h;cases h
 ·intro h;cases hb:Qc0 (a++c++ws) with
  |false=>rfl
  |true =>
   obtain⟨z,h1,h2⟩:=key.1 hb;exact (h z h1 h2).elim
theorem va8{c:List Pln}{p:Pln}(h:p∈lean c):p∈c:=by
 cases hf:ful c with
 |true=>exact ((Wd3 hf p).1 h).1
 |false=>unfold lean at h;rw[hf] at h;cases h
theorem af9{c:List Pln}(hf:ful c=false):lean c=[]:=by unfold lean;rw[hf];rfl
theorem Pa8{c:List Pln}(hf:ful c=true){z:Pt}:Inr (lean c++ws) z↔Inr (c++ws) z:=by
 obtain⟨hc,hb,hB⟩:=gd1 hf;constructor
 ·intro h;have hpts:pts c=cor (c++ws):=by unfold pts;rw[if_pos hc]
  refine ne9 hb hB (c.filter λp=>!keep (pts c) p) (λp hp=>?_) z ⟨h.w,λp hp=>?_⟩
  ·obtain⟨h1,h2⟩:=Qks.1 hp;refine⟨h1,?_⟩;rw[hpts] at h2;unfold keep at h2;simp only[Bool.not_not,decide_eq_true_eq] at h2;omega
  ·obtain⟨h1,h2⟩:=(qb5 _ _ _).1 hp;by_cases hw:p∈ws
   ·exact h.h p (Qkf _ hw)
   ·have h2:=h2.resolve_left hw;have h1:=(Qkb.1 h1).resolve_right hw;have hk:keep (pts c) p=true:=by
     cases hk:keep (pts c) p with
     |true=>rfl
     |false=>exact absurd (Qks.2 ⟨h1,by rw[hk];rfl⟩) h2
    exact h.h p (Qka _ ((Wd3 hf p).2 ⟨h1,hk⟩))
 ·exact λh=>h.mono λp hp=>(Qkb.1 hp).elim (λh=>Qka _ (va8 h)) (Qkf _)
theorem xb8{c:List Pln}(hf:ful c=true){z:Pt}:Ins (lean c++ws) z↔Ins (c++ws) z:=by
 obtain⟨hc,hb,hB⟩:=gd1 hf;constructor
 ·intro h;refine⟨h.w,λp hp=>?_⟩
  have h0:=((Pa8 hf).1 h.inr).h p hp;by_cases hz:rmZ p z=0
  ·exfalso;obtain⟨N,hN,hi⟩:=oe0 h p.n;have h1:=((Pa8 hf).1 hi.inr).h p hp;rw[gd4,hz] at h1
   have:=Bc9 (Nc0 (tb9 hc p hp))
   omega
  ·omega
 ·exact λh=>h.mono λp hp=>(Qkb.1 hp).elim (λh=>Qka _ (va8 h)) (Qkf _)
theorem Wd6{c:List Pln}(hc:(chk c==0)=true):(chk (lean c)==0)=true:=by
 rw[beq_iff_eq,Ha3] at hc ⊢;exact⟨Qkq (ec0 c) hc.1,λp hp=>hc.2 p (va8 hp)⟩
theorem gd5{c:List Pln}(hf:ful c=true):ful (lean c)=true:=by
 obtain⟨h1,x,hx⟩:=N0.1 hf;exact N0.2 ⟨Wd6 h1,x,(xb8 hf).2 hx⟩
theorem Rb3(c:List Pln):(lean c).Nodup:=by
 unfold lean;split
 ·exact wd1 (Me0 _)
 ·exact .nil
theorem we8{r:List Pln}{p:Pln}(hf:ful (r++[o3 p])=true){x:Pt}(hx:Inr (r++ws) x)(h:0<rmZ p x):o3 p∈lean (r++[o3 p]):=by
 apply Qkas;intro hn;have h1:Inr (lean (r++[o3 p])++ws) x:=hx.mono λq hq=>by
  rcases Qkb.1 hq with hq|hq
  ·have:=va8 hq
   rcases Qkb.1 this with h2|h2
   ·exact Qka _ h2
   ·rw[Qkd.1 h2] at hq;exact absurd hq hn
  ·exact Qkf _ hq
 have:=((Pa8 hf).1 h1).h (o3 p) (by simp)
 rw[R2] at this;omega
theorem oe1{l m:List Pln}(hl:l.Nodup)(h:∀p∈l,p∈m):l.length<=m.length:=List.Nodup.length_le_of_subset hl h
noncomputable def B7(x fs:List Pln):Nat->List Pln
 |0=>x
 |j+1=>lean (B7 x fs j++[gL tP fs j])
noncomputable def Ba4(x fs:List Pln)(j:Nat):List Pln:=lean (B7 x fs j++[o3 (gL tP fs j)])
noncomputable def Ea6(x fs:List Pln)(j:Nat):List (List Pln):=((List.range j).map (Ba4 x fs)).filter λc=>decide (0<c.length)
noncomputable def va9(x fs:List Pln):Bool:=(List.range fs.length).all λj=>decide ((B7 x fs j).length<48)
noncomputable def ya7(q x:List Pln):List (List Pln):=if apart x q then [x] else Ea6 x (lean q) (lean q).length
noncomputable def Ma6(q x:List Pln):Bool:=apart x q||va9 x (lean q)
noncomputable def E8(ps:List (List Pln))(q:List Pln):Option (List (List Pln)) :=
 if ful q then (if ps.all (Ma6 q)&&decide ((ps.flatMap (ya7 q)).length<=200) then some (ps.flatMap (ya7 q)) else none) else some ps
noncomputable def oa8(c:List Pln)(s:List (List Pln)):Option (List (List Pln)) :=
 s.foldl (λst q=>st.bind λps=>E8 ps q) (some (if ful c then [lean c] else []))
theorem xb9{x fs:List Pln}{n:Nat}{y:List Pln}:y∈Ea6 x fs n↔∃j,j<n/\y=Ba4 x fs j/\y≠[]:=by
 unfold Ea6;rw[Qks,List.mem_map];constructor
 ·rintro⟨⟨j,hj,rfl⟩,h⟩;exact⟨j,Qkn.1 hj,rfl,λe=>by rw[e] at h;simp at h⟩
 ·rintro⟨j,hj,rfl,h⟩;exact⟨⟨j,Qkn.2 hj,rfl⟩,by simpa using List.length_pos_iff.2 h⟩
section
variable{x fs:List Pln}(hx:(chk x==0)=true)(hf:∀p∈fs,okp p=true){z0:Pt}(h1:Ins (x++ws) z0)(h2:Ins (fs++ws) z0)(h48:va9 x fs=true)
include hx hf h1 h2 h48
theorem gLp{fs:List Pln}{j:Nat}(hj:j<fs.length):gL tP fs j∈fs:=ta9 tP hj
theorem Wd7{j:Nat}(hj:j<fs.length):(B7 x fs j).length<48:=by
 have:=Qkm.1 h48 j (Qkn.2 hj)
 simpa using this
theorem ic4 : ∀ j, j ≤ fs.length → (chk (B7 x fs j) == 0) = true ∧ (∀ z, Inr (B7 x fs j ++ ws) z ↔ Inr (x ++ ws) z ∧ ∀ i, i < j → 0 ≤ rmZ (gL tP fs i) z) ∧
  (∀z,Ins (B7 x fs j++ws) z↔Ins (x++ws) z/\∀i,i<j->0<rmZ (gL tP fs i) z)
 |0,_=>⟨hx,λz=>⟨λh=>⟨h,λi hi=>absurd hi (Qkai i)⟩,λh=>h.1⟩,λz=>⟨λh=>⟨h,λi hi=>absurd hi (Qkai i)⟩,λh=>h.1⟩⟩
 |j+1,hj=>by
  obtain⟨k1,k2,k3⟩:=ic4 j (by omega)
  have hl:=Wd7 hx hf h1 h2 h48 (show j<fs.length by omega)
  have hpj:=hf _ (gLp hx hf h1 h2 h48 (show j<fs.length by omega))
  have hc:(chk (B7 x fs j++[gL tP fs j])==0)=true:=by
   rw[beq_iff_eq,Ha3] at k1 ⊢;refine⟨by rw[Qkg];simp only[List.length_singleton];omega,λp hp=>?_⟩
   rcases Qkb.1 hp with hp|hp
   ·exact k1.2 p hp
   ·rw[Qkd.1 hp];exact hpj
  have h0:Ins (B7 x fs j++ws) z0:=(k3 z0).2 ⟨h1,λi hi=>h2.h _ (Qka _ (gLp hx hf h1 h2 h48 (by omega)))⟩
  have hz:0<rmZ (gL tP fs j) z0:=h2.h _ (Qka _ (gLp hx hf h1 h2 h48 (by omega)))
  have hful:ful (B7 x fs j++[gL tP fs j])=true:=N0.2 ⟨hc,z0,h0.w,λp hp=>by
   simp only[Qkb,Qkd] at hp
   rcases hp with (hp|rfl)|hp
   ·exact h0.h p (Qka _ hp)
   ·exact hz
   ·exact h0.h p (Qkf _ hp)⟩
  refine⟨Wd6 hc,λz=>?_,λz=>?_⟩
  ·show Inr (lean (B7 x fs j++[gL tP fs j])++ws) z↔_;rw[Pa8 hful];constructor
   ·intro h;obtain⟨a1,a2⟩:=(k2 z).1 (h.mono λp hp=>by simp only[Qkb] at hp ⊢;rcases hp with h|h<;>simp[h])
    refine⟨a1,λi hi=>?_⟩
    by_cases e:i=j
    ·subst e;exact h.h _ (by simp)
    ·exact a2 i (by omega)
   ·rintro⟨a1,a2⟩
    have:=(k2 z).2 ⟨a1,λi hi=>a2 i (by omega)⟩
    refine⟨a1.w,λp hp=>?_⟩
    simp only[Qkb,Qkd] at hp
    rcases hp with (hp|rfl)|hp
    ·exact this.h p (Qka _ hp)
    ·exact a2 j (by omega)
    ·exact this.h p (Qkf _ hp)
  ·show Ins (lean (B7 x fs j++[gL tP fs j])++ws) z↔_;rw[xb8 hful];constructor
   ·intro h;obtain⟨a1,a2⟩:=(k3 z).1 (h.mono λp hp=>by simp only[Qkb] at hp ⊢;rcases hp with h|h<;>simp[h])
    refine⟨a1,λi hi=>?_⟩
    by_cases e:i=j
    ·subst e;exact h.h _ (by simp)
    ·exact a2 i (by omega)
   ·rintro⟨a1,a2⟩
    have:=(k3 z).2 ⟨a1,λi hi=>a2 i (by omega)⟩
    refine⟨a1.w,λp hp=>?_⟩
    simp only[Qkb,Qkd] at hp
    rcases hp with (hp|rfl)|hp
    ·exact this.h p (Qka _ hp)
    ·exact a2 j (by omega)
    ·exact this.h p (Qkf _ hp)
theorem gd6 {j : Nat} (hj : j < fs.length) : (Ba4 x fs j = [] ↔ ful (B7 x fs j ++ [o3 (gL tP fs j)]) = false) ∧ (Ba4 x fs j ≠ [] → ful (Ba4 x fs j) = true ∧
  (∀z,Inr (Ba4 x fs j++ws) z↔Inr (B7 x fs j++ws) z/\rmZ (gL tP fs j) z<=0)/\∀z,Ins (Ba4 x fs j++ws) z↔Ins (B7 x fs j++ws) z/\rmZ (gL tP fs j) z<0):=by
 obtain⟨k1,k2,k3⟩:=ic4 hx hf h1 h2 h48 j (by omega)
 have h0:Ins (B7 x fs j++ws) z0:=(k3 z0).2 ⟨h1,λi hi=>h2.h _ (Qka _ (gLp hx hf h1 h2 h48 (by omega)))⟩
 have hz:0<rmZ (gL tP fs j) z0:=h2.h _ (Qka _ (gLp hx hf h1 h2 h48 (by omega)))
 have e:Ba4 x fs j=[]↔ful (B7 x fs j++[o3 (gL tP fs j)])=false:=by
  constructor
  ·intro he;cases hq:ful (B7 x fs j++[o3 (gL tP fs j)]) with
   |false=>rfl
   |true =>
    have:=we8 hq h0.inr hz
    unfold Ba4 at he;rw[he] at this;cases this
  ·exact af9
 refine⟨e,λhne=>?_⟩
 have hful:ful (B7 x fs j++[o3 (gL tP fs j)])=true:=by
  cases hq:ful (B7 x fs j++[o3 (gL tP fs j)]) with
  |true=>rfl
  |false=>exact absurd (e.2 hq) hne
 refine⟨gd5 hful,λz=>?_,λz=>?_⟩
 ·unfold Ba4;rw[Pa8 hful];constructor
  ·intro h;refine⟨h.mono λp hp=>by simp only[Qkb] at hp ⊢;rcases hp with h | h<;>simp[h],?_⟩
   have:=h.h (o3 (gL tP fs j)) (by simp)
   rw[R2] at this;omega
  ·rintro⟨a1,a2⟩;refine⟨a1.w,λp hp=>?_⟩
   simp only[Qkb,Qkd] at hp
   rcases hp with (hp|rfl)|hp
   ·exact a1.h p (Qka _ hp)
   ·rw[R2];omega
   ·exact a1.h p (Qkf _ hp)
 ·unfold Ba4;rw[xb8 hful];constructor
  ·intro h;refine⟨h.mono λp hp=>by simp only[Qkb] at hp ⊢;rcases hp with h | h<;>simp[h],?_⟩
   have:=h.h (o3 (gL tP fs j)) (by simp)
   rw[R2] at this;omega
  ·rintro⟨a1,a2⟩;refine⟨a1.w,λp hp=>?_⟩
   simp only[Qkb,Qkd] at hp
   rcases hp with (hp|rfl)|hp
   ·exact a1.h p (Qka _ hp)
   ·rw[R2];omega
   ·exact a1.h p (Qkf _ hp)
theorem oe2:∀j,j<=fs.length->∀z,Inr (x++ws) z->(∃y∈Ea6 x fs j,Inr (y++ws) z)\/∀i,i<j->0<=rmZ (gL tP fs i) z
 |0,_,z,_=>.inr λi hi=>absurd hi (Qkai i)
 |j+1,hj,z,hz=>by
  rcases oe2 j (by omega) z hz with⟨y,hy,h⟩|h
  ·obtain⟨i,hi,h3,h4⟩:=xb9.1 hy;exact .inl ⟨y,xb9.2 ⟨i,by omega,h3,h4⟩,h⟩
  ·obtain⟨k1,k2,k3⟩:=ic4 hx hf h1 h2 h48 j (by omega)
   have hr:Inr (B7 x fs j++ws) z:=(k2 z).2 ⟨hz,h⟩;by_cases hn:0<=rmZ (gL tP fs j) z
   ·refine .inr λi hi=>?_
    by_cases e:i=j
    ·subst e;exact hn
    ·exact h i (by omega)
   ·left;obtain⟨c1,c2⟩:=gd6 hx hf h1 h2 h48 (show j<fs.length by omega)
    have h0:Ins (B7 x fs j++ws) z0:=(k3 z0).2 ⟨h1,λi hi=>h2.h _ (Qka _ (gLp hx hf h1 h2 h48 (by omega)))⟩
    obtain⟨y,hy⟩:=Oe0 hr h0 [o3 (gL tP fs j)] (λp hp=>by rw[Qkd.1 hp,R2];omega)
    have hne:Ba4 x fs j≠[]:=λe=>by
     have hq:=c1.1 e;have hl:=Wd7 hx hf h1 h2 h48 (show j<fs.length by omega)
     have hc:(chk (B7 x fs j++[o3 (gL tP fs j)])==0)=true:=by
      rw[beq_iff_eq,Ha3] at k1 ⊢;refine⟨by rw[Qkg];simp only[List.length_singleton];omega,λp hp=>?_⟩
      rcases Qkb.1 hp with hp|hp
      ·exact k1.2 p hp
      ·rw[Qkd.1 hp];exact Ya8 (hf _ (gLp hx hf h1 h2 h48 (by omega)))
     have hs:∀p∈B7 x fs j++[o3 (gL tP fs j)]++ws,p∈B7 x fs j++ws++[o3 (gL tP fs j)]:=λp hp=>by
      simp only[Qkb] at hp ⊢
      rcases hp with (h|h)|h
      ·exact .inl (.inl h)
      ·exact .inr h
      ·exact .inl (.inr h)
     have:=N0.2 ⟨hc,y,hy.mono hs⟩
     rw[hq] at this;cases this
    exact⟨_,xb9.2 ⟨j,by omega,rfl,hne⟩,((c2 hne).2.1 z).2 ⟨hr,by omega⟩⟩
theorem rf3 : (∀ y ∈ Ea6 x fs fs.length, ful y = true ∧ (∀ z, Inr (y ++ ws) z → Inr (x ++ ws) z) ∧ ∀ z, Ins (y ++ ws) z → Inr (fs ++ ws) z → False) ∧
  (Ea6 x fs fs.length).Pairwise λa b=>∀z,Ins (a++ws) z->Ins (b++ws) z->False:=by
 refine⟨λy hy=>?_,?_⟩
 ·obtain⟨j,hj,rfl,hne⟩:=xb9.1 hy;obtain⟨c1,c2,c3⟩:=(gd6 hx hf h1 h2 h48 hj).2 hne;obtain⟨k1,k2,k3⟩:=ic4 hx hf h1 h2 h48 j (by omega)
  refine⟨c1,λz hz=>((k2 z).1 ((c2 z).1 hz).1).1,λz hz hq=>?_⟩
  have:=((c3 z).1 hz).2
  have:=hq.h _ (Qka _ (gLp hx hf h1 h2 h48 hj))
  omega
 ·unfold Ea6;rw[List.pairwise_filter,List.pairwise_map];refine List.pairwise_lt_range.imp_of_mem λ{a b} ha hb hab p1 p2 z z1 z2=>?_
  have ha:=Qkn.1 ha;have hb:=Qkn.1 hb;have n1:Ba4 x fs a≠[]:=λe=>by rw[e] at p1;simp at p1
  have n2:Ba4 x fs b≠[]:=λe=>by rw[e] at p2;simp at p2
  have q1:=(((gd6 hx hf h1 h2 h48 ha).2 n1).2.2 z).1 z1;have q2:=(((gd6 hx hf h1 h2 h48 hb).2 n2).2.2 z).1 z2;have q3:=((ic4 hx hf h1 h2 h48 b (by omega)).2.2 z).1 q2.1
  have:=q3.2 a hab
  omega
end
structure Pcs(c:List Pln)(S ps:List (List Pln)):Prop where
 ful:∀y∈ps,ful y=true
 sub:∀y∈ps,∀z,Inr (y++ws) z->Inr (c++ws) z
 off:∀y∈ps,∀s∈S,Ce.ful s=true->∀z,Ins (y++ws) z->Inr (s++ws) z->False
 dis:ps.Pairwise λa b=>∀z,Ins (a++ws) z->Ins (b++ws) z->False
 cov:∀z,Inr (c++ws) z->(∃y∈ps,Inr (y++ws) z)\/∃s∈S,Ce.ful s=true/\Inr (s++ws) z
theorem we9{c:List Pln}:Pcs c [] (if ful c then [lean c] else [])\/ful c=false:=by
 cases hf:ful c with
 |false=>exact .inr rfl
 |true =>
  refine .inl ⟨λy hy=>?_,λy hy z hz=>?_,λ_ _ s hs=>(by cases hs),?_,λz hz=>.inl ⟨lean c,by simp,(Pa8 hf).2 hz⟩⟩
  ·rw[if_pos rfl] at hy;rw[Qkd.1 hy];exact gd5 hf
  ·rw[if_pos rfl] at hy;rw[Qkd.1 hy] at hz;exact (Pa8 hf).1 hz
  ·rw[if_pos rfl];exact Qkad _ _
theorem Ic5{a c:List Pln}(ha:ful a=true)(hc:ful c=true)(h:apart a c=false):∃z,Ins (a++ws) z/\Ins (c++ws) z:=by
 apply Qkas;intro hn
 have:=(Ic4 (N0.1 ha).1 (N0.1 hc).1).2 λz z1 z2=>hn ⟨z,z1,z2⟩
 rw[h] at this;cases this
theorem oe3 {q x : List Pln} (hq : ful q = true) (hx : ful x = true) (h48 : Ma6 q x = true) :
  (∀y∈ya7 q x,ful y=true/\(∀z,Inr (y++ws) z->Inr (x++ws) z)/\∀z,Ins (y++ws) z->Inr (q++ws) z->False) /\
  ((ya7 q x).Pairwise λa b=>∀z,Ins (a++ws) z->Ins (b++ws) z->False) /\
  ∀z,Inr (x++ws) z->(∃y∈ya7 q x,Inr (y++ws) z)\/Inr (q++ws) z:=by
 unfold ya7;cases ha:apart x q with
 |true =>
  rw[if_pos rfl];refine⟨λy hy=>?_,Qkad _ _,λz hz=>.inl ⟨x,by simp,hz⟩⟩
  rw[Qkd.1 hy];refine⟨hx,λ_ h=>h,λz z1 z2=>?_⟩
  obtain⟨_,z0,h0⟩:=N0.1 hq;obtain⟨u,hu⟩:=Oe0 z2 h0 (x++ws) z1.h;exact (Ic4 (N0.1 hx).1 (N0.1 hq).1).1 ha u (hu.mono λp hp=>Qkf _ hp) (hu.mono λp hp=>Qka _ hp)
 |false =>
  rw[if_neg (by decide)]
  unfold Ma6 at h48;rw[ha,Bool.false_or] at h48;obtain⟨z0,z1,z2⟩:=Ic5 hx hq ha;have hf:∀p∈lean q,okp p=true:=λp hp=>tb9 (N0.1 hq).1 p (Qka _ (va8 hp))
  obtain⟨o1,o2⟩:=rf3 (N0.1 hx).1 hf z1 ((xb8 hq).2 z2) h48;refine⟨λy hy=>⟨(o1 y hy).1,(o1 y hy).2.1,λz a1 a2=>(o1 y hy).2.2 z a1 ((Pa8 hq).2 a2)⟩,o2,λz hz=>?_⟩
  rcases oe2 (N0.1 hx).1 hf z1 ((xb8 hq).2 z2) h48 _ (Qkt _) z hz with h|h
  ·exact .inl h
  ·refine .inr ((Pa8 hq).1 ⟨hz.w,λp hp=>?_⟩)
   rcases Qkb.1 hp with hp|hp
   ·obtain⟨i,hi,rfl⟩:=List.getElem_of_mem hp
    have:=h i hi
    rw[show gL tP (lean q) i=(lean q)[i] by simp[gL,Qkj,Qkh hi]] at this
    exact this
   ·exact hz.h p (Qkf _ hp)
theorem ge5{c:List Pln}{S ps ps':List (List Pln)}{q:List Pln}(h:Pcs c S ps)(hw:E8 ps q=some ps'):Pcs c (S++[q]) ps':=by
 unfold E8 at hw;cases hq:ful q with
 |false =>
  rw[hq,if_neg (by decide)] at hw
  injection hw with hw;subst hw;refine⟨h.ful,h.sub,λy hy s hs hf=>?_,h.dis,λz hz=>?_⟩
  ·rcases Qkb.1 hs with hs|hs
   ·exact h.off y hy s hs hf
   ·rw[Qkd.1 hs,hq] at hf;cases hf
  ·exact (h.cov z hz).imp id λ⟨s,hs,h⟩=>⟨s,Qka _ hs,h⟩
 |true =>
  rw[hq,if_pos rfl] at hw
  split at hw
  case isFalse=>cases hw
  rename_i hr;injection hw with hw;subst hw;rw[Qkl,Qkm] at hr;have hp:=λx (hx:x∈ps)=>oe3 hq (h.ful x hx) (hr.1 x hx)
  refine⟨λy hy=>?_,λy hy=>?_,λy hy s hs hf z z1 z2=>?_,?_,λz hz=>?_⟩
  ·obtain⟨x,hx,hy⟩:=Qkz.1 hy;exact ((hp x hx).1 y hy).1
  ·obtain⟨x,hx,hy⟩:=Qkz.1 hy;exact λz hz=>h.sub x hx z (((hp x hx).1 y hy).2.1 z hz)
  ·obtain⟨x,hx,hy⟩:=Qkz.1 hy;obtain⟨k1,k2,k3⟩:=(hp x hx).1 y hy
   rcases Qkb.1 hs with hs|hs
   ·-- Oe0 z there are inner points of the piece that are inner points of x
    have zx:Ins (x++ws) z:=by
     obtain⟨_,x0,hx0⟩:=N0.1 (h.ful x hx);refine⟨z1.w,λp hp=>?_⟩
     have h0:=(k2 z z1.inr).h p hp;by_cases e:rmZ p z=0
     ·exfalso;obtain⟨N,hN,hi⟩:=oe0 z1 p.n;have h1:=(k2 _ hi.inr).h p hp;rw[gd4,e] at h1
      have:=Bc9 (Nc0 (tb9 (N0.1 (h.ful x hx)).1 p hp))
      omega
     ·omega
    exact h.off x hx s hs hf z zx z2
   ·rw[Qkd.1 hs] at z2;exact k3 z z1 z2
  ·rw[List.pairwise_flatMap];refine⟨λx hx=>(hp x hx).2.1,h.dis.imp_of_mem λ{a b} ha hb hab u hu v hv z z1 z2=>?_⟩
   have up:∀{x u:List Pln},x∈ps->u∈ya7 q x->Ins (u++ws) z->Ins (x++ws) z:=λ{x u} hx hu z1=>by
    obtain⟨k1,k2,k3⟩:=(hp x hx).1 u hu;refine⟨z1.w,λp hp=>?_⟩
    have h0:=(k2 z z1.inr).h p hp;by_cases e:rmZ p z=0
    ·exfalso;obtain⟨N,hN,hi⟩:=oe0 z1 p.n;have h1:=(k2 _ hi.inr).h p hp;rw[gd4,e] at h1
     have:=Bc9 (Nc0 (tb9 (N0.1 (h.ful x hx)).1 p hp))
     omega
    ·omega
   exact hab z (up ha hu z1) (up hb hv z2)
  ·rcases h.cov z hz with⟨x,hx,hxz⟩|⟨s,hs,h'⟩
   ·rcases (hp x hx).2.2 z hxz with⟨y,hy,hyz⟩|h'
    ·exact .inl ⟨y,Qkz.2 ⟨x,hx,hy⟩,hyz⟩
    ·exact .inr ⟨q,by simp,hq,h'⟩
   ·exact .inr ⟨s,Qka _ hs,h'⟩
theorem Tb6(s:List (List Pln)):s.foldl (λst q=>st.bind λps=>E8 ps q) none=none:=by
 induction s with
 |nil=>rfl
 |cons q s ih=>exact ih
theorem gd7{c:List Pln}:∀(s S ps:List (List Pln)) (r:List (List Pln)),Pcs c S ps->s.foldl (λst q=>st.bind λps=>E8 ps q) (some ps)=some r->Pcs c (S++s) r
 |[],S,ps,r,h,e=>by injection e with e;subst e;rw[List.append_nil];exact h
 |q::s,S,ps,r,h,e=>by
  have e:s.foldl (λst q=>st.bind λps=>E8 ps q) (E8 ps q)=some r:=e
  cases hw:E8 ps q with
  |none=>rw[hw,Tb6] at e;cases e
  |some ps' =>
   rw[hw] at e
   have:=gd7 s (S++[q]) ps' r (ge5 h hw) e
   rw[Qkao] at this;exact this
theorem Oe1{c:List Pln}{s r:List (List Pln)}(hc:ful c=true)(h:oa8 c s=some r):Pcs c s r:=by
 have hs:Pcs c [] (if ful c then [lean c] else []):=we9.resolve_right (by rw[hc];decide)
 exact gd7 s [] _ r hs h
theorem xe0{c:List Pln}{s r:List (List Pln)}(hc:ful c=true)(h:oa8 c s=some r):r=[]↔∀z,Inr (c++ws) z->∃q∈s,ful q=true/\Inr (q++ws) z:=by
 have hp:=Oe1 hc h;constructor
 ·rintro rfl z hz;exact (hp.cov z hz).resolve_left λ⟨_,hy,_⟩=>by cases hy
 ·intro hall;cases r with
  |nil=>rfl
  |cons y r =>
   exfalso;obtain⟨_,z,hz⟩:=N0.1 (hp.ful y (by simp))
   obtain⟨q,hq,hf,hi⟩:=hall z (hp.sub y (by simp) z hz.inr)
   exact hp.off y (by simp) q hq hf z hz hi
set_option maxRecDepth 100000
noncomputable def Hd5:List (Nat×Sum):=[]
theorem pd4:i9 prog G Hd5:=trivial
noncomputable def ec1(x:V3)(y:V3):V3:=(⟨W (x.x-y.x),W (x.y-y.y),W (x.z-y.z)⟩:V3)
noncomputable def Nc1:Sum:=ta8 (fa0 tV) (fa0 tV) (λx y=>.ret ((one r1V).enc (ec1 x y),[]))
theorem Hd6:g7 prog G 108 Nc1:=Da9 (bd Ff9 pd4) λx y=>y5 (by kernel_rfl)
noncomputable def pd5:List (Nat×Sum):=[(108,Nc1)]
theorem gd8:i9 prog G pd5:=⟨Hd6,trivial⟩
noncomputable def ya8(x:Pln):Pln:=let t1:=(ec1 (⟨0,0,0⟩:V3) x.n);(⟨t1,W (0-x.b)⟩:Pln)
noncomputable def Rb4:Sum:=V1 (fa0 tP) (λx=>.ret ((one r1P).enc (ya8 x),[]))
theorem mc9:g7 prog G 52 Rb4:=Bb1 (bd b52 gd8) λx=>y5 (by kernel_rfl)
noncomputable def ec2:List (Nat×Sum):=[(97,pb0)]
theorem Rc0:i9 prog G ec2:=⟨Fb3,trivial⟩
structure Ba5 where
 yb8:List (List Pln)
 ra5:Int
structure T0 where
 p4:Int
noncomputable def Lb3(p:Ba5)(s:T0):St:=⟨ra 9 (eL (tLs tP) p.yb8::i p.ra5::i s.p4::ra 9 []),[]⟩
noncomputable def ra1{α:Type}(k:T0->α)(e:Nat->α)(z:α)(p:Ba5)(s:T0):α:=let t1:=(qa3 (rt tP (gL (tLs tP) p.yb8 s.p4.toNat)));(sl (decide (s.p4<p.ra5)) (sl (inB s.p4 (List.length p.yb8)) (sl (okE tP (gL (tLs tP) p.yb8 s.p4.toNat)) (sl (Ja9 (rt tP (gL (tLs tP) p.yb8 s.p4.toNat))) (sl (t1 != 0) (e 1) (k ⟨W (s.p4+1)⟩)) z) z) z) (e 2))
noncomputable def wa0(p:Ba5)(s:T0):Stp T0:=ra1 .next .exit .fail p s
noncomputable def nb4:Lo Ba5 T0:=⟨En ec2,0,vf0,[1,1,0,1,4,4],[9,10,11],.p,[⟨ru2 9 (.s (.c 1 (nL (tLs tP)))::sIq::sIq::ru2 9 []),[],λa H=>(⟨rL (tLs tP) (slT a 9),aIq a 10⟩,⟨aIq a 11⟩)⟩],wa0,[(none,λp s=>let t1:=(qa3 (rt tP (gL (tLs tP) p.yb8 s.p4.toNat)));⟨[i t1],[]⟩),(some 0,λp s=>upq (Lb3 p s) [(12,b (decide (s.p4<p.ra5)))])],Lb3⟩
theorem Ic6:nb4.Ok:=Lo.ok [] (by kernel_rfl) .nil rfl (.cons (λa H=>by kernel_rfl) .nil) λp s=>(.of @ra1 (λF _ _ _ _ _=>by unfold ra1;(repeat' apply m8 (f:=F))<;>rfl) (by kernel_rfl))
noncomputable def Pa9(x:List (List Pln)):Option (b7×List b9):=let t1:=(lp (wa0 (⟨rt (tLs tP) x,(↑(List.length x):Int)⟩:Ba5)) (⟨0⟩:T0));let t2:=(qa3 (rt tP (gL (tLs tP) (rt (tLs tP) x) t1.2.p4.toNat)));(sl (decide ((↑(List.length x):Int)>16)) (some (i 2,[])) (sl ((cnE (tLs tP) x)&&true) (sl (Nat.beq t1.1 1) (some (i t2,[])) (sl (Nat.beq t1.1 2) (some (i 0,[])) none)) none))
noncomputable def U9(x:List (List Pln)):Int:=N9 (one r1I) (Pa9 x)
noncomputable def V0(x:List (List Pln)):Bool:=okO (one r1I) (Pa9 x)
noncomputable def fb5:Sum:=V1 (R5 (tLs tP)) (λx=>.guard (V0 x) (.ret ((one r1I).enc (U9 x),[])))
theorem yb0:g7 prog G 49 fb5:=Fa2 (bd b49 Rc0) (one r1I) (o:=Pa9) λx=>xa3 (.s .p (.s .p (.s (.s .p (.b (.u nb4.ls))) .p))) [nb4.pr] (by kernel_rfl) (.cons Ic6 .nil) (by kernel_rfl)
noncomputable def ec3:List (Nat×Sum):=[]
theorem Rc1:i9 prog G ec3:=trivial
@[reducible] noncomputable def nc0:Sum:=Hb5 (En ec3) ff0
theorem gd9:g7 prog G 155 nc0:=bd If3 Rc1
noncomputable def db4:List (Nat×Sum):=[(55,Ha1),(98,Rb2),(56,qb1),(52,Rb4),(166,Da5),(155,nc0)]
theorem Cc0:i9 prog G db4:=⟨Ka0,mc8,Hb0,mc9,Xa4,gd9,trivial⟩
structure y7 where
 y8:List Pln
 ra5:Int
 (Id6 Id7:List Pln)
 Uc4:List (List Pln)
 (df3 df4:Int)
structure k9 where
 ph:Nat
 Y7:List Pln
 p4:Int
 B5:Nat
 eh3:List (List b7)
noncomputable def nb8(p:y7)(s:k9):St:=⟨ra 4 (eL tP s.Y7::ra 4 (eL tP p.y8::i p.ra5::i s.p4::ra 31 (i 0::.unk::eL tP p.Id6::.unk::.unk::.ptr 0 0 0 0::.ptr 1 0 0 0::eL tP p.Id7::.ptr 2 0 0 0::ra 9 (eL (tLs tP) p.Uc4::i p.df3::i p.df4::ra 25 [])))),[⟨0,1,[[.v (.slice none 0 0)]],true,false,0⟩,⟨0,1,[[i 0]],true,false,0⟩,⟨0,0,[[.v (.slice none 0 0)]],true,false,0⟩]⟩
noncomputable def nb9(p:y7)(s:k9):St:=⟨ra 4 (eL tP s.Y7::ra 4 (eL tP p.y8::i p.ra5::i s.p4::ra 31 (i 0::.unk::eL tP p.Id6::.unk::.unk::.ptr 0 0 0 0::.ptr 1 0 0 0::eL tP p.Id7::.ptr 2 0 0 0::ra 9 (eL (tLs tP) p.Uc4::i p.df3::i p.df4::ra 25 [])))),[⟨0,1,[[.v (.slice none 0 0)]],true,false,0⟩,⟨0,1,[[i 0]],true,false,0⟩,⟨0,0,[[.sl 3 0 s.B5 0]],true,false,0⟩,⟨24,1,s.eh3,true,false,0⟩]⟩
noncomputable def sc4(p:y7)(s:k9):St:=(sel (Nat.beq s.ph 1) (nb9 p s) (nb8 p s))
noncomputable def A2{α:Type}(k:k9->α)(e:Nat->α)(z:α)(p:y7)(s:k9):α:=let t1:=(ya8 (gL tP p.y8 s.p4.toNat));let t2:=(v7 [rt tP s.Y7,[t1]]);let t3:=(O9 []);let t4:=(v7 [rt tP s.Y7,[gL tP p.y8 s.p4.toNat]]);let t5:=(O9 (slR tP t4.eh0 0 t4.ns0));let t6:=(O9 (slR tP t2.eh0 0 t2.ns0));let w0:α:=(sl ((okE tP s.Y7)&&true) (sl (Nat.beq t4.alt 1) (sl (s6 []) (k ⟨0,t3,W (s.p4+1),0,[]⟩) z) (sl (Nat.beq t4.alt 2) (sl (okS tP t4.eh0 0 t4.ns0) (sl (s6 (slR tP t4.eh0 0 t4.ns0)) (k ⟨0,t5,W (s.p4+1),0,[]⟩) z) z) z)) z);(sl (decide (s.p4<p.ra5)) (sl (inB s.p4 (List.length p.y8)) (sl (decide ((↑(List.length s.Y7):Int)>=48)) (e 1) (sl ((okE tP s.Y7)&&true) (sl (Nat.beq t2.alt 1) (sl (s6 []) (sl (decide ((↑(List.length t3):Int)>0)) (sl (decide ((↑(List.length t3):Int)>0)) (sl ((!(Nat.beq (List.length t3) 0))&&true) (sl ((okE tP s.Y7)&&true) (sl (Nat.beq t4.alt 1) (sl (s6 []) (k ⟨1,t3,W (s.p4+1),1,[[eL tP t3]]⟩) z) (sl (Nat.beq t4.alt 2) (sl (okS tP t4.eh0 0 t4.ns0) (sl (s6 (slR tP t4.eh0 0 t4.ns0)) (k ⟨1,t5,W (s.p4+1),1,[[eL tP t3]]⟩) z) z) z)) z) z) w0) (sl (decide ((↑(List.length t3):Int)>0)) z w0)) z) (sl (Nat.beq t2.alt 2) (sl (okS tP t2.eh0 0 t2.ns0) (sl (s6 (slR tP t2.eh0 0 t2.ns0)) (sl (decide ((↑(List.length t6):Int)>0)) (sl (decide ((↑(List.length t6):Int)>0)) (sl ((!(Nat.beq (List.length t6) 0))&&true) (sl ((okE tP s.Y7)&&true) (sl (Nat.beq t4.alt 1) (sl (s6 []) (k ⟨1,t3,W (s.p4+1),1,[[eL tP t6]]⟩) z) (sl (Nat.beq t4.alt 2) (sl (okS tP t4.eh0 0 t4.ns0) (sl (s6 (slR tP t4.eh0 0 t4.ns0)) (k ⟨1,t5,W (s.p4+1),1,[[eL tP t6]]⟩) z) z) z)) z) z) w0) (sl (decide ((↑(List.length t6):Int)>0)) z w0)) z) z) z)) z)) z) (e 2))
noncomputable def A3{α:Type}(k:k9->α)(e:Nat->α)(z:α)(p:y7)(s:k9):α:=let t1:=(ya8 (gL tP p.y8 s.p4.toNat));let t2:=(v7 [rt tP s.Y7,[t1]]);let t3:=(O9 []);let t4:=(v7 [rt tP s.Y7,[gL tP p.y8 s.p4.toNat]]);let t5:=(O9 (slR tP t4.eh0 0 t4.ns0));let t6:=(O9 (slR tP t2.eh0 0 t2.ns0));let w0:α:=(sl ((okE tP s.Y7)&&true) (sl (Nat.beq t4.alt 1) (sl (s6 []) (k ⟨1,t3,W (s.p4+1),s.B5,s.eh3⟩) z) (sl (Nat.beq t4.alt 2) (sl (okS tP t4.eh0 0 t4.ns0) (sl (s6 (slR tP t4.eh0 0 t4.ns0)) (k ⟨1,t5,W (s.p4+1),s.B5,s.eh3⟩) z) z) z)) z);(sl (decide (s.p4<p.ra5)) (sl (inB s.p4 (List.length p.y8)) (sl (decide ((↑(List.length s.Y7):Int)>=48)) (e 3) (sl ((okE tP s.Y7)&&true) (sl (Nat.beq t2.alt 1) (sl (s6 []) (sl (decide ((↑(List.length t3):Int)>0)) (sl (decide ((↑(List.length t3):Int)>0)) (sl ((!(Nat.beq (List.length t3) 0))&&true) (sl (Nat.beq s.B5 (len s.eh3)&&Nat.ble ((s.B5+1)*24) room) (sl ((okE tP s.Y7)&&true) (sl (Nat.beq t4.alt 1) (sl (s6 []) (k ⟨1,t3,W (s.p4+1),s.B5+1,app s.eh3 [[eL tP t3]]⟩) z) (sl (Nat.beq t4.alt 2) (sl (okS tP t4.eh0 0 t4.ns0) (sl (s6 (slR tP t4.eh0 0 t4.ns0)) (k ⟨1,t5,W (s.p4+1),s.B5+1,app s.eh3 [[eL tP t3]]⟩) z) z) z)) z) z) z) w0) (sl (decide ((↑(List.length t3):Int)>0)) z w0)) z) (sl (Nat.beq t2.alt 2) (sl (okS tP t2.eh0 0 t2.ns0) (sl (s6 (slR tP t2.eh0 0 t2.ns0)) (sl (decide ((↑(List.length t6):Int)>0)) (sl (decide ((↑(List.length t6):Int)>0)) (sl ((!(Nat.beq (List.length t6) 0))&&true) (sl (Nat.beq s.B5 (len s.eh3)&&Nat.ble ((s.B5+1)*24) room) (sl ((okE tP s.Y7)&&true) (sl (Nat.beq t4.alt 1) (sl (s6 []) (k ⟨1,t3,W (s.p4+1),s.B5+1,app s.eh3 [[eL tP t6]]⟩) z) (sl (Nat.beq t4.alt 2) (sl (okS tP t4.eh0 0 t4.ns0) (sl (s6 (slR tP t4.eh0 0 t4.ns0)) (k ⟨1,t5,W (s.p4+1),s.B5+1,app s.eh3 [[eL tP t6]]⟩) z) z) z)) z) z) z) w0) (sl (decide ((↑(List.length t6):Int)>0)) z w0)) z) z) z)) z)) z) (e 4))
noncomputable def m0(p:y7)(s:k9):Stp k9:=(sel (Nat.beq s.ph 1) (A3 .next .exit .fail p s) (A2 .next .exit .fail p s))
noncomputable def Ya9:Lo y7 k9:=⟨En db4,0,lf9,[1,1,1,1,0,1,4,4,1,1,0,4,1,1,1,4,4,1,1,4,4],[4,9,10,11,43,45,48,49,50,51,61,62,63],.p,[⟨ru2 4 (sLq tP::ru2 4 (sLq tP::sIq::sIq::ru2 31 (.s (.o (.lit .i64 0))::sUq::sLq tP::sUq::sUq::sPq 0::sPq 1::sLq tP::sPq 2::ru2 9 (.s (.c 1 (nL (tLs tP)))::sIq::sIq::ru2 25 [])))),[⟨0,1,true,some [[.o .nil]]⟩,⟨0,1,true,some [[.o (.lit .i64 0)]]⟩,⟨0,0,true,some [[.o .nil]]⟩],λa H=>(⟨aLq tP a 9,aIq a 10,aLq tP a 45,aLq tP a 50,rL (tLs tP) (slT a 61),aIq a 62,aIq a 63⟩,⟨0,aLq tP a 4,aIq a 11,0,[]⟩)⟩,⟨ru2 4 (sLq tP::ru2 4 (sLq tP::sIq::sIq::ru2 31 (.s (.o (.lit .i64 0))::sUq::sLq tP::sUq::sUq::sPq 0::sPq 1::sLq tP::sPq 2::ru2 9 (.s (.c 1 (nL (tLs tP)))::sIq::sIq::ru2 25 [])))),[⟨0,1,true,some [[.o .nil]]⟩,⟨0,1,true,some [[.o (.lit .i64 0)]]⟩,⟨0,0,true,some [[.o (.sl 3 0 (some 0) none)]]⟩,⟨24,1,true,none⟩],λa H=>(⟨aLq tP a 9,aIq a 10,aLq tP a 45,aLq tP a 50,rL (tLs tP) (slT a 61),aIq a 62,aIq a 63⟩,⟨1,aLq tP a 4,aIq a 11,slN (slT (rwT (elT H 2) 0) 0),elT H 3⟩)⟩],m0,[(none,λp s=>⟨ra 4 (eL tP s.Y7::.unk::.ptr 3 0 0 0::.unk::.unk::eL tP p.y8::i p.ra5::i s.p4::b (decide (s.p4<p.ra5))::.tptr [i (gL tP p.y8 s.p4.toNat).n.x,i (gL tP p.y8 s.p4.toNat).n.y,i (gL tP p.y8 s.p4.toNat).n.z,i (gL tP p.y8 s.p4.toNat).b]::.agg [i (gL tP p.y8 s.p4.toNat).n.x,i (gL tP p.y8 s.p4.toNat).n.y,i (gL tP p.y8 s.p4.toNat).n.z,i (gL tP p.y8 s.p4.toNat).b]::eL tP s.Y7::i (↑(List.length s.Y7):Int)::b (decide ((↑(List.length s.Y7):Int)>=48))::.unk::b false::ra 23 (i 1::.unk::eL tP p.Id6::.unk::.unk::.ptr 0 0 0 0::.ptr 1 0 0 0::eL tP p.Id7::.ptr 2 0 0 0::ra 9 (eL (tLs tP) p.Uc4::i p.df3::i p.df4::ra 25 []))),[⟨0,1,[[.v (.slice none 0 0)]],true,false,0⟩,⟨0,1,[[i 9]],true,false,0⟩,⟨0,0,[[.v (.slice none 0 0)]],true,false,0⟩,⟨0,4,[[i (gL tP p.y8 s.p4.toNat).n.x,i (gL tP p.y8 s.p4.toNat).n.y,i (gL tP p.y8 s.p4.toNat).n.z,i (gL tP p.y8 s.p4.toNat).b]],true,false,0⟩]⟩),(some 0,λp s=>upq (nb8 p s) [(12,b (decide (s.p4<p.ra5)))]),(none,λp s=>⟨ra 4 (eL tP s.Y7::.unk::.ptr 4 0 0 0::.unk::.unk::eL tP p.y8::i p.ra5::i s.p4::b (decide (s.p4<p.ra5))::.tptr [i (gL tP p.y8 s.p4.toNat).n.x,i (gL tP p.y8 s.p4.toNat).n.y,i (gL tP p.y8 s.p4.toNat).n.z,i (gL tP p.y8 s.p4.toNat).b]::.agg [i (gL tP p.y8 s.p4.toNat).n.x,i (gL tP p.y8 s.p4.toNat).n.y,i (gL tP p.y8 s.p4.toNat).n.z,i (gL tP p.y8 s.p4.toNat).b]::eL tP s.Y7::i (↑(List.length s.Y7):Int)::b (decide ((↑(List.length s.Y7):Int)>=48))::.unk::b false::ra 23 (i 1::.unk::eL tP p.Id6::.unk::.unk::.ptr 0 0 0 0::.ptr 1 0 0 0::eL tP p.Id7::.ptr 2 0 0 0::ra 9 (eL (tLs tP) p.Uc4::i p.df3::i p.df4::ra 25 []))),[⟨0,1,[[.v (.slice none 0 0)]],true,false,0⟩,⟨0,1,[[i 9]],true,false,0⟩,⟨0,0,[[.sl 3 0 s.B5 0]],true,false,0⟩,⟨24,1,s.eh3,true,false,0⟩,⟨0,4,[[i (gL tP p.y8 s.p4.toNat).n.x,i (gL tP p.y8 s.p4.toNat).n.y,i (gL tP p.y8 s.p4.toNat).n.z,i (gL tP p.y8 s.p4.toNat).b]],true,false,0⟩]⟩),(some 0,λp s=>upq (nb9 p s) [(12,b (decide (s.p4<p.ra5)))])],sc4⟩
theorem sc5:Ya9.OkM:=Lo.okM [] (by kernel_rfl) .nil rfl (.cons (λa H=>by kernel_rfl) (.cons (λa H=>by kernel_rfl) .nil)) λp s=>(.sel (Nat.beq s.ph 1) (.of @A3 (λF _ _ _ _ _=>by unfold A3;(repeat' apply m8 (f:=F))<;>rfl) (by kernel_rfl)) (.of @A2 (λF _ _ _ _ _=>by unfold A2;(repeat' apply m8 (f:=F))<;>rfl) (by kernel_rfl)))
structure Q1 where
 kc2:Int
structure o7 where
 ph:Nat
 (ha7 K2:List Pln)
 B1:List (List Pln)
 wa5:Int
 B5:Nat
 eh3:List (List b7)
noncomputable def ob0(p:Q1)(s:o7):St:=⟨.unk::eL tP s.ha7::.unk::.unk::.ptr 0 0 0 0::.ptr 1 0 0 0::eL tP s.K2::.ptr 2 0 0 0::ra 9 (eL (tLs tP) s.B1::i p.kc2::i s.wa5::ra 25 []),[⟨0,1,[[.v (.slice none 0 0)]],true,false,0⟩,⟨0,1,[[i 0]],true,false,0⟩,⟨0,0,[[.v (.slice none 0 0)]],true,false,0⟩]⟩
noncomputable def ob1(p:Q1)(s:o7):St:=⟨.unk::eL tP s.ha7::.unk::.unk::.ptr 0 0 0 0::.ptr 1 0 0 0::eL tP s.K2::.ptr 2 0 0 0::ra 9 (eL (tLs tP) s.B1::i p.kc2::i s.wa5::ra 25 []),[⟨0,1,[[.v (.slice none 0 0)]],true,false,0⟩,⟨0,1,[[i 0]],true,false,0⟩,⟨0,0,[[.sl 3 0 s.B5 0]],true,false,0⟩,⟨24,1,s.eh3,true,false,0⟩]⟩
noncomputable def sc6(p:Q1)(s:o7):St:=(sel (Nat.beq s.ph 1) (ob1 p s) (ob0 p s))
noncomputable def o6{α:Type}(k:o7->α)(e:Nat->α)(z:α)(p:Q1)(s:o7):α:=let t1:=(ya3 (rt tP (gL (tLs tP) s.B1 s.wa5.toNat)) (rt tP s.ha7));let t2:=(lp (m0 (⟨rt tP s.K2,(↑(List.length s.K2):Int),rt tP s.ha7,rt tP s.K2,rt (tLs tP) s.B1,p.kc2,s.wa5⟩:y7)) (⟨0,rt tP (gL (tLs tP) s.B1 s.wa5.toNat),0,0,[]⟩:k9));(sl (decide (s.wa5<p.kc2)) (sl (inB s.wa5 (List.length s.B1)) (sl (okE tP (gL (tLs tP) s.B1 s.wa5.toNat)) (sl (okE tP s.ha7) (sl (ya4 (rt tP (gL (tLs tP) s.B1 s.wa5.toNat)) (rt tP s.ha7)) (sl t1 (k ⟨1,s.ha7,s.K2,s.B1,W (s.wa5+1),1,[[eL tP (gL (tLs tP) s.B1 s.wa5.toNat)]]⟩) (sl ((cnE tP (gL (tLs tP) s.B1 s.wa5.toNat))&&((cnE tP s.K2)&&((cnE tP s.ha7)&&((cnE tP s.K2)&&((cnE (tLs tP) s.B1)&&true))))) (sl (Nat.beq t2.1 1) (e 1) (sl (Nat.beq t2.1 2) (k ⟨0,rt tP s.ha7,rt tP s.K2,rt (tLs tP) s.B1,W (s.wa5+1),0,[]⟩) (sl (Nat.beq t2.1 3) (e 2) (sl (Nat.beq t2.1 4) (k ⟨1,rt tP s.ha7,rt tP s.K2,rt (tLs tP) s.B1,W (s.wa5+1),t2.2.B5,t2.2.eh3⟩) z)))) z)) z) z) z) z) (e 3))
noncomputable def s8{α:Type}(k:o7->α)(e:Nat->α)(z:α)(p:Q1)(s:o7):α:=let t1:=(ya3 (rt tP (gL (tLs tP) s.B1 s.wa5.toNat)) (rt tP s.ha7));let t2:=(lp (m0 (⟨rt tP s.K2,(↑(List.length s.K2):Int),rt tP s.ha7,rt tP s.K2,rt (tLs tP) s.B1,p.kc2,s.wa5⟩:y7)) (⟨1,rt tP (gL (tLs tP) s.B1 s.wa5.toNat),0,s.B5,s.eh3⟩:k9));(sl (decide (s.wa5<p.kc2)) (sl (inB s.wa5 (List.length s.B1)) (sl (okE tP (gL (tLs tP) s.B1 s.wa5.toNat)) (sl (okE tP s.ha7) (sl (ya4 (rt tP (gL (tLs tP) s.B1 s.wa5.toNat)) (rt tP s.ha7)) (sl t1 (sl (Nat.beq s.B5 (len s.eh3)&&Nat.ble ((s.B5+1)*24) room) (k ⟨1,s.ha7,s.K2,s.B1,W (s.wa5+1),s.B5+1,app s.eh3 [[eL tP (gL (tLs tP) s.B1 s.wa5.toNat)]]⟩) z) (sl ((cnE tP (gL (tLs tP) s.B1 s.wa5.toNat))&&((cnE tP s.K2)&&((cnE tP s.ha7)&&((cnE tP s.K2)&&((cnE (tLs tP) s.B1)&&true))))) (sl (Nat.beq t2.1 1) (e 4) (sl (Nat.beq t2.1 2) (k ⟨0,rt tP s.ha7,rt tP s.K2,rt (tLs tP) s.B1,W (s.wa5+1),0,[]⟩) (sl (Nat.beq t2.1 3) (e 5) (sl (Nat.beq t2.1 4) (k ⟨1,rt tP s.ha7,rt tP s.K2,rt (tLs tP) s.B1,W (s.wa5+1),t2.2.B5,t2.2.eh3⟩) z)))) z)) z) z) z) z) (e 6))
noncomputable def w6(p:Q1)(s:o7):Stp o7:=(sel (Nat.beq s.ph 1) (s8 .next .exit .fail p s) (o6 .next .exit .fail p s))
noncomputable def Za0:Lo Q1 o7:=⟨En db4,0,lf9,[1,1,1,1,0,1,4,4],[1,4,5,6,7,17,18,19],.s .p (.s .p (.s (.b (.s .p (.s .p (.s .p (.b (.i (.s .p (.s .p (.b (.u Ya9.lsM)))))))))) .p)),[⟨sUq::sLq tP::sUq::sUq::sPq 0::sPq 1::sLq tP::sPq 2::ru2 9 (.s (.c 1 (nL (tLs tP)))::sIq::sIq::ru2 25 []),[⟨0,1,true,some [[.o .nil]]⟩,⟨0,1,true,some [[.o (.lit .i64 0)]]⟩,⟨0,0,true,some [[.o .nil]]⟩],λa H=>(⟨aIq a 18⟩,⟨0,aLq tP a 1,aLq tP a 6,rL (tLs tP) (slT a 17),aIq a 19,0,[]⟩)⟩,⟨sUq::sLq tP::sUq::sUq::sPq 0::sPq 1::sLq tP::sPq 2::ru2 9 (.s (.c 1 (nL (tLs tP)))::sIq::sIq::ru2 25 []),[⟨0,1,true,some [[.o .nil]]⟩,⟨0,1,true,some [[.o (.lit .i64 0)]]⟩,⟨0,0,true,some [[.o (.sl 3 0 (some 0) none)]]⟩,⟨24,1,true,none⟩],λa H=>(⟨aIq a 18⟩,⟨1,aLq tP a 1,aLq tP a 6,rL (tLs tP) (slT a 17),aIq a 19,slN (slT (rwT (elT H 2) 0) 0),elT H 3⟩)⟩],w6,[(none,λp s=>let t2:=(lp (m0 (⟨rt tP s.K2,(↑(List.length s.K2):Int),rt tP s.ha7,rt tP s.K2,rt (tLs tP) s.B1,p.kc2,s.wa5⟩:y7)) (⟨0,rt tP (gL (tLs tP) s.B1 s.wa5.toNat),0,0,[]⟩:k9));⟨.unk::eL tP (rt tP s.ha7)::.unk::.unk::.ptr 0 0 0 0::.ptr 1 0 0 0::eL tP (rt tP s.K2)::.ptr 2 0 0 0::ra 9 (eL (tLs tP) (rt (tLs tP) s.B1)::i p.kc2::i s.wa5::ra 25 []),[⟨0,1,[[.v (.slice none 0 0)]],true,false,0⟩,⟨0,1,[[i 9]],true,false,0⟩,⟨0,0,[[.v (.slice none 0 0)]],true,false,0⟩,⟨0,4,[[i (gL tP (rt tP s.K2) t2.2.p4.toNat).n.x,i (gL tP (rt tP s.K2) t2.2.p4.toNat).n.y,i (gL tP (rt tP s.K2) t2.2.p4.toNat).n.z,i (gL tP (rt tP s.K2) t2.2.p4.toNat).b]],true,false,0⟩]⟩),(none,λp s=>let t2:=(lp (m0 (⟨rt tP s.K2,(↑(List.length s.K2):Int),rt tP s.ha7,rt tP s.K2,rt (tLs tP) s.B1,p.kc2,s.wa5⟩:y7)) (⟨0,rt tP (gL (tLs tP) s.B1 s.wa5.toNat),0,0,[]⟩:k9));⟨.unk::eL tP (rt tP s.ha7)::.unk::.unk::.ptr 0 0 0 0::.ptr 1 0 0 0::eL tP (rt tP s.K2)::.ptr 2 0 0 0::ra 9 (eL (tLs tP) (rt (tLs tP) s.B1)::i p.kc2::i s.wa5::ra 25 []),[⟨0,1,[[.v (.slice none 0 0)]],true,false,0⟩,⟨0,1,[[i 9]],true,false,0⟩,⟨0,0,[[.sl 3 0 t2.2.B5 0]],true,false,0⟩,⟨24,1,t2.2.eh3,true,false,0⟩,⟨0,4,[[i (gL tP (rt tP s.K2) t2.2.p4.toNat).n.x,i (gL tP (rt tP s.K2) t2.2.p4.toNat).n.y,i (gL tP (rt tP s.K2) t2.2.p4.toNat).n.z,i (gL tP (rt tP s.K2) t2.2.p4.toNat).b]],true,false,0⟩]⟩),(some 0,λp s=>upq (ob0 p s) [(20,b (decide (s.wa5<p.kc2)))]),(none,λp s=>let t2:=(lp (m0 (⟨rt tP s.K2,(↑(List.length s.K2):Int),rt tP s.ha7,rt tP s.K2,rt (tLs tP) s.B1,p.kc2,s.wa5⟩:y7)) (⟨1,rt tP (gL (tLs tP) s.B1 s.wa5.toNat),0,s.B5,s.eh3⟩:k9));⟨.unk::eL tP (rt tP s.ha7)::.unk::.unk::.ptr 0 0 0 0::.ptr 1 0 0 0::eL tP (rt tP s.K2)::.ptr 2 0 0 0::ra 9 (eL (tLs tP) (rt (tLs tP) s.B1)::i p.kc2::i s.wa5::ra 25 []),[⟨0,1,[[.v (.slice none 0 0)]],true,false,0⟩,⟨0,1,[[i 9]],true,false,0⟩,⟨0,0,[[.v (.slice none 0 0)]],true,false,0⟩,⟨0,4,[[i (gL tP (rt tP s.K2) t2.2.p4.toNat).n.x,i (gL tP (rt tP s.K2) t2.2.p4.toNat).n.y,i (gL tP (rt tP s.K2) t2.2.p4.toNat).n.z,i (gL tP (rt tP s.K2) t2.2.p4.toNat).b]],true,false,0⟩]⟩),(none,λp s=>let t2:=(lp (m0 (⟨rt tP s.K2,(↑(List.length s.K2):Int),rt tP s.ha7,rt tP s.K2,rt (tLs tP) s.B1,p.kc2,s.wa5⟩:y7)) (⟨1,rt tP (gL (tLs tP) s.B1 s.wa5.toNat),0,s.B5,s.eh3⟩:k9));⟨.unk::eL tP (rt tP s.ha7)::.unk::.unk::.ptr 0 0 0 0::.ptr 1 0 0 0::eL tP (rt tP s.K2)::.ptr 2 0 0 0::ra 9 (eL (tLs tP) (rt (tLs tP) s.B1)::i p.kc2::i s.wa5::ra 25 []),[⟨0,1,[[.v (.slice none 0 0)]],true,false,0⟩,⟨0,1,[[i 9]],true,false,0⟩,⟨0,0,[[.sl 3 0 t2.2.B5 0]],true,false,0⟩,⟨24,1,t2.2.eh3,true,false,0⟩,⟨0,4,[[i (gL tP (rt tP s.K2) t2.2.p4.toNat).n.x,i (gL tP (rt tP s.K2) t2.2.p4.toNat).n.y,i (gL tP (rt tP s.K2) t2.2.p4.toNat).n.z,i (gL tP (rt tP s.K2) t2.2.p4.toNat).b]],true,false,0⟩]⟩),(some 0,λp s=>upq (ob1 p s) [(20,b (decide (s.wa5<p.kc2)))])],sc6⟩
theorem sc7:Za0.OkM:=Lo.okM [Ya9.prM] (by kernel_rfl) (.cons sc5 .nil) rfl (.cons (λa H=>by kernel_rfl) (.cons (λa H=>by kernel_rfl) .nil)) λp s=>(.sel (Nat.beq s.ph 1) (.of @s8 (λF _ _ _ _ _=>by unfold s8;(repeat' apply m8 (f:=F))<;>rfl) (by kernel_rfl)) (.of @o6 (λF _ _ _ _ _=>by unfold o6;(repeat' apply m8 (f:=F))<;>rfl) (by kernel_rfl)))
noncomputable def Ba6(x:List (List Pln))(y:List Pln):Option (b7×List b9):=let t1:=(ka4 (rt tP y));let t2:=(O9 (rt tP y));let t3:=(lp (w6 (⟨(↑(List.length x):Int)⟩:Q1)) (⟨0,rt tP y,rt tP t2,rt (tLs tP) x,0,0,[]⟩:o7));(sl (okE tP y) (sl (ka5 (rt tP y)) (sl (!t1) (some (.tup [eL (tLs tP) x,i 0],[])) (sl (okE tP y) (sl (s6 (rt tP y)) (sl ((cnE tP y)&&((cnE tP t2)&&((cnE (tLs tP) x)&&true))) (sl (Nat.beq t3.1 1) (some (.tup [.v (.slice none 0 0),i 9],[])) (sl (Nat.beq t3.1 2) (some (.tup [.v (.slice none 0 0),i 9],[])) (sl (Nat.beq t3.1 3) (some (.tup [.v (.slice none 0 0),i 0],[])) (sl (Nat.beq t3.1 4) (some (.tup [.v (.slice none 0 0),i 9],[])) (sl (Nat.beq t3.1 5) (some (.tup [.v (.slice none 0 0),i 9],[])) (sl (Nat.beq t3.1 6) (sl (decide ((↑t3.2.B5:Int)>200)) (some (.tup [.v (.slice none 0 0),i 9],[])) (some ((.tup [(.tree 1 t3.2.B5 (λk=>n5 t3.2.eh3 (0+k))),i 0]),[]))) none)))))) none) none) none)) none) none)
noncomputable def Y5(x:List (List Pln))(y:List Pln):List (List Pln)×Int:=N9 (two (r1L (tLs tP)) r1I) (Ba6 x y)
noncomputable def Ra2(x:List (List Pln))(y:List Pln):Bool:=okO (two (r1L (tLs tP)) r1I) (Ba6 x y)
noncomputable def Tb7:Sum:=ta8 (R5 (tLs tP)) (R5 tP) (λx y=>.guard (Ra2 x y) (.ret ((two (r1L (tLs tP)) r1I).enc (Y5 x y),[])))
theorem Ic7:g7 prog G 99 Tb7:=Eb2 (bd b99 Cc0) (two (r1L (tLs tP)) r1I) (o:=Ba6) λx y=>Ge6 (.s .p (.s .p (.s .p (.s .p (.s (.s .p (.b (.u Za0.lsM))) .p))))) [Za0.prM] (by kernel_rfl) (.cons sc7 .nil) (by kernel_rfl)
noncomputable def ec4:List (Nat×Sum):=[(97,pb0),(49,fb5),(55,Ha1),(98,Rb2),(99,Tb7)]
theorem Rc2:i9 prog G ec4:=⟨Fb3,yb0,Ka0,mc8,Ic7,trivial⟩
structure Y6 where
 Ka7:List (List Pln)
 he9:Int
 f0:List Pln
structure A0 where
 ph:Nat
 yb9:Int
 Za6:List (List Pln)
noncomputable def Cb9(p:Y6)(s:A0):St:=⟨ra 8 (.sl 0 0 1 0::ra 19 (eL (tLs tP) p.Ka7::i p.he9::i s.yb9::ra 14 [])),[⟨24,1,[[eL tP p.f0]],true,false,0⟩]⟩
noncomputable def Db0(p:Y6)(s:A0):St:=⟨ra 8 (eL (tLs tP) s.Za6::ra 19 (eL (tLs tP) p.Ka7::i p.he9::i s.yb9::ra 14 [])),[]⟩
noncomputable def Ic8(p:Y6)(s:A0):St:=(sel (Nat.beq s.ph 1) (Db0 p s) (Cb9 p s))
noncomputable def M6{α:Type}(k:A0->α)(e:Nat->α)(z:α)(p:Y6)(s:A0):α:=let t1:=(Y5 [rt tP p.f0] (rt tP (gL (tLs tP) p.Ka7 s.yb9.toNat)));(sl (decide (s.yb9<p.he9)) (sl (inB s.yb9 (List.length p.Ka7)) (sl ((okE tP p.f0)&&true) (sl (okE tP (gL (tLs tP) p.Ka7 s.yb9.toNat)) (sl (Ra2 [rt tP p.f0] (rt tP (gL (tLs tP) p.Ka7 s.yb9.toNat))) (sl (t1.2 != 0) (e 1) (k ⟨1,W (s.yb9+1),t1.1⟩)) z) z) z) z) (e 2))
noncomputable def M7{α:Type}(k:A0->α)(e:Nat->α)(z:α)(p:Y6)(s:A0):α:=let t1:=(Y5 (rt (tLs tP) s.Za6) (rt tP (gL (tLs tP) p.Ka7 s.yb9.toNat)));(sl (decide (s.yb9<p.he9)) (sl (inB s.yb9 (List.length p.Ka7)) (sl (okE (tLs tP) s.Za6) (sl (okE tP (gL (tLs tP) p.Ka7 s.yb9.toNat)) (sl (Ra2 (rt (tLs tP) s.Za6) (rt tP (gL (tLs tP) p.Ka7 s.yb9.toNat))) (sl (t1.2 != 0) (e 3) (k ⟨1,W (s.yb9+1),t1.1⟩)) z) z) z) z) (e 4))
noncomputable def L0(p:Y6)(s:A0):Stp A0:=(sel (Nat.beq s.ph 1) (M7 .next .exit .fail p s) (M6 .next .exit .fail p s))
noncomputable def nb5:Lo Y6 A0:=⟨En ec4,0,uf8,[1,1,1,1,1,0,1,4,4],[8,28,29,30],.p,[⟨ru2 8 (.s (.o (.sl 0 0 (some 0) (some 1)))::ru2 19 (.s (.c 1 (nL (tLs tP)))::sIq::sIq::ru2 14 [])),[⟨24,1,true,some [[.c 4 (nL tP)]]⟩],λa H=>(⟨rL (tLs tP) (slT a 28),aIq a 29,hLq tP H 0 0 0⟩,⟨0,aIq a 30,[]⟩)⟩,⟨ru2 8 (.s (.c 1 (nL (tLs tP)))::ru2 19 (.s (.c 1 (nL (tLs tP)))::sIq::sIq::ru2 14 [])),[],λa H=>(⟨rL (tLs tP) (slT a 28),aIq a 29,[]⟩,⟨1,aIq a 30,rL (tLs tP) (slT a 8)⟩)⟩],L0,[(none,λp s=>let t1:=(Y5 [rt tP p.f0] (rt tP (gL (tLs tP) p.Ka7 s.yb9.toNat)));⟨[.tup [.v (.slice none 0 0),i t1.2]],[]⟩),(some 0,λp s=>upq (Cb9 p s) [(31,b (decide (s.yb9<p.he9)))]),(none,λp s=>let t1:=(Y5 (rt (tLs tP) s.Za6) (rt tP (gL (tLs tP) p.Ka7 s.yb9.toNat)));⟨[.tup [.v (.slice none 0 0),i t1.2]],[]⟩),(some 0,λp s=>upq (Db0 p s) [(31,b (decide (s.yb9<p.he9)))])],Ic8⟩
theorem Ic9:nb5.Ok:=Lo.ok [] (by kernel_rfl) .nil rfl (.cons (λa H=>by kernel_rfl) (.cons (λa H=>by kernel_rfl) .nil)) λp s=>(.sel (Nat.beq s.ph 1) (.of @M7 (λF _ _ _ _ _=>by unfold M7;(repeat' apply m8 (f:=F))<;>rfl) (by kernel_rfl)) (.of @M6 (λF _ _ _ _ _=>by unfold M6;(repeat' apply m8 (f:=F))<;>rfl) (by kernel_rfl)))
noncomputable def Qa0(x:List Pln)(y:List (List Pln)):Option (b7×List b9):=let t1:=(qa3 (rt tP x));let t2:=(U9 (rt (tLs tP) y));let t3:=(ka4 (rt tP x));let t4:=(O9 (rt tP x));let t5:=(lp (L0 (⟨rt (tLs tP) y,(↑(List.length y):Int),rt tP t4⟩:Y6)) (⟨0,0,[]⟩:A0));let t6:=(Y5 [rt tP (rt tP t4)] (rt tP (gL (tLs tP) (rt (tLs tP) y) t5.2.yb9.toNat)));let t7:=(Y5 (rt (tLs tP) t5.2.Za6) (rt tP (gL (tLs tP) (rt (tLs tP) y) t5.2.yb9.toNat)));(sl (okE tP x) (sl (Ja9 (rt tP x)) (sl (t1 != 0) (some (.tup [.v (.slice none 0 0),i t1],[])) (sl (okE (tLs tP) y) (sl (V0 (rt (tLs tP) y)) (sl (t2 != 0) (some (.tup [.v (.slice none 0 0),i t2],[])) (sl (okE tP x) (sl (ka5 (rt tP x)) (sl (!t3) (some (.tup [.v (.slice none 0 0),i 0],[])) (sl (okE tP x) (sl (s6 (rt tP x)) (sl ((cnE (tLs tP) y)&&((cnE tP t4)&&true)) (sl (Nat.beq t5.1 1) (some (.tup [.v (.slice none 0 0),i t6.2],[])) (sl (Nat.beq t5.1 2) (some (.tup [.sl 0 0 1 0,i 0],[⟨24,1,[[eL tP (rt tP t4)]],true,false,0⟩])) (sl (Nat.beq t5.1 3) (some (.tup [.v (.slice none 0 0),i t7.2],[])) (sl (Nat.beq t5.1 4) (some (.tup [eL (tLs tP) t5.2.Za6,i 0],[])) none)))) none) none) none)) none) none)) none) none)) none) none)
noncomputable def fb6(x:List Pln)(y:List (List Pln)):List (List Pln)×Int:=N9 (two (r1L (tLs tP)) r1I) (Qa0 x y)
noncomputable def fb7(x:List Pln)(y:List (List Pln)):Bool:=okO (two (r1L (tLs tP)) r1I) (Qa0 x y)
noncomputable def Hb4:Sum:=ta8 (R5 tP) (R5 (tLs tP)) (λx y=>.guard (fb7 x y) (.ret ((two (r1L (tLs tP)) r1I).enc (fb6 x y),[])))
theorem ec5:g7 prog G 40 Hb4:=Eb2 (bd b40 Rc2) (two (r1L (tLs tP)) r1I) (o:=Qa0) λx y=>xa3 (.s .p (.s .p (.s .p (.s .p (.s .p (.s (.s .p (.b (.u nb5.ls))) .p)))))) [nb5.pr] (by kernel_rfl) (.cons Ic9 .nil) (by kernel_rfl)
noncomputable def Rc3:List (Nat×Sum):=[(40,Hb4)]
theorem Jc0:i9 prog G Rc3:=⟨ec5,trivial⟩
noncomputable def Ia5(x:List (List Pln))(y:List Pln):Option (b7×List b9):=let t1:=(fb6 (rt tP y) (rt (tLs tP) x));(sl (okE tP y) (sl (okE (tLs tP) x) (sl (fb7 (rt tP y) (rt (tLs tP) x)) (sl (t1.2==0) (some (.tup [b ((↑(List.length t1.1):Int)==0),i t1.2],[])) (some (.tup [b false,i t1.2],[]))) none) none) none)
noncomputable def ea7(x:List (List Pln))(y:List Pln):Bool×Int:=N9 (two r1B r1I) (Ia5 x y)
noncomputable def Ia6(x:List (List Pln))(y:List Pln):Bool:=okO (two r1B r1I) (Ia5 x y)
noncomputable def yb1:Sum:=ta8 (R5 (tLs tP)) (R5 tP) (λx y=>.guard (Ia6 x y) (.ret ((two r1B r1I).enc (ea7 x y),[])))
theorem Tb8:g7 prog G 42 yb1:=Eb2 (bd b42 Jc0) (two r1B r1I) (o:=Ia5) λx y=>y5 (by kernel_rfl)
theorem xe1(ls:List (List Pln))(hn:ls.length<=1000000000)(hl:ls.flatten.length<=1000000000):v7 ls=if ls.flatten=[] then ⟨1,0,[]⟩ else ⟨2,ls.flatten.length,bL tP ls.flatten⟩:=by
 unfold v7 L2;simp only[i5,i8];obtain⟨m,hm⟩:=Sd0 ls hn hl;rw[hm];by_cases h0:ls.flatten=[]
 ·obtain⟨s,hs⟩:=le3 ls hn h0;rw[if_pos h0,hs];rw[show (⟨(ls.flatten.length:Int),m⟩:u8)=⟨0,m⟩ by rw[h0];rfl]
  rfl
 ·obtain⟨m',hm'⟩:=Sd1 ls hn;rw[if_neg h0];simp only[Int.toNat_natCast];rw[hm'];have h1:0<ls.flatten.length:=List.length_pos_iff.2 h0;have e1:((ls.flatten.length:Int)==0)=false:=by rw[beq_eq_false_iff_ne];omega
  have e2:Bool.and (decide ((0:Int)<(ls.flatten.length:Int))) (Nat.ble (ls.flatten.length*32) room)=true:=by
   rw[ca1 (by omega),decide_eq_true (by omega)]
   rfl
  rw[e1,e2];rfl
theorem oe4(r:List Pln)(p:Pln)(hr:r.length<=1000000):v7 [r,[p]]=⟨2,(r++[p]).length,bL tP (r++[p])⟩:=by
 have e:[r,[p]].flatten=r++[p]:=by simp
 rw[xe1 [r,[p]] (by simp) (by rw[e,Qkg];simp only[List.length_singleton];omega),e,if_neg (by simp)]
theorem bf0(r:List Pln)(p:Pln):slR tP (bL tP (r++[p])) 0 (r++[p]).length=r++[p]:=Mb9 tP _
theorem bf1(r:List Pln)(p:Pln):okS tP (bL tP (r++[p])) 0 (r++[p]).length=true:=Nb0 tP _
theorem ic5{p:Pln}(h:Bd p):ya8 p=o3 p:=by
 unfold ya8 ec1 o3
 simp only
 have:=h.x1;have:=h.x2;have:=h.y1;have:=h.y2;have:=h.z1;have:=h.z2;have:=h.b1;have:=h.b2
 rw[ha0 (by omega) (by omega),ha0 (by omega) (by omega),ha0 (by omega) (by omega),ha0 (by omega) (by omega)]
 simp only[Int.zero_sub]
def phL(O:List (List Pln)):Nat:=match O with
 |[]=>0
 |_::_=>1
theorem oe5(O:List (List Pln))(c:List Pln):phL (O++[c])=1:=by cases O<;>rfl
theorem if3(O:List (List Pln))(c:List Pln):app (bL (tLs tP) O) [[eL tP c]]=bL (tLs tP) (O++[c]):=Ra8 (tLs tP) O [c]
theorem Oe2(O:List (List Pln))(h:O.length<=1000000):(Nat.beq O.length (len (bL (tLs tP) O))&&Nat.ble ((O.length+1)*24) room)=true:=by
 rw[P7,Qkac,Bool.true_and];exact Nat.ble_eq_true_of_le (by unfold room;omega)
theorem xe2(x fs:List Pln)(j:Nat):Ea6 x fs (j+1)=Ea6 x fs j++(if 0<(Ba4 x fs j).length then [Ba4 x fs j] else []):=by
 unfold Ea6;rw[List.range_succ,List.map_append,List.filter_append];congr 1;by_cases h:0<(Ba4 x fs j).length
 ·rw[if_pos h];simp[h]
 ·rw[if_neg h];simp[h]
theorem Wd8(x fs:List Pln)(j:Nat):(Ea6 x fs j).length<=j:=by
 unfold Ea6
 have:=Qkaw (λc:List Pln=>decide (0<c.length)) ((List.range j).map (Ba4 x fs))
 simpa using this
theorem xe3:Nat.beq 2 1=false:=rfl
theorem xe4:Nat.beq 2 2=true:=rfl
theorem bf2 (x fs q : List Pln) (xs : List (List Pln)) (a c : Int) (O : List (List Pln)) (hf : ∀ p ∈ fs, okp p = true) (hfl : fs.length ≤ 1000) (hO : O.length ≤ 900000) :
  ∃t s,lp (m0 ⟨fs,(fs.length:Int),q,fs,xs,a,c⟩) ⟨phL O,x,0,O.length,bL (tLs tP) O⟩=(t,s) /\
   ((va9 x fs=true->t=phL (O++Ea6 x fs fs.length)*2+2/\s.B5=(O++Ea6 x fs fs.length).length/\s.eh3=bL (tLs tP) (O++Ea6 x fs fs.length))/\(va9 x fs=false->t=1\/t=3)):=by
 refine da0 (step:=m0 ⟨fs,(fs.length:Int),q,fs,xs,a,c⟩) (mk:=λj (O':List (List Pln))=>(⟨phL O',B7 x fs j,(j:Int),O'.length,bL (tLs tP) O'⟩:k9)) fs.length
  (λj O'=>j<=fs.length/\O'=O++Ea6 x fs j/\∀i,i<j->(B7 x fs i).length<48)
  (λt s=>(va9 x fs=true->t=phL (O++Ea6 x fs fs.length)*2+2/\s.B5=(O++Ea6 x fs fs.length).length/\s.eh3=bL (tLs tP) (O++Ea6 x fs fs.length))/\(va9 x fs=false->t=1\/t=3)) (by omega)
  (λj O' hj hi=>?_) (λj O' hj hi=>?_) 0 O ⟨Qkp _,by simp[Ea6],λi hi=>absurd hi (Qkai i)⟩
 ·obtain⟨_,hO',hr⟩:=hi;have hn:W ((j:Int)+1)=((j+1:Nat):Int):=o4 hj (by omega)
  have hp:=hf _ (ta9 tP hj);have hb:=Pb1 hp;have hOl:O'.length<=1000000:=by
   rw[hO',Qkg]
   have:=Wd8 x fs j
   omega
  have hroom:=Oe2 O' hOl;by_cases h48:(B7 x fs j).length<48
  ·have e1:decide (((B7 x fs j).length:Int)>=48)=false:=decide_eq_false (by omega)
   have c1:=oe4 (B7 x fs j) (o3 (gL tP fs j)) (by omega)
   have c2:=oe4 (B7 x fs j) (gL tP fs j) (by omega)
   have l1:s6 (B7 x fs j++[o3 (gL tP fs j)])=true:=decide_eq_true (by rw[Qkg];simp only[List.length_singleton];omega)
   have l2:s6 (B7 x fs j++[gL tP fs j])=true:=decide_eq_true (by rw[Qkg];simp only[List.length_singleton];omega)
   have m1:O9 (B7 x fs j++[o3 (gL tP fs j)])=Ba4 x fs j:=rfl;have m2:O9 (B7 x fs j++[gL tP fs j])=B7 x fs (j+1):=rfl;have hnew:O++Ea6 x fs (j+1)=O'++(if 0<(Ba4 x fs j).length then [Ba4 x fs j] else []):=by rw[xe2,<- Qkao,<- hO']
   have hnx : ∀ {s : k9}, s = ⟨phL (O ++ Ea6 x fs (j + 1)), B7 x fs (j + 1), ((j + 1 : Nat) : Int), (O ++ Ea6 x fs (j + 1)).length, bL (tLs tP) (O ++ Ea6 x fs (j + 1))⟩ →
     Nx (.next s) (λt=>(va9 x fs=true->t=phL (O++Ea6 x fs fs.length)*2+2/\(⟨phL O',B7 x fs j,(j:Int),O'.length,bL (tLs tP) O'⟩:k9).B5=(O++Ea6 x fs fs.length).length/\(⟨phL O',B7 x fs j,(j:Int),O'.length,bL (tLs tP) O'⟩:k9).eh3=bL (tLs tP) (O++Ea6 x fs fs.length))/\(va9 x fs=false->t=1\/t=3))
      (λs=>∃O'',s=(⟨phL O'',B7 x fs (j+1),((j+1:Nat):Int),O''.length,bL (tLs tP) O''⟩:k9)/\(j+1<=fs.length/\O''=O++Ea6 x fs (j+1)/\∀i,i<j+1->(B7 x fs i).length<48)) :=
    λ{s} hs=>.nx ⟨_,hs,hj,rfl,λi hi=>by
     by_cases e:i=j
     ·subst e;exact h48
     ·exact hr i (by omega)⟩
   by_cases hc:0<(Ba4 x fs j).length
   ·have e2:decide (((Ba4 x fs j).length:Int)>0)=true:=decide_eq_true (by omega)
    have e3:Nat.beq (Ba4 x fs j).length 0=false:=by
     cases h:(Ba4 x fs j).length with
     |zero=>omega
     |succ n=>rfl
    rw[if_pos hc] at hnew;cases O' with
    |nil =>
     have e:m0 ⟨fs,(fs.length:Int),q,fs,xs,a,c⟩ ⟨phL [],B7 x fs j,(j:Int),([]:List (List Pln)).length,bL (tLs tP) []⟩=.next ⟨1,B7 x fs (j+1),((j+1:Nat):Int),1,[[eL tP (Ba4 x fs j)]]⟩:=by
      show A2 Stp.next Stp.exit Stp.fail _ _=_;simp only[A2,Int.toNat_natCast,i5,q8,ic5 hb,c1,c2,hn,bf0,bf1,l1,l2,m1,m2,xe3,xe4,e1,e2,e3,g9,N2,Qkc,Qkaj];rw[btD (i6 hj),bt (f7 hj)]
     rw[e];exact hnx (by rw[hnew];rfl)
    |cons o os =>
     have e:m0 ⟨fs,(fs.length:Int),q,fs,xs,a,c⟩ ⟨phL (o::os),B7 x fs j,(j:Int),(o::os).length,bL (tLs tP) (o::os)⟩=.next ⟨1,B7 x fs (j+1),((j+1:Nat):Int),(o::os).length+1,bL (tLs tP) (o::os++[Ba4 x fs j])⟩:=by
      show A3 Stp.next Stp.exit Stp.fail _ _=_;simp only[A3,Int.toNat_natCast,i5,q8,ic5 hb,c1,c2,hn,bf0,bf1,l1,l2,m1,m2,xe3,xe4,e1,e2,e3,hroom,if3,g9,N2,Qkc,Qkaj];rw[btD (i6 hj),bt (f7 hj)]
     rw[e];exact hnx (by rw[hnew,oe5,Qkg];rfl)
   ·have e2:decide (((Ba4 x fs j).length:Int)>0)=false:=decide_eq_false (by omega)
    rw[if_neg hc,List.append_nil] at hnew;cases O' with
    |nil =>
     have e:m0 ⟨fs,(fs.length:Int),q,fs,xs,a,c⟩ ⟨phL [],B7 x fs j,(j:Int),([]:List (List Pln)).length,bL (tLs tP) []⟩=.next ⟨0,B7 x fs (j+1),((j+1:Nat):Int),0,[]⟩:=by
      show A2 Stp.next Stp.exit Stp.fail _ _=_;simp only[A2,Int.toNat_natCast,i5,q8,ic5 hb,c1,c2,hn,bf0,bf1,l1,l2,m1,m2,xe3,xe4,e1,e2,g9,N2,Qkc,Qkaj];rw[btD (i6 hj),bt (f7 hj)]
     rw[e];exact hnx (by rw[hnew];rfl)
    |cons o os =>
     have e:m0 ⟨fs,(fs.length:Int),q,fs,xs,a,c⟩ ⟨phL (o::os),B7 x fs j,(j:Int),(o::os).length,bL (tLs tP) (o::os)⟩=.next ⟨1,B7 x fs (j+1),((j+1:Nat):Int),(o::os).length,bL (tLs tP) (o::os)⟩:=by
      show A3 Stp.next Stp.exit Stp.fail _ _=_;simp only[A3,Int.toNat_natCast,i5,q8,ic5 hb,c1,c2,hn,bf0,bf1,l1,l2,m1,m2,xe3,xe4,e1,e2,g9,N2,Qkc,Qkaj];rw[btD (i6 hj),bt (f7 hj)]
     rw[e];exact hnx (by rw[hnew];rfl)
  ·have e1:decide (((B7 x fs j).length:Int)>=48)=true:=decide_eq_true (by omega)
   have hno:va9 x fs=false:=by
    cases h:va9 x fs with
    |false=>rfl
    |true =>
     have:=Qkm.1 h j (Qkn.2 hj)
     exact absurd (by simpa using this) h48
   have hex:∀{t:Nat},(t=1\/t=3)->(va9 x fs=true->t=phL (O++Ea6 x fs fs.length)*2+2/\(⟨phL O',B7 x fs j,(j:Int),O'.length,bL (tLs tP) O'⟩:k9).B5=(O++Ea6 x fs fs.length).length/\(⟨phL O',B7 x fs j,(j:Int),O'.length,bL (tLs tP) O'⟩:k9).eh3=bL (tLs tP) (O++Ea6 x fs fs.length))/\(va9 x fs=false->t=1\/t=3):=λh=>⟨λh'=>(by rw[hno] at h';cases h'),λ_=>h⟩
   cases O' with
   |nil =>
    have e:m0 ⟨fs,(fs.length:Int),q,fs,xs,a,c⟩ ⟨phL [],B7 x fs j,(j:Int),([]:List (List Pln)).length,bL (tLs tP) []⟩=.exit 1:=by
     show A2 Stp.next Stp.exit Stp.fail _ _=_;simp only[A2,e1,g9];rw[btD (i6 hj),bt (f7 hj)]
    rw[e];exact .ex (hex (.inl rfl))
   |cons o os =>
    have e:m0 ⟨fs,(fs.length:Int),q,fs,xs,a,c⟩ ⟨phL (o::os),B7 x fs j,(j:Int),(o::os).length,bL (tLs tP) (o::os)⟩=.exit 3:=by
     show A3 Stp.next Stp.exit Stp.fail _ _=_;simp only[A3,e1,g9];rw[btD (i6 hj),bt (f7 hj)]
    rw[e];exact .ex (hex (.inr rfl))
 ·obtain⟨h1,hO',hr⟩:=hi;have hje:j=fs.length:=by omega
  subst hje;have hyes:va9 x fs=true:=Qkm.2 λi hi=>by simpa using hr i (Qkn.1 hi)
  refine⟨phL O'*2+2,?_,λ_=>?_,λh=>(by rw[hyes] at h;cases h)⟩
  ·cases O' with
   |nil =>
    show A2 Stp.next Stp.exit Stp.fail _ _=_;simp only[A2];rw[bfD (r8 (Qke _))];rfl
   |cons o os =>
    show A3 Stp.next Stp.exit Stp.fail _ _=_;simp only[A3];rw[bfD (r8 (Qke _))];rfl
  ·rw[<- hO'];exact⟨rfl,rfl,rfl⟩
theorem xe5{α β:Type}(t:Ty α)(l:List α)(f:α->List β){j:Nat}(hj:j<l.length):(l.take (j+1)).flatMap f=(l.take j).flatMap f++f (gL t l j):=by
 rw[Qkap,Qkh hj,List.flatMap_append];simp[gL,Qkj,Qkh hj]
theorem xe6{α:Type}(t:Ty α)(l:List α)(f:α->Bool){j:Nat}(hj:j<l.length):(l.take (j+1)).all f=((l.take j).all f&&f (gL t l j)):=by
 rw[Qkap,Qkh hj,List.all_append];simp[gL,Qkj,Qkh hj]
theorem Oe3{q x:List Pln}(h:(lean q).length<=48):(ya7 q x).length<=48:=by
 unfold ya7;split
 ·simp
 ·exact Qkq (Wd8 _ _ _) h
theorem Wd9{q:List Pln}(h:(lean q).length<=48):∀l:List (List Pln),(l.flatMap (ya7 q)).length<=48*l.length
 |[]=>by simp
 |x::l=>by
  have:=Wd9 h l
  have:=Oe3 (x:=x) h
  simp only[List.flatMap_cons,Qkg,List.length_cons];omega
structure W0(q:List Pln)(xs:List (List Pln))(t:Nat)(s:o7):Prop where
 y:xs.all (Ma6 q)=true->t=phL (xs.flatMap (ya7 q))*3+3/\s.B5=(xs.flatMap (ya7 q)).length/\s.eh3=bL (tLs tP) (xs.flatMap (ya7 q))
 n:xs.all (Ma6 q)=false->t=1\/t=2\/t=4\/t=5
theorem nbA:Nat.beq 1 2=false/\Nat.beq 1 3=false/\Nat.beq 1 4=false/\Nat.beq 1 1=true/\Nat.beq 3 1=false/\Nat.beq 3 2=false/\Nat.beq 3 3=true/\Nat.beq 4 1=false/\Nat.beq 4 2=false/\Nat.beq 4 3=false/\Nat.beq 4 4=true/\Nat.beq 2 3=false/\Nat.beq 2 4=false:=⟨rfl,rfl,rfl,rfl,rfl,rfl,rfl,rfl,rfl,rfl,rfl,rfl,rfl⟩
theorem bf3 (q : List Pln) (xs : List (List Pln)) (hq : q.length ≤ 1000000) (hxs : xs.length ≤ 10000) (hx : ∀ x ∈ xs, x.length ≤ 1000000) (hf : ∀ p ∈ lean q, okp p = true) (hfl : (lean q).length ≤ 48) :
  ∃t s,lp (w6 ⟨(xs.length:Int)⟩) ⟨0,q,lean q,xs,0,0,[]⟩=(t,s)/\W0 q xs t s:=by
 refine da0 (step:=w6 ⟨(xs.length:Int)⟩) (mk:=λj (O':List (List Pln))=>(⟨phL O',q,lean q,xs,(j:Int),O'.length,bL (tLs tP) O'⟩:o7)) xs.length
  (λj O'=>j<=xs.length/\O'=(xs.take j).flatMap (ya7 q)/\(xs.take j).all (Ma6 q)=true) (W0 q xs) (by omega)
  (λj O' hj hi=>?_) (λj O' hj hi=>?_) 0 [] ⟨Qkp _,by simp,by simp⟩
 ·obtain⟨_,hO',hr⟩:=hi;have hn:W ((j:Int)+1)=((j+1:Nat):Int):=o4 hj (by omega)
  have hxl:=hx _ (ta9 (tLs tP) hj);have hOl:O'.length<=800000:=by
   rw[hO']
   have:=Wd9 hfl (xs.take j)
   have:=List.length_take_le j xs
   omega
  have hroom:=Oe2 O' (by omega)
  have hA:=Fd7 (a:=gL (tLs tP) xs j) (c:=q) (by omega) (by omega)
  have gA:=Fd8 (a:=gL (tLs tP) xs j) (c:=q) (by omega) (by omega)
  have hnew:=xe5 (tLs tP) xs (ya7 q) hj;have hall:=xe6 (tLs tP) xs (Ma6 q) hj;rw[<- hO'] at hnew;rw[hr,Bool.true_and] at hall;have hfull:∀{v:Bool},Ma6 q (gL (tLs tP) xs j)=v->v=false->xs.all (Ma6 q)=false:=λ{v} h hv=>by
   rw[List.all_eq_false];exact⟨_,ta9 (tLs tP) hj,by rw[h,hv];decide⟩
  have hnx : Ma6 q (gL (tLs tP) xs j) = true → ∀ {s : o7}, s = ⟨phL ((xs.take (j + 1)).flatMap (ya7 q)), q, lean q, xs, ((j + 1 : Nat) : Int), ((xs.take (j + 1)).flatMap (ya7 q)).length, bL (tLs tP) ((xs.take (j + 1)).flatMap (ya7 q))⟩ →
    Nx (.next s) (λt=>W0 q xs t (⟨phL O',q,lean q,xs,(j:Int),O'.length,bL (tLs tP) O'⟩:o7))
     (λs=>∃O'',s=(⟨phL O'',q,lean q,xs,((j+1:Nat):Int),O''.length,bL (tLs tP) O''⟩:o7)/\(j+1<=xs.length/\O''=(xs.take (j+1)).flatMap (ya7 q)/\(xs.take (j+1)).all (Ma6 q)=true)) :=
   λh {s} hs=>.nx ⟨_,hs,hj,rfl,by rw[hall,h]⟩
  have hex:Ma6 q (gL (tLs tP) xs j)=false->∀{t:Nat},(t=1\/t=2\/t=4\/t=5)->W0 q xs t (⟨phL O',q,lean q,xs,(j:Int),O'.length,bL (tLs tP) O'⟩:o7):=λh {t} ht =>
   ⟨λh'=>(by rw[hfull h rfl] at h';cases h'),λ_=>ht⟩
  have hgx:inB (j:Int) xs.length=true:=f7 hj;have hlt:((j:Int)<(xs.length:Int)):=i6 hj;generalize hX:gL (tLs tP) xs j=x at *
  obtain⟨z1,z2,z3,z4,z5,z6,z7,z8,z9,zA,zB,zC,zD⟩:=nbA;cases hap:apart x q with
  |true =>
   have hp:ya7 q x=[x]:=by unfold ya7;rw[hap,if_pos rfl]
   have hro:Ma6 q x=true:=by unfold Ma6;rw[hap];rfl
   rw[hap] at hA;rw[hp] at hnew;cases O' with
   |nil =>
    have e:w6 ⟨(xs.length:Int)⟩ ⟨phL [],q,lean q,xs,(j:Int),([]:List (List Pln)).length,bL (tLs tP) []⟩=.next ⟨1,q,lean q,xs,((j+1:Nat):Int),1,[[eL tP x]]⟩:=by
     show o6 Stp.next Stp.exit Stp.fail _ _=_;simp only[o6,Int.toNat_natCast,i5,q8,hX,hA,gA,hn,hgx,g9];rw[btD hlt]
    rw[e];exact hnx hro (by rw[hnew];rfl)
   |cons o os =>
    have e:w6 ⟨(xs.length:Int)⟩ ⟨phL (o::os),q,lean q,xs,(j:Int),(o::os).length,bL (tLs tP) (o::os)⟩=.next ⟨1,q,lean q,xs,((j+1:Nat):Int),(o::os).length+1,bL (tLs tP) (o::os++[x])⟩:=by
     show s8 Stp.next Stp.exit Stp.fail _ _=_;simp only[s8,Int.toNat_natCast,i5,q8,hX,hA,gA,hn,hgx,hroom,if3,g9];rw[btD hlt]
    rw[e];exact hnx hro (by rw[hnew,oe5,Qkg];rfl)
  |false =>
   have hp:ya7 q x=Ea6 x (lean q) (lean q).length:=by unfold ya7;rw[hap,if_neg (by decide)]
   have hro:Ma6 q x=va9 x (lean q):=by unfold Ma6;rw[hap];rfl
   rw[hap] at hA;rw[hp] at hnew;obtain⟨t,s,hlp,hy,hno⟩:=bf2 x (lean q) q xs (xs.length:Int) (j:Int) O' hf (by omega) (by omega)
   cases hr48:va9 x (lean q) with
   |true =>
    obtain⟨h1,h2,h3⟩:=hy hr48;rw[<- hnew] at h1 h2 h3;cases O' with
    |nil =>
     have hlp:lp (m0 ⟨lean q,((lean q).length:Int),q,lean q,xs,(xs.length:Int),(j:Int)⟩) ⟨0,x,0,0,[]⟩=(t,s):=hlp;by_cases hO:(xs.take (j+1)).flatMap (ya7 q)=[]
     ·rw[hO] at h1;have h1:t=2:=h1;subst h1;have e:w6 ⟨(xs.length:Int)⟩ ⟨phL [],q,lean q,xs,(j:Int),([]:List (List Pln)).length,bL (tLs tP) []⟩=.next ⟨0,q,lean q,xs,((j+1:Nat):Int),0,[]⟩:=by
       show o6 Stp.next Stp.exit Stp.fail _ _=_;simp only[o6,Int.toNat_natCast,i5,q8,i8,hX,hA,gA,hn,hgx,hlp,xe3,xe4,g9,N2,Qkc];rw[btD hlt]
      rw[e];exact hnx (hro.trans hr48) (by rw[hO];rfl)
     ·obtain⟨o,os,hO⟩:=Qkan hO;rw[hO] at h1 h2 h3;have h1:t=4:=h1;subst h1;have e:w6 ⟨(xs.length:Int)⟩ ⟨phL [],q,lean q,xs,(j:Int),([]:List (List Pln)).length,bL (tLs tP) []⟩=.next ⟨1,q,lean q,xs,((j+1:Nat):Int),s.B5,s.eh3⟩:=by
       show o6 Stp.next Stp.exit Stp.fail _ _=_;simp only[o6,Int.toNat_natCast,i5,q8,i8,hX,hA,gA,hn,hgx,hlp,z8,z9,zA,zB,g9,N2,Qkc];rw[btD hlt]
      rw[e];exact hnx (hro.trans hr48) (by rw[h2,h3,hO];rfl)
    |cons o os =>
     have hlp:lp (m0 ⟨lean q,((lean q).length:Int),q,lean q,xs,(xs.length:Int),(j:Int)⟩) ⟨1,x,0,(o::os).length,bL (tLs tP) (o::os)⟩=(t,s):=hlp;have h1:t=4:=by rw[h1,hnew];rfl
     subst h1;have e:w6 ⟨(xs.length:Int)⟩ ⟨phL (o::os),q,lean q,xs,(j:Int),(o::os).length,bL (tLs tP) (o::os)⟩=.next ⟨1,q,lean q,xs,((j+1:Nat):Int),s.B5,s.eh3⟩:=by
      show s8 Stp.next Stp.exit Stp.fail _ _=_;simp only[s8,Int.toNat_natCast,i5,q8,i8,hX,hA,gA,hn,hgx,hlp,z8,z9,zA,zB,g9,N2,Qkc];rw[btD hlt]
     rw[e];exact hnx (hro.trans hr48) (by rw[h2,h3,hnew];rfl)
   |false =>
    have ht:=hno hr48;cases O' with
    |nil =>
     have hlp:lp (m0 ⟨lean q,((lean q).length:Int),q,lean q,xs,(xs.length:Int),(j:Int)⟩) ⟨0,x,0,0,[]⟩=(t,s):=hlp
     rcases ht with rfl|rfl
     ·have e : w6 ⟨(xs.length : Int)⟩ ⟨phL [], q, lean q, xs, (j : Int), ([] : List (List Pln)).length, bL (tLs tP) []⟩ = .exit 1 := by
       show o6 Stp.next Stp.exit Stp.fail _ _=_;simp only[o6,Int.toNat_natCast,i5,q8,i8,hX,hA,gA,hn,hgx,hlp,z4,g9,N2,Qkc];rw[btD hlt]
      rw[e];exact .ex (hex (hro.trans hr48) (by simp))
     ·have e : w6 ⟨(xs.length : Int)⟩ ⟨phL [], q, lean q, xs, (j : Int), ([] : List (List Pln)).length, bL (tLs tP) []⟩ = .exit 2 := by
       show o6 Stp.next Stp.exit Stp.fail _ _=_;simp only[o6,Int.toNat_natCast,i5,q8,i8,hX,hA,gA,hn,hgx,hlp,z5,z6,z7,g9,N2,Qkc];rw[btD hlt]
      rw[e];exact .ex (hex (hro.trans hr48) (by simp))
    |cons o os =>
     have hlp:lp (m0 ⟨lean q,((lean q).length:Int),q,lean q,xs,(xs.length:Int),(j:Int)⟩) ⟨1,x,0,(o::os).length,bL (tLs tP) (o::os)⟩=(t,s):=hlp
     rcases ht with rfl|rfl
     ·have e : w6 ⟨(xs.length : Int)⟩ ⟨phL (o :: os), q, lean q, xs, (j : Int), (o :: os).length, bL (tLs tP) (o :: os)⟩ = .exit 4 := by
       show s8 Stp.next Stp.exit Stp.fail _ _=_;simp only[s8,Int.toNat_natCast,i5,q8,i8,hX,hA,gA,hn,hgx,hlp,z4,g9,N2,Qkc];rw[btD hlt]
      rw[e];exact .ex (hex (hro.trans hr48) (by simp))
     ·have e : w6 ⟨(xs.length : Int)⟩ ⟨phL (o :: os), q, lean q, xs, (j : Int), (o :: os).length, bL (tLs tP) (o :: os)⟩ = .exit 5 := by
       show s8 Stp.next Stp.exit Stp.fail _ _=_;simp only[s8,Int.toNat_natCast,i5,q8,i8,hX,hA,gA,hn,hgx,hlp,z5,z6,z7,g9,N2,Qkc];rw[btD hlt]
      rw[e];exact .ex (hex (hro.trans hr48) (by simp))
 ·obtain⟨h1,hO',hr⟩:=hi;have hje:j=xs.length:=by omega
  subst hje;rw[List.take_length] at hO' hr;refine⟨phL O'*3+3,?_,λ_=>?_,λh=>(by rw[hr] at h;cases h)⟩
  ·cases O' with
   |nil =>
    show o6 Stp.next Stp.exit Stp.fail _ _=_;simp only[o6];rw[bfD (r8 (Qke _))];rfl
   |cons o os =>
    show s8 Stp.next Stp.exit Stp.fail _ _=_;simp only[s8];rw[bfD (r8 (Qke _))];rfl
  ·rw[<- hO'];exact⟨rfl,rfl,rfl⟩
noncomputable def wa1(x:List (List Pln))(y:List Pln):List (List Pln)×Int:=match E8 x y with
 |some r=>(r,0)
 |none=>([],9)
theorem if4{α:Type}(t:Ty α)(l:List α)(n:Int):(two (r1L t) r1I).rd (.tup [eL t l,i n],[])=some (l,n):=by
 have h:(r1L t).rd [] (eL t l)=some l:=by
  show Bool.rec (motive:=λ_=>Option (List α)) none (some (rt t l)) (Bool.and (Nat.beq t.es t.es) (okE t l))=_
  rw[i5,q8,Qkac];rfl
 simp only[two,h];rfl
theorem Bf5{α:Type}(t:Ty α)(l:List α)(n:Int):(two (r1L t) r1I).rd (.tup [.tree t.es l.length (λk=>n5 (bL t l) (0+k)),i n],[])=some (l,n):=by
 have h:(r1L t).rd [] (.tree t.es l.length (λk=>n5 (bL t l) (0+k)))=some l:=by
  show Bool.rec (motive:=λ_=>Option (List α)) none (some (lsL t l.length λk=>n5 (bL t l) (0+k))) (Bool.and (Nat.beq t.es t.es) (okL t l.length λk=>n5 (bL t l) (0+k)))=_
  rw[Ec0 t (l:=l) rfl λk hk=>by rw[Qkv,ba6 t hk],kb9 t (f:=λk=>gL t l k) λk hk=>by rw[Qkv,ba6 t hk],Qkac]
  rfl
 simp only[two,h];rfl
theorem Bf6{α:Type}(t:Ty α)(k:Nat)(l:List α)(n:Int):(two (r1L t) r1I).rd (.tup [.sl 0 0 l.length 0,i n],[⟨k,t.es,bL t l,true,false,0⟩])=some (l,n):=by
 have h:(r1L t).rd [⟨k,t.es,bL t l,true,false,0⟩] (.sl 0 0 l.length 0)=some l:=of3 t k l;simp only[two,h];rfl
theorem hd4(x:List (List Pln))(y:List Pln)(hy:y.length<=1000000)(hx:x.length<=10000)(hxl:∀c∈x,c.length<=1000000):Rd (two (r1L (tLs tP)) r1I) (Ba6 x y) (λr=>r=wa1 x y):=by
 have hF:=rc0 (c:=y) (by omega);have gF:=rc1 (c:=y) (by omega)
 have hL:O9 y=lean y:=rfl;have gL':s6 y=true:=decide_eq_true hy;unfold Ba6 wa1 E8;simp only[i5,q8,i8,hF,gF,hL,gL',g9,Qkc];cases hf:ful y with
 |false=>exact⟨_,(x,0),rfl,if4 (tLs tP) x 0,rfl⟩
 |true =>
  have hc:=(N0.1 hf).1;have hfl:(lean y).length<=48:=by
   have:=ec0 y
   rw[beq_iff_eq,Ha3] at hc;omega
  obtain⟨t,s,hlp,hw⟩:=bf3 y x hy hx hxl (λp hp=>tb9 hc p (Qka _ (va8 hp))) hfl
  simp only[hlp,Bool.not_true,N2,if_true];cases hr:x.all (Ma6 y) with
  |false =>
   rcases hw.n hr with rfl|rfl|rfl|rfl<;>exact⟨_,([],9),rfl,rfl,rfl⟩
  |true =>
   obtain⟨h1,h2,h3⟩:=hw.y hr;by_cases hO:x.flatMap (ya7 y)=[]
   ·rw[hO] at h1 ⊢;have h1:t=3:=h1;subst h1;exact⟨_,([],0),rfl,rfl,rfl⟩
   ·have h1 : t = 6 := by
     obtain⟨o,os,hO⟩:=Qkan hO;rw[h1,hO];rfl
    subst h1;rw[h2,h3];by_cases h200:(x.flatMap (ya7 y)).length<=200
    ·rw[decide_eq_true h200];refine⟨_,(x.flatMap (ya7 y),0),?_,Bf5 (tLs tP) _ 0,rfl⟩
     have:decide (((x.flatMap (ya7 y)).length:Int)>200)=false:=decide_eq_false (by omega)
     rw[this];rfl
    ·rw[decide_eq_false h200]
     have:decide (((x.flatMap (ya7 y)).length:Int)>200)=true:=decide_eq_true (by omega)
     rw[this];exact⟨_,([],9),rfl,rfl,rfl⟩
theorem ic6{x:List (List Pln)}{y:List Pln}(hy:y.length<=1000000)(hx:x.length<=10000)(hxl:∀c∈x,c.length<=1000000):Y5 x y=wa1 x y:=(hd4 x y hy hx hxl).p
theorem xe7{x:List (List Pln)}{y:List Pln}(hy:y.length<=1000000)(hx:x.length<=10000)(hxl:∀c∈x,c.length<=1000000):Ra2 x y=true:=(hd4 x y hy hx hxl).g
noncomputable def schk(s:List (List Pln)):Int:=if (s.length:Int)>16 then 2 else match s.find? λc=>chk c != 0 with
 |some c=>chk c
 |none=>0
theorem Hd7{α:Type}(t:Ty α)(l:List α)(f:α->Bool)(h:l.any f=true):l.find? f=some (gL t l (l.findIdx f)):=by
 have hlt:l.findIdx f<l.length:=Qkau.2 (Qkk.1 h);rw[List.find?_eq_some_iff_getElem];refine⟨?_,l.findIdx f,hlt,?_,λj hj=>?_⟩
 ·simp only[gL,Qkj,Qkh hlt,Option.getD_some];exact List.findIdx_getElem (w:=hlt)
 ·simp[gL,Qkj,Qkh hlt]
 ·have:=List.not_of_lt_findIdx hj
  simpa using this
theorem wd3(s:List (List Pln))(hs:s.length<=1000000)(hl:∀c∈s,c.length<=1000000):Pa9 s=some (i (schk s),[]):=by
 have h:=Qa3 (step:=wa0 ⟨s,(s.length:Int)⟩) (mk:=λj=>(⟨(j:Int)⟩:T0)) (c:=λc=>chk c != 0) (u:=1) (fin:=2) (tLs tP) s (by omega)
  (λj hj=>by
   have hc:=hl _ (ta9 (tLs tP) hj);simp only[wa0,ra1,Int.toNat_natCast,i5,q8,Tc6 _ (show (gL (tLs tP) s j).length<=1000000000 by omega),Dd8 _ (show (gL (tLs tP) s j).length<=1000000000 by omega),o4 hj (show s.length<=4611686018427387904 by omega),g9]
   rw[btD (i6 hj),bt (f7 hj)])
  (by simp only[wa0,ra1];rw[bfD (r8 (Qke _))]) 0 (Qkp _)
 rw[Qku,Qkv] at h;unfold Pa9 schk;simp only[i5,q8,i8];rw[show (⟨0⟩:T0)=⟨((0:Nat):Int)⟩ from rfl,h]
 by_cases h16:(s.length:Int)>16
 ·rw[btD h16,if_pos h16]
 ·rw[bfD h16,if_neg h16];cases ha:s.any λc=>chk c != 0 with
  |true =>
   have hlt:s.findIdx (λc=>chk c != 0)<s.length:=Qkau.2 (Qkk.1 ha)
   have hc:=hl _ (ta9 (tLs tP) hlt);rw[Hd7 (tLs tP) s _ ha];simp only[Int.toNat_natCast,if_true,Tc6 _ (show (gL (tLs tP) s (s.findIdx λc=>chk c != 0)).length<=1000000000 by omega)]
   rfl
  |false =>
   rw[List.find?_eq_none.2 λc hc=>by have:=List.any_eq_false.1 ha c hc;simpa using this]
   rfl
theorem ec6{s:List (List Pln)}(hs:s.length<=1000000)(hl:∀c∈s,c.length<=1000000):U9 s=schk s:=by unfold U9;rw[wd3 s hs hl];rfl
theorem ec7{s:List (List Pln)}(hs:s.length<=1000000)(hl:∀c∈s,c.length<=1000000):V0 s=true:=by unfold V0;rw[wd3 s hs hl];rfl
theorem ge6{c:List Pln}(h:chk c=0):c.length<=48:=(Ha3.1 h).1
theorem wd4{s:List (List Pln)}(h:schk s=0):s.length<=16/\∀c∈s,chk c=0:=by
 unfold schk at h
 split at h
 ·cases h
 ·refine⟨by omega,λc hc=>?_⟩
  cases hf:s.find? λc=>chk c != 0 with
  |none=>simpa using List.find?_eq_none.1 hf c hc
  |some d =>
   rw[hf] at h
   have:=List.find?_some hf
   simp only at h
   rw[h] at this;cases this
theorem Cc1{ps r:List (List Pln)}{q:List Pln}(h:E8 ps q=some r)(hp:ps.length<=200):r.length<=200:=by
 unfold E8 at h
 split at h
 ·split at h
  ·rename_i h';injection h with h;subst h;rw[Qkl] at h';exact of_decide_eq_true h'.2
  ·cases h
 ·injection h with h;subst h;exact hp
theorem Oe4(x fs:List Pln)(j:Nat)(h:(B7 x fs j).length<48):(Ba4 x fs j).length<=48:=by
 unfold Ba4
 have:=ec0 (B7 x fs j++[o3 (gL tP fs j)])
 rw[Qkg] at this;simp only[List.length_singleton] at this;omega
theorem Nc2{ps r:List (List Pln)}{q:List Pln}(h:E8 ps q=some r)(hp:∀c∈ps,c.length<=48):∀c∈r,c.length<=48:=by
 unfold E8 at h
 split at h
 ·split at h
  ·rename_i h';injection h with h;subst h;rw[Qkl,Qkm] at h';intro c hc;obtain⟨x,hx,hc⟩:=Qkz.1 hc;have hr:=h'.1 x hx;unfold ya7 at hc;unfold Ma6 at hr;cases ha:apart x q with
   |true=>rw[ha,if_pos rfl] at hc;rw[Qkd.1 hc];exact hp x hx
   |false =>
    rw[ha,if_neg (by decide)] at hc
    rw[ha,Bool.false_or] at hr;obtain⟨j,hj,rfl,_⟩:=xb9.1 hc
    have:=Qkm.1 hr j (Qkn.2 hj)
    exact Oe4 x _ j (by simpa using this)
  ·cases h
 ·injection h with h;subst h;exact hp
noncomputable def yb2(s:List (List Pln))(o:Option (List (List Pln))):Option (List (List Pln)):=s.foldl (λst q=>st.bind λps=>E8 ps q) o
noncomputable def Sa8(x:List Pln)(y:List (List Pln)):List (List Pln)×Int :=
 if chk x != 0 then ([],chk x) else if schk y != 0 then ([],schk y) else match oa8 x y with
  |some r=>(r,0)
  |none=>([],9)
structure M0(c:List Pln)(ys:List (List Pln))(t:Nat)(s:A0):Prop where
 y:∀r,yb2 ys (some [c])=some r->(ys=[]/\t=2)\/(ys≠[]/\t=4/\s.Za6=r)
 n:yb2 ys (some [c])=none->(t=1/\∃j,s.yb9=((j:Nat):Int)/\wa1 [c] (gL (tLs tP) ys j)=([],9))\/(t=3/\∃j,s.yb9=((j:Nat):Int)/\wa1 s.Za6 (gL (tLs tP) ys j)=([],9)/\j<ys.length/\s.Za6.length<=200/\∀c∈s.Za6,c.length<=48)
theorem hd5(s:List (List Pln)):yb2 s none=none:=Tb6 s
theorem ge7{ys:List (List Pln)}{j:Nat}(hj:j<ys.length)(o:Option (List (List Pln))):yb2 (ys.take (j+1)) o=(yb2 (ys.take j) o).bind λps=>E8 ps (gL (tLs tP) ys j):=by
 unfold yb2;rw[Qkap,Qkh hj,Qkae];simp[gL,Qkj,Qkh hj]
theorem Xd0(ys:List (List Pln))(j:Nat)(o:Option (List (List Pln))):yb2 ys o=yb2 (ys.drop j) (yb2 (ys.take j) o):=by
 unfold yb2;rw[<- Qkae,List.take_append_drop]
theorem bf4 (c : List Pln) (ys : List (List Pln)) (hc : c.length ≤ 48) (hn : ys.length ≤ 1000) (hy : ∀ q ∈ ys, q.length ≤ 1000000) :
  ∃t s,lp (L0 ⟨ys,(ys.length:Int),c⟩) ⟨0,0,[]⟩=(t,s)/\M0 c ys t s:=by
 refine da0 (step:=L0 ⟨ys,(ys.length:Int),c⟩) (mk:=λj (ps:List (List Pln))=>(⟨if j=0 then 0 else 1,(j:Int),if j=0 then [] else ps⟩:A0)) ys.length
  (λj ps=>j<=ys.length/\yb2 (ys.take j) (some [c])=some ps/\ps.length<=200/\∀x∈ps,x.length<=48) (M0 c ys) (by omega)
  (λj ps hj hi=>?_) (λj ps hj hi=>?_) 0 [c] ⟨Qkp _,rfl,by simp,by simpa using hc⟩
 ·obtain⟨_,hm,hl,hle⟩:=hi;have hw1:W ((j:Int)+1)=((j+1:Nat):Int):=o4 hj (by omega)
  have hq:=hy _ (ta9 (tLs tP) hj);have hgx:inB (j:Int) ys.length=true:=f7 hj;have hmj:=ge7 hj (some [c]);have hsp:=Xd0 ys (j+1) (some [c]);rw[hm] at hmj;have pw:=ic6 (x:=ps) hq (by omega) λx hx=>Qkq (hle x hx) (by omega)
  have gw:=xe7 (x:=ps) hq (by omega) λx hx=>Qkq (hle x hx) (by omega)
  have hmj:yb2 (ys.take (j+1)) (some [c])=E8 ps (gL (tLs tP) ys j):=hmj;by_cases h0:j=0
  ·subst h0;have hps:ps=[c]:=by
    have:some [c]=some ps:=hm
    injection this with this;exact this.symm
   subst hps;cases hw:E8 [c] (gL (tLs tP) ys 0) with
   |some r =>
    have hR:wa1 [c] (gL (tLs tP) ys 0)=(r,0):=by unfold wa1;rw[hw]
    rw[hR] at pw;have e:L0 ⟨ys,(ys.length:Int),c⟩ ⟨0,((0:Nat):Int),[]⟩=.next ⟨1,((0+1:Nat):Int),r⟩:=by
     show M6 Stp.next Stp.exit Stp.fail _ _=_;simp only[M6,Int.toNat_natCast,i5,q8,pw,gw,hw1,hgx,g9,Qkc];rw[btD (i6 hj)];rfl
    show Nx (L0 ⟨ys,(ys.length:Int),c⟩ ⟨0,((0:Nat):Int),[]⟩) _ _;rw[e];exact .nx ⟨r,rfl,hj,hmj.trans hw,Cc1 hw (by simp),Nc2 hw (by simpa using hc)⟩
   |none =>
    have hR:wa1 [c] (gL (tLs tP) ys 0)=([],9):=by unfold wa1;rw[hw]
    rw[hR] at pw;have e:L0 ⟨ys,(ys.length:Int),c⟩ ⟨0,((0:Nat):Int),[]⟩=.exit 1:=by
     show M6 Stp.next Stp.exit Stp.fail _ _=_;simp only[M6,Int.toNat_natCast,i5,q8,pw,gw,hw1,hgx,g9,Qkc];rw[btD (i6 hj)];rfl
    show Nx (L0 ⟨ys,(ys.length:Int),c⟩ ⟨0,((0:Nat):Int),[]⟩) _ _;rw[e];rw[hmj,hw,hd5] at hsp;exact .ex ⟨λr hr=>(by rw[hsp] at hr;cases hr),λ_=>.inl ⟨rfl,0,rfl,hR⟩⟩
  ·have em:(⟨if j=0 then 0 else 1,(j:Int),if j=0 then [] else ps⟩:A0)=⟨1,(j:Int),ps⟩:=by rw[if_neg h0,if_neg h0]
   rw[em];cases hw:E8 ps (gL (tLs tP) ys j) with
   |some r =>
    have hR:wa1 ps (gL (tLs tP) ys j)=(r,0):=by unfold wa1;rw[hw]
    rw[hR] at pw;have e:L0 ⟨ys,(ys.length:Int),c⟩ ⟨1,(j:Int),ps⟩=.next ⟨1,((j+1:Nat):Int),r⟩:=by
     show M7 Stp.next Stp.exit Stp.fail _ _=_;simp only[M7,Int.toNat_natCast,i5,q8,pw,gw,hw1,hgx,g9,Qkc];rw[btD (i6 hj)];rfl
    rw[e];exact .nx ⟨r,by rw[if_neg (by omega),if_neg (by omega)],hj,hmj.trans hw,Cc1 hw hl,Nc2 hw hle⟩
   |none =>
    have hR:wa1 ps (gL (tLs tP) ys j)=([],9):=by unfold wa1;rw[hw]
    rw[hR] at pw;have e:L0 ⟨ys,(ys.length:Int),c⟩ ⟨1,(j:Int),ps⟩=.exit 3:=by
     show M7 Stp.next Stp.exit Stp.fail _ _=_;simp only[M7,Int.toNat_natCast,i5,q8,pw,gw,hw1,hgx,g9,Qkc];rw[btD (i6 hj)];rfl
    rw[e];rw[hmj,hw,hd5] at hsp;exact .ex ⟨λr hr=>(by rw[hsp] at hr;cases hr),λ_=>.inr ⟨rfl,j,rfl,hR,hj,hl,hle⟩⟩
 ·obtain⟨h1,hm,hl,hle⟩:=hi;have hje:j=ys.length:=by omega
  subst hje;rw[List.take_length] at hm;by_cases h0:ys.length=0
  ·have hnil:ys=[]:=List.length_eq_zero_iff.1 h0;subst hnil;refine⟨2,?_,λr hr=>.inl ⟨rfl,rfl⟩,λh=>(by rw[hm] at h;cases h)⟩
   show M6 Stp.next Stp.exit Stp.fail ⟨[],((([]:List (List Pln)).length:Nat):Int),c⟩ ⟨0,((([]:List (List Pln)).length:Nat):Int),[]⟩=_;simp only[M6];rfl
  ·have em:(⟨if ys.length=0 then 0 else 1,(ys.length:Int),if ys.length=0 then [] else ps⟩:A0)=⟨1,(ys.length:Int),ps⟩:=by rw[if_neg h0,if_neg h0]
   rw[em];refine⟨4,?_,λr hr=>.inr ⟨λe=>h0 (by rw[e];rfl),rfl,?_⟩,λh=>(by rw[hm] at h;cases h)⟩
   ·show M7 Stp.next Stp.exit Stp.fail _ _=_;simp only[M7];rw[bfD (r8 (Qke _))]
   ·rw[hm] at hr;injection hr
theorem wd5{c:List Pln}(h:ful c=false):∀s:List (List Pln),oa8 c s=some []:=by
 intro s;unfold oa8;rw[h,if_neg (by decide)]
 induction s with
 |nil=>rfl
 |cons q s ih =>
  have:E8 [] q=some []:=by unfold E8;split<;>rfl
  show s.foldl _ (E8 [] q)=_;rw[this];exact ih
theorem Xd1(x:List Pln)(y:List (List Pln))(hx:x.length<=1000000)(hn:y.length<=1000000)(hy:∀q∈y,q.length<=1000000):Rd (two (r1L (tLs tP)) r1I) (Qa0 x y) (λr=>r=Sa8 x y):=by
 have hC:=Tc6 x (show x.length<=1000000000 by omega);have gC:=Dd8 x (show x.length<=1000000000 by omega)
 have hS:=ec6 hn hy;have gS:=ec7 hn hy;have hF:=rc0 (c:=x) (by omega);have gF:=rc1 (c:=x) (by omega)
 have hL:O9 x=lean x:=rfl;have gL':s6 x=true:=decide_eq_true hx;unfold Qa0 Sa8;simp only[i5,q8,i8,hC,gC,hS,gS,hF,gF,hL,gL',g9,Qkc];cases hc:chk x != 0 with
 |true=>exact⟨_,([],chk x),rfl,rfl,rfl⟩
 |false =>
  cases hs:schk y != 0 with
  |true=>exact⟨_,([],schk y),rfl,rfl,rfl⟩
  |false =>
   have hc0:chk x=0:=by simpa using hc
   have hs0:=wd4 (show schk y=0 by simpa using hs)
   simp only[N2,Qko,if_false];cases hf:ful x with
   |false =>
    rw[wd5 hf];exact⟨_,([],0),rfl,rfl,rfl⟩
   |true =>
    simp only[Bool.not_true,N2];have hm:oa8 x y=yb2 y (some [lean x]):=by unfold oa8 yb2;rw[hf];rfl
    have hll:(lean x).length<=48:=Qkq (ec0 x) (ge6 hc0);obtain⟨t,s,hlp,hM⟩:=bf4 (lean x) y hll (by omega) hy
    rw[hlp,hm];cases hr:yb2 y (some [lean x]) with
    |some r =>
     rcases hM.y r hr with⟨rfl,rfl⟩|⟨_,rfl,rfl⟩
     ·have : r = [lean x] := by
       have:some [lean x]=some r:=hr
       injection this with this;exact this.symm
      subst this;exact⟨_,([lean x],0),rfl,Bf6 (tLs tP) 24 [lean x] 0,rfl⟩
     ·exact⟨_,(s.Za6,0),rfl,if4 (tLs tP) _ 0,rfl⟩
    |none =>
     rcases hM.n hr with⟨rfl,j,h1,h2⟩|⟨rfl,j,h1,h2,hj,h4,h5⟩
     ·by_cases hj:j<y.length
      ·have pw:=ic6 (x:=[lean x]) (hy _ (ta9 (tLs tP) hj)) (by simp) (by simpa using Qkq hll (by omega))
       rw[h2] at pw;simp only[h1,Int.toNat_natCast,pw];exact⟨_,([],9),rfl,rfl,rfl⟩
      ·have hd:gL (tLs tP) y j=[]:=by simp[gL,Qkj,List.getElem?_eq_none (show y.length<=j by omega)];rfl
       have pw:=ic6 (x:=[lean x]) (y:=gL (tLs tP) y j) (by rw[hd];simp) (by simp) (by simpa using Qkq hll (by omega))
       rw[h2] at pw;simp only[h1,Int.toNat_natCast,pw];exact⟨_,([],9),rfl,rfl,rfl⟩
     ·have pw:=ic6 (x:=s.Za6) (hy _ (ta9 (tLs tP) hj)) (by omega) λc hc=>Qkq (h5 c hc) (by omega)
      rw[h2] at pw;simp only[h1,Int.toNat_natCast,pw];exact⟨_,([],9),rfl,rfl,rfl⟩
theorem oe6{x:List Pln}{y:List (List Pln)}(hx:x.length<=1000000)(hn:y.length<=1000000)(hy:∀q∈y,q.length<=1000000):fb6 x y=Sa8 x y:=(Xd1 x y hx hn hy).p
theorem oe7{x:List Pln}{y:List (List Pln)}(hx:x.length<=1000000)(hn:y.length<=1000000)(hy:∀q∈y,q.length<=1000000):fb7 x y=true:=(Xd1 x y hx hn hy).g
noncomputable def s9(x:List (List Pln))(y:List Pln):Bool×Int:=((Sa8 y x).2==0&&((Sa8 y x).1.length:Int)==0,(Sa8 y x).2)
theorem wd6(x:List (List Pln))(y:List Pln)(hy:y.length<=1000000)(hn:x.length<=1000000)(hx:∀q∈x,q.length<=1000000):Ia5 x y=some (.tup [b (s9 x y).1,i (s9 x y).2],[]):=by
 unfold Ia5 s9;simp only[i5,q8,oe6 hy hn hx,oe7 hy hn hx,g9];cases (Sa8 y x).2==0<;>rfl
theorem Cc2{x:List (List Pln)}{y:List Pln}(hy:y.length<=1000000)(hn:x.length<=1000000)(hx:∀q∈x,q.length<=1000000):ea7 x y=s9 x y:=by unfold ea7;rw[wd6 x y hy hn hx];rfl
theorem Xd2{x:List (List Pln)}{y:List Pln}(hy:y.length<=1000000)(hn:x.length<=1000000)(hx:∀q∈x,q.length<=1000000):Ia6 x y=true:=by unfold Ia6;rw[wd6 x y hy hn hx];rfl
end Go.Ev.Ce
