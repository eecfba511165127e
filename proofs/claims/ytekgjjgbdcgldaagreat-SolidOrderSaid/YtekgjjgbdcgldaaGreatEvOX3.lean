/- Own work. -/
import Derived.Test.YtekgjjgbdcgldaaGreatEvOGe2
set_option linter.all false
def Qka:=@List.mem_append_left
def Qkb:=@List.mem_append
def Qkc:=@Bool.and_self
def Qkd:=@List.mem_singleton
def Qke:=@Nat.lt_irrefl
def Qkf:=@List.mem_append_right
def Qkg:=@List.length_append
def Qkh:=@List.getElem?_eq_getElem
def Qki:=@List.mem_cons
def Qkj:=@List.getD_eq_getElem?_getD
def Qkk:=@List.any_eq_true
def Qkl:=@Bool.and_eq_true
def Qkm:=@List.all_eq_true
def Qkn:=@List.mem_range
def Qko:=@Bool.false_eq_true
def Qkp:=@Nat.zero_le
def Qkq:=@Nat.le_trans
def Qkr:=@Int.mul_eq_zero
def Qks:=@List.mem_filter
def Qkt:=@Nat.le_refl
def Qku:=@List.drop_zero
def Qkv:=@Nat.zero_add
def Qkw:=@List.not_mem_nil
def Qkx:=@List.mem_cons_of_mem
def Qky:=@Nat.gcd_dvd_left
def Qkz:=@List.mem_flatMap
def Qkaa:=@Int.le_of_lt
def Qkab:=@List.mem_cons_self
def Qkac:=@Nat.beq_refl
def Qkad:=@List.pairwise_singleton
def Qkae:=@List.foldl_append
def Qkaf:=@Nat.gcd_dvd_right
def Qkag:=@Bool.and_true
def Qkah:=@Int.mul_tdiv_cancel'
def Qkai:=@Nat.not_lt_zero
def Qkaj:=@Bool.not_false
def Qkak:=@Int.mul_pos
def Qkal:=@List.pairwise_cons
def Qkam:=@Nat.dvd_trans
def Qkan:=@List.exists_cons_of_ne_nil
def Qkao:=@List.append_assoc
def Qkap:=@List.take_add_one
def Qkaq:=@Int.mul_pos_of_neg_of_neg
def Qkar:=@Int.eq_of_mul_eq_mul_left
def Qkas:=@Classical.byContradiction
def Qkat:=@List.length_take
def Qkau:=@List.findIdx_lt_length
def Qkav:=@Int.mul_nonneg
def Qkaw:=@List.length_filter_le
def Qkax:=@Go.Ev.Ce.V3.ext'
namespace Go.Ev.Ce
def dv(z v:Pt):V3:=⟨v.px*z.pw-z.px*v.pw,v.py*z.pw-z.py*v.pw,v.pz*z.pw-z.pz*v.pw⟩
def thr(n:V3)(z:Pt):Pln:=⟨⟨z.pw*n.x,z.pw*n.y,z.pw*n.z⟩,n.x*z.px+n.y*z.py+n.z*z.pz⟩
theorem Se5(n:V3)(z x:Pt):rmZ (thr n z) x=-dot n (dv z x):=by simp only[rmZ,thr,dot,dv];grind
theorem Se6{p:Pln}{z v:Pt}(hz:rmZ p z≠0)(hv:rmZ p v=0)(hw:0<v.pw):dv z v≠⟨0,0,0⟩:=λh=>by
 unfold dv at h;simp only[V3.mk.injEq] at h;obtain⟨e1,e2,e3⟩:=h
 have:rmZ p z*v.pw=rmZ p v*z.pw:=by unfold rmZ;grind
 rw[hv,Int.zero_mul] at this;exact (Qkr.1 this).elim hz (by omega)
theorem wf8{p:Pln}{z:Pt}(hz:rmZ p z≠0):∀l:List Pt,l.length<=2->(∀v∈l,rmZ p v=0/\0<v.pw)->∃n,n≠(⟨0,0,0⟩:V3)/\∀v∈l,dot n (dv z v)=0
 |[],_,_=>⟨⟨1,0,0⟩,by simp,λv h=>by cases h⟩
 |[v],_,h=>by
  obtain⟨h1,h2⟩:=h v (by simp)
  obtain⟨d,hd,he⟩:=wf5 (Se6 hz h1 h2);exact⟨d,hd,λu hu=>by rw[Qkd.1 hu,<- he];unfold dot;grind⟩
 |[v,u],_,h=>by
  obtain⟨h1,h2⟩:=h v (by simp)
  by_cases hc:f0 (dv z v) (dv z u)=⟨0,0,0⟩
  ·obtain⟨d,hd,he⟩:=wf5 (Se6 hz h1 h2);have hu:dot (dv z u) d=0:=by
    by_cases h0:dot (dv z u) d=0
    ·exact h0
    ·exact absurd hc (be3 (Se6 hz h1 h2) he h0)
   refine⟨d,hd,λx hx=>?_⟩
   simp only[Qki,Qkw,or_false] at hx
   rcases hx with rfl|rfl
   ·rw[<- he];unfold dot;grind
   ·rw[<- hu];unfold dot;grind
  ·refine⟨_,hc,λx hx=>?_⟩
   simp only[Qki,Qkw,or_false] at hx
   rcases hx with rfl|rfl
   ·rw[<- Rc6 (dv z x) (dv z u)];unfold dot;grind
   ·rw[<- Rc7 (dv z v) (dv z x)];unfold dot;grind
 |_::_::_::_,h,_=>by simp at h
def wf9(p:Pln)(z v:Pt):Pt:=⟨rmZ p v*z.px-rmZ p z*v.px,rmZ p v*z.py-rmZ p z*v.py,rmZ p v*z.pz-rmZ p z*v.pz,rmZ p v*z.pw-rmZ p z*v.pw⟩
theorem Md6(p q:Pln)(z v:Pt):rmZ q (wf9 p z v)=rmZ p v*rmZ q z-rmZ p z*rmZ q v:=by
 generalize ha:rmZ p v=a;generalize hb:rmZ p z=c;simp only[rmZ,wf9] at *
 rw[ha,hb]
 grind
theorem gf3{r r':List Pln}(hs:∀p∈r',p∈r){v:Pt}(h:Cn r' v)(hi:Inr r v):Cn r v:=by
 obtain⟨p,q,s,hp,hq,hs',hw,e⟩:=h.c;exact⟨hi,p,q,s,hs p hp,hs q hq,hs s hs',hw,e⟩
theorem Se7{r:List Pln}(hb:Bdd r)(hB:Md5 r){h:Pln}(hn:h.n≠⟨0,0,0⟩):¬ ∀x,Inr r x->rmZ h x=0:=λH=>by
 obtain⟨x,hw,hx⟩:=hB;have hi:Inr r x:=⟨hw,λp hp=>Qkaa (hx p hp)⟩
 obtain⟨q,hq,h1,h2⟩:=step hi h.n (hb h.n hn);have h3:=H _ h2;rw[be2,H _ hi] at h3;have h4:=hx q hq;have h5:0<dot h.n h.n:=by
  have k:∀a:Int,a≠0->0<a*a:=λa ha=>by
   rcases Int.lt_or_gt_of_ne ha with h|h
   ·exact Qkaq h h
   ·exact Qkak h h
  have k0:∀a:Int,0<=a*a:=λa=>by
   by_cases h:a=0
   ·subst h;decide
   ·exact Qkaa (k a h)
  have a1:=k0 h.n.x;have a2:=k0 h.n.y;have a3:=k0 h.n.z;unfold dot;by_cases c1:h.n.x=0
  ·by_cases c2:h.n.y=0
   ·have:=k h.n.z (λc3=>hn (Qkax c1 c2 c3));omega
   ·have:=k _ c2;omega
  ·have:=k _ c1;omega
 have:=Qkak h4 h5
 omega
theorem If9 {r r' : List Pln} {p : Pln} (hb : Bdd r) (hB : Md5 r) (hp : p ∈ r) (hr : ∀ q ∈ r, q ∈ r' ∨ q = p)
  (l:List Pt) (hl:l.length<=2) (hl0:∀v∈l,rmZ p v=0/\0<v.pw) (hc:∀v,Cn r v->rmZ p v=0->∃x∈l,Eqv x v) {z:Pt} (hz:Inr r' z):Inr r z:=by
 by_cases h0:0<=rmZ p z
 ·exact⟨hz.w,λq hq=>(hr q hq).elim (hz.h q) λe=>e ▸ h0⟩
 exfalso;have hneg:rmZ p z<0:=by omega
 obtain⟨n,hn,hv⟩:=wf8 (p:=p) (z:=z) (by omega) l hl hl0
 have hn':(thr n z).n≠⟨0,0,0⟩:=λe=>hn (by
  unfold thr at e;simp only[V3.mk.injEq] at e;have k:∀{a:Int},z.pw*a=0->a=0:=λh=>(Qkr.1 h).resolve_left (by have:=hz.w;omega)
  exact Qkax (k e.1) (k e.2.1) (k e.2.2))
 -- the face lies in that plane
 have hface:∀u,Inr r u->rmZ p u=0->rmZ (thr n z) u=0:=λu hu hu0=>by
  have hbd:Bdd (O4 p::r):=λd hd=>by
   obtain⟨q,hq,h⟩:=hb d hd;exact⟨q,Qkx _ hq,h⟩
  have hiu:Inr (O4 p::r) u:=⟨hu.w,λq hq=>by
   rcases Qki.1 hq with rfl|hq
   ·rw[ya0,hu0];decide
   ·exact hu.h q hq⟩
  have hvx:∀v,Cn (O4 p::r) v->rmZ (thr n z) v=0:=λv hcv=>by
   have hir:Inr r v:=⟨hcv.w,λq hq=>hcv.h q (Qkx _ hq)⟩
   have hp0:rmZ p v=0:=by
    have h1:=hcv.h (O4 p) Qkab;rw[ya0] at h1;have h2:=hir.h p hp;omega
   obtain⟨a,c,d,ha,hc',hd,hw,e1,e2,e3⟩:=hcv.c
   -- a plane that is turned round gives the same Re9
   have fl:∀{a c d:Pln},mw (O4 a) c d=-mw a c d/\mw c (O4 a) d=-mw c a d/\mw c d (O4 a)=-mw c d a:=λ{a c d}=>by
    refine⟨?_,?_,?_⟩<;>(simp only[mw,dot,f0,O4];grind)
   have hr0:∀{a:Pln},rmZ (O4 a) v=0->rmZ a v=0:=λh=>by rw[ya0] at h;omega
   have hcn:Cn r v:=by
    refine⟨hir,?_⟩
    rcases Qki.1 ha with rfl|ha<;>rcases Qki.1 hc' with rfl|hc'<;>rcases Qki.1 hd with rfl|hd
    ·exact absurd (by simp only[mw,dot,f0];grind) hw
    ·exact absurd (by simp only[mw,dot,f0];grind) hw
    ·exact absurd (by simp only[mw,dot,f0];grind) hw
    ·exact⟨p,c,d,hp,hc',hd,by have:=(fl (a:=p) (c:=c) (d:=d)).1;omega,hp0,e2,e3⟩
    ·exact absurd (by simp only[mw,dot,f0];grind) hw
    ·exact⟨a,p,d,ha,hp,hd,by have:=(fl (a:=p) (c:=a) (d:=d)).2.1;omega,e1,hp0,e3⟩
    ·exact⟨a,c,p,ha,hc',hp,by have:=(fl (a:=p) (c:=a) (d:=c)).2.2;omega,e1,e2,hp0⟩
    ·exact⟨a,c,d,ha,hc',hd,hw,e1,e2,e3⟩
   obtain⟨x,hx,he⟩:=hc v hcn hp0;have h1:=he.rm (thr n z);rw[Se5 n z x,hv x hx] at h1;have h1:rmZ (thr n z) v*x.pw=0:=by omega
   exact (Qkr.1 h1).resolve_right (by have:=(hl0 x hx).2;omega)
  have a1:=rb3 hbd (h:=thr n z) (λv hv=>by rw[hvx v hv];decide) hiu
  have a2:=rb3 hbd (h:=O4 (thr n z)) (λv hv=>by rw[ya0,hvx v hv];decide) hiu
  rw[ya0] at a2;omega
 -- so do all vertices
 have hall:∀v,Inr r v->rmZ (thr n z) v=0:=λv hi=>by
  by_cases hv0:rmZ p v=0
  ·exact hface v hi hv0
  have hvp:0<rmZ p v:=by have:=hi.h p hp;omega
  have hu:Inr r (wf9 p z v):=by
   have w1:=Qkak hvp hz.w;have w2:rmZ p z*v.pw<0:=Int.mul_neg_of_neg_of_pos hneg hi.w;refine⟨by show 0<rmZ p v*z.pw-rmZ p z*v.pw;omega,λq hq=>?_⟩
   rw[Md6]
   rcases hr q hq with h|rfl
   ·have b1:=Qkav (Qkaa hvp) (hz.h q h);have b2:rmZ p z*rmZ q v<=0:=Int.mul_nonpos_of_nonpos_of_nonneg (Qkaa hneg) (hi.h q hq);omega
   ·have:=Int.mul_comm (rmZ q v) (rmZ q z);omega
  have h1:=hface _ hu (by rw[Md6];have:=Int.mul_comm (rmZ p v) (rmZ p z);omega)
  rw[Md6] at h1;have h2:rmZ (thr n z) z=0:=by rw[Se5];simp only[dot,dv];grind
  rw[h2] at h1;have h1:rmZ p z*rmZ (thr n z) v=0:=by omega
  exact (Qkr.1 h1).resolve_left (by omega)
 exact Se7 hb hB hn' hall
end Go.Ev.Ce
namespace Go.Ev.Ce
open Go Go.Ev Go.Ev.L Go.Proofs
theorem te8(p:Pln):∀(a:Pln) (l:List Pln),p∈a::ddF a l↔p∈a::l
 |a,[]=>by simp[ddF]
 |a,x::l=>by
  have ih:=te8 p x l;unfold ddF;split
  ·rename_i h;rw[Gb5] at h;subst h;rw[ih];simp
  ·simp only[Qki] at ih ⊢;rw[ih]
theorem Se8(p:Pln):∀l:List Pln,p∈dd l↔p∈l
 |[]=>Iff.rfl
 |x::l=>te8 p x l
theorem te9:∀(a:Pln) (l:List Pln),(a::l).Pairwise (λx y=>(!ltOf ma0 y x)=true)->Xa0 (a::ddF a l)
 |a,[],_=>Qkad _ _
 |a,x::l,h=>by
  obtain⟨h1,h2⟩:=Qkal.1 h;have ih:=te9 x l h2;have hle:=h1 x Qkab;rw[hb9] at hle;have hle:¬ LtP x a:=by simpa using hle
  unfold ddF;split
  ·rename_i he;rw[Gb5] at he;subst he;exact ih
  ·rename_i hne;have hlt:LtP a x:=by
    rcases te3 a x with h|h|h
    ·exact h
    ·exact absurd ((Gb5 _ _).2 h.symm) hne
    ·exact absurd h hle
   refine Qkal.2 ⟨λp hp=>?_,ih⟩
   rcases Qki.1 hp with e|hp'
   ·subst e;exact hlt
   ·exact Mc4 hlt ((Qkal.1 ih).1 p hp')
theorem xf0(l:List Pln):Xa0 (dd (Wa8 l)):=by
 have h:=Ld8 l;cases hs:Wa8 l with
 |nil=>exact .nil
 |cons a l'=>rw[hs] at h;exact te9 a l' h
noncomputable def Pa1(X:List Pt)(out:List Pln)(p:Pln):List Pln:=if keep X p then ob1 out p else out
theorem Bd3(X:List Pt)(p:Pln):∀(c out:List Pln),p∈c.foldl (Pa1 X) out↔p∈out\/p∈c.filter (keep X)
 |[],out=>by simp
 |a::c,out=>by
  rw[List.foldl_cons,Bd3 X p c,List.filter_cons];unfold Pa1;split
  ·rw[Bb8,Qki];constructor
   ·rintro ((h|h)|h)
    ·exact .inr (.inl h)
    ·exact .inl h
    ·exact .inr (.inr h)
   ·rintro (h|h|h)
    ·exact .inl (.inr h)
    ·exact .inl (.inl h)
    ·exact .inr h
  ·exact Iff.rfl
theorem Bd4(X:List Pt):∀(c out:List Pln),Xa0 out->Xa0 (c.foldl (Pa1 X) out)
 |[],_,h=>h
 |a::c,out,h=>by
  rw[List.foldl_cons];refine Bd4 X c _ ?_;unfold Pa1;split
  ·exact ic7 a h
  ·exact h
theorem be7(X:List Pt)(c:List Pln):c.foldl (Pa1 X) []=dd (Wa8 (c.filter (keep X))) :=
 Bd1 (Bd4 X c [] .nil) (xf0 _) λp=>by
  rw[Bd3,Se8,(kd8 _).mem_iff];simp
theorem ue0(x:List Pln)(y:Pln):ob1 x y≠[]:=by
 intro h
 have:=(Bb8 y y x).2 (.inl rfl)
 rw[h] at this;cases this
theorem Bb9(y:Pln):∀x:List Pln,(ob1 x y).length<=x.length+1
 |[]=>Qkt _
 |a::l=>by
  have:=Bb9 y l
  unfold ob1;split
  ·simp only[List.length_cons];omega
  ·split<;>simp only[List.length_cons]<;>omega
theorem Se9(x:List Pln)(y:Pln)(hx:x.length<=1000000):wb1 x y=ob1 x y:=(ld3 x y hx).p.trans (me2 y x)
theorem Te0(x:List Pln)(y:Pln)(hx:x.length<=1000000):wb2 x y=true:=(ld3 x y hx).g
theorem Vf0(l:List Pt)(p:Pln)(n:Nat):l.foldl (λn x=>if rm p x==0 then n+1 else n) n=n+l.countP λx=>rm p x==0:=by
 induction l generalizing n with
 |nil=>rfl
 |cons x l ih =>
  rw[List.foldl_cons,ih,List.countP_cons]
  split<;>omega
theorem Te1 (c : List Pln) (X : List Pt) (o : List Pln) (hX : X.length ≤ 1000000000) (a φ : Nat) (hφ : φ ≤ 1) (ha : a < c.length) :
  lp (Sa4 ⟨c,X,(a:Int),o⟩) ⟨φ,0,0⟩=(φ+1,⟨φ,(onc X (gL tP c a):Int),(X.length:Int)⟩):=by
 have h:=Ac6 (step:=Sa4 ⟨c,X,(a:Int),o⟩) (mk:=λj (n:Nat)=>(⟨φ,(n:Int),(j:Int)⟩:Q8)) (f:=λn x=>if rm (gL tP c a) x==0 then n+1 else n) (fin:=φ+1) tX X (λj n=>n<=j) hX
  (λj n hj hi=>by
   have hW:W ((n:Int)+1)=((n+1:Nat):Int):=by rw[ia4 (by omega) (by omega)];omega
   refine⟨?_,by show (if rm (gL tP c a) (gL tX X j)==0 then n+1 else n)<=j+1;split<;>omega⟩
   have hb:φ=0\/φ=1:=by omega
   rcases hb with rfl|rfl
   ·show pa0 Stp.next Stp.exit Stp.fail _ _=_;simp only[pa0,Int.toNat_natCast,Yc2,hW,o3 hj (show X.length<=4611686018427387904 by omega)]
    rw[btD (g9 hj),bt (f7 hj),bt (f7 ha)];cases rm (gL tP c a) (gL tX X j)==0<;>rfl
   ·show pa1 Stp.next Stp.exit Stp.fail _ _=_;simp only[pa1,Int.toNat_natCast,Yc2,hW,o3 hj (show X.length<=4611686018427387904 by omega)]
    rw[btD (g9 hj),bt (f7 hj),bt (f7 ha)];cases rm (gL tP c a) (gL tX X j)==0<;>rfl)
  (λn _=>by
   have hb:φ=0\/φ=1:=by omega
   rcases hb with rfl|rfl
   ·show pa0 Stp.next Stp.exit Stp.fail _ _=_;simp only[pa0];rw[bfD (m9 (Qke _))]
   ·show pa1 Stp.next Stp.exit Stp.fail _ _=_;simp only[pa1];rw[bfD (m9 (Qke _))]) 0 (Qkp _) 0 (Qkt _)
 have h:=h.1;rw[Qku,Vf0,Qkv] at h;exact h
def phP(out:List Pln):Nat:=match out with
 |[]=>0
 |_::_=>1
theorem xf1(c:List Pln)(X:List Pt)(hc:c.length<=1000000)(hX:X.length<=1000000000):∃t s,lp (jb9 ⟨⟩) ⟨0,c,X,0,[]⟩=(t,s)/\(t=phP (c.foldl (Pa1 X) [])+1/\s.ba0=c.foldl (Pa1 X) []):=by
 refine W9 (step:=jb9 ⟨⟩) (mk:=λj (out:List Pln)=>(⟨phP out,c,X,(j:Int),out⟩:J8)) c.length (λj out=>out.length<=j/\out=(c.take j).foldl (Pa1 X) [])
  (λt s=>t=phP (c.foldl (Pa1 X) [])+1/\s.ba0=c.foldl (Pa1 X) []) (by omega) (λj out hj hi=>?_) (λj out hj hi=>?_) 0 [] ⟨by simp,by simp⟩
 ·obtain⟨i1,i2⟩:=hi;have hl:out.length<=1000000:=by omega
  have hn:=o3 hj (show c.length<=4611686018427387904 by omega)
  have r0:=Te1 c X [] hX j 0 (by omega) hj
  have r1:=Te1 c X out hX j 1 (by omega) hj
  have hk:keep X (gL tP c j)=!decide ((onc X (gL tP c j):Int)<3):=rfl;have hge:decide ((onc X (gL tP c j):Int)>=3)=keep X (gL tP c j):=by
   rw[hk];by_cases h:(onc X (gL tP c j):Int)<3
   ·rw[decide_eq_true h,decide_eq_false (by omega)];rfl
   ·rw[decide_eq_false h,decide_eq_true (by omega)];rfl
  have hnx : ∀ {s : J8}, s = ⟨phP (Pa1 X out (gL tP c j)), c, X, ((j + 1 : Nat) : Int), Pa1 X out (gL tP c j)⟩ → Nx (.next s) (fun t => t = phP (c.foldl (Pa1 X) []) + 1 ∧ (⟨phP out, c, X, (j : Int), out⟩ : J8).ba0 = c.foldl (Pa1 X) [])
    (λs=>∃a',s=(⟨phP a',c,X,((j+1:Nat):Int),a'⟩:J8)/\(a'.length<=j+1/\a'=(c.take (j+1)).foldl (Pa1 X) [])):=λ{s} hs=>by
   refine .nx ⟨_,hs,?_,?_⟩
   ·unfold Pa1;split
    ·have:=Bb9 (gL tP c j) out;omega
    ·omega
   ·rw[Yc9 tP hj,Qkae,<- i2];rfl
  cases out with
  |nil =>
   show Nx (pa2 Stp.next Stp.exit Stp.fail ⟨⟩ _) _ _;simp only[pa2,i6,i8,p6,Int.toNat_natCast,r0,hge,Se9 [] _ hl,Te0 [] _ hl,hn];rw[btD (g9 hj),bt (f7 hj)];cases hkk:keep X (gL tP c j) with
   |true=>exact hnx (by unfold Pa1;rw[hkk,if_pos rfl];rfl)
   |false=>exact hnx (by unfold Pa1;rw[hkk];rfl)
  |cons o os =>
   show Nx (pa3 Stp.next Stp.exit Stp.fail ⟨⟩ _) _ _;simp only[pa3,i6,i8,p6,Int.toNat_natCast,r1,hge,Se9 (o::os) _ hl,Te0 (o::os) _ hl,hn];rw[btD (g9 hj),bt (f7 hj),bt (f7 hj)];cases hkk:keep X (gL tP c j) with
   |true =>
    refine hnx ?_;unfold Pa1;rw[hkk,if_pos rfl];have hp:phP (ob1 (o::os) (gL tP c j))=1:=by
     cases h:ob1 (o::os) (gL tP c j) with
     |nil=>exact absurd h (ue0 _ _)
     |cons _ _=>rfl
    rw[hp]
   |false=>exact hnx (by unfold Pa1;rw[hkk];rfl)
 ·obtain⟨i1,i2⟩:=hi;rw[List.take_of_length_le hj] at i2;cases out with
  |nil =>
   refine⟨1,?_,by rw[<- i2];rfl,i2⟩
   show pa2 Stp.next Stp.exit Stp.fail ⟨⟩ _=_;simp only[pa2];rw[bfD (by show ¬ ((j:Nat):Int)<(c.length:Int);omega)]
  |cons o os =>
   refine⟨2,?_,by rw[<- i2];rfl,i2⟩
   show pa3 Stp.next Stp.exit Stp.fail ⟨⟩ _=_;simp only[pa3];rw[bfD (by show ¬ ((j:Nat):Int)<(c.length:Int);omega)]
theorem be8(c:List Pln)(hc:c.length<=1000000):Rd (one (r1L tP)) (Bb7 c) (λr=>r=lean c):=by
 have hl:c.length<=1000000000:=by omega
 have hX:=Kd8 c;obtain⟨t,s,h1,h2,h3⟩:=xf1 c (pts c) hc (by omega)
 unfold Bb7 lean;simp only[i6,p6,i8,re8 hl,re9 hl,Be6 hl,Be7 hl];rw[h1];cases hf:ful c with
 |false=>exact⟨_,[],rfl,rfl,rfl⟩
 |true =>
  simp only[h3];rw[<- be7];subst h2;cases hF:c.foldl (Pa1 (pts c)) [] with
  |nil=>exact⟨_,[],rfl,rfl,rfl⟩
  |cons o os=>exact⟨_,o::os,rfl,qc3 tP (o::os),rfl⟩
theorem gf4(c:List Pln)(hc:c.length<=1000000):wc3 c=lean c:=(be8 c hc).p
theorem gf5(c:List Pln)(hc:c.length<=1000000):wc4 c=true:=(be8 c hc).g
def gf6(l:List Pln)(p:Pln):Bool:=l.any λq=>eqP q p
theorem be9(l:List Pln)(p:Pln):gf6 l p=true↔p∈l:=by
 unfold gf6;rw[Qkk];exact⟨λ⟨q,h,e⟩=>by rw[Gb5] at e;exact e ▸ h,λh=>⟨p,h,(Gb5 p p).2 rfl⟩⟩
noncomputable def but(r l:List Pln):List Pln:=r.filter λp=>gf6 ws p||!gf6 l p
theorem ub8(r l:List Pln)(p:Pln):p∈but r l↔p∈r/\(p∈ws\/p∉l):=by
 unfold but;rw[Qks,Bool.or_eq_true,be9,Bool.not_eq_true',<- Bool.not_eq_true,be9]
theorem ue1{c:List Pln}(hb:Bds (c++ws))(hB:Md5 (c++ws)):∀l:List Pln,(∀p∈l,p∈c/\onc (cor (c++ws)) p<=2)->∀z,Inr (but (c++ws) l) z->Inr (c++ws) z
 |[],_,z,hz=>⟨hz.w,λp hp=>hz.h p ((ub8 _ _ _).2 ⟨hp,.inr (by simp)⟩)⟩
 |a::l,hl,z,hz=>by
  have ih:=ue1 hb hB l λp hp=>hl p (Qkx _ hp)
  refine ih z ?_;obtain⟨ha,hn⟩:=hl a Qkab;have har:a∈c++ws:=Qka _ ha;by_cases h0:a∈ws\/a∈l
  ·refine⟨hz.w,λp hp=>hz.h p ?_⟩
   obtain⟨h1,h2⟩:=(ub8 _ _ _).1 hp;refine (ub8 _ _ _).2 ⟨h1,?_⟩
   rcases h2 with h2|h2
   ·exact .inl h2
   ·by_cases hpa:p=a
    ·subst hpa
     rcases h0 with h0|h0
     ·exact .inl h0
     ·exact absurd h0 h2
    ·exact .inr λh=>(Qki.1 h).elim hpa h2
  ·have hw:a∉ws:=λh=>h0 (.inl h)
   have hal:a∉l:=λh=>h0 (.inr h)
   have sub:∀p∈but (c++ws) l,p∈c++ws:=λp hp=>((ub8 _ _ _).1 hp).1
   refine If9 (r:=but (c++ws) l) (r':=but (c++ws) (a::l)) (p:=a) ?_ ?_ ((ub8 _ _ _).2 ⟨har,.inr hal⟩) ?_ ((cor (c++ws)).filter λx=>rm a x==0) ?_ ?_ ?_ hz
   ·intro d hd;obtain⟨p,hp,h⟩:=Mc5 [] d hd;exact⟨p,(ub8 _ _ _).2 ⟨Qkf _ hp,.inl hp⟩,h⟩
   ·obtain⟨x,h1,h2⟩:=hB;exact⟨x,h1,λp hp=>h2 p (sub p hp)⟩
   ·intro q hq;obtain⟨h1,h2⟩:=(ub8 _ _ _).1 hq;by_cases hqa:q=a
    ·exact .inr hqa
    ·exact .inl ((ub8 _ _ _).2 ⟨h1,h2.elim .inl λh=>.inr λh'=>(Qki.1 h').elim hqa h⟩)
   ·rw[<- List.countP_eq_length_filter];exact hn
   ·intro v hv;obtain⟨h1,h2⟩:=Qks.1 hv;have hx:=Ec3 hb v h1;rw[Ce2 (hb a har) hx] at h2;exact⟨by simpa using h2,hx.w1⟩
   ·intro v hv h0;have hv':Cn (c++ws) v:=gf3 sub hv (ih v hv.toInr);obtain⟨x,hx,he⟩:=Se4 hb hv';have hok:=Ec3 hb x hx;refine⟨x,Qks.2 ⟨hx,?_⟩,he⟩;rw[Ce2 (hb a har) hok];have h1:=he.rm a;rw[h0,Int.zero_mul] at h1
    have:=(Qkr.1 h1).resolve_right (by have:=hv.w;omega)
    simpa using this
theorem ld6{c:List Pln}(hf:ful c=true):(chk c==0)=true/\Bds (c++ws)/\Md5 (c++ws):=by
 unfold ful at hf;rw[Qkl] at hf;have hb:=(jb5 hf.1).1;exact⟨hf.1,hb,(Pb2 hb (Mc5 c) (by simp[ws])).1 hf.2⟩
theorem ce0{c:List Pln}(hf:ful c=true)(p:Pln):p∈lean c↔p∈c/\keep (pts c) p=true:=by
 unfold lean;rw[if_pos hf,Se8,(kd8 _).mem_iff,Qks]
theorem bb8(c:List Pln):(lean c).length<=c.length:=by
 unfold lean;split
 ·have h1 : (dd (Wa8 (c.filter (keep (pts c))))).length ≤ (Wa8 (c.filter (keep (pts c)))).length := by
   cases Wa8 (c.filter (keep (pts c))) with
   |nil=>exact Qkt _
   |cons a l=>have:=te1 a l;simp only[dd,List.length_cons];omega
  rw[mc5] at h1
  have:=Qkaw (keep (pts c)) c
  omega
 ·exact Qkp _
def ipt(v:V3):Pt:=⟨v.x,v.y,v.z,1⟩
theorem xf2{v:V3}(h:inV v=true):∀p∈ws,0<=rmZ p (ipt v):=by
 obtain⟨⟨a1,a2⟩,⟨a3,a4⟩,a5,a6⟩:=(Ub5 v).1 h;intro p hp;simp only[ws,Qki,Qkw,or_false] at hp
 rcases hp with rfl|rfl|rfl|rfl|rfl|rfl<;>simp only[rmZ,ipt]<;>omega
def Zb5(p:Pln)(v:V3):Int:=if okp p&&inV v then (if dot p.n v-p.b<0 then -1 else if dot p.n v-p.b>0 then 1 else 0) else 0
theorem xf3{p:Pln}{v:V3}(hp:Bd p)(hv:inV v=true):Sm 331776 (dot p.n v):=by
 obtain⟨⟨a1,a2⟩,⟨a3,a4⟩,a5,a6⟩:=(Ub5 v).1 hv;have r1:=mb hp.x1 hp.x2 a1 a2;have r2:=mb hp.y1 hp.y2 a3 a4;have r3:=mb hp.z1 hp.z2 a5 a6;unfold Sm dot;omega
theorem gf7(p:Pln)(v:V3):Va4 p v=some (i (Zb5 p v),[]):=by
 unfold Va4 Zb5;simp only[Xd0,gd8,se2,Zd8];cases hp:okp p with
 |false=>rfl
 |true =>
  cases hv:inV v with
  |false=>rfl
  |true =>
   have hb:=uc9 hp;have hd:=xf3 hb hv;have e:Da9 p.n v=dot p.n v:=by
    unfold Da9;simp only[xb8,dc2];exact Ja4 (hd.mono (by omega))
   have e2:W (dot p.n v-p.b)=dot p.n v-p.b:=ia4 (by have:=hd.1;have:=hb.b2;omega) (by have:=hd.2;have:=hb.b1;omega)
   rw[e,e2];by_cases h1:dot p.n v-p.b<0
   ·simp only[Qkc,if_true,h1,decide_true];rfl
   ·by_cases h2:dot p.n v-p.b>0
    ·simp only[Qkc,if_true,h1,h2,decide_true,decide_false,if_false];rfl
    ·simp only[Qkc,if_true,h1,h2,decide_false,if_false];rfl
theorem Te2(p:Pln)(v:V3):hb6 p v=Zb5 p v:=by unfold hb6;rw[gf7];rfl
theorem ce1{p:Pln}{v:V3}(hp:okp p=true)(hv:inV v=true):Zb5 p v>0↔dot p.n v>p.b:=by
 unfold Zb5;rw[hp,hv];simp only[Qkc,if_true];split
 ·omega
 ·split<;>omega
theorem Ce5{p:Pln}{v:V3}(hp:okp p=true)(hv:inV v=true):Zb5 p v=0↔dot p.n v=p.b:=by
 unfold Zb5;rw[hp,hv];simp only[Qkc,if_true];split
 ·omega
 ·split<;>omega
theorem xf4(v:V3):g3 v∣v.x/\g3 v∣v.y/\g3 v∣v.z:=by
 unfold g3;refine⟨?_,?_,?_⟩<;>rw[<- Int.dvd_natAbs]<;>apply Int.natCast_dvd_natCast.2
 ·exact Qkam (Qky _ _) (Qky _ _)
 ·exact Qkam (Qky _ _) (Qkaf _ _)
 ·exact Qkaf _ _
theorem xf5(v:V3)(h:g3 v≠0):g3 ⟨Int.tdiv v.x (g3 v),Int.tdiv v.y (g3 v),Int.tdiv v.z (g3 v)⟩=1:=by
 generalize hg:g3 v=g at *
 have h0:0<=g:=hg ▸ Lc8 v;obtain⟨n,rfl⟩:∃n:Nat,g=n:=⟨g.toNat,by omega⟩
 have hn:0<n:=by omega
 have hgn:Nat.gcd (Nat.gcd v.x.natAbs v.y.natAbs) v.z.natAbs=n:=by unfold g3 at hg;omega
 have d1:n∣Nat.gcd v.x.natAbs v.y.natAbs:=hgn ▸ Qky _ _;have d3:n∣v.z.natAbs:=hgn ▸ Qkaf _ _;have d4:n∣v.x.natAbs:=Qkam d1 (Qky _ _);have d5:n∣v.y.natAbs:=Qkam d1 (Qkaf _ _);unfold g3;simp only[Int.natAbs_tdiv,Int.natAbs_natCast];show ((Nat.gcd (Nat.gcd (v.x.natAbs / n) (v.y.natAbs / n)) (v.z.natAbs / n):Nat):Int)=1;rw[Nat.gcd_div d4 d5,Nat.gcd_div d1 d3,hgn,Nat.div_self hn];rfl
structure Thr(a b c:V3)(p:Pln):Prop where
 ok:okp p=true
 k:∃g:Int,0<g/\g*p.n.x=(f0 (sub b a) (sub c a)).x/\g*p.n.y=(f0 (sub b a) (sub c a)).y/\g*p.n.z=(f0 (sub b a) (sub c a)).z
 o:p.b=dot p.n a
theorem Gb8{a b c:V3}(h:(Ca7 a b c).2=true):(inV a=true/\inV b=true/\inV c=true)/\Thr a b c (Ca7 a b c).1:=by
 unfold Ca7 at h ⊢;cases ha:inV a with
 |false=>rw[ha] at h;cases h
 |true =>
  cases hb:inV b with
  |false=>rw[ha,hb] at h;cases h
  |true =>
   cases hc:inV c with
   |false=>rw[ha,hb,hc] at h;cases h
   |true =>
    rw[ha,hb,hc] at h;simp only[Qkc,if_true] at h ⊢;obtain⟨_,k1,k2,k3⟩:=qc9 ha hb hc;generalize hn:f0 (sub b a) (sub c a)=n at *
    by_cases h0:g3 n=0
    ·rw[if_pos h0] at h;cases h
    ·rw[if_neg h0];have hp:=Lc8 n;obtain⟨d1,d2,d3⟩:=xf4 n;have q1:=L6 (g:=g3 n) k1 (by omega)
     have q2:=L6 (g:=g3 n) k2 (by omega)
     have q3:=L6 (g:=g3 n) k3 (by omega)
     refine⟨⟨trivial,trivial,trivial⟩,⟨?_,⟨g3 n,by omega,by rw[hn];exact Qkah d1,by rw[hn];exact Qkah d2,by rw[hn];exact Qkah d3⟩,rfl⟩⟩
     obtain⟨⟨a1,a2⟩,⟨a3,a4⟩,a5,a6⟩:=(Ub5 a).1 ha;have r1:=mb q1.1 q1.2 a1 a2;have r2:=mb q2.1 q2.2 a3 a4;have r3:=mb q3.1 q3.2 a5 a6;unfold okp;rw[xf5 n h0];simp only[List.all_cons,List.all_nil,Qkag,Qkl,ub0,beq_self_eq_true,true_and,and_true];refine⟨⟨q1,q2,q3⟩,?_⟩;unfold Sm dot
     simp only
     omega
theorem gf8(a b c:V3):Bd (Ca7 a b c).1:=by
 cases h:(Ca7 a b c).2 with
 |true=>exact uc9 (Gb8 h).2.ok
 |false =>
  have:(Ca7 a b c).1=⟨⟨0,0,0⟩,0⟩:=by
   unfold Ca7 at h ⊢;split
   ·rename_i hc;rw[if_pos hc] at h;split
    ·rfl
    ·rename_i h0;rw[if_neg h0] at h;cases h
   ·rfl
  rw[this]
  constructor<;>simp
theorem Te3{p:Pln}(h:Bd p):hb5 p=O4 p:=by
 unfold hb5 Ma4 O4
 simp only
 have:=h.x1;have:=h.x2;have:=h.y1;have:=h.y2;have:=h.z1;have:=h.z2;have:=h.b1;have:=h.b2
 rw[ia4 (by omega) (by omega),ia4 (by omega) (by omega),ia4 (by omega) (by omega),ia4 (by omega) (by omega)]
 simp only[Int.zero_sub]
theorem Fc5{p:Pln}(h:okp p=true):okp (O4 p)=true:=by
 unfold okp O4 g3 at *
 simp only[List.all_cons,List.all_nil,Qkag,Qkl,ub0,Int.natAbs_neg] at h ⊢;obtain⟨⟨h1,h2,h3⟩,h4,h5⟩:=h;exact⟨⟨h1.neg,h2.neg,h3.neg⟩,h4,h5.neg⟩
noncomputable def Te4(l:List V3)(p:Pln):Bool:=l.any λv=>Zb5 p v != 0
noncomputable def nf(l:List V3)(a c k:Nat):Bool:=(Ca7 (gL tV l a) (gL tV l c) (gL tV l k)).2&&Te4 l (Ca7 (gL tV l a) (gL tV l c) (gL tV l k)).1
noncomputable def nf2(l:List V3)(a c:Nat):Bool:=(List.range c).any (nf l a c)
noncomputable def nf1(l:List V3)(a:Nat):Bool:=(List.range a).any (nf2 l a)
noncomputable def nf0(l:List V3):Bool:=(List.range l.length).any (nf1 l)
theorem me3 {σ : Type} {step : σ → Stp σ} {mk : Nat → σ} (n : Nat) (c : Nat → Bool) (u fin : Nat) (hn : n ≤ 1000000000) (h : ∀ j, j < n → step (mk j) = sl (c j) (.exit u) (.next (mk (j + 1)))) (hf : step (mk n) = .exit fin) :
  ∃j,lp step (mk 0)=(if (List.range n).any c then u else fin,mk j):=by
 have key:=W9 (step:=step) (mk:=λj (_:Unit)=>mk j) n (λj _=>j<=n/\∀i,i<j->c i=false) (λt s=>t=(if (List.range n).any c then u else fin)/\∃j,s=mk j) hn
  (λj _ hj hi=>by
   rw[h j hj];refine Nx.sl (λhc=>.ex ⟨?_,j,rfl⟩) (λhc=>.nx ⟨(),rfl,by omega,λi hi'=>?_⟩)
   ·rw[if_pos (Qkk.2 ⟨j,Qkn.2 hj,hc⟩)]
   ·by_cases e:i=j
    ·rw[e];exact hc
    ·exact hi.2 i (by omega))
  (λj _ hj hi=>by
   have e:j=n:=by omega
   subst e;refine⟨fin,hf,?_,j,rfl⟩;rw[if_neg λhh=>?_]
   obtain⟨i,hi1,hi2⟩:=Qkk.1 hh;rw[hi.2 i (Qkn.1 hi1)] at hi2;cases hi2) 0 () ⟨by omega,by omega⟩
 obtain⟨t,s,h1,rfl,j,rfl⟩:=key;exact⟨j,h1⟩
theorem Te5(l:List V3)(x1 x2 x3:Int)(okb:Bool)(p:Pln)(hl:l.length<=1000000000):∃t s,lp (F7 ⟨l,x1,x2,x3,okb,p.n.x,p.n.y,p.n.z,p.b⟩) ⟨0⟩=(t,s)/\(((okb&&Te4 l p)=true/\t=1)\/((okb&&Te4 l p)=false/\(t=2\/t=3))):=by
 cases okb with
 |false =>
  cases l with
  |nil =>
   refine⟨3,⟨0⟩,?_,.inr ⟨rfl,.inr rfl⟩⟩;exact Fc3 (step:=F7 ⟨[],x1,x2,x3,false,p.n.x,p.n.y,p.n.z,p.b⟩) rfl
  |cons v l =>
   refine⟨2,⟨0⟩,?_,.inr ⟨rfl,.inl rfl⟩⟩;refine Fc3 (step:=F7 ⟨v::l,x1,x2,x3,false,p.n.x,p.n.y,p.n.z,p.b⟩) ?_;simp only[F7,ga6];rw[btD (by simp only[List.length_cons];omega)]
   rfl
 |true =>
  have h:=fb6 (step:=F7 ⟨l,x1,x2,x3,true,p.n.x,p.n.y,p.n.z,p.b⟩) (mk:=λj=>(⟨(j:Int)⟩:la0)) (c:=λv=>Zb5 p v != 0) (u:=1) (fin:=3) tV l hl
   (λj hj=>by
    simp only[F7,ga6,Kd9,Te2,Int.toNat_natCast,o3 hj (show l.length<=4611686018427387904 by omega)]
    rw[btD (g9 hj),bt (f7 hj)]
    rfl)
   (by simp only[F7,ga6];rw[bfD (m9 (Qke _))]) 0 (Qkp _)
  rw[Qku] at h;have h:(lp (F7 ⟨l,x1,x2,x3,true,p.n.x,p.n.y,p.n.z,p.b⟩) ⟨0⟩).1=_:=h;cases hlp:lp (F7 ⟨l,x1,x2,x3,true,p.n.x,p.n.y,p.n.z,p.b⟩) ⟨0⟩ with
  |mk t s =>
  rw[hlp] at h;refine⟨t,s,rfl,?_⟩
  simp only at h
  rw[h];unfold Te4;cases hh:l.any λv=>Zb5 p v != 0 with
  |true=>exact .inl ⟨rfl,rfl⟩
  |false=>exact .inr ⟨rfl,.inr rfl⟩
theorem Te6(l:List V3)(hl:l.length<=1000000000)(a c:Nat)(ha:a<l.length)(hc:c<a):∃j,lp (X3 ⟨(a:Int),(c:Int)⟩) ⟨l,0⟩=(if nf2 l a c then 1 else 2,⟨l,((j:Nat):Int)⟩) :=
 me3 (step:=X3 ⟨(a:Int),(c:Int)⟩) (mk:=λj=>(⟨l,(j:Int)⟩:la1)) c (nf l a c) 1 2 (by omega)
  (λj hj=>by
   simp only[X3,oa3,Ob4,Wa6,Int.toNat_natCast,i6,i8,o3 hj (show c<=4611686018427387904 by omega)]
   rw[btD (g9 hj),bt (f7 ha),bt (f7 (show c<l.length by omega)),bt (f7 (show j<l.length by omega)),g8]
   obtain⟨t,s,h1,h2⟩:=Te5 l (a:Int) (c:Int) (j:Int) (Ca7 (gL tV l a) (gL tV l c) (gL tV l j)).2 (Ca7 (gL tV l a) (gL tV l c) (gL tV l j)).1 hl;rw[h1];unfold nf
   rcases h2 with⟨e,rfl⟩|⟨e,rfl|rfl⟩<;>rw[e]<;>rfl)
  (by simp only[X3,oa3];rw[bfD (m9 (Qke _))])
theorem Te7(l:List V3)(hl:l.length<=1000000000)(a:Nat)(ha:a<l.length):∃j,lp (X4 ⟨(a:Int)⟩) ⟨l,0⟩=(if nf1 l a then 1 else 2,⟨l,((j:Nat):Int)⟩) :=
 me3 (step:=X4 ⟨(a:Int)⟩) (mk:=λj=>(⟨l,(j:Int)⟩:la2)) a (nf2 l a) 1 2 (by omega)
  (λj hj=>by
   obtain⟨j',h1⟩:=Te6 l hl a j ha hj;simp only[X4,oa4,i6,i8,o3 hj (show a<=4611686018427387904 by omega)]
   rw[btD (g9 hj),h1];cases nf2 l a j<;>rfl)
  (by simp only[X4,oa4];rw[bfD (m9 (Qke _))])
theorem gf9(l:List V3)(hl:l.length<=1000000000):Va5 l=some (b (!nf0 l),[]):=by
 obtain⟨j,h⟩:=me3 (step:=X5 ⟨⟩) (mk:=λj=>(⟨l,(j:Int)⟩:la3)) l.length (nf1 l) 1 2 hl
  (λj hj=>by
   obtain⟨j',h1⟩:=Te7 l hl j hj;simp only[X5,oa5,i6,i8,o3 hj (show l.length<=4611686018427387904 by omega)]
   rw[btD (g9 hj),h1];cases nf1 l j<;>rfl)
  (by simp only[X5,oa5];rw[bfD (m9 (Qke _))])
 have h:lp (X5 ⟨⟩) ⟨l,0⟩=(if nf0 l then 1 else 2,⟨l,((j:Nat):Int)⟩):=h
 unfold Va5;simp only[i6,i8];rw[h];cases nf0 l<;>rfl
theorem xf6(l:List V3)(hl:l.length<=1000000000):Va6 l=!nf0 l:=by unfold Va6;rw[gf9 l hl];rfl
noncomputable def Mc6(l:List V3):Int:=if (l.length:Int)>48 then 2 else if l.all inV then (if nf0 l then 0 else 11) else 3
theorem me4(l:List V3)(hl:l.length<=1000000000):Ja7 l=some (i (Mc6 l),[]):=by
 have h:=fb6 (step:=ga7 ⟨l⟩) (mk:=λj=>(⟨(j:Int)⟩:T1)) (c:=λv=>!inV v) (u:=1) (fin:=2) tV l hl
  (λj hj=>by
   simp only[ga7,ja0,Int.toNat_natCast,se2,Zd8,o3 hj (show l.length<=4611686018427387904 by omega)]
   rw[btD (g9 hj),bt (f7 hj),g8])
  (by simp only[ga7,ja0];rw[bfD (m9 (Qke _))]) 0 (Qkp _)
 rw[Qku] at h;have e:(l.any λv=>!inV v)=!l.all inV:=by rw[List.not_all_eq_any_not]
 unfold Ja7 Mc6;simp only[i6,i8,p6,le5 l hl,xf6 l hl];rw[show (⟨0⟩:T1)=⟨((0:Nat):Int)⟩ from rfl,h,e]
 by_cases h48:(l.length:Int)>48
 ·rw[if_pos h48,btD h48]
 ·rw[if_neg h48,bfD h48];cases l.all inV with
  |false=>rfl
  |true=>cases nf0 l<;>rfl
theorem Ce6(l:List V3)(hl:l.length<=1000000000):nb6 l=Mc6 l:=by unfold nb6;rw[me4 l hl];rfl
def hold(p:Pln)(l:List V3):Bool:=!l.any λv=>decide (Zb5 p v>0)
theorem Te8(p:Pln)(l:List V3)(hl:l.length<=1000000000):Ja8 p l=some (b (hold p l),[]):=by
 have h:=fb6 (step:=ga8 ⟨l,p.n.x,p.n.y,p.n.z,p.b⟩) (mk:=λj=>(⟨(j:Int)⟩:T2)) (c:=λv=>decide (Zb5 p v>0)) (u:=1) (fin:=2) tV l hl
  (λj hj=>by
   simp only[ga8,ja1,Int.toNat_natCast,Te2,Kd9,o3 hj (show l.length<=4611686018427387904 by omega)]
   rw[btD (g9 hj),bt (f7 hj),g8])
  (by simp only[ga8,ja1];rw[bfD (m9 (Qke _))]) 0 (Qkp _)
 rw[Qku] at h;unfold Ja8 hold;simp only[i6,i8];rw[show (⟨0⟩:T2)=⟨((0:Nat):Int)⟩ from rfl,h]
 cases l.any λv=>decide (Zb5 p v>0)<;>rfl
theorem hf0(p:Pln)(l:List V3)(hl:l.length<=1000000000):za1 p l=hold p l:=by unfold za1;rw[Te8 p l hl];rfl
theorem me5 (x:List Pln) (y:Pln) (hx:x.length≤1000000):Rd (one (r1L tP)) (hb8 x y) (fun r=>r=ins x y):=by
  have h:=Ta1 (step:=fa2 ⟨x,y.n.x,y.n.y,y.n.z,y.b⟩) (mk:=fun j=>(⟨(j:Int)⟩:ga9)) (c:=fun p=>!decide (ma0 p y < 0)) (u:=1) (fin:=2) tP x (by omega)
    (fun j hj=>by
      simp only[fa2,ua7,Int.toNat_natCast,le7,Re5,o3 hj (show x.length<=4611686018427387904 by omega)]
      rw[btD (g9 hj),bt (f7 hj),g8];show sl (decide (ma0 (gL tP x j) y<0)) _ _=_;cases decide (ma0 (gL tP x j) y<0)<;>rfl)
    (by simp only[fa2,ua7];rw[bfD (m9 (Qke _))]) 0 (Qkp _)
  rw[Qku] at h
  have key:∃ t,lp (fa2 ⟨x,y.n.x,y.n.y,y.n.z,y.b⟩) ⟨0⟩=(t,⟨((atP x y:Nat):Int)⟩)∧(t=1∨t=2):=by
    rw[show (⟨0⟩:ga9)=⟨((0:Nat):Int)⟩ from rfl,h]
    split
    · exact⟨1,by rw[Qkv];rfl,.inl rfl⟩
    · rename_i hn
      refine⟨2,?_,.inr rfl⟩
      have:atP x y=x.length:=by
        unfold atP;rw[List.findIdx_eq_length];intro p hp;cases hb:(!decide (ma0 p y<0)) with
        |false=>rfl
        |true=>exact absurd (Qkk.2 ⟨p,hp,hb⟩) hn
      rw[this]
  obtain⟨t,h1,h2⟩:=key;have h3:atP x y<=x.length:=List.findIdx_le_length;have hdef:ins x y=if (atP x y<x.length/\eqP (gL tP x (atP x y)) y=true) then x else Ab7 x y (atP x y):=rfl
  generalize atP x y=n at *
  have hlo:inB (n:Int) (x.length+1)=true:=f7 (by omega)
  have hd:(bL tP (x.take n)).length=n:=by rw[<- o0,P6,Qkat];omega
  have hlen:(Ab7 x y n).length=x.length+1:=by unfold Ab7;simp only[Qkg,List.length_cons,Qkat,List.length_drop];omega
  have lt:len (bL tP (x.take n))=n:=by rw[o0];exact hd
  have ld:len (bL tP (x.drop n))=x.length-n:=by rw[P6,List.length_drop]
  have b1:(Nat.beq 1 1&&Nat.ble ((1+(x.length-n))*32) room)=true:=by rw[ea6 (by omega)];rfl
  have b2:(Nat.beq 0 0&&Nat.ble ((0+n)*32) room)=true:=by rw[ea6 (by omega)];rfl
  have e0:app [] (bL tP (x.take n))=bL tP (x.take n):=rfl;have b3:(Nat.beq (0+n) n&&Nat.ble (((0+n)+1)*32) room)=true:=by rw[ea6 (by omega),Qkv,Qkac];rfl
  have l3:len (bL tP (x.take n++[y]))=n+1:=by rw[P6,Qkg,Qkat];simp only[List.length_singleton];omega
  have b4:(Nat.beq ((0+n)+1) (n+1)&&Nat.ble ((((0+n)+1)+(x.length-n))*32) room)=true:=by rw[ea6 (by omega),Qkv,Qkac];rfl
  have z0:∀{k:Nat},Nat.beq k 0=true->k=0:=λ{k} h=>Nat.eq_of_beq_eq_true h
  have fin:ins x y=Ab7 x y n→∀ m r,m=x.length+1→r=bL tP (Ab7 x y n)→Rd (one (r1L tP)) (some (.sl 0 0 m 0,[⟨73,4,r,true,false,0⟩])) (fun r=>r=ins x y) :=
    λhq m r hm hr=>Ld0 (by rw[hlen];exact hm) hr hq.symm
  have tail:ins x y=Ab7 x y n→Rd (one (r1L tP)) (some ((.sl 0 0 (((0+n)+1)+(x.length - n)) 0),[⟨73,4,(app (bL tP (x.take n++[y])) (bL tP (x.drop n))),true,false,0⟩])) (fun r=>r=ins x y):=fun hq=>by
    refine fin hq _ _ (by omega) ?_
    rw[Ua7];unfold Ab7;rw[Qkao];rfl
  unfold hb8;simp only[i6,i8];rw[h1];simp only[Int.toNat_natCast,vc9 x n h3,wc0,lt,ld,b1,b2,e0,b3,hc6,l3,b4,hlo,g8]
  have main:Rd (one (r1L tP)) (sl (decide ((n:Int) < (x.length:Int))) (sl (inB (n:Int) x.length) (sl (((gL tP x n).n.x==y.n.x)&&(((gL tP x n).n.y==y.n.y)&&(((gL tP x n).n.z==y.n.z)&&(((gL tP x n).b==y.b)&&true)))) (some (eL tP x,[])) (some ((.sl 0 0 (((0+n)+1)+(x.length - n)) 0),[⟨73,4,(app (bL tP (x.take n++[y])) (bL tP (x.drop n))),true,false,0⟩]))) none) (some ((.sl 0 0 (((0+n)+1)+(x.length - n)) 0),[⟨73,4,(app (bL tP (x.take n++[y])) (bL tP (x.drop n))),true,false,0⟩]))) (fun r=>r=ins x y):=by
    by_cases hn:n<x.length
    · rw[btD (g9 hn),bt (f7 hn)]
      exact Rd.sl (fun q=>⟨_,x,rfl,qc3 tP x,by rw[hdef,if_pos ⟨hn,q⟩]⟩) fun q=>tail (by
        rw[hdef,if_neg λh=>?_]
        have h:=h.2;rw[show eqP (gL tP x n) y=false from q] at h
        cases h)
    · rw[bfD (m9 hn)]
      exact tail (by rw[hdef,if_neg λh=>hn h.1])
  rcases h2 with rfl|rfl
  · exact main
  · exact main
theorem Te9(x:List Pln)(y:Pln)(hx:x.length<=1000000):J2 x y=ob1 x y:=(me5 x y hx).p.trans (me2 y x)
noncomputable def Gb9 (l:List V3) (a c:Nat) (out:List Pln) (k:Nat):List Pln :=
  if (Ca7 (gL tV l a) (gL tV l c) (gL tV l k)).2 then
    (if hold (O4 (Ca7 (gL tV l a) (gL tV l c) (gL tV l k)).1) l then ob1 (if hold (Ca7 (gL tV l a) (gL tV l c) (gL tV l k)).1 l then ob1 out (Ca7 (gL tV l a) (gL tV l c) (gL tV l k)).1 else out) (O4 (Ca7 (gL tV l a) (gL tV l c) (gL tV l k)).1)
     else (if hold (Ca7 (gL tV l a) (gL tV l c) (gL tV l k)).1 l then ob1 out (Ca7 (gL tV l a) (gL tV l c) (gL tV l k)).1 else out))
  else out
noncomputable def F2(l:List V3)(a:Nat)(out:List Pln)(c:Nat):List Pln:=(List.range c).foldl (Gb9 l a c) out
noncomputable def F1(l:List V3)(out:List Pln)(a:Nat):List Pln:=(List.range a).foldl (F2 l a) out
noncomputable def F0(l:List V3):List Pln:=(List.range l.length).foldl (F1 l) []
theorem mc6 (x:List Pln) (y:Pln):phP (ob1 x y)=1:=by
  cases h:ob1 x y with
  |nil=>exact absurd h (ue0 _ _)
  |cons _ _=>rfl
theorem Mc7 (l:List V3) (a c:Nat) (out:List Pln) (k:Nat):(Gb9 l a c out k).length≤out.length+2:=by
  unfold Gb9;split
  · split
    · refine Qkq (Bb9 _ _) ?_
      split
      · have:=Bb9 (Ca7 (gL tV l a) (gL tV l c) (gL tV l k)).1 out;omega
      · omega
    · split
      · have:=Bb9 (Ca7 (gL tV l a) (gL tV l c) (gL tV l k)).1 out;omega
      · omega
  · omega
theorem R2 {τ:Type} (f:τ→Nat→τ) (a:τ) (n:Nat):(List.range (n+1)).foldl f a=f ((List.range n).foldl f a) n:=by
  rw[List.range_succ,Qkae];rfl
theorem Fc6 {f:List Pln→Nat→List Pln} {m:Nat} (h:∀ o k,(f o k).length≤o.length+m) (o:List Pln):∀ n,((List.range n).foldl f o).length≤o.length+m*n
  |0=>Qkt _
  | n+1=>by
    rw[R2];have h1:=h ((List.range n).foldl f o) n;have h2:=Fc6 h o n;rw[Nat.mul_succ];omega
theorem Jf0 (l : List V3) (hl : l.length ≤ 48) (a c : Nat) (ha : a < l.length) (hc : c < a) (out : List Pln) (ho : out.length ≤ 900000) :
    ∃j,lp (Z1 ⟨l,(a:Int),(c:Int)⟩) ⟨phP out,0,out⟩=(phP (F2 l a out c)+1,⟨phP (F2 l a out c),((j:Nat):Int),F2 l a out c⟩):=by
  have key:=W9 (step:=Z1 ⟨l,(a:Int),(c:Int)⟩) (mk:=fun j (o:List Pln)=>(⟨phP o,(j:Int),o⟩:B5)) c (fun j o=>j≤c∧o=(List.range j).foldl (Gb9 l a c) out) (fun t s=>t=phP (F2 l a out c)+1∧∃ j:Nat,s=⟨phP (F2 l a out c),(j:Int),F2 l a out c⟩) (by omega)
    (fun j o hj hi=>by
      obtain⟨_,hi⟩:=hi
      have hlen:o.length≤990000:=by
        rw[hi]
        have:=Fc6 (Mc7 l a c) out j
        omega
      have hn:=o3 hj (show c<=4611686018427387904 by omega)
      have hh:∀p,ma8 p l=true:=λp=>se5 p l (by omega)
      have hp:∀p,za1 p l=hold p l:=λp=>hf0 p l (by omega)
      have hg1:∀y,ra5 o y=true:=λy=>se6 o y (by omega)
      have hq1:∀y,J2 o y=ob1 o y:=λy=>Te9 o y (by omega)
      have hg2:∀y z,ra5 (ob1 o y) z=true:=λy z=>se6 _ z (by have:=Bb9 y o;omega)
      have hq2:∀y z,J2 (ob1 o y) z=ob1 (ob1 o y) z:=λy z=>Te9 _ z (by have:=Bb9 y o;omega)
      have hfl:hb5 (Ca7 (gL tV l a) (gL tV l c) (gL tV l j)).1=O4 (Ca7 (gL tV l a) (gL tV l c) (gL tV l j)).1:=Te3 (gf8 _ _ _)
      have fin : ∀ {s : B5}, s = ⟨phP (Gb9 l a c o j), ((j + 1 : Nat) : Int), Gb9 l a c o j⟩ → Nx (.next s) (fun t => t = phP (F2 l a out c) + 1 ∧ ∃ j' : Nat, (⟨phP o, (j : Int), o⟩ : B5) = ⟨phP (F2 l a out c), (j' : Int), F2 l a out c⟩)
          (λs=>∃o',s=(⟨phP o',((j+1:Nat):Int),o'⟩:B5)/\(j+1<=c/\o'=(List.range (j+1)).foldl (Gb9 l a c) out)):=λ{s} hs =>
        .nx ⟨_,hs,by omega,by rw[R2,<- hi]⟩
      clear hi
      unfold Gb9 at fin;generalize hT:Ca7 (gL tV l a) (gL tV l c) (gL tV l j)=T at *
      have hb1:inB (a:Int) l.length=true:=f7 ha;have hb2:inB (c:Int) l.length=true:=f7 (by omega)
      have hb3:inB (j:Int) l.length=true:=f7 (by omega)
      cases o with
      | nil =>
        show Nx (K7 Stp.next Stp.exit Stp.fail _ _) _ _;simp only[K7,Ob4,Wa6,Int.toNat_natCast,i6,p6,hT,hh,hp,hfl,hg1,hq1,hg2,hq2,hn,hb1,hb2,hb3];rw[btD (g9 hj)];cases h2:T.2 with
        |false=>exact fin (by rw[h2];rfl)
        | true =>
          cases h3:hold T.1 l with
          | false =>
            cases h4:hold (O4 T.1) l with
            |false=>exact fin (by rw[h2,h3,h4];rfl)
            |true=>exact fin (by rw[h2,h3,h4];simp only[if_true,if_false,mc6,Qko])
          | true =>
            cases h4:hold (O4 T.1) l with
            |false=>exact fin (by rw[h2,h3,h4];simp only[if_true,if_false,mc6,Qko])
            |true=>exact fin (by rw[h2,h3,h4];simp only[if_true,mc6])
      | cons q o =>
        show Nx (K8 Stp.next Stp.exit Stp.fail _ _) _ _;simp only[K8,Ob4,Wa6,Int.toNat_natCast,i6,p6,hT,hh,hp,hfl,hg1,hq1,hg2,hq2,hn,hb1,hb2,hb3];rw[btD (g9 hj)];cases h2:T.2 with
        |false=>exact fin (by rw[h2];rfl)
        | true =>
          cases h3:hold T.1 l with
          | false =>
            cases h4:hold (O4 T.1) l with
            |false=>exact fin (by rw[h2,h3,h4];rfl)
            |true=>exact fin (by rw[h2,h3,h4];simp only[if_true,if_false,mc6,Qko])
          | true =>
            cases h4:hold (O4 T.1) l with
            |false=>exact fin (by rw[h2,h3,h4];simp only[if_true,if_false,mc6,Qko])
            |true=>exact fin (by rw[h2,h3,h4];simp only[if_true,mc6]))
    (fun j o hj hi=>by
      obtain⟨h1,hi⟩:=hi;have e:j=c:=by omega
      subst e;have hF:o=F2 l a out j:=hi;rw[<- hF];cases o with
      | nil =>
        refine⟨1,?_,rfl,j,rfl⟩;show K7 Stp.next Stp.exit Stp.fail _ _=_;simp only[K7];rw[bfD (m9 (Qke _))]
      | cons q o =>
        refine⟨2,?_,rfl,j,rfl⟩;show K8 Stp.next Stp.exit Stp.fail _ _=_;simp only[K8];rw[bfD (m9 (Qke _))]) 0 out ⟨Qkp _,rfl⟩
  obtain⟨t,s,h1,rfl,j,rfl⟩:=key;exact⟨j,h1⟩
theorem Jf1 (l : List V3) (hl : l.length ≤ 48) (a : Nat) (ha : a < l.length) (out : List Pln) (ho : out.length ≤ 800000) :
    ∃j,lp (Z2 ⟨(a:Int)⟩) ⟨phP out,l,0,out⟩=(phP (F1 l out a)+1,⟨phP (F1 l out a),l,((j:Nat):Int),F1 l out a⟩):=by
  have hL2:∀o k,k<=48->(F2 l a o k).length<=o.length+96:=λo k hk=>by have:=Fc6 (Mc7 l a k) o k;show ((List.range k).foldl (Gb9 l a k) o).length<=_;omega
  have hpre:∀ j,j≤a→((List.range j).foldl (F2 l a) out).length≤out.length+96*j:=by
    intro j
    induction j with
    |zero=>intro _;exact Qkt _
    | succ j ih =>
      intro h;rw[R2]
      have:=ih (by omega)
      have:=hL2 ((List.range j).foldl (F2 l a) out) j (by omega)
      omega
  have key:=W9 (step:=Z2 ⟨(a:Int)⟩) (mk:=fun j (o:List Pln)=>(⟨phP o,l,(j:Int),o⟩:B7)) a (fun j o=>j≤a∧o=(List.range j).foldl (F2 l a) out) (fun t s=>t=phP (F1 l out a)+1∧∃ j:Nat,s=⟨phP (F1 l out a),l,(j:Int),F1 l out a⟩) (by omega)
    (fun j o hj hi=>by
      obtain⟨hja,hi⟩:=hi;have hlen:o.length<=900000:=by rw[hi];have:=hpre j hja;omega
      have hn:=o3 hj (show a<=4611686018427387904 by omega)
      obtain⟨j',e1⟩:=Jf0 l hl a j ha hj o hlen
      have fin : ∀ {s : B7}, s = ⟨phP (F2 l a o j), l, ((j + 1 : Nat) : Int), F2 l a o j⟩ → Nx (.next s) (fun t => t = phP (F1 l out a) + 1 ∧ ∃ j' : Nat, (⟨phP o, l, (j : Int), o⟩ : B7) = ⟨phP (F1 l out a), l, (j' : Int), F1 l out a⟩)
          (λs=>∃o',s=(⟨phP o',l,((j+1:Nat):Int),o'⟩:B7)/\(j+1<=a/\o'=(List.range (j+1)).foldl (F2 l a) out)):=λ{s} hs =>
        .nx ⟨_,hs,by omega,by rw[R2,<- hi]⟩
      clear hi
      generalize hF:F2 l a o j=R at *
      cases o with
      | nil =>
        show Nx (K9 Stp.next Stp.exit Stp.fail _ _) _ _;simp only[K9,i6,i8,hn];have e1:lp (Z1 ⟨l,(a:Int),(j:Int)⟩) ⟨0,0,[]⟩=_:=e1;rw[btD (g9 hj),e1];cases R with
        |nil=>exact fin rfl
        |cons q R=>exact fin rfl
      | cons q o =>
        show Nx (L0 Stp.next Stp.exit Stp.fail _ _) _ _;simp only[L0,i6,i8,hn];have e1:lp (Z1 ⟨l,(a:Int),(j:Int)⟩) ⟨1,0,q::o⟩=_:=e1;rw[btD (g9 hj),e1];cases R with
        |nil=>exact fin rfl
        |cons q R=>exact fin rfl)
    (fun j o hj hi=>by
      obtain⟨h1,hi⟩:=hi;have e:j=a:=by omega
      subst e;have hF:o=F1 l out j:=hi;rw[<- hF];cases o with
      | nil =>
        refine⟨1,?_,rfl,j,rfl⟩;show K9 Stp.next Stp.exit Stp.fail _ _=_;simp only[K9];rw[bfD (m9 (Qke _))]
      | cons q o =>
        refine⟨2,?_,rfl,j,rfl⟩;show L0 Stp.next Stp.exit Stp.fail _ _=_;simp only[L0];rw[bfD (m9 (Qke _))]) 0 out ⟨Qkp _,rfl⟩
  obtain⟨t,s,h1,rfl,j,rfl⟩:=key;exact⟨j,h1⟩
theorem Jf2 (l : List V3) (hl : l.length ≤ 48) :
    ∃j,lp (xa3 ⟨⟩) ⟨0,l,0,[]⟩=(phP (F0 l)+1,⟨phP (F0 l),l,((j:Nat):Int),F0 l⟩):=by
  have hL2:∀a o k,k<=48->(F2 l a o k).length<=o.length+96:=λa o k hk=>by have:=Fc6 (Mc7 l a k) o k;show ((List.range k).foldl (Gb9 l a k) o).length<=_;omega
  have hL1:∀ o a,a≤48→∀ j,j≤a→((List.range j).foldl (F2 l a) o).length≤o.length+96*j:=by
    intro o a ha j
    induction j with
    |zero=>intro _;exact Qkt _
    | succ j ih =>
      intro h;rw[R2]
      have:=ih (by omega)
      have:=hL2 a ((List.range j).foldl (F2 l a) o) j (by omega)
      omega
  have hpre:∀ j,j≤l.length→((List.range j).foldl (F1 l) []).length≤5000*j:=by
    intro j
    induction j with
    |zero=>intro _;exact Qkt _
    | succ j ih =>
      intro h;rw[R2]
      have:=ih (by omega)
      have:(F1 l ((List.range j).foldl (F1 l) []) j).length<=_:=hL1 ((List.range j).foldl (F1 l) []) j (by omega) j (Qkt _)
      omega
  have key:=W9 (step:=xa3 ⟨⟩) (mk:=fun j (o:List Pln)=>(⟨phP o,l,(j:Int),o⟩:C7)) l.length (fun j o=>j≤l.length∧o=(List.range j).foldl (F1 l) []) (fun t s=>t=phP (F0 l)+1∧∃ j:Nat,s=⟨phP (F0 l),l,(j:Int),F0 l⟩) (by omega)
    (fun j o hj hi=>by
      obtain⟨hja,hi⟩:=hi;have hlen:o.length<=800000:=by rw[hi];have:=hpre j hja;omega
      have hn:=o3 hj (show l.length<=4611686018427387904 by omega)
      obtain⟨j',e1⟩:=Jf1 l hl j hj o hlen
      have fin : ∀ {s : C7}, s = ⟨phP (F1 l o j), l, ((j + 1 : Nat) : Int), F1 l o j⟩ → Nx (.next s) (fun t => t = phP (F0 l) + 1 ∧ ∃ j' : Nat, (⟨phP o, l, (j : Int), o⟩ : C7) = ⟨phP (F0 l), l, (j' : Int), F0 l⟩)
          (λs=>∃o',s=(⟨phP o',l,((j+1:Nat):Int),o'⟩:C7)/\(j+1<=l.length/\o'=(List.range (j+1)).foldl (F1 l) [])):=λ{s} hs =>
        .nx ⟨_,hs,by omega,by rw[R2,<- hi]⟩
      clear hi
      generalize hF:F1 l o j=R at *
      cases o with
      | nil =>
        show Nx (L1 Stp.next Stp.exit Stp.fail ⟨⟩ _) _ _;simp only[L1,i6,i8,hn];have e1:lp (Z2 ⟨(j:Int)⟩) ⟨0,l,0,[]⟩=_:=e1;rw[btD (g9 hj),e1];cases R with
        |nil=>exact fin rfl
        |cons q R=>exact fin rfl
      | cons q o =>
        show Nx (L2 Stp.next Stp.exit Stp.fail ⟨⟩ _) _ _;simp only[L2,i6,i8,hn];have e1:lp (Z2 ⟨(j:Int)⟩) ⟨1,l,0,q::o⟩=_:=e1;rw[btD (g9 hj),e1];cases R with
        |nil=>exact fin rfl
        |cons q R=>exact fin rfl)
    (fun j o hj hi=>by
      obtain⟨h1,hi⟩:=hi;have e:j=l.length:=by omega
      subst e;have hF:o=F0 l:=hi;rw[<- hF];cases o with
      | nil =>
        refine⟨1,?_,rfl,_,rfl⟩;show L1 Stp.next Stp.exit Stp.fail ⟨⟩ _=_;simp only[L1];rw[bfD (m9 (Qke _))]
      | cons q o =>
        refine⟨2,?_,rfl,_,rfl⟩;show L2 Stp.next Stp.exit Stp.fail ⟨⟩ _=_;simp only[L2];rw[bfD (m9 (Qke _))]) 0 [] ⟨Qkp _,rfl⟩
  obtain⟨t,s,h1,rfl,j,rfl⟩:=key;exact⟨j,h1⟩
noncomputable def Mc8(l:List V3):List Pln×Int:=if Mc6 l=0 then (F0 l,0) else ([],Mc6 l)
theorem Ue0 (l:List V3) (hl:l.length≤48):Rd (two (r1L tP) r1I) (Ja9 l) (fun r=>r=Mc8 l):=by
  obtain⟨j,e1⟩:=Jf2 l hl;have hb:l.length<=1000000000:=by omega
  unfold Ja9 Mc8;simp only[i6,i8,p6,Ad6 l hb,Ce6 l hb,g8];rw[e1];by_cases h0:Mc6 l=0
  · rw[if_pos h0,show (Mc6 l != 0)=false by rw[h0];rfl,C8]
    cases hF:F0 l with
    |nil=>exact⟨_,([],0),rfl,rfl,rfl⟩
    |cons q o=>exact⟨_,(q::o,0),rfl,Qe1 (q::o) 0,rfl⟩
  · rw[if_neg h0,show (Mc6 l != 0)=true by simpa using h0,g8]
    exact⟨_,([],Mc6 l),rfl,rfl,rfl⟩
theorem Ue1(l:List V3)(hl:l.length<=48):hc5 l=Mc8 l:=(Ue0 l hl).p
theorem me6{p:Pln}(h:okp p=true):g3 p.n=1:=by
 unfold okp at h;simp only[Qkl,beq_iff_eq] at h;exact h.2.1
theorem ld7{p:Pln}(h:okp p=true):p.n≠⟨0,0,0⟩:=λe=>by
 have:=me6 h
 rw[e] at this
 revert this
 decide
theorem Ue2(c:Int)(n:V3):g3 ⟨c*n.x,c*n.y,c*n.z⟩=c.natAbs*g3 n:=by
 unfold g3;simp only[Int.natAbs_mul,Nat.gcd_mul_left];rw[Int.natCast_mul]
theorem Ue3{m n:V3}(hm:g3 m=1)(hn:g3 n=1)(h:f0 m n=⟨0,0,0⟩):n=m\/n=neg m:=by
 unfold f0 at h;simp only[V3.mk.injEq] at h;obtain⟨c1,c2,c3⟩:=h;have k:∀{c d:Int},c*m.x=d*n.x->c*m.y=d*n.y->c*m.z=d*n.z->c.natAbs=d.natAbs:=λ{c d} e1 e2 e3=>by
  have a1:=Ue2 c m;have a2:=Ue2 d n;rw[e1,e2,e3,a2,hm,hn] at a1;omega
 have ax:=k (c:=n.x) (d:=m.x) (by grind) (by grind) (by grind)
 have ay:=k (c:=n.y) (d:=m.y) (by grind) (by grind) (by grind)
 have az:=k (c:=n.z) (d:=m.z) (by grind) (by grind) (by grind)
 have sg:∀{a c:Int},a.natAbs=c.natAbs->a=c\/a=-c:=λh=>by omega
 -- the sign of one component that is not zero is that of all
 have go:∀{s u t v:Int},u≠0->s*v=u*t->s=u->t=v:=λ{s u t v} hu h e=>by
  subst e;exact (Qkar hu h).symm
 have gn:∀{s u t v:Int},u≠0->s*v=u*t->s=-u->t=-v:=λ{s u t v} hu h e=>by
  subst e
  have:u*t=u*(-v):=by rw[<- h];grind
  exact Qkar hu this
 by_cases hx:m.x=0
 ·have hx':n.x=0:=by omega
  by_cases hy:m.y=0
  ·have hy':n.y=0:=by omega
   rcases sg az with e|e
   ·exact .inl (Qkax (by omega) (by omega) e)
   ·exact .inr (Qkax (by show n.x=-m.x;omega) (by show n.y=-m.y;omega) e)
  ·rcases sg ay with e|e
   ·exact .inl (Qkax (by omega) e (go hy (by grind) e))
   ·exact .inr (Qkax (by show n.x=-m.x;omega) e (gn hy (by grind) e))
 ·rcases sg ax with e|e
  ·exact .inl (Qkax e (go hx (by grind) e) (go hx (by grind) e))
  ·exact .inr (Qkax e (gn hx (by grind) e) (gn hx (by grind) e))
structure Vf1(l:List V3):Prop where
 h:∃a c k v,a∈l/\c∈l/\k∈l/\v∈l/\dot (f0 (sub c a) (sub k a)) (sub v a)≠0
theorem gLm{l:List V3}{j:Nat}(h:j<l.length):gL tV l j∈l:=Fa3 tV h
theorem xf7{l:List V3}(hf:nf0 l=true):Vf1 l:=by
 unfold nf0 at hf;obtain⟨a,ha,hf⟩:=Qkk.1 hf;unfold nf1 at hf;obtain⟨c,hc,hf⟩:=Qkk.1 hf;unfold nf2 at hf;obtain⟨k,hk,hf⟩:=Qkk.1 hf;rw[Qkn] at ha hc hk;unfold nf at hf;rw[Qkl] at hf;obtain⟨h1,h2⟩:=hf;obtain⟨⟨i1,i2,i3⟩,⟨ok,⟨g,hg,e1,e2,e3⟩,o⟩⟩:=Gb8 h1;unfold Te4 at h2;obtain⟨v,hv,h2⟩:=Qkk.1 h2;generalize (Ca7 (gL tV l a) (gL tV l c) (gL tV l k)).1=p at *
 refine⟨_,_,_,v,gLm ha,gLm (show c<l.length by omega),gLm (show k<l.length by omega),hv,λh0=>?_⟩
 have hs:Zb5 p v≠0:=by simpa using h2
 have hiv:inV v=true:=by
  cases hi:inV v with
  |true=>rfl
  |false=>exact absurd (by unfold Zb5;rw[ok,hi];rfl) hs
 apply hs;rw[Ce5 ok hiv,o]
 have:g*(dot p.n v-dot p.n (gL tV l a))=dot (f0 (sub (gL tV l c) (gL tV l a)) (sub (gL tV l k) (gL tV l a))) (sub v (gL tV l a)):=by
  unfold dot;rw[<- e1,<- e2,<- e3];unfold sub
  grind
 rw[h0] at this
 have:=(Qkr.1 this).resolve_left (by omega)
 omega
theorem Ue4{a c k v n:V3}(hd:dot (f0 (sub c a) (sub k a)) (sub v a)≠0)(hn:n≠⟨0,0,0⟩)(h1:dot n c=dot n a)(h2:dot n k=dot n a)(h3:dot n v=dot n a):False:=by
 generalize hD:dot (f0 (sub c a) (sub k a)) (sub v a)=D at *
 have q1:dot n (sub c a)=0:=by unfold dot sub at *;grind
 have q2:dot n (sub k a)=0:=by unfold dot sub at *;grind
 have q3:dot n (sub v a)=0:=by unfold dot sub at *;grind
 generalize sub c a=p at *
 generalize sub k a=q at *
 generalize sub v a=r at *
 have i1:D*n.x=(f0 q r).x*dot n p+(f0 r p).x*dot n q+(f0 p q).x*dot n r:=by rw[<- hD];simp only[dot,f0];grind
 have i2:D*n.y=(f0 q r).y*dot n p+(f0 r p).y*dot n q+(f0 p q).y*dot n r:=by rw[<- hD];simp only[dot,f0];grind
 have i3:D*n.z=(f0 q r).z*dot n p+(f0 r p).z*dot n q+(f0 p q).z*dot n r:=by rw[<- hD];simp only[dot,f0];grind
 rw[q1,q2,q3] at i1 i2 i3;have z:∀{x:Int},D*x=0->x=0:=λh=>(Qkr.1 h).resolve_left hd
 exact hn (Qkax (z (by omega)) (z (by omega)) (z (by omega)))
theorem Fc7{p:Pln}{l:List V3}(hp:okp p=true)(hl:l.all inV=true):hold p l=true↔∀v∈l,dot p.n v<=p.b:=by
 unfold hold;rw[Bool.not_eq_true',<- Bool.not_eq_true,Qkk];constructor
 ·intro h v hv;have h1:¬ Zb5 p v>0:=λh'=>h ⟨v,hv,by simpa using h'⟩
  rw[ce1 hp (Qkm.1 hl v hv)] at h1;omega
 ·rintro h ⟨v,hv,h1⟩;have h1:Zb5 p v>0:=by simpa using h1
  rw[ce1 hp (Qkm.1 hl v hv)] at h1
  have:=h v hv
  omega
structure Fct(l:List V3)(p:Pln):Prop where
 ok:okp p=true
 hd:hold p l=true
theorem ce2(p:Pln)(v:V3):dot (O4 p).n v=-dot p.n v:=by unfold dot O4;grind
theorem Ce7 (l : List V3) (a c k : Nat) (out : List Pln) (p : Pln) : p ∈ Gb9 l a c out k ↔ p ∈ out ∨ ((Ca7 (gL tV l a) (gL tV l c) (gL tV l k)).2 = true ∧
  ((p=(Ca7 (gL tV l a) (gL tV l c) (gL tV l k)).1/\hold p l=true)\/(p=O4 (Ca7 (gL tV l a) (gL tV l c) (gL tV l k)).1/\hold p l=true))):=by
 unfold Gb9;generalize Ca7 (gL tV l a) (gL tV l c) (gL tV l k)=T;cases h2:T.2 with
 |false=>simp
 |true =>
  simp only[if_true];cases h4:hold (O4 T.1) l with
  |false =>
   simp only[Qko,if_false];cases h3:hold T.1 l with
   |false =>
    simp only[Qko,if_false];constructor
    ·exact λh=>.inl h
    ·rintro (h|⟨_,⟨rfl,h⟩|⟨rfl,h⟩⟩)
     ·exact h
     ·rw[h3] at h;cases h
     ·rw[h4] at h;cases h
   |true =>
    simp only[if_true,Bb8];constructor
    ·rintro (rfl|h)
     ·exact .inr ⟨trivial,.inl ⟨rfl,h3⟩⟩
     ·exact .inl h
    ·rintro (h|⟨_,⟨rfl,h⟩|⟨rfl,h⟩⟩)
     ·exact .inr h
     ·exact .inl rfl
     ·rw[h4] at h;cases h
  |true =>
   simp only[if_true,Bb8];cases h3:hold T.1 l with
   |false =>
    simp only[Qko,if_false];constructor
    ·rintro (rfl|h)
     ·exact .inr ⟨trivial,.inr ⟨rfl,h4⟩⟩
     ·exact .inl h
    ·rintro (h|⟨_,⟨rfl,h⟩|⟨rfl,h⟩⟩)
     ·exact .inr h
     ·rw[h3] at h;cases h
     ·exact .inl rfl
   |true =>
    simp only[if_true,Bb8];constructor
    ·rintro (rfl|rfl|h)
     ·exact .inr ⟨trivial,.inr ⟨rfl,h4⟩⟩
     ·exact .inr ⟨trivial,.inl ⟨rfl,h3⟩⟩
     ·exact .inl h
    ·rintro (h|⟨_,⟨rfl,h⟩|⟨rfl,h⟩⟩)
     ·exact .inr (.inr h)
     ·exact .inr (.inl rfl)
     ·exact .inl rfl
theorem Fc8{f:List Pln->Nat->List Pln}{Q:Nat->Pln->Prop}(h:∀o k p,p∈f o k↔p∈o\/Q k p)(o:List Pln)(p:Pln):∀n,p∈(List.range n).foldl f o↔p∈o\/∃k,k<n/\Q k p
 |0=>by simp
 |n+1=>by
  rw[R2,h,Fc8 h o p n];constructor
  ·rintro ((h|⟨k,hk,h⟩)|h)
   ·exact .inl h
   ·exact .inr ⟨k,by omega,h⟩
   ·exact .inr ⟨n,by omega,h⟩
  ·rintro (h|⟨k,hk,h⟩)
   ·exact .inl (.inl h)
   ·by_cases e:k=n
    ·subst e;exact .inr h
    ·exact .inl (.inr ⟨k,by omega,h⟩)
def Fq (l : List V3) (a c k : Nat) (p : Pln) : Prop := (Ca7 (gL tV l a) (gL tV l c) (gL tV l k)).2 = true ∧
  ((p=(Ca7 (gL tV l a) (gL tV l c) (gL tV l k)).1/\hold p l=true)\/(p=O4 (Ca7 (gL tV l a) (gL tV l c) (gL tV l k)).1/\hold p l=true))
theorem xf8(l:List V3)(a c:Nat)(out:List Pln)(p:Pln):p∈F2 l a out c↔p∈out\/∃k,k<c/\Fq l a c k p:=Fc8 (λo k p=>Ce7 l a c k o p) out p c
theorem xf9(l:List V3)(a:Nat)(out:List Pln)(p:Pln):p∈F1 l out a↔p∈out\/∃c,c<a/\∃k,k<c/\Fq l a c k p:=Fc8 (λo c p=>xf8 l a c o p) out p a
theorem me7(l:List V3)(p:Pln):p∈F0 l↔∃a,a<l.length/\∃c,c<a/\∃k,k<c/\Fq l a c k p:=by
 have:=Fc8 (λo a p=>xf9 l a o p) [] p l.length
 simpa [F0] using this
theorem Ce8{l:List V3}{a c:Nat}{out:List Pln}{k:Nat}(h:Xa0 out):Xa0 (Gb9 l a c out k):=by
 unfold Gb9;split
 ·split
  ·refine ic7 _ ?_;split
   ·exact ic7 _ h
   ·exact h
  ·split
   ·exact ic7 _ h
   ·exact h
 ·exact h
theorem Fc9{f:List Pln->Nat->List Pln}(h:∀o k,Xa0 o->Xa0 (f o k)){o:List Pln}(ho:Xa0 o):∀n,Xa0 ((List.range n).foldl f o)
 |0=>ho
 |n+1=>by rw[R2];exact h _ _ (Fc9 h ho n)
theorem yf0{l:List V3}{a c:Nat}{out:List Pln}(h:Xa0 out):Xa0 (F2 l a out c):=Fc9 (λ_ _ h=>Ce8 h) h c
theorem yf1{l:List V3}{a:Nat}{out:List Pln}(h:Xa0 out):Xa0 (F1 l out a):=Fc9 (λ_ _ h=>yf0 h) h a
theorem yf2(l:List V3):Xa0 (F0 l):=Fc9 (λ_ _ h=>yf1 h) .nil l.length
theorem Ce9{l:List Pln}(h:Xa0 l):l.Nodup:=List.Pairwise.imp (λ{x y} (h:LtP x y) (e:x=y)=>Zc0 y (e ▸ h)) h
theorem Ue5{l:List V3}{p:Pln}(hp:p∈F0 l):Fct l p:=by
 obtain⟨a,ha,c,hc,k,hk,h1,⟨h2,h3⟩|⟨h2,h3⟩⟩:=(me7 l p).1 hp
 ·exact⟨h2 ▸ (Gb8 h1).2.ok,h3⟩
 ·exact⟨h2 ▸ Fc5 (Gb8 h1).2.ok,h3⟩
theorem hf3{l:List V3}(hl:l.all inV=true)(hf:nf0 l=true):Md5 (F0 l++ws):=by
 obtain⟨a,c,k,v,ha,hc,hk,hv,hd⟩:=xf7 hf;have hin:=Qkm.1 hl
 -- a plane on whose Zb5 all xf7 lie has their middle within
 have key:∀p:Pln,p.n≠⟨0,0,0⟩->dot p.n a<=p.b->dot p.n c<=p.b->dot p.n k<=p.b->dot p.n v<=p.b->0<rmZ p ⟨a.x+c.x+k.x+v.x,a.y+c.y+k.y+v.y,a.z+c.z+k.z+v.z,4⟩:=λp hn h1 h2 h3 h4=>by
  have e:rmZ p ⟨a.x+c.x+k.x+v.x,a.y+c.y+k.y+v.y,a.z+c.z+k.z+v.z,4⟩=(p.b-dot p.n a)+(p.b-dot p.n c)+(p.b-dot p.n k)+(p.b-dot p.n v):=by simp only[rmZ,dot];grind
  rw[e];by_cases q:dot p.n a=p.b/\dot p.n c=p.b/\dot p.n k=p.b/\dot p.n v=p.b
  ·obtain⟨q1,q2,q3,q4⟩:=q;exact (Ue4 hd hn (q2.trans q1.symm) (q3.trans q1.symm) (q4.trans q1.symm)).elim
  ·omega
 refine⟨⟨a.x+c.x+k.x+v.x,a.y+c.y+k.y+v.y,a.z+c.z+k.z+v.z,4⟩,by show (0:Int)<4;omega,λp hp=>?_⟩
 rcases Qkb.1 hp with h|h
 ·have hF:=Ue5 h;have hb:=(Fc7 hF.ok hl).1 hF.hd;exact key p (ld7 hF.ok) (hb a ha) (hb c hc) (hb k hk) (hb v hv)
 ·have hw : ∀ x ∈ l, dot p.n x ≤ p.b := fun x hx => by
   have:=xf2 (hin x hx) p h
   simp only[rmZ,ipt,dot] at this ⊢;omega
  refine key p ?_ (hw a ha) (hw c hc) (hw k hk) (hw v hv);have h1:∀q∈ws,okp q=true:=Qkm.1 (by decide)
  exact ld7 (h1 p h)
theorem Ue6(l:List Int):Rd (one r1P) (Va2 l) (λp=>okp p=true):=by
 unfold Va2;simp only[i6,i8];obtain⟨v1,j1,e1,a1,b1,c1,d1⟩:=va9 8 l 0 (by omega) (by omega) (by omega) (by omega)
 rw[e1]
 simp only
 obtain⟨v2,j2,e2,a2,b2,c2,d2⟩:=va9 17 l j1 (by omega) (by omega) (by omega) (by omega)
 rw[e2]
 simp only
 obtain⟨x1,x2,x3,j3,e3,_,_,_,c3,d3⟩:=vc8 8 l j2 (by omega) (by omega) (by omega) (by omega)
 rw[e3]
 simp only
 obtain⟨y1,y2,y3,j4,e4,_,_,_,c4,d4⟩:=vc8 8 l j3 (by omega) (by omega) (by omega) (by omega)
 rw[e4]
 simp only
 obtain⟨z1,z2,z3,j5,e5,_,_,_,c5,d5⟩:=vc8 8 l j4 (by omega) (by omega) (by omega) (by omega)
 rw[e5];simp only[Ob4,Wa6,Pe6 _ (show (0:Int)<3 by omega) (by omega),i8]
 simp only[Qkac,Qkag,g8];have w2:W (v2-8)=v2-8:=ia4 (by omega) (by omega)
 have w1:W (1-W (2*Int.tmod v1 2))=1\/W (1-W (2*Int.tmod v1 2))=-1:=by
  have h:=Int.tmod_nonneg 2 a1;have h2:=Int.tmod_lt_of_pos v1 (show (0:Int)<2 by omega)
  rw[ia4 (n:=2*Int.tmod v1 2) (by omega) (by omega),ia4 (by omega) (by omega)]
  omega
 rw[w2];generalize W (1-W (2*Int.tmod v1 2))=s at *
 have ax:∀{a c d:Int},(a=s/\c=0/\d=0)\/(a=0/\c=s/\d=0)\/(a=0/\c=0/\d=s)->okp ⟨⟨a,c,d⟩,v2-8⟩=true:=λh=>by
  unfold okp;simp only[List.all_cons,List.all_nil,Qkag,Qkl,ub0,beq_iff_eq,Sm]
  rcases h with⟨rfl,rfl,rfl⟩|⟨rfl,rfl,rfl⟩|⟨rfl,rfl,rfl⟩<;>rcases w1 with rfl|rfl<;>exact⟨by omega,by decide,by omega⟩
 have r1:Rd (one r1P) (some (.agg [i 0,i s,i 0,i (v2-8)],[])) (λp=>okp p=true):=⟨_,⟨⟨0,s,0⟩,v2-8⟩,rfl,rfl,ax (.inr (.inl ⟨rfl,rfl,rfl⟩))⟩
 have r2:Rd (one r1P) (some (.agg [i 0,i 0,i s,i (v2-8)],[])) (λp=>okp p=true):=⟨_,⟨⟨0,0,s⟩,v2-8⟩,rfl,rfl,ax (.inr (.inr ⟨rfl,rfl,rfl⟩))⟩
 have r3:Rd (one r1P) (some (.agg [i s,i 0,i 0,i (v2-8)],[])) (λp=>okp p=true):=⟨_,⟨⟨s,0,0⟩,v2-8⟩,rfl,rfl,ax (.inl ⟨rfl,rfl,rfl⟩)⟩
 refine Rd.sl (λ_=>Rd.sl (λh=>?_) λ_=>?_) (λ_=>?_)
 ·exact⟨_,(Ca7 ⟨x1,x2,x3⟩ ⟨y1,y2,y3⟩ ⟨z1,z2,z3⟩).1,rfl,rfl,(Gb8 h).2.ok⟩
 ·exact Rd.sl (λ_=>r1) λ_=>Rd.sl (λ_=>r2) λ_=>r3
 ·exact Rd.sl (λ_=>r1) λ_=>Rd.sl (λ_=>r2) λ_=>r3
theorem ue2(l:List Int):okp (Va3 l)=true:=(Ue6 l).p
theorem Bd5:g3 ⟨1,0,0⟩=1/\g3 ⟨-1,0,0⟩=1/\g3 ⟨0,1,0⟩=1/\g3 ⟨0,-1,0⟩=1/\g3 ⟨0,0,1⟩=1/\g3 ⟨0,0,-1⟩=1:=by decide
structure ld8(c:List Pln):Prop where
 l:c.length<=47
 v:∀p∈c,okp p=true
 f:Md5 (c++ws)
theorem ld8.chk{c:List Pln}(h:ld8 c):(chk c==0)=true:=by
 rw[beq_iff_eq,Ja5];exact⟨by have:=h.l;omega,h.v⟩
theorem ld8.bds{c:List Pln}(h:ld8 c):Bds (c++ws):=(jb5 h.chk).1
theorem ld8.ful{c:List Pln}(h:ld8 c):ful c=true:=by
 unfold Ce.ful;rw[h.chk,(Pb2 h.bds (Mc5 c) (by simp[ws])).2 h.f]
 rfl
theorem Ue7{lo hi:V3}(h1:Sm 20 lo.x/\Sm 20 lo.y/\Sm 20 lo.z)(h2:Sm 20 hi.x/\Sm 20 hi.y/\Sm 20 hi.z)(h3:lo.x<hi.x/\lo.y<hi.y/\lo.z<hi.z):ld8 (sd2 lo hi):=by
 obtain⟨⟨a1,a2⟩,⟨a3,a4⟩,a5,a6⟩:=h1;obtain⟨⟨b1,b2⟩,⟨b3,b4⟩,b5,b6⟩:=h2;obtain⟨c1,c2,c3⟩:=h3;have w:∀{x:Int},-20<=x->x<=20->W (0-x)=-x:=λh h'=>by rw[ia4 (by omega) (by omega)];omega
 have e:sd2 lo hi=[⟨⟨1,0,0⟩,hi.x⟩,⟨⟨-1,0,0⟩,-lo.x⟩,⟨⟨0,1,0⟩,hi.y⟩,⟨⟨0,-1,0⟩,-lo.y⟩,⟨⟨0,0,1⟩,hi.z⟩,⟨⟨0,0,-1⟩,-lo.z⟩]:=by
  unfold sd2;rw[w a1 a2,w a3 a4,w a5 a6]
 rw[e];refine⟨by simp,λp hp=>?_,⟨⟨lo.x+hi.x,lo.y+hi.y,lo.z+hi.z,2⟩,by show (0:Int)<2;omega,λp hp=>?_⟩⟩
 ·simp only[Qki,Qkw,or_false] at hp;unfold okp;simp only[List.all_cons,List.all_nil,Qkag,Qkl,ub0,beq_iff_eq,Sm]
  rcases hp with rfl|rfl|rfl|rfl|rfl|rfl<;>exact⟨by simp,by first|exact Bd5.1|exact Bd5.2.1|exact Bd5.2.2.1|exact Bd5.2.2.2.1|exact Bd5.2.2.2.2.1|exact Bd5.2.2.2.2.2,by simp only;omega⟩
 ·simp only[ws,List.cons_append,List.nil_append,Qki,Qkw,or_false] at hp
  rcases hp with rfl|rfl|rfl|rfl|rfl|rfl|rfl|rfl|rfl|rfl|rfl|rfl<;>simp only[rmZ]<;>omega
theorem De0{l:List V3}(h:Mc6 l=0):l.all inV=true/\nf0 l=true:=by
 unfold Mc6 at h
 split at h
 ·omega
 ·split at h
  ·rename_i h2
   split at h
   ·rename_i h3;exact⟨h2,h3⟩
   ·omega
  ·omega
theorem yf3(p:Pln)(N:Int)(v x:Pt):rmZ p ⟨N*v.px+x.px,N*v.py+x.py,N*v.pz+x.pz,N*v.pw+x.pw⟩=N*rmZ p v+rmZ p x:=by unfold rmZ;grind
theorem ld8.pts{c:List Pln}(h:ld8 c):pts c=cor (c++ws):=by unfold Ce.pts;rw[if_pos h.chk]
structure Ins(r:List Pln)(x:Pt):Prop where
 w:0<x.pw
 h:∀p∈r,0<rmZ p x
theorem Ins.inr{r:List Pln}{x:Pt}(h:Ins r x):Inr r x:=⟨h.w,λp hp=>Qkaa (h.h p hp)⟩
theorem ld9{r:List Pln}:Md5 r↔∃x,Ins r x:=⟨λ⟨x,h1,h2⟩=>⟨x,h1,h2⟩,λ⟨x,h⟩=>⟨x,h.w,h.h⟩⟩
theorem Ins.mono{r r':List Pln}{x:Pt}(h:Ins r x)(hs:∀p∈r',p∈r):Ins r' x:=⟨h.w,λp hp=>h.h p (hs p hp)⟩
theorem Inr.mono{r r':List Pln}{x:Pt}(h:Inr r x)(hs:∀p∈r',p∈r):Inr r' x:=⟨h.w,λp hp=>h.h p (hs p hp)⟩
theorem Ins.app{r r':List Pln}{x:Pt}(h:Ins r x)(h':Ins r' x):Ins (r++r') x:=⟨h.w,λp hp=>(Qkb.1 hp).elim (h.h p) (h'.h p)⟩
theorem Inr.app{r r':List Pln}{x:Pt}(h:Inr r x)(h':Inr r' x):Inr (r++r') x:=⟨h.w,λp hp=>(Qkb.1 hp).elim (h.h p) (h'.h p)⟩
def tow(N:Int)(y x:Pt):Pt:=⟨N*y.px+x.px,N*y.py+x.py,N*y.pz+x.pz,N*y.pw+x.pw⟩
theorem yf4(p:Pln)(N:Int)(y x:Pt):rmZ p (tow N y x)=N*rmZ p y+rmZ p x:=yf3 p N y x
theorem far{f g:Pln->Int}:∀l:List Pln,(∀p∈l,0<f p)->∃N:Int,0<=N/\∀M,N<=M->∀p∈l,0<M*f p+g p
 |[],_=>⟨0,Int.le_refl _,λ_ _ p hp=>by cases hp⟩
 |a::l,h=>by
  obtain⟨N,h0,h1⟩:=far l λp hp=>h p (Qkx _ hp)
  have ha:=h a Qkab;refine⟨max N ((g a).natAbs+1),by omega,λM hM p hp=>?_⟩
  rcases Qki.1 hp with rfl|hp
  ·have:M*1<=M*f p:=Int.mul_le_mul_of_nonneg_left (by omega) (by omega)
   omega
  ·exact h1 M (by omega) p hp
theorem hf4{r:List Pln}{x y:Pt}(hy:Inr r y)(hx:Ins r x)(l:List Pln)(hl:∀p∈l,0<rmZ p y):∃z,Ins (r++l) z:=by
 obtain⟨N,h0,h1⟩:=far (f:=λp=>rmZ p y) (g:=λp=>rmZ p x) l hl
 refine⟨tow N y x,by have:=Qkav h0 (Qkaa hy.w);have:=hx.w;unfold tow;simp only;omega,λp hp=>?_⟩
 rw[yf4]
 rcases Qkb.1 hp with hp|hp
 ·have:=Qkav h0 (hy.h p hp)
  have:=hx.h p hp
  omega
 ·exact h1 N (Int.le_refl _) p hp
def mvd(N:Int)(x:Pt)(d:V3):Pt:=⟨N*x.px+d.x,N*x.py+d.y,N*x.pz+d.z,N*x.pw⟩
theorem Md7(p:Pln)(N:Int)(x:Pt)(d:V3):rmZ p (mvd N x d)=N*rmZ p x+-dot p.n d:=by simp only[rmZ,mvd,dot];grind
theorem Ue8{r:List Pln}{x:Pt}(hx:Ins r x)(d:V3):∃N:Int,0<N/\Ins r (mvd N x d):=by
 obtain⟨N,h0,h1⟩:=far (f:=λp=>rmZ p x) (g:=λp=>-dot p.n d) r hx.h
 refine⟨N+1,by omega,by have:=Qkak (show 0<N+1 by omega) hx.w;unfold mvd;simp only;omega,λp hp=>?_⟩
 rw[Md7];exact h1 (N+1) (by omega) p hp
theorem yf5:∀p∈ws,okp p=true:=Qkm.1 (by decide)
theorem md0{n:V3}(h:n≠⟨0,0,0⟩):0<dot n n:=by
 have k:∀a:Int,0<=a*a/\(a≠0->0<a*a):=λa=>by
  rcases Int.lt_trichotomy a 0 with h|h|h
  ·have:=Qkaq h h;exact⟨by omega,λ_=>this⟩
  ·subst h;exact⟨by decide,λh=>absurd rfl h⟩
  ·have:=Qkak h h;exact⟨by omega,λ_=>this⟩
 unfold dot
 have:=k n.x;have:=k n.y;have:=k n.z
 by_cases hx:n.x=0
 ·by_cases hy:n.y=0
  ·by_cases hz:n.z=0
   ·exact absurd (Qkax hx hy hz) h
   ·have:=(k n.z).2 hz;omega
  ·have:=(k n.y).2 hy;omega
 ·have:=(k n.x).2 hx;omega
theorem Ib1{c:List Pln}(h:(chk c==0)=true):∀p∈c++ws,okp p=true:=λp hp=>by
 rw[beq_iff_eq,Ja5] at h
 rcases Qkb.1 hp with hp|hp
 ·exact h.2 p hp
 ·exact yf5 p hp
theorem fa8{c:List Pln}:ful c=true↔(chk c==0)=true/\∃x,Ins (c++ws) x:=by
 unfold ful;rw[Qkl];constructor
 ·rintro⟨h1,h2⟩;exact⟨h1,ld9.1 ((Pb2 (jb5 h1).1 (Mc5 c) (by simp[ws])).1 h2)⟩
 ·rintro⟨h1,h2⟩;exact⟨h1,(Pb2 (jb5 h1).1 (Mc5 c) (by simp[ws])).2 (ld9.2 h2)⟩
theorem mc7{a c:List Pln}(ha:(chk a==0)=true)(hc:(chk c==0)=true):apart a c=true↔∀z,Ins (a++ws) z->Ins (c++ws) z->False:=by
 unfold apart;rw[ha,hc];have hb:=(ae2 ha hc).1;have h:=Pb2 (r:=a++c++ws) hb (Mc5 (a++c)) (by simp[ws])
 have key:Uc8 (a++c++ws)=true↔∃z,Ins (a++ws) z/\Ins (c++ws) z:=by
  rw[h,ld9];constructor
  ·rintro⟨z,hz⟩;exact⟨z,hz.mono λp hp=>by simp only[Qkb] at hp ⊢;rcases hp with h | h<;>simp[h],hz.mono λp hp=>by simp only[Qkb] at hp ⊢;rcases hp with h | h<;>simp[h]⟩
  ·rintro⟨z,h1,h2⟩;exact⟨z,(h1.app h2).mono λp hp=>by simp only[Qkb] at hp ⊢;rcases hp with (h | h) | h<;>simp[h]⟩
 constructor
 ·intro h z h1 h2;rw[key.2 ⟨z,h1,h2⟩] at h;cases h
 ·intro h;cases hb:Uc8 (a++c++ws) with
  |false=>rfl
  |true =>
   obtain⟨z,h1,h2⟩:=key.1 hb;exact (h z h1 h2).elim
theorem Pb3{c:List Pln}{p:Pln}(h:p∈lean c):p∈c:=by
 cases hf:ful c with
 |true=>exact ((ce0 hf p).1 h).1
 |false=>unfold lean at h;rw[hf] at h;cases h
theorem hf5{c:List Pln}(hf:ful c=false):lean c=[]:=by unfold lean;rw[hf];rfl
theorem bb9{c:List Pln}(hf:ful c=true){z:Pt}:Inr (lean c++ws) z↔Inr (c++ws) z:=by
 obtain⟨hc,hb,hB⟩:=ld6 hf;constructor
 ·intro h;have hpts:pts c=cor (c++ws):=by unfold pts;rw[if_pos hc]
  refine ue1 hb hB (c.filter λp=>!keep (pts c) p) (λp hp=>?_) z ⟨h.w,λp hp=>?_⟩
  ·obtain⟨h1,h2⟩:=Qks.1 hp;refine⟨h1,?_⟩;rw[hpts] at h2;unfold keep at h2;simp only[Bool.not_not,decide_eq_true_eq] at h2;omega
  ·obtain⟨h1,h2⟩:=(ub8 _ _ _).1 hp;by_cases hw:p∈ws
   ·exact h.h p (Qkf _ hw)
   ·have h2:=h2.resolve_left hw;have h1:=(Qkb.1 h1).resolve_right hw;have hk:keep (pts c) p=true:=by
     cases hk:keep (pts c) p with
     |true=>rfl
     |false=>exact absurd (Qks.2 ⟨h1,by rw[hk];rfl⟩) h2
    exact h.h p (Qka _ ((ce0 hf p).2 ⟨h1,hk⟩))
 ·exact λh=>h.mono λp hp=>(Qkb.1 hp).elim (λh=>Qka _ (Pb3 h)) (Qkf _)
theorem ic8{c:List Pln}(hf:ful c=true){z:Pt}:Ins (lean c++ws) z↔Ins (c++ws) z:=by
 obtain⟨hc,hb,hB⟩:=ld6 hf;constructor
 ·intro h;refine⟨h.w,λp hp=>?_⟩
  have h0:=((bb9 hf).1 h.inr).h p hp;by_cases hz:rmZ p z=0
  ·exfalso;obtain⟨N,hN,hi⟩:=Ue8 h p.n;have h1:=((bb9 hf).1 hi.inr).h p hp;rw[Md7,hz] at h1
   have:=md0 (ld7 (Ib1 hc p hp))
   omega
  ·omega
 ·exact λh=>h.mono λp hp=>(Qkb.1 hp).elim (λh=>Qka _ (Pb3 h)) (Qkf _)
theorem ce3{c:List Pln}(hc:(chk c==0)=true):(chk (lean c)==0)=true:=by
 rw[beq_iff_eq,Ja5] at hc ⊢;exact⟨Qkq (bb8 c) hc.1,λp hp=>hc.2 p (Pb3 hp)⟩
theorem ce4{c:List Pln}(hf:ful c=true):ful (lean c)=true:=by
 obtain⟨h1,x,hx⟩:=fa8.1 hf;exact fa8.2 ⟨ce3 h1,x,(ic8 hf).2 hx⟩
theorem De1{r:List Pln}{p:Pln}(hf:ful (r++[O4 p])=true){x:Pt}(hx:Inr (r++ws) x)(h:0<rmZ p x):O4 p∈lean (r++[O4 p]):=by
 apply Qkas;intro hn;have h1:Inr (lean (r++[O4 p])++ws) x:=hx.mono λq hq=>by
  rcases Qkb.1 hq with hq|hq
  ·have:=Pb3 hq
   rcases Qkb.1 this with h2|h2
   ·exact Qka _ h2
   ·rw[Qkd.1 h2] at hq;exact absurd hq hn
  ·exact Qkf _ hq
 have:=((bb9 hf).1 h1).h (O4 p) (by simp)
 rw[ya0] at this;omega
noncomputable def C3(x fs:List Pln):Nat->List Pln
 |0=>x
 |j+1=>lean (C3 x fs j++[gL tP fs j])
noncomputable def Ma9(x fs:List Pln)(j:Nat):List Pln:=lean (C3 x fs j++[O4 (gL tP fs j)])
noncomputable def Na0(x fs:List Pln)(j:Nat):List (List Pln):=((List.range j).map (Ma9 x fs)).filter λc=>decide (0<c.length)
noncomputable def Fa9(x fs:List Pln):Bool:=(List.range fs.length).all λj=>decide ((C3 x fs j).length<48)
noncomputable def Ga0(q x:List Pln):List (List Pln):=if apart x q then [x] else Na0 x (lean q) (lean q).length
noncomputable def Xa1(q x:List Pln):Bool:=apart x q||Fa9 x (lean q)
noncomputable def G1(ps:List (List Pln))(q:List Pln):Option (List (List Pln)) :=
 if ful q then (if ps.all (Xa1 q)&&decide ((ps.flatMap (Ga0 q)).length<=200) then some (ps.flatMap (Ga0 q)) else none) else some ps
noncomputable def ma4(c:List Pln)(s:List (List Pln)):Option (List (List Pln)) :=
 s.foldl (λst q=>st.bind λps=>G1 ps q) (some (if ful c then [lean c] else []))
theorem Pb4{x fs:List Pln}{n:Nat}{y:List Pln}:y∈Na0 x fs n↔∃j,j<n/\y=Ma9 x fs j/\y≠[]:=by
 unfold Na0;rw[Qks,List.mem_map];constructor
 ·rintro⟨⟨j,hj,rfl⟩,h⟩;exact⟨j,Qkn.1 hj,rfl,λe=>by rw[e] at h;simp at h⟩
 ·rintro⟨j,hj,rfl,h⟩;exact⟨⟨j,Qkn.2 hj,rfl⟩,by simpa using List.length_pos_iff.2 h⟩
section
variable{x fs:List Pln}(hx:(chk x==0)=true)(hf:∀p∈fs,okp p=true){z0:Pt}(h1:Ins (x++ws) z0)(h2:Ins (fs++ws) z0)(h48:Fa9 x fs=true)
include hx hf h1 h2 h48
theorem gLp{fs:List Pln}{j:Nat}(hj:j<fs.length):gL tP fs j∈fs:=Fa3 tP hj
theorem ce5{j:Nat}(hj:j<fs.length):(C3 x fs j).length<48:=by
 have:=Qkm.1 h48 j (Qkn.2 hj)
 simpa using this
theorem Gc0 : ∀ j, j ≤ fs.length → (chk (C3 x fs j) == 0) = true ∧ (∀ z, Inr (C3 x fs j ++ ws) z ↔ Inr (x ++ ws) z ∧ ∀ i, i < j → 0 ≤ rmZ (gL tP fs i) z) ∧
  (∀z,Ins (C3 x fs j++ws) z↔Ins (x++ws) z/\∀i,i<j->0<rmZ (gL tP fs i) z)
 |0,_=>⟨hx,λz=>⟨λh=>⟨h,λi hi=>absurd hi (Qkai i)⟩,λh=>h.1⟩,λz=>⟨λh=>⟨h,λi hi=>absurd hi (Qkai i)⟩,λh=>h.1⟩⟩
 |j+1,hj=>by
  obtain⟨k1,k2,k3⟩:=Gc0 j (by omega)
  have hl:=ce5 hx hf h1 h2 h48 (show j<fs.length by omega)
  have hpj:=hf _ (gLp hx hf h1 h2 h48 (show j<fs.length by omega))
  have hc:(chk (C3 x fs j++[gL tP fs j])==0)=true:=by
   rw[beq_iff_eq,Ja5] at k1 ⊢;refine⟨by rw[Qkg];simp only[List.length_singleton];omega,λp hp=>?_⟩
   rcases Qkb.1 hp with hp|hp
   ·exact k1.2 p hp
   ·rw[Qkd.1 hp];exact hpj
  have h0:Ins (C3 x fs j++ws) z0:=(k3 z0).2 ⟨h1,λi hi=>h2.h _ (Qka _ (gLp hx hf h1 h2 h48 (by omega)))⟩
  have hz:0<rmZ (gL tP fs j) z0:=h2.h _ (Qka _ (gLp hx hf h1 h2 h48 (by omega)))
  have hful:ful (C3 x fs j++[gL tP fs j])=true:=fa8.2 ⟨hc,z0,h0.w,λp hp=>by
   simp only[Qkb,Qkd] at hp
   rcases hp with (hp|rfl)|hp
   ·exact h0.h p (Qka _ hp)
   ·exact hz
   ·exact h0.h p (Qkf _ hp)⟩
  refine⟨ce3 hc,λz=>?_,λz=>?_⟩
  ·show Inr (lean (C3 x fs j++[gL tP fs j])++ws) z↔_;rw[bb9 hful];constructor
   ·intro h;obtain⟨a1,a2⟩:=(k2 z).1 (h.mono λp hp=>by simp only[Qkb] at hp ⊢;rcases hp with h|h<;>simp[h])
    refine⟨a1,λi hi=>?_⟩
    by_cases e:i=j
    ·subst e;exact h.h _ (by simp)
    ·exact a2 i (by omega)
   ·rintro⟨a1,a2⟩
    have:=(k2 z).2 ⟨a1,λi hi=>a2 i (by omega)⟩
    refine⟨a1.w,λp hp=>?_⟩
    simp only[Qkb,Qkd] at hp
    rcases hp with (hp|rfl)|hp
    ·exact this.h p (Qka _ hp)
    ·exact a2 j (by omega)
    ·exact this.h p (Qkf _ hp)
  ·show Ins (lean (C3 x fs j++[gL tP fs j])++ws) z↔_;rw[ic8 hful];constructor
   ·intro h;obtain⟨a1,a2⟩:=(k3 z).1 (h.mono λp hp=>by simp only[Qkb] at hp ⊢;rcases hp with h|h<;>simp[h])
    refine⟨a1,λi hi=>?_⟩
    by_cases e:i=j
    ·subst e;exact h.h _ (by simp)
    ·exact a2 i (by omega)
   ·rintro⟨a1,a2⟩
    have:=(k3 z).2 ⟨a1,λi hi=>a2 i (by omega)⟩
    refine⟨a1.w,λp hp=>?_⟩
    simp only[Qkb,Qkd] at hp
    rcases hp with (hp|rfl)|hp
    ·exact this.h p (Qka _ hp)
    ·exact a2 j (by omega)
    ·exact this.h p (Qkf _ hp)
theorem Md8 {j : Nat} (hj : j < fs.length) : (Ma9 x fs j = [] ↔ ful (C3 x fs j ++ [O4 (gL tP fs j)]) = false) ∧ (Ma9 x fs j ≠ [] → ful (Ma9 x fs j) = true ∧
  (∀z,Inr (Ma9 x fs j++ws) z↔Inr (C3 x fs j++ws) z/\rmZ (gL tP fs j) z<=0)/\∀z,Ins (Ma9 x fs j++ws) z↔Ins (C3 x fs j++ws) z/\rmZ (gL tP fs j) z<0):=by
 obtain⟨k1,k2,k3⟩:=Gc0 hx hf h1 h2 h48 j (by omega)
 have h0:Ins (C3 x fs j++ws) z0:=(k3 z0).2 ⟨h1,λi hi=>h2.h _ (Qka _ (gLp hx hf h1 h2 h48 (by omega)))⟩
 have hz:0<rmZ (gL tP fs j) z0:=h2.h _ (Qka _ (gLp hx hf h1 h2 h48 (by omega)))
 have e:Ma9 x fs j=[]↔ful (C3 x fs j++[O4 (gL tP fs j)])=false:=by
  constructor
  ·intro he;cases hq:ful (C3 x fs j++[O4 (gL tP fs j)]) with
   |false=>rfl
   |true =>
    have:=De1 hq h0.inr hz
    unfold Ma9 at he;rw[he] at this;cases this
  ·exact hf5
 refine⟨e,λhne=>?_⟩
 have hful:ful (C3 x fs j++[O4 (gL tP fs j)])=true:=by
  cases hq:ful (C3 x fs j++[O4 (gL tP fs j)]) with
  |true=>rfl
  |false=>exact absurd (e.2 hq) hne
 refine⟨ce4 hful,λz=>?_,λz=>?_⟩
 ·unfold Ma9;rw[bb9 hful];constructor
  ·intro h;refine⟨h.mono λp hp=>by simp only[Qkb] at hp ⊢;rcases hp with h | h<;>simp[h],?_⟩
   have:=h.h (O4 (gL tP fs j)) (by simp)
   rw[ya0] at this;omega
  ·rintro⟨a1,a2⟩;refine⟨a1.w,λp hp=>?_⟩
   simp only[Qkb,Qkd] at hp
   rcases hp with (hp|rfl)|hp
   ·exact a1.h p (Qka _ hp)
   ·rw[ya0];omega
   ·exact a1.h p (Qkf _ hp)
 ·unfold Ma9;rw[ic8 hful];constructor
  ·intro h;refine⟨h.mono λp hp=>by simp only[Qkb] at hp ⊢;rcases hp with h | h<;>simp[h],?_⟩
   have:=h.h (O4 (gL tP fs j)) (by simp)
   rw[ya0] at this;omega
  ·rintro⟨a1,a2⟩;refine⟨a1.w,λp hp=>?_⟩
   simp only[Qkb,Qkd] at hp
   rcases hp with (hp|rfl)|hp
   ·exact a1.h p (Qka _ hp)
   ·rw[ya0];omega
   ·exact a1.h p (Qkf _ hp)
theorem ue3:∀j,j<=fs.length->∀z,Inr (x++ws) z->(∃y∈Na0 x fs j,Inr (y++ws) z)\/∀i,i<j->0<=rmZ (gL tP fs i) z
 |0,_,z,_=>.inr λi hi=>absurd hi (Qkai i)
 |j+1,hj,z,hz=>by
  rcases ue3 j (by omega) z hz with⟨y,hy,h⟩|h
  ·obtain⟨i,hi,h3,h4⟩:=Pb4.1 hy;exact .inl ⟨y,Pb4.2 ⟨i,by omega,h3,h4⟩,h⟩
  ·obtain⟨k1,k2,k3⟩:=Gc0 hx hf h1 h2 h48 j (by omega)
   have hr:Inr (C3 x fs j++ws) z:=(k2 z).2 ⟨hz,h⟩;by_cases hn:0<=rmZ (gL tP fs j) z
   ·refine .inr λi hi=>?_
    by_cases e:i=j
    ·subst e;exact hn
    ·exact h i (by omega)
   ·left;obtain⟨c1,c2⟩:=Md8 hx hf h1 h2 h48 (show j<fs.length by omega)
    have h0:Ins (C3 x fs j++ws) z0:=(k3 z0).2 ⟨h1,λi hi=>h2.h _ (Qka _ (gLp hx hf h1 h2 h48 (by omega)))⟩
    obtain⟨y,hy⟩:=hf4 hr h0 [O4 (gL tP fs j)] (λp hp=>by rw[Qkd.1 hp,ya0];omega)
    have hne:Ma9 x fs j≠[]:=λe=>by
     have hq:=c1.1 e;have hl:=ce5 hx hf h1 h2 h48 (show j<fs.length by omega)
     have hc:(chk (C3 x fs j++[O4 (gL tP fs j)])==0)=true:=by
      rw[beq_iff_eq,Ja5] at k1 ⊢;refine⟨by rw[Qkg];simp only[List.length_singleton];omega,λp hp=>?_⟩
      rcases Qkb.1 hp with hp|hp
      ·exact k1.2 p hp
      ·rw[Qkd.1 hp];exact Fc5 (hf _ (gLp hx hf h1 h2 h48 (by omega)))
     have hs:∀p∈C3 x fs j++[O4 (gL tP fs j)]++ws,p∈C3 x fs j++ws++[O4 (gL tP fs j)]:=λp hp=>by
      simp only[Qkb] at hp ⊢
      rcases hp with (h|h)|h
      ·exact .inl (.inl h)
      ·exact .inr h
      ·exact .inl (.inr h)
     have:=fa8.2 ⟨hc,y,hy.mono hs⟩
     rw[hq] at this;cases this
    exact⟨_,Pb4.2 ⟨j,by omega,rfl,hne⟩,((c2 hne).2.1 z).2 ⟨hr,by omega⟩⟩
theorem yf6 : (∀ y ∈ Na0 x fs fs.length, ful y = true ∧ (∀ z, Inr (y ++ ws) z → Inr (x ++ ws) z) ∧ ∀ z, Ins (y ++ ws) z → Inr (fs ++ ws) z → False) ∧
  (Na0 x fs fs.length).Pairwise λa b=>∀z,Ins (a++ws) z->Ins (b++ws) z->False:=by
 refine⟨λy hy=>?_,?_⟩
 ·obtain⟨j,hj,rfl,hne⟩:=Pb4.1 hy;obtain⟨c1,c2,c3⟩:=(Md8 hx hf h1 h2 h48 hj).2 hne;obtain⟨k1,k2,k3⟩:=Gc0 hx hf h1 h2 h48 j (by omega)
  refine⟨c1,λz hz=>((k2 z).1 ((c2 z).1 hz).1).1,λz hz hq=>?_⟩
  have:=((c3 z).1 hz).2
  have:=hq.h _ (Qka _ (gLp hx hf h1 h2 h48 hj))
  omega
 ·unfold Na0;rw[List.pairwise_filter,List.pairwise_map];refine List.pairwise_lt_range.imp_of_mem λ{a b} ha hb hab p1 p2 z z1 z2=>?_
  have ha:=Qkn.1 ha;have hb:=Qkn.1 hb;have n1:Ma9 x fs a≠[]:=λe=>by rw[e] at p1;simp at p1
  have n2:Ma9 x fs b≠[]:=λe=>by rw[e] at p2;simp at p2
  have q1:=(((Md8 hx hf h1 h2 h48 ha).2 n1).2.2 z).1 z1;have q2:=(((Md8 hx hf h1 h2 h48 hb).2 n2).2.2 z).1 z2;have q3:=((Gc0 hx hf h1 h2 h48 b (by omega)).2.2 z).1 q2.1
  have:=q3.2 a hab
  omega
end
structure Pcs(c:List Pln)(S ps:List (List Pln)):Prop where
 ful:∀y∈ps,ful y=true
 sub:∀y∈ps,∀z,Inr (y++ws) z->Inr (c++ws) z
 off:∀y∈ps,∀s∈S,Ce.ful s=true->∀z,Ins (y++ws) z->Inr (s++ws) z->False
 dis:ps.Pairwise λa b=>∀z,Ins (a++ws) z->Ins (b++ws) z->False
 cov:∀z,Inr (c++ws) z->(∃y∈ps,Inr (y++ws) z)\/∃s∈S,Ce.ful s=true/\Inr (s++ws) z
theorem De2{c:List Pln}:Pcs c [] (if ful c then [lean c] else [])\/ful c=false:=by
 cases hf:ful c with
 |false=>exact .inr rfl
 |true =>
  refine .inl ⟨λy hy=>?_,λy hy z hz=>?_,λ_ _ s hs=>(by cases hs),?_,λz hz=>.inl ⟨lean c,by simp,(bb9 hf).2 hz⟩⟩
  ·rw[if_pos rfl] at hy;rw[Qkd.1 hy];exact ce4 hf
  ·rw[if_pos rfl] at hy;rw[Qkd.1 hy] at hz;exact (bb9 hf).1 hz
  ·rw[if_pos rfl];exact Qkad _ _
theorem De3{a c:List Pln}(ha:ful a=true)(hc:ful c=true)(h:apart a c=false):∃z,Ins (a++ws) z/\Ins (c++ws) z:=by
 apply Qkas;intro hn
 have:=(mc7 (fa8.1 ha).1 (fa8.1 hc).1).2 λz z1 z2=>hn ⟨z,z1,z2⟩
 rw[h] at this;cases this
theorem hf6 {q x : List Pln} (hq : ful q = true) (hx : ful x = true) (h48 : Xa1 q x = true) :
  (∀y∈Ga0 q x,ful y=true/\(∀z,Inr (y++ws) z->Inr (x++ws) z)/\∀z,Ins (y++ws) z->Inr (q++ws) z->False) /\
  ((Ga0 q x).Pairwise λa b=>∀z,Ins (a++ws) z->Ins (b++ws) z->False) /\
  ∀z,Inr (x++ws) z->(∃y∈Ga0 q x,Inr (y++ws) z)\/Inr (q++ws) z:=by
 unfold Ga0;cases ha:apart x q with
 |true =>
  rw[if_pos rfl];refine⟨λy hy=>?_,Qkad _ _,λz hz=>.inl ⟨x,by simp,hz⟩⟩
  rw[Qkd.1 hy];refine⟨hx,λ_ h=>h,λz z1 z2=>?_⟩
  obtain⟨_,z0,h0⟩:=fa8.1 hq;obtain⟨u,hu⟩:=hf4 z2 h0 (x++ws) z1.h;exact (mc7 (fa8.1 hx).1 (fa8.1 hq).1).1 ha u (hu.mono λp hp=>Qkf _ hp) (hu.mono λp hp=>Qka _ hp)
 |false =>
  rw[if_neg (by decide)]
  unfold Xa1 at h48;rw[ha,Bool.false_or] at h48;obtain⟨z0,z1,z2⟩:=De3 hx hq ha;have hf:∀p∈lean q,okp p=true:=λp hp=>Ib1 (fa8.1 hq).1 p (Qka _ (Pb3 hp))
  obtain⟨o1,o2⟩:=yf6 (fa8.1 hx).1 hf z1 ((ic8 hq).2 z2) h48;refine⟨λy hy=>⟨(o1 y hy).1,(o1 y hy).2.1,λz a1 a2=>(o1 y hy).2.2 z a1 ((bb9 hq).2 a2)⟩,o2,λz hz=>?_⟩
  rcases ue3 (fa8.1 hx).1 hf z1 ((ic8 hq).2 z2) h48 _ (Qkt _) z hz with h|h
  ·exact .inl h
  ·refine .inr ((bb9 hq).1 ⟨hz.w,λp hp=>?_⟩)
   rcases Qkb.1 hp with hp|hp
   ·obtain⟨i,hi,rfl⟩:=List.getElem_of_mem hp
    have:=h i hi
    rw[show gL tP (lean q) i=(lean q)[i] by simp[gL,Qkj,Qkh hi]] at this
    exact this
   ·exact hz.h p (Qkf _ hp)
theorem me8{c:List Pln}{S ps ps':List (List Pln)}{q:List Pln}(h:Pcs c S ps)(hw:G1 ps q=some ps'):Pcs c (S++[q]) ps':=by
 unfold G1 at hw;cases hq:ful q with
 |false =>
  rw[hq,if_neg (by decide)] at hw
  injection hw with hw;subst hw;refine⟨h.ful,h.sub,λy hy s hs hf=>?_,h.dis,λz hz=>?_⟩
  ·rcases Qkb.1 hs with hs|hs
   ·exact h.off y hy s hs hf
   ·rw[Qkd.1 hs,hq] at hf;cases hf
  ·exact (h.cov z hz).imp id λ⟨s,hs,h⟩=>⟨s,Qka _ hs,h⟩
 |true =>
  rw[hq,if_pos rfl] at hw
  split at hw
  case isFalse=>cases hw
  rename_i hr;injection hw with hw;subst hw;rw[Qkl,Qkm] at hr;have hp:=λx (hx:x∈ps)=>hf6 hq (h.ful x hx) (hr.1 x hx)
  refine⟨λy hy=>?_,λy hy=>?_,λy hy s hs hf z z1 z2=>?_,?_,λz hz=>?_⟩
  ·obtain⟨x,hx,hy⟩:=Qkz.1 hy;exact ((hp x hx).1 y hy).1
  ·obtain⟨x,hx,hy⟩:=Qkz.1 hy;exact λz hz=>h.sub x hx z (((hp x hx).1 y hy).2.1 z hz)
  ·obtain⟨x,hx,hy⟩:=Qkz.1 hy;obtain⟨k1,k2,k3⟩:=(hp x hx).1 y hy
   rcases Qkb.1 hs with hs|hs
   ·-- hf4 z there are inner points of the piece that are inner points of x
    have zx:Ins (x++ws) z:=by
     obtain⟨_,x0,hx0⟩:=fa8.1 (h.ful x hx);refine⟨z1.w,λp hp=>?_⟩
     have h0:=(k2 z z1.inr).h p hp;by_cases e:rmZ p z=0
     ·exfalso;obtain⟨N,hN,hi⟩:=Ue8 z1 p.n;have h1:=(k2 _ hi.inr).h p hp;rw[Md7,e] at h1
      have:=md0 (ld7 (Ib1 (fa8.1 (h.ful x hx)).1 p hp))
      omega
     ·omega
    exact h.off x hx s hs hf z zx z2
   ·rw[Qkd.1 hs] at z2;exact k3 z z1 z2
  ·rw[List.pairwise_flatMap];refine⟨λx hx=>(hp x hx).2.1,h.dis.imp_of_mem λ{a b} ha hb hab u hu v hv z z1 z2=>?_⟩
   have up:∀{x u:List Pln},x∈ps->u∈Ga0 q x->Ins (u++ws) z->Ins (x++ws) z:=λ{x u} hx hu z1=>by
    obtain⟨k1,k2,k3⟩:=(hp x hx).1 u hu;refine⟨z1.w,λp hp=>?_⟩
    have h0:=(k2 z z1.inr).h p hp;by_cases e:rmZ p z=0
    ·exfalso;obtain⟨N,hN,hi⟩:=Ue8 z1 p.n;have h1:=(k2 _ hi.inr).h p hp;rw[Md7,e] at h1
     have:=md0 (ld7 (Ib1 (fa8.1 (h.ful x hx)).1 p hp))
     omega
    ·omega
   exact hab z (up ha hu z1) (up hb hv z2)
  ·rcases h.cov z hz with⟨x,hx,hxz⟩|⟨s,hs,h'⟩
   ·rcases (hp x hx).2.2 z hxz with⟨y,hy,hyz⟩|h'
    ·exact .inl ⟨y,Qkz.2 ⟨x,hx,hy⟩,hyz⟩
    ·exact .inr ⟨q,by simp,hq,h'⟩
   ·exact .inr ⟨s,Qka _ hs,h'⟩
theorem Xb8(s:List (List Pln)):s.foldl (λst q=>st.bind λps=>G1 ps q) none=none:=by
 induction s with
 |nil=>rfl
 |cons q s ih=>exact ih
theorem md1{c:List Pln}:∀(s S ps:List (List Pln)) (r:List (List Pln)),Pcs c S ps->s.foldl (λst q=>st.bind λps=>G1 ps q) (some ps)=some r->Pcs c (S++s) r
 |[],S,ps,r,h,e=>by injection e with e;subst e;rw[List.append_nil];exact h
 |q::s,S,ps,r,h,e=>by
  have e:s.foldl (λst q=>st.bind λps=>G1 ps q) (G1 ps q)=some r:=e
  cases hw:G1 ps q with
  |none=>rw[hw,Xb8] at e;cases e
  |some ps' =>
   rw[hw] at e
   have:=md1 s (S++[q]) ps' r (me8 h hw) e
   rw[Qkao] at this;exact this
theorem Ue9{c:List Pln}{s r:List (List Pln)}(hc:ful c=true)(h:ma4 c s=some r):Pcs c s r:=by
 have hs:Pcs c [] (if ful c then [lean c] else []):=De2.resolve_right (by rw[hc];decide)
 exact md1 s [] _ r hs h
theorem De4{c:List Pln}{s r:List (List Pln)}(hc:ful c=true)(h:ma4 c s=some r):r=[]↔∀z,Inr (c++ws) z->∃q∈s,ful q=true/\Inr (q++ws) z:=by
 have hp:=Ue9 hc h;constructor
 ·rintro rfl z hz;exact (hp.cov z hz).resolve_left λ⟨_,hy,_⟩=>by cases hy
 ·intro hall;cases r with
  |nil=>rfl
  |cons y r =>
   exfalso;obtain⟨_,z,hz⟩:=fa8.1 (hp.ful y (by simp))
   obtain⟨q,hq,hf,hi⟩:=hall z (hp.sub y (by simp) z hz.inr)
   exact hp.off y (by simp) q hq hf z hz hi
set_option maxRecDepth 100000
noncomputable def Md9:List (Nat×Sum):=[]
theorem ud3:i9 prog G Md9:=trivial
noncomputable def ic9(x:V3)(y:V3):V3:=(⟨W (x.x-y.x),W (x.y-y.y),W (x.z-y.z)⟩:V3)
noncomputable def Rc8:Sum:=ra8 (ha7 tV) (ha7 tV) (λx y=>.ret ((one r1V).enc (ic9 x y),[]))
theorem Nd0:i5 prog G 108 Rc8:=Ga2 (bd Of4 ud3) λx y=>y8 (by kernel_rfl)
noncomputable def ud4:List (Nat×Sum):=[(108,Rc8)]
theorem md2:i9 prog G ud4:=⟨Nd0,trivial⟩
noncomputable def cb0(x:Pln):Pln:=let t1:=(ic9 (⟨0,0,0⟩:V3) x.n);(⟨t1,W (0-x.b)⟩:Pln)
noncomputable def Gc1:Sum:=X7 (ha7 tP) (λx=>.ret ((one r1P).enc (cb0 x),[]))
theorem ud5:i5 prog G 52 Gc1:=Fb2 (bd b52 md2) λx=>y8 (by kernel_rfl)
noncomputable def jc0:List (Nat×Sum):=[(97,tb4)]
theorem Vc8:i9 prog G jc0:=⟨Jb2,trivial⟩
structure Da3 where
 Cb9:List (List Pln)
 ua0:Int
structure V0 where
 p8:Int
noncomputable def Pb5(p:Da3)(s:V0):St:=⟨ra 9 (eL (tLs tP) p.Cb9::i p.ua0::i s.p8::ra 9 []),[]⟩
noncomputable def ta5{α:Type}(k:V0->α)(e:Nat->α)(z:α)(p:Da3)(s:V0):α:=let t1:=(sa7 (rt tP (gL (tLs tP) p.Cb9 s.p8.toNat)));(sl (decide (s.p8<p.ua0)) (sl (inB s.p8 (List.length p.Cb9)) (sl (okE tP (gL (tLs tP) p.Cb9 s.p8.toNat)) (sl (Ma2 (rt tP (gL (tLs tP) p.Cb9 s.p8.toNat))) (sl (t1 != 0) (e 1) (k ⟨W (s.p8+1)⟩)) z) z) z) (e 2))
noncomputable def ya1(p:Da3)(s:V0):Stp V0:=ta5 .next .exit .fail p s
noncomputable def rb4:Lo Da3 V0:=⟨En jc0,0,Cf6,[1,1,0,1,4,4],[9,10,11],.p,[⟨ru2 9 (.s (.c 1 (nL (tLs tP)))::sIq::sIq::ru2 9 []),[],λa H=>(⟨rL (tLs tP) (slT a 9),aIq a 10⟩,⟨aIq a 11⟩)⟩],ya1,[(none,λp s=>let t1:=(sa7 (rt tP (gL (tLs tP) p.Cb9 s.p8.toNat)));⟨[i t1],[]⟩),(some 0,λp s=>upq (Pb5 p s) [(12,b (decide (s.p8<p.ua0)))])],Pb5⟩
theorem Mc9:rb4.Ok:=Lo.ok [] (by kernel_rfl) .nil rfl (.cons (λa H=>by kernel_rfl) .nil) λp s=>(.of @ta5 (λF _ _ _ _ _=>by unfold ta5;(repeat' apply m0 (f:=F))<;>rfl) (by kernel_rfl))
noncomputable def Sa5(x:List (List Pln)):Option (b7×List b8):=let t1:=(lp (ya1 (⟨rt (tLs tP) x,(↑(List.length x):Int)⟩:Da3)) (⟨0⟩:V0));let t2:=(sa7 (rt tP (gL (tLs tP) (rt (tLs tP) x) t1.2.p8.toNat)));(sl (decide ((↑(List.length x):Int)>16)) (some (i 2,[])) (sl ((cnE (tLs tP) x)&&true) (sl (Nat.beq t1.1 1) (some (i t2,[])) (sl (Nat.beq t1.1 2) (some (i 0,[])) none)) none))
noncomputable def T4(x:List (List Pln)):Int:=O3 (one r1I) (Sa5 x)
noncomputable def T5(x:List (List Pln)):Bool:=okO (one r1I) (Sa5 x)
noncomputable def Sa6:Sum:=X7 (P8 (tLs tP)) (λx=>.guard (T5 x) (.ret ((one r1I).enc (T4 x),[])))
theorem cb1:i5 prog G 49 Sa6:=Ha5 (bd b49 Vc8) (one r1I) (o:=Sa5) λx=>va6 (.s .p (.s .p (.s (.s .p (.b (.u rb4.ls))) .p))) [rb4.pr] (by kernel_rfl) (.cons Mc9 .nil) (by kernel_rfl)
noncomputable def jc1:List (Nat×Sum):=[]
theorem Vc9:i9 prog G jc1:=trivial
@[reducible] noncomputable def rc3:Sum:=Lb5 (En jc1) mf5
theorem md3:i5 prog G 155 rc3:=bd Qf8 Vc9
noncomputable def ib1:List (Nat×Sum):=[(55,Wa5),(98,Vb8),(56,Ub7),(52,Gc1),(166,Fa6),(155,rc3)]
theorem Gc2:i9 prog G ib1:=⟨ab6,rc2,rc1,ud5,ab3,md3,trivial⟩
structure A1 where
 A2:List Pln
 ua0:Int
 (Od0 Od1:List Pln)
 Zc3:List (List Pln)
 (kf8 kf9:Int)
structure l5 where
 ph:Nat
 ba0:List Pln
 p8:Int
 C4:Nat
 eh3:List (List b7)
noncomputable def sb0(p:A1)(s:l5):St:=⟨ra 4 (eL tP s.ba0::ra 4 (eL tP p.A2::i p.ua0::i s.p8::ra 31 (i 0::.unk::eL tP p.Od0::.unk::.unk::.ptr 0 0 0 0::.ptr 1 0 0 0::eL tP p.Od1::.ptr 2 0 0 0::ra 9 (eL (tLs tP) p.Zc3::i p.kf8::i p.kf9::ra 25 [])))),[⟨0,1,[[.v (.slice none 0 0)]],true,false,0⟩,⟨0,1,[[i 0]],true,false,0⟩,⟨0,0,[[.v (.slice none 0 0)]],true,false,0⟩]⟩
noncomputable def sb1(p:A1)(s:l5):St:=⟨ra 4 (eL tP s.ba0::ra 4 (eL tP p.A2::i p.ua0::i s.p8::ra 31 (i 0::.unk::eL tP p.Od0::.unk::.unk::.ptr 0 0 0 0::.ptr 1 0 0 0::eL tP p.Od1::.ptr 2 0 0 0::ra 9 (eL (tLs tP) p.Zc3::i p.kf8::i p.kf9::ra 25 [])))),[⟨0,1,[[.v (.slice none 0 0)]],true,false,0⟩,⟨0,1,[[i 0]],true,false,0⟩,⟨0,0,[[.sl 3 0 s.C4 0]],true,false,0⟩,⟨24,1,s.eh3,true,false,0⟩]⟩
noncomputable def wc5(p:A1)(s:l5):St:=(sel (Nat.beq s.ph 1) (sb1 p s) (sb0 p s))
noncomputable def A6{α:Type}(k:l5->α)(e:Nat->α)(z:α)(p:A1)(s:l5):α:=let t1:=(cb0 (gL tP p.A2 s.p8.toNat));let t2:=(w7 [rt tP s.ba0,[t1]]);let t3:=(Q9 []);let t4:=(w7 [rt tP s.ba0,[gL tP p.A2 s.p8.toNat]]);let t5:=(Q9 (slR tP t4.eh0 0 t4.ns0));let t6:=(Q9 (slR tP t2.eh0 0 t2.ns0));let w0:α:=(sl ((okE tP s.ba0)&&true) (sl (Nat.beq t4.alt 1) (sl (s8 []) (k ⟨0,t3,W (s.p8+1),0,[]⟩) z) (sl (Nat.beq t4.alt 2) (sl (okS tP t4.eh0 0 t4.ns0) (sl (s8 (slR tP t4.eh0 0 t4.ns0)) (k ⟨0,t5,W (s.p8+1),0,[]⟩) z) z) z)) z);(sl (decide (s.p8<p.ua0)) (sl (inB s.p8 (List.length p.A2)) (sl (decide ((↑(List.length s.ba0):Int)>=48)) (e 1) (sl ((okE tP s.ba0)&&true) (sl (Nat.beq t2.alt 1) (sl (s8 []) (sl (decide ((↑(List.length t3):Int)>0)) (sl (decide ((↑(List.length t3):Int)>0)) (sl ((!(Nat.beq (List.length t3) 0))&&true) (sl ((okE tP s.ba0)&&true) (sl (Nat.beq t4.alt 1) (sl (s8 []) (k ⟨1,t3,W (s.p8+1),1,[[eL tP t3]]⟩) z) (sl (Nat.beq t4.alt 2) (sl (okS tP t4.eh0 0 t4.ns0) (sl (s8 (slR tP t4.eh0 0 t4.ns0)) (k ⟨1,t5,W (s.p8+1),1,[[eL tP t3]]⟩) z) z) z)) z) z) w0) (sl (decide ((↑(List.length t3):Int)>0)) z w0)) z) (sl (Nat.beq t2.alt 2) (sl (okS tP t2.eh0 0 t2.ns0) (sl (s8 (slR tP t2.eh0 0 t2.ns0)) (sl (decide ((↑(List.length t6):Int)>0)) (sl (decide ((↑(List.length t6):Int)>0)) (sl ((!(Nat.beq (List.length t6) 0))&&true) (sl ((okE tP s.ba0)&&true) (sl (Nat.beq t4.alt 1) (sl (s8 []) (k ⟨1,t3,W (s.p8+1),1,[[eL tP t6]]⟩) z) (sl (Nat.beq t4.alt 2) (sl (okS tP t4.eh0 0 t4.ns0) (sl (s8 (slR tP t4.eh0 0 t4.ns0)) (k ⟨1,t5,W (s.p8+1),1,[[eL tP t6]]⟩) z) z) z)) z) z) w0) (sl (decide ((↑(List.length t6):Int)>0)) z w0)) z) z) z)) z)) z) (e 2))
noncomputable def A7{α:Type}(k:l5->α)(e:Nat->α)(z:α)(p:A1)(s:l5):α:=let t1:=(cb0 (gL tP p.A2 s.p8.toNat));let t2:=(w7 [rt tP s.ba0,[t1]]);let t3:=(Q9 []);let t4:=(w7 [rt tP s.ba0,[gL tP p.A2 s.p8.toNat]]);let t5:=(Q9 (slR tP t4.eh0 0 t4.ns0));let t6:=(Q9 (slR tP t2.eh0 0 t2.ns0));let w0:α:=(sl ((okE tP s.ba0)&&true) (sl (Nat.beq t4.alt 1) (sl (s8 []) (k ⟨1,t3,W (s.p8+1),s.C4,s.eh3⟩) z) (sl (Nat.beq t4.alt 2) (sl (okS tP t4.eh0 0 t4.ns0) (sl (s8 (slR tP t4.eh0 0 t4.ns0)) (k ⟨1,t5,W (s.p8+1),s.C4,s.eh3⟩) z) z) z)) z);(sl (decide (s.p8<p.ua0)) (sl (inB s.p8 (List.length p.A2)) (sl (decide ((↑(List.length s.ba0):Int)>=48)) (e 3) (sl ((okE tP s.ba0)&&true) (sl (Nat.beq t2.alt 1) (sl (s8 []) (sl (decide ((↑(List.length t3):Int)>0)) (sl (decide ((↑(List.length t3):Int)>0)) (sl ((!(Nat.beq (List.length t3) 0))&&true) (sl (Nat.beq s.C4 (len s.eh3)&&Nat.ble ((s.C4+1)*24) room) (sl ((okE tP s.ba0)&&true) (sl (Nat.beq t4.alt 1) (sl (s8 []) (k ⟨1,t3,W (s.p8+1),s.C4+1,app s.eh3 [[eL tP t3]]⟩) z) (sl (Nat.beq t4.alt 2) (sl (okS tP t4.eh0 0 t4.ns0) (sl (s8 (slR tP t4.eh0 0 t4.ns0)) (k ⟨1,t5,W (s.p8+1),s.C4+1,app s.eh3 [[eL tP t3]]⟩) z) z) z)) z) z) z) w0) (sl (decide ((↑(List.length t3):Int)>0)) z w0)) z) (sl (Nat.beq t2.alt 2) (sl (okS tP t2.eh0 0 t2.ns0) (sl (s8 (slR tP t2.eh0 0 t2.ns0)) (sl (decide ((↑(List.length t6):Int)>0)) (sl (decide ((↑(List.length t6):Int)>0)) (sl ((!(Nat.beq (List.length t6) 0))&&true) (sl (Nat.beq s.C4 (len s.eh3)&&Nat.ble ((s.C4+1)*24) room) (sl ((okE tP s.ba0)&&true) (sl (Nat.beq t4.alt 1) (sl (s8 []) (k ⟨1,t3,W (s.p8+1),s.C4+1,app s.eh3 [[eL tP t6]]⟩) z) (sl (Nat.beq t4.alt 2) (sl (okS tP t4.eh0 0 t4.ns0) (sl (s8 (slR tP t4.eh0 0 t4.ns0)) (k ⟨1,t5,W (s.p8+1),s.C4+1,app s.eh3 [[eL tP t6]]⟩) z) z) z)) z) z) z) w0) (sl (decide ((↑(List.length t6):Int)>0)) z w0)) z) z) z)) z)) z) (e 4))
noncomputable def n8(p:A1)(s:l5):Stp l5:=(sel (Nat.beq s.ph 1) (A7 .next .exit .fail p s) (A6 .next .exit .fail p s))
noncomputable def cb2:Lo A1 l5:=⟨En ib1,0,uf0,[1,1,1,1,0,1,4,4,1,1,0,4,1,1,1,4,4,1,1,4,4],[4,9,10,11,43,45,48,49,50,51,61,62,63],.p,[⟨ru2 4 (sLq tP::ru2 4 (sLq tP::sIq::sIq::ru2 31 (.s (.o (.lit .i64 0))::sUq::sLq tP::sUq::sUq::sPq 0::sPq 1::sLq tP::sPq 2::ru2 9 (.s (.c 1 (nL (tLs tP)))::sIq::sIq::ru2 25 [])))),[⟨0,1,true,some [[.o .nil]]⟩,⟨0,1,true,some [[.o (.lit .i64 0)]]⟩,⟨0,0,true,some [[.o .nil]]⟩],λa H=>(⟨aLq tP a 9,aIq a 10,aLq tP a 45,aLq tP a 50,rL (tLs tP) (slT a 61),aIq a 62,aIq a 63⟩,⟨0,aLq tP a 4,aIq a 11,0,[]⟩)⟩,⟨ru2 4 (sLq tP::ru2 4 (sLq tP::sIq::sIq::ru2 31 (.s (.o (.lit .i64 0))::sUq::sLq tP::sUq::sUq::sPq 0::sPq 1::sLq tP::sPq 2::ru2 9 (.s (.c 1 (nL (tLs tP)))::sIq::sIq::ru2 25 [])))),[⟨0,1,true,some [[.o .nil]]⟩,⟨0,1,true,some [[.o (.lit .i64 0)]]⟩,⟨0,0,true,some [[.o (.sl 3 0 (some 0) none)]]⟩,⟨24,1,true,none⟩],λa H=>(⟨aLq tP a 9,aIq a 10,aLq tP a 45,aLq tP a 50,rL (tLs tP) (slT a 61),aIq a 62,aIq a 63⟩,⟨1,aLq tP a 4,aIq a 11,slN (slT (rwT (elT H 2) 0) 0),elT H 3⟩)⟩],n8,[(none,λp s=>⟨ra 4 (eL tP s.ba0::.unk::.ptr 3 0 0 0::.unk::.unk::eL tP p.A2::i p.ua0::i s.p8::b (decide (s.p8<p.ua0))::.tptr [i (gL tP p.A2 s.p8.toNat).n.x,i (gL tP p.A2 s.p8.toNat).n.y,i (gL tP p.A2 s.p8.toNat).n.z,i (gL tP p.A2 s.p8.toNat).b]::.agg [i (gL tP p.A2 s.p8.toNat).n.x,i (gL tP p.A2 s.p8.toNat).n.y,i (gL tP p.A2 s.p8.toNat).n.z,i (gL tP p.A2 s.p8.toNat).b]::eL tP s.ba0::i (↑(List.length s.ba0):Int)::b (decide ((↑(List.length s.ba0):Int)>=48))::.unk::b false::ra 23 (i 1::.unk::eL tP p.Od0::.unk::.unk::.ptr 0 0 0 0::.ptr 1 0 0 0::eL tP p.Od1::.ptr 2 0 0 0::ra 9 (eL (tLs tP) p.Zc3::i p.kf8::i p.kf9::ra 25 []))),[⟨0,1,[[.v (.slice none 0 0)]],true,false,0⟩,⟨0,1,[[i 9]],true,false,0⟩,⟨0,0,[[.v (.slice none 0 0)]],true,false,0⟩,⟨0,4,[[i (gL tP p.A2 s.p8.toNat).n.x,i (gL tP p.A2 s.p8.toNat).n.y,i (gL tP p.A2 s.p8.toNat).n.z,i (gL tP p.A2 s.p8.toNat).b]],true,false,0⟩]⟩),(some 0,λp s=>upq (sb0 p s) [(12,b (decide (s.p8<p.ua0)))]),(none,λp s=>⟨ra 4 (eL tP s.ba0::.unk::.ptr 4 0 0 0::.unk::.unk::eL tP p.A2::i p.ua0::i s.p8::b (decide (s.p8<p.ua0))::.tptr [i (gL tP p.A2 s.p8.toNat).n.x,i (gL tP p.A2 s.p8.toNat).n.y,i (gL tP p.A2 s.p8.toNat).n.z,i (gL tP p.A2 s.p8.toNat).b]::.agg [i (gL tP p.A2 s.p8.toNat).n.x,i (gL tP p.A2 s.p8.toNat).n.y,i (gL tP p.A2 s.p8.toNat).n.z,i (gL tP p.A2 s.p8.toNat).b]::eL tP s.ba0::i (↑(List.length s.ba0):Int)::b (decide ((↑(List.length s.ba0):Int)>=48))::.unk::b false::ra 23 (i 1::.unk::eL tP p.Od0::.unk::.unk::.ptr 0 0 0 0::.ptr 1 0 0 0::eL tP p.Od1::.ptr 2 0 0 0::ra 9 (eL (tLs tP) p.Zc3::i p.kf8::i p.kf9::ra 25 []))),[⟨0,1,[[.v (.slice none 0 0)]],true,false,0⟩,⟨0,1,[[i 9]],true,false,0⟩,⟨0,0,[[.sl 3 0 s.C4 0]],true,false,0⟩,⟨24,1,s.eh3,true,false,0⟩,⟨0,4,[[i (gL tP p.A2 s.p8.toNat).n.x,i (gL tP p.A2 s.p8.toNat).n.y,i (gL tP p.A2 s.p8.toNat).n.z,i (gL tP p.A2 s.p8.toNat).b]],true,false,0⟩]⟩),(some 0,λp s=>upq (sb1 p s) [(12,b (decide (s.p8<p.ua0)))])],wc5⟩
theorem wc6:cb2.OkM:=Lo.okM [] (by kernel_rfl) .nil rfl (.cons (λa H=>by kernel_rfl) (.cons (λa H=>by kernel_rfl) .nil)) λp s=>(.sel (Nat.beq s.ph 1) (.of @A7 (λF _ _ _ _ _=>by unfold A7;(repeat' apply m0 (f:=F))<;>rfl) (by kernel_rfl)) (.of @A6 (λF _ _ _ _ _=>by unfold A6;(repeat' apply m0 (f:=F))<;>rfl) (by kernel_rfl)))
structure S4 where
 oc4:Int
structure o9 where
 ph:Nat
 (ja9 L5:List Pln)
 B9:List (List Pln)
 ya6:Int
 C4:Nat
 eh3:List (List b7)
noncomputable def sb2(p:S4)(s:o9):St:=⟨.unk::eL tP s.ja9::.unk::.unk::.ptr 0 0 0 0::.ptr 1 0 0 0::eL tP s.L5::.ptr 2 0 0 0::ra 9 (eL (tLs tP) s.B9::i p.oc4::i s.ya6::ra 25 []),[⟨0,1,[[.v (.slice none 0 0)]],true,false,0⟩,⟨0,1,[[i 0]],true,false,0⟩,⟨0,0,[[.v (.slice none 0 0)]],true,false,0⟩]⟩
noncomputable def sb3(p:S4)(s:o9):St:=⟨.unk::eL tP s.ja9::.unk::.unk::.ptr 0 0 0 0::.ptr 1 0 0 0::eL tP s.L5::.ptr 2 0 0 0::ra 9 (eL (tLs tP) s.B9::i p.oc4::i s.ya6::ra 25 []),[⟨0,1,[[.v (.slice none 0 0)]],true,false,0⟩,⟨0,1,[[i 0]],true,false,0⟩,⟨0,0,[[.sl 3 0 s.C4 0]],true,false,0⟩,⟨24,1,s.eh3,true,false,0⟩]⟩
noncomputable def wc7(p:S4)(s:o9):St:=(sel (Nat.beq s.ph 1) (sb3 p s) (sb2 p s))
noncomputable def o8{α:Type}(k:o9->α)(e:Nat->α)(z:α)(p:S4)(s:o9):α:=let t1:=(Ma5 (rt tP (gL (tLs tP) s.B9 s.ya6.toNat)) (rt tP s.ja9));let t2:=(lp (n8 (⟨rt tP s.L5,(↑(List.length s.L5):Int),rt tP s.ja9,rt tP s.L5,rt (tLs tP) s.B9,p.oc4,s.ya6⟩:A1)) (⟨0,rt tP (gL (tLs tP) s.B9 s.ya6.toNat),0,0,[]⟩:l5));(sl (decide (s.ya6<p.oc4)) (sl (inB s.ya6 (List.length s.B9)) (sl (okE tP (gL (tLs tP) s.B9 s.ya6.toNat)) (sl (okE tP s.ja9) (sl (Ma6 (rt tP (gL (tLs tP) s.B9 s.ya6.toNat)) (rt tP s.ja9)) (sl t1 (k ⟨1,s.ja9,s.L5,s.B9,W (s.ya6+1),1,[[eL tP (gL (tLs tP) s.B9 s.ya6.toNat)]]⟩) (sl ((cnE tP (gL (tLs tP) s.B9 s.ya6.toNat))&&((cnE tP s.L5)&&((cnE tP s.ja9)&&((cnE tP s.L5)&&((cnE (tLs tP) s.B9)&&true))))) (sl (Nat.beq t2.1 1) (e 1) (sl (Nat.beq t2.1 2) (k ⟨0,rt tP s.ja9,rt tP s.L5,rt (tLs tP) s.B9,W (s.ya6+1),0,[]⟩) (sl (Nat.beq t2.1 3) (e 2) (sl (Nat.beq t2.1 4) (k ⟨1,rt tP s.ja9,rt tP s.L5,rt (tLs tP) s.B9,W (s.ya6+1),t2.2.C4,t2.2.eh3⟩) z)))) z)) z) z) z) z) (e 3))
noncomputable def u7{α:Type}(k:o9->α)(e:Nat->α)(z:α)(p:S4)(s:o9):α:=let t1:=(Ma5 (rt tP (gL (tLs tP) s.B9 s.ya6.toNat)) (rt tP s.ja9));let t2:=(lp (n8 (⟨rt tP s.L5,(↑(List.length s.L5):Int),rt tP s.ja9,rt tP s.L5,rt (tLs tP) s.B9,p.oc4,s.ya6⟩:A1)) (⟨1,rt tP (gL (tLs tP) s.B9 s.ya6.toNat),0,s.C4,s.eh3⟩:l5));(sl (decide (s.ya6<p.oc4)) (sl (inB s.ya6 (List.length s.B9)) (sl (okE tP (gL (tLs tP) s.B9 s.ya6.toNat)) (sl (okE tP s.ja9) (sl (Ma6 (rt tP (gL (tLs tP) s.B9 s.ya6.toNat)) (rt tP s.ja9)) (sl t1 (sl (Nat.beq s.C4 (len s.eh3)&&Nat.ble ((s.C4+1)*24) room) (k ⟨1,s.ja9,s.L5,s.B9,W (s.ya6+1),s.C4+1,app s.eh3 [[eL tP (gL (tLs tP) s.B9 s.ya6.toNat)]]⟩) z) (sl ((cnE tP (gL (tLs tP) s.B9 s.ya6.toNat))&&((cnE tP s.L5)&&((cnE tP s.ja9)&&((cnE tP s.L5)&&((cnE (tLs tP) s.B9)&&true))))) (sl (Nat.beq t2.1 1) (e 4) (sl (Nat.beq t2.1 2) (k ⟨0,rt tP s.ja9,rt tP s.L5,rt (tLs tP) s.B9,W (s.ya6+1),0,[]⟩) (sl (Nat.beq t2.1 3) (e 5) (sl (Nat.beq t2.1 4) (k ⟨1,rt tP s.ja9,rt tP s.L5,rt (tLs tP) s.B9,W (s.ya6+1),t2.2.C4,t2.2.eh3⟩) z)))) z)) z) z) z) z) (e 6))
noncomputable def w9(p:S4)(s:o9):Stp o9:=(sel (Nat.beq s.ph 1) (u7 .next .exit .fail p s) (o8 .next .exit .fail p s))
noncomputable def cb3:Lo S4 o9:=⟨En ib1,0,uf0,[1,1,1,1,0,1,4,4],[1,4,5,6,7,17,18,19],.s .p (.s .p (.s (.b (.s .p (.s .p (.s .p (.b (.i (.s .p (.s .p (.b (.u cb2.lsM)))))))))) .p)),[⟨sUq::sLq tP::sUq::sUq::sPq 0::sPq 1::sLq tP::sPq 2::ru2 9 (.s (.c 1 (nL (tLs tP)))::sIq::sIq::ru2 25 []),[⟨0,1,true,some [[.o .nil]]⟩,⟨0,1,true,some [[.o (.lit .i64 0)]]⟩,⟨0,0,true,some [[.o .nil]]⟩],λa H=>(⟨aIq a 18⟩,⟨0,aLq tP a 1,aLq tP a 6,rL (tLs tP) (slT a 17),aIq a 19,0,[]⟩)⟩,⟨sUq::sLq tP::sUq::sUq::sPq 0::sPq 1::sLq tP::sPq 2::ru2 9 (.s (.c 1 (nL (tLs tP)))::sIq::sIq::ru2 25 []),[⟨0,1,true,some [[.o .nil]]⟩,⟨0,1,true,some [[.o (.lit .i64 0)]]⟩,⟨0,0,true,some [[.o (.sl 3 0 (some 0) none)]]⟩,⟨24,1,true,none⟩],λa H=>(⟨aIq a 18⟩,⟨1,aLq tP a 1,aLq tP a 6,rL (tLs tP) (slT a 17),aIq a 19,slN (slT (rwT (elT H 2) 0) 0),elT H 3⟩)⟩],w9,[(none,λp s=>let t2:=(lp (n8 (⟨rt tP s.L5,(↑(List.length s.L5):Int),rt tP s.ja9,rt tP s.L5,rt (tLs tP) s.B9,p.oc4,s.ya6⟩:A1)) (⟨0,rt tP (gL (tLs tP) s.B9 s.ya6.toNat),0,0,[]⟩:l5));⟨.unk::eL tP (rt tP s.ja9)::.unk::.unk::.ptr 0 0 0 0::.ptr 1 0 0 0::eL tP (rt tP s.L5)::.ptr 2 0 0 0::ra 9 (eL (tLs tP) (rt (tLs tP) s.B9)::i p.oc4::i s.ya6::ra 25 []),[⟨0,1,[[.v (.slice none 0 0)]],true,false,0⟩,⟨0,1,[[i 9]],true,false,0⟩,⟨0,0,[[.v (.slice none 0 0)]],true,false,0⟩,⟨0,4,[[i (gL tP (rt tP s.L5) t2.2.p8.toNat).n.x,i (gL tP (rt tP s.L5) t2.2.p8.toNat).n.y,i (gL tP (rt tP s.L5) t2.2.p8.toNat).n.z,i (gL tP (rt tP s.L5) t2.2.p8.toNat).b]],true,false,0⟩]⟩),(none,λp s=>let t2:=(lp (n8 (⟨rt tP s.L5,(↑(List.length s.L5):Int),rt tP s.ja9,rt tP s.L5,rt (tLs tP) s.B9,p.oc4,s.ya6⟩:A1)) (⟨0,rt tP (gL (tLs tP) s.B9 s.ya6.toNat),0,0,[]⟩:l5));⟨.unk::eL tP (rt tP s.ja9)::.unk::.unk::.ptr 0 0 0 0::.ptr 1 0 0 0::eL tP (rt tP s.L5)::.ptr 2 0 0 0::ra 9 (eL (tLs tP) (rt (tLs tP) s.B9)::i p.oc4::i s.ya6::ra 25 []),[⟨0,1,[[.v (.slice none 0 0)]],true,false,0⟩,⟨0,1,[[i 9]],true,false,0⟩,⟨0,0,[[.sl 3 0 t2.2.C4 0]],true,false,0⟩,⟨24,1,t2.2.eh3,true,false,0⟩,⟨0,4,[[i (gL tP (rt tP s.L5) t2.2.p8.toNat).n.x,i (gL tP (rt tP s.L5) t2.2.p8.toNat).n.y,i (gL tP (rt tP s.L5) t2.2.p8.toNat).n.z,i (gL tP (rt tP s.L5) t2.2.p8.toNat).b]],true,false,0⟩]⟩),(some 0,λp s=>upq (sb2 p s) [(20,b (decide (s.ya6<p.oc4)))]),(none,λp s=>let t2:=(lp (n8 (⟨rt tP s.L5,(↑(List.length s.L5):Int),rt tP s.ja9,rt tP s.L5,rt (tLs tP) s.B9,p.oc4,s.ya6⟩:A1)) (⟨1,rt tP (gL (tLs tP) s.B9 s.ya6.toNat),0,s.C4,s.eh3⟩:l5));⟨.unk::eL tP (rt tP s.ja9)::.unk::.unk::.ptr 0 0 0 0::.ptr 1 0 0 0::eL tP (rt tP s.L5)::.ptr 2 0 0 0::ra 9 (eL (tLs tP) (rt (tLs tP) s.B9)::i p.oc4::i s.ya6::ra 25 []),[⟨0,1,[[.v (.slice none 0 0)]],true,false,0⟩,⟨0,1,[[i 9]],true,false,0⟩,⟨0,0,[[.v (.slice none 0 0)]],true,false,0⟩,⟨0,4,[[i (gL tP (rt tP s.L5) t2.2.p8.toNat).n.x,i (gL tP (rt tP s.L5) t2.2.p8.toNat).n.y,i (gL tP (rt tP s.L5) t2.2.p8.toNat).n.z,i (gL tP (rt tP s.L5) t2.2.p8.toNat).b]],true,false,0⟩]⟩),(none,λp s=>let t2:=(lp (n8 (⟨rt tP s.L5,(↑(List.length s.L5):Int),rt tP s.ja9,rt tP s.L5,rt (tLs tP) s.B9,p.oc4,s.ya6⟩:A1)) (⟨1,rt tP (gL (tLs tP) s.B9 s.ya6.toNat),0,s.C4,s.eh3⟩:l5));⟨.unk::eL tP (rt tP s.ja9)::.unk::.unk::.ptr 0 0 0 0::.ptr 1 0 0 0::eL tP (rt tP s.L5)::.ptr 2 0 0 0::ra 9 (eL (tLs tP) (rt (tLs tP) s.B9)::i p.oc4::i s.ya6::ra 25 []),[⟨0,1,[[.v (.slice none 0 0)]],true,false,0⟩,⟨0,1,[[i 9]],true,false,0⟩,⟨0,0,[[.sl 3 0 t2.2.C4 0]],true,false,0⟩,⟨24,1,t2.2.eh3,true,false,0⟩,⟨0,4,[[i (gL tP (rt tP s.L5) t2.2.p8.toNat).n.x,i (gL tP (rt tP s.L5) t2.2.p8.toNat).n.y,i (gL tP (rt tP s.L5) t2.2.p8.toNat).n.z,i (gL tP (rt tP s.L5) t2.2.p8.toNat).b]],true,false,0⟩]⟩),(some 0,λp s=>upq (sb3 p s) [(20,b (decide (s.ya6<p.oc4)))])],wc7⟩
theorem wc8:cb3.OkM:=Lo.okM [cb2.prM] (by kernel_rfl) (.cons wc6 .nil) rfl (.cons (λa H=>by kernel_rfl) (.cons (λa H=>by kernel_rfl) .nil)) λp s=>(.sel (Nat.beq s.ph 1) (.of @u7 (λF _ _ _ _ _=>by unfold u7;(repeat' apply m0 (f:=F))<;>rfl) (by kernel_rfl)) (.of @o8 (λF _ _ _ _ _=>by unfold o8;(repeat' apply m0 (f:=F))<;>rfl) (by kernel_rfl)))
noncomputable def Da4(x:List (List Pln))(y:List Pln):Option (b7×List b8):=let t1:=(ya9 (rt tP y));let t2:=(Q9 (rt tP y));let t3:=(lp (w9 (⟨(↑(List.length x):Int)⟩:S4)) (⟨0,rt tP y,rt tP t2,rt (tLs tP) x,0,0,[]⟩:o9));(sl (okE tP y) (sl (za0 (rt tP y)) (sl (!t1) (some (.tup [eL (tLs tP) x,i 0],[])) (sl (okE tP y) (sl (s8 (rt tP y)) (sl ((cnE tP y)&&((cnE tP t2)&&((cnE (tLs tP) x)&&true))) (sl (Nat.beq t3.1 1) (some (.tup [.v (.slice none 0 0),i 9],[])) (sl (Nat.beq t3.1 2) (some (.tup [.v (.slice none 0 0),i 9],[])) (sl (Nat.beq t3.1 3) (some (.tup [.v (.slice none 0 0),i 0],[])) (sl (Nat.beq t3.1 4) (some (.tup [.v (.slice none 0 0),i 9],[])) (sl (Nat.beq t3.1 5) (some (.tup [.v (.slice none 0 0),i 9],[])) (sl (Nat.beq t3.1 6) (sl (decide ((↑t3.2.C4:Int)>200)) (some (.tup [.v (.slice none 0 0),i 9],[])) (some ((.tup [(.tree 1 t3.2.C4 (λk=>l9 t3.2.eh3 (0+k))),i 0]),[]))) none)))))) none) none) none)) none) none)
noncomputable def aa7(x:List (List Pln))(y:List Pln):List (List Pln)×Int:=O3 (two (r1L (tLs tP)) r1I) (Da4 x y)
noncomputable def Ua0(x:List (List Pln))(y:List Pln):Bool:=okO (two (r1L (tLs tP)) r1I) (Da4 x y)
noncomputable def Xb9:Sum:=ra8 (P8 (tLs tP)) (P8 tP) (λx y=>.guard (Ua0 x y) (.ret ((two (r1L (tLs tP)) r1I).enc (aa7 x y),[])))
theorem Nc0:i5 prog G 99 Xb9:=sb9 (bd b99 Gc2) (two (r1L (tLs tP)) r1I) (o:=Da4) λx y=>Ne4 (.s .p (.s .p (.s .p (.s .p (.s (.s .p (.b (.u cb3.lsM))) .p))))) [cb3.prM] (by kernel_rfl) (.cons wc8 .nil) (by kernel_rfl)
noncomputable def jc2:List (Nat×Sum):=[(97,tb4),(49,Sa6),(55,Wa5),(98,Vb8),(99,Xb9)]
theorem Wc0:i9 prog G jc2:=⟨Jb2,cb1,ab6,rc2,Nc0,trivial⟩
structure aa8 where
 Na3:List (List Pln)
 oe1:Int
 g7:List Pln
structure A4 where
 ph:Nat
 Db0:Int
 db7:List (List Pln)
noncomputable def Hb0(p:aa8)(s:A4):St:=⟨ra 8 (.sl 0 0 1 0::ra 19 (eL (tLs tP) p.Na3::i p.oe1::i s.Db0::ra 14 [])),[⟨24,1,[[eL tP p.g7]],true,false,0⟩]⟩
noncomputable def Hb1(p:aa8)(s:A4):St:=⟨ra 8 (eL (tLs tP) s.db7::ra 19 (eL (tLs tP) p.Na3::i p.oe1::i s.Db0::ra 14 [])),[]⟩
noncomputable def Nc1(p:aa8)(s:A4):St:=(sel (Nat.beq s.ph 1) (Hb1 p s) (Hb0 p s))
noncomputable def O0{α:Type}(k:A4->α)(e:Nat->α)(z:α)(p:aa8)(s:A4):α:=let t1:=(aa7 [rt tP p.g7] (rt tP (gL (tLs tP) p.Na3 s.Db0.toNat)));(sl (decide (s.Db0<p.oe1)) (sl (inB s.Db0 (List.length p.Na3)) (sl ((okE tP p.g7)&&true) (sl (okE tP (gL (tLs tP) p.Na3 s.Db0.toNat)) (sl (Ua0 [rt tP p.g7] (rt tP (gL (tLs tP) p.Na3 s.Db0.toNat))) (sl (t1.2 != 0) (e 1) (k ⟨1,W (s.Db0+1),t1.1⟩)) z) z) z) z) (e 2))
noncomputable def O1{α:Type}(k:A4->α)(e:Nat->α)(z:α)(p:aa8)(s:A4):α:=let t1:=(aa7 (rt (tLs tP) s.db7) (rt tP (gL (tLs tP) p.Na3 s.Db0.toNat)));(sl (decide (s.Db0<p.oe1)) (sl (inB s.Db0 (List.length p.Na3)) (sl (okE (tLs tP) s.db7) (sl (okE tP (gL (tLs tP) p.Na3 s.Db0.toNat)) (sl (Ua0 (rt (tLs tP) s.db7) (rt tP (gL (tLs tP) p.Na3 s.Db0.toNat))) (sl (t1.2 != 0) (e 3) (k ⟨1,W (s.Db0+1),t1.1⟩)) z) z) z) z) (e 4))
noncomputable def M4(p:aa8)(s:A4):Stp A4:=(sel (Nat.beq s.ph 1) (O1 .next .exit .fail p s) (O0 .next .exit .fail p s))
noncomputable def rb5:Lo aa8 A4:=⟨En jc2,0,Cf4,[1,1,1,1,1,0,1,4,4],[8,28,29,30],.p,[⟨ru2 8 (.s (.o (.sl 0 0 (some 0) (some 1)))::ru2 19 (.s (.c 1 (nL (tLs tP)))::sIq::sIq::ru2 14 [])),[⟨24,1,true,some [[.c 4 (nL tP)]]⟩],λa H=>(⟨rL (tLs tP) (slT a 28),aIq a 29,hLq tP H 0 0 0⟩,⟨0,aIq a 30,[]⟩)⟩,⟨ru2 8 (.s (.c 1 (nL (tLs tP)))::ru2 19 (.s (.c 1 (nL (tLs tP)))::sIq::sIq::ru2 14 [])),[],λa H=>(⟨rL (tLs tP) (slT a 28),aIq a 29,[]⟩,⟨1,aIq a 30,rL (tLs tP) (slT a 8)⟩)⟩],M4,[(none,λp s=>let t1:=(aa7 [rt tP p.g7] (rt tP (gL (tLs tP) p.Na3 s.Db0.toNat)));⟨[.tup [.v (.slice none 0 0),i t1.2]],[]⟩),(some 0,λp s=>upq (Hb0 p s) [(31,b (decide (s.Db0<p.oe1)))]),(none,λp s=>let t1:=(aa7 (rt (tLs tP) s.db7) (rt tP (gL (tLs tP) p.Na3 s.Db0.toNat)));⟨[.tup [.v (.slice none 0 0),i t1.2]],[]⟩),(some 0,λp s=>upq (Hb1 p s) [(31,b (decide (s.Db0<p.oe1)))])],Nc1⟩
theorem Nc2:rb5.Ok:=Lo.ok [] (by kernel_rfl) .nil rfl (.cons (λa H=>by kernel_rfl) (.cons (λa H=>by kernel_rfl) .nil)) λp s=>(.sel (Nat.beq s.ph 1) (.of @O1 (λF _ _ _ _ _=>by unfold O1;(repeat' apply m0 (f:=F))<;>rfl) (by kernel_rfl)) (.of @O0 (λF _ _ _ _ _=>by unfold O0;(repeat' apply m0 (f:=F))<;>rfl) (by kernel_rfl)))
noncomputable def Sa7(x:List Pln)(y:List (List Pln)):Option (b7×List b8):=let t1:=(sa7 (rt tP x));let t2:=(T4 (rt (tLs tP) y));let t3:=(ya9 (rt tP x));let t4:=(Q9 (rt tP x));let t5:=(lp (M4 (⟨rt (tLs tP) y,(↑(List.length y):Int),rt tP t4⟩:aa8)) (⟨0,0,[]⟩:A4));let t6:=(aa7 [rt tP (rt tP t4)] (rt tP (gL (tLs tP) (rt (tLs tP) y) t5.2.Db0.toNat)));let t7:=(aa7 (rt (tLs tP) t5.2.db7) (rt tP (gL (tLs tP) (rt (tLs tP) y) t5.2.Db0.toNat)));(sl (okE tP x) (sl (Ma2 (rt tP x)) (sl (t1 != 0) (some (.tup [.v (.slice none 0 0),i t1],[])) (sl (okE (tLs tP) y) (sl (T5 (rt (tLs tP) y)) (sl (t2 != 0) (some (.tup [.v (.slice none 0 0),i t2],[])) (sl (okE tP x) (sl (za0 (rt tP x)) (sl (!t3) (some (.tup [.v (.slice none 0 0),i 0],[])) (sl (okE tP x) (sl (s8 (rt tP x)) (sl ((cnE (tLs tP) y)&&((cnE tP t4)&&true)) (sl (Nat.beq t5.1 1) (some (.tup [.v (.slice none 0 0),i t6.2],[])) (sl (Nat.beq t5.1 2) (some (.tup [.sl 0 0 1 0,i 0],[⟨24,1,[[eL tP (rt tP t4)]],true,false,0⟩])) (sl (Nat.beq t5.1 3) (some (.tup [.v (.slice none 0 0),i t7.2],[])) (sl (Nat.beq t5.1 4) (some (.tup [eL (tLs tP) t5.2.db7,i 0],[])) none)))) none) none) none)) none) none)) none) none)) none) none)
noncomputable def kb1(x:List Pln)(y:List (List Pln)):List (List Pln)×Int:=O3 (two (r1L (tLs tP)) r1I) (Sa7 x y)
noncomputable def kb2(x:List Pln)(y:List (List Pln)):Bool:=okO (two (r1L (tLs tP)) r1I) (Sa7 x y)
noncomputable def Lb2:Sum:=ra8 (P8 tP) (P8 (tLs tP)) (λx y=>.guard (kb2 x y) (.ret ((two (r1L (tLs tP)) r1I).enc (kb1 x y),[])))
theorem jc3:i5 prog G 40 Lb2:=sb9 (bd b40 Wc0) (two (r1L (tLs tP)) r1I) (o:=Sa7) λx y=>va6 (.s .p (.s .p (.s .p (.s .p (.s .p (.s (.s .p (.b (.u rb5.ls))) .p)))))) [rb5.pr] (by kernel_rfl) (.cons Nc2 .nil) (by kernel_rfl)
noncomputable def Wc1:List (Nat×Sum):=[(40,Lb2)]
theorem Nc3:i9 prog G Wc1:=⟨jc3,trivial⟩
noncomputable def Ka7(x:List (List Pln))(y:List Pln):Option (b7×List b8):=let t1:=(kb1 (rt tP y) (rt (tLs tP) x));(sl (okE tP y) (sl (okE (tLs tP) x) (sl (kb2 (rt tP y) (rt (tLs tP) x)) (sl (t1.2==0) (some (.tup [b ((↑(List.length t1.1):Int)==0),i t1.2],[])) (some (.tup [b false,i t1.2],[]))) none) none) none)
noncomputable def T6(x:List (List Pln))(y:List Pln):Bool×Int:=O3 (two r1B r1I) (Ka7 x y)
noncomputable def ha4(x:List (List Pln))(y:List Pln):Bool:=okO (two r1B r1I) (Ka7 x y)
noncomputable def cb4:Sum:=ra8 (P8 (tLs tP)) (P8 tP) (λx y=>.guard (ha4 x y) (.ret ((two r1B r1I).enc (T6 x y),[])))
theorem rb6:i5 prog G 42 cb4:=sb9 (bd b42 Nc3) (two r1B r1I) (o:=Ka7) λx y=>y8 (by kernel_rfl)
theorem De5(ls:List (List Pln))(hn:ls.length<=1000000000)(hl:ls.flatten.length<=1000000000):w7 ls=if ls.flatten=[] then ⟨1,0,[]⟩ else ⟨2,ls.flatten.length,bL tP ls.flatten⟩:=by
 unfold w7 M6;simp only[i6,i8];obtain⟨m,hm⟩:=Xd8 ls hn hl;rw[hm];by_cases h0:ls.flatten=[]
 ·obtain⟨s,hs⟩:=re4 ls hn h0;rw[if_pos h0,hs];rw[show (⟨(ls.flatten.length:Int),m⟩:v8)=⟨0,m⟩ by rw[h0];rfl]
  rfl
 ·obtain⟨m',hm'⟩:=Xd9 ls hn;rw[if_neg h0];simp only[Int.toNat_natCast];rw[hm'];have h1:0<ls.flatten.length:=List.length_pos_iff.2 h0;have e1:((ls.flatten.length:Int)==0)=false:=by rw[beq_eq_false_iff_ne];omega
  have e2:Bool.and (decide ((0:Int)<(ls.flatten.length:Int))) (Nat.ble (ls.flatten.length*32) room)=true:=by
   rw[ea6 (by omega),decide_eq_true (by omega)]
   rfl
  rw[e1,e2];rfl
theorem ue4(r:List Pln)(p:Pln)(hr:r.length<=1000000):w7 [r,[p]]=⟨2,(r++[p]).length,bL tP (r++[p])⟩:=by
 have e:[r,[p]].flatten=r++[p]:=by simp
 rw[De5 [r,[p]] (by simp) (by rw[e,Qkg];simp only[List.length_singleton];omega),e,if_neg (by simp)]
theorem hf7(r:List Pln)(p:Pln):slR tP (bL tP (r++[p])) 0 (r++[p]).length=r++[p]:=Rb4 tP _
theorem hf8(r:List Pln)(p:Pln):okS tP (bL tP (r++[p])) 0 (r++[p]).length=true:=Rb5 tP _
theorem Zc1{p:Pln}(h:Bd p):cb0 p=O4 p:=by
 unfold cb0 ic9 O4
 simp only
 have:=h.x1;have:=h.x2;have:=h.y1;have:=h.y2;have:=h.z1;have:=h.z2;have:=h.b1;have:=h.b2
 rw[ia4 (by omega) (by omega),ia4 (by omega) (by omega),ia4 (by omega) (by omega),ia4 (by omega) (by omega)]
 simp only[Int.zero_sub]
def phL(O:List (List Pln)):Nat:=match O with
 |[]=>0
 |_::_=>1
theorem Nd1(O:List (List Pln))(c:List Pln):phL (O++[c])=1:=by cases O<;>rfl
theorem ue5(O:List (List Pln))(c:List Pln):app (bL (tLs tP) O) [[eL tP c]]=bL (tLs tP) (O++[c]):=Ua7 (tLs tP) O [c]
theorem me9(O:List (List Pln))(h:O.length<=1000000):(Nat.beq O.length (len (bL (tLs tP) O))&&Nat.ble ((O.length+1)*24) room)=true:=by
 rw[P6,Qkac,Bool.true_and];exact Nat.ble_eq_true_of_le (by unfold room;omega)
theorem De6(x fs:List Pln)(j:Nat):Na0 x fs (j+1)=Na0 x fs j++(if 0<(Ma9 x fs j).length then [Ma9 x fs j] else []):=by
 unfold Na0;rw[List.range_succ,List.map_append,List.filter_append];congr 1;by_cases h:0<(Ma9 x fs j).length
 ·rw[if_pos h];simp[h]
 ·rw[if_neg h];simp[h]
theorem md4(x fs:List Pln)(j:Nat):(Na0 x fs j).length<=j:=by
 unfold Na0
 have:=Qkaw (λc:List Pln=>decide (0<c.length)) ((List.range j).map (Ma9 x fs))
 simpa using this
theorem De7:Nat.beq 2 1=false:=rfl
theorem De8:Nat.beq 2 2=true:=rfl
theorem hf9 (x fs q : List Pln) (xs : List (List Pln)) (a c : Int) (O : List (List Pln)) (hf : ∀ p ∈ fs, okp p = true) (hfl : fs.length ≤ 1000) (hO : O.length ≤ 900000) :
  ∃t s,lp (n8 ⟨fs,(fs.length:Int),q,fs,xs,a,c⟩) ⟨phL O,x,0,O.length,bL (tLs tP) O⟩=(t,s) /\
   ((Fa9 x fs=true->t=phL (O++Na0 x fs fs.length)*2+2/\s.C4=(O++Na0 x fs fs.length).length/\s.eh3=bL (tLs tP) (O++Na0 x fs fs.length))/\(Fa9 x fs=false->t=1\/t=3)):=by
 refine W9 (step:=n8 ⟨fs,(fs.length:Int),q,fs,xs,a,c⟩) (mk:=λj (O':List (List Pln))=>(⟨phL O',C3 x fs j,(j:Int),O'.length,bL (tLs tP) O'⟩:l5)) fs.length
  (λj O'=>j<=fs.length/\O'=O++Na0 x fs j/\∀i,i<j->(C3 x fs i).length<48)
  (λt s=>(Fa9 x fs=true->t=phL (O++Na0 x fs fs.length)*2+2/\s.C4=(O++Na0 x fs fs.length).length/\s.eh3=bL (tLs tP) (O++Na0 x fs fs.length))/\(Fa9 x fs=false->t=1\/t=3)) (by omega)
  (λj O' hj hi=>?_) (λj O' hj hi=>?_) 0 O ⟨Qkp _,by simp[Na0],λi hi=>absurd hi (Qkai i)⟩
 ·obtain⟨_,hO',hr⟩:=hi;have hn:W ((j:Int)+1)=((j+1:Nat):Int):=o3 hj (by omega)
  have hp:=hf _ (Fa3 tP hj);have hb:=uc9 hp;have hOl:O'.length<=1000000:=by
   rw[hO',Qkg]
   have:=md4 x fs j
   omega
  have hroom:=me9 O' hOl;by_cases h48:(C3 x fs j).length<48
  ·have e1:decide (((C3 x fs j).length:Int)>=48)=false:=decide_eq_false (by omega)
   have c1:=ue4 (C3 x fs j) (O4 (gL tP fs j)) (by omega)
   have c2:=ue4 (C3 x fs j) (gL tP fs j) (by omega)
   have l1:s8 (C3 x fs j++[O4 (gL tP fs j)])=true:=decide_eq_true (by rw[Qkg];simp only[List.length_singleton];omega)
   have l2:s8 (C3 x fs j++[gL tP fs j])=true:=decide_eq_true (by rw[Qkg];simp only[List.length_singleton];omega)
   have m1:Q9 (C3 x fs j++[O4 (gL tP fs j)])=Ma9 x fs j:=rfl;have m2:Q9 (C3 x fs j++[gL tP fs j])=C3 x fs (j+1):=rfl;have hnew:O++Na0 x fs (j+1)=O'++(if 0<(Ma9 x fs j).length then [Ma9 x fs j] else []):=by rw[De6,<- Qkao,<- hO']
   have hnx : ∀ {s : l5}, s = ⟨phL (O ++ Na0 x fs (j + 1)), C3 x fs (j + 1), ((j + 1 : Nat) : Int), (O ++ Na0 x fs (j + 1)).length, bL (tLs tP) (O ++ Na0 x fs (j + 1))⟩ →
     Nx (.next s) (λt=>(Fa9 x fs=true->t=phL (O++Na0 x fs fs.length)*2+2/\(⟨phL O',C3 x fs j,(j:Int),O'.length,bL (tLs tP) O'⟩:l5).C4=(O++Na0 x fs fs.length).length/\(⟨phL O',C3 x fs j,(j:Int),O'.length,bL (tLs tP) O'⟩:l5).eh3=bL (tLs tP) (O++Na0 x fs fs.length))/\(Fa9 x fs=false->t=1\/t=3))
      (λs=>∃O'',s=(⟨phL O'',C3 x fs (j+1),((j+1:Nat):Int),O''.length,bL (tLs tP) O''⟩:l5)/\(j+1<=fs.length/\O''=O++Na0 x fs (j+1)/\∀i,i<j+1->(C3 x fs i).length<48)) :=
    λ{s} hs=>.nx ⟨_,hs,hj,rfl,λi hi=>by
     by_cases e:i=j
     ·subst e;exact h48
     ·exact hr i (by omega)⟩
   by_cases hc:0<(Ma9 x fs j).length
   ·have e2:decide (((Ma9 x fs j).length:Int)>0)=true:=decide_eq_true (by omega)
    have e3:Nat.beq (Ma9 x fs j).length 0=false:=by
     cases h:(Ma9 x fs j).length with
     |zero=>omega
     |succ n=>rfl
    rw[if_pos hc] at hnew;cases O' with
    |nil =>
     have e:n8 ⟨fs,(fs.length:Int),q,fs,xs,a,c⟩ ⟨phL [],C3 x fs j,(j:Int),([]:List (List Pln)).length,bL (tLs tP) []⟩=.next ⟨1,C3 x fs (j+1),((j+1:Nat):Int),1,[[eL tP (Ma9 x fs j)]]⟩:=by
      show A6 Stp.next Stp.exit Stp.fail _ _=_;simp only[A6,Int.toNat_natCast,i6,p6,Zc1 hb,c1,c2,hn,hf7,hf8,l1,l2,m1,m2,De7,De8,e1,e2,e3,g8,C8,Qkc,Qkaj];rw[btD (g9 hj),bt (f7 hj)]
     rw[e];exact hnx (by rw[hnew];rfl)
    |cons o os =>
     have e:n8 ⟨fs,(fs.length:Int),q,fs,xs,a,c⟩ ⟨phL (o::os),C3 x fs j,(j:Int),(o::os).length,bL (tLs tP) (o::os)⟩=.next ⟨1,C3 x fs (j+1),((j+1:Nat):Int),(o::os).length+1,bL (tLs tP) (o::os++[Ma9 x fs j])⟩:=by
      show A7 Stp.next Stp.exit Stp.fail _ _=_;simp only[A7,Int.toNat_natCast,i6,p6,Zc1 hb,c1,c2,hn,hf7,hf8,l1,l2,m1,m2,De7,De8,e1,e2,e3,hroom,ue5,g8,C8,Qkc,Qkaj];rw[btD (g9 hj),bt (f7 hj)]
     rw[e];exact hnx (by rw[hnew,Nd1,Qkg];rfl)
   ·have e2:decide (((Ma9 x fs j).length:Int)>0)=false:=decide_eq_false (by omega)
    rw[if_neg hc,List.append_nil] at hnew;cases O' with
    |nil =>
     have e:n8 ⟨fs,(fs.length:Int),q,fs,xs,a,c⟩ ⟨phL [],C3 x fs j,(j:Int),([]:List (List Pln)).length,bL (tLs tP) []⟩=.next ⟨0,C3 x fs (j+1),((j+1:Nat):Int),0,[]⟩:=by
      show A6 Stp.next Stp.exit Stp.fail _ _=_;simp only[A6,Int.toNat_natCast,i6,p6,Zc1 hb,c1,c2,hn,hf7,hf8,l1,l2,m1,m2,De7,De8,e1,e2,g8,C8,Qkc,Qkaj];rw[btD (g9 hj),bt (f7 hj)]
     rw[e];exact hnx (by rw[hnew];rfl)
    |cons o os =>
     have e:n8 ⟨fs,(fs.length:Int),q,fs,xs,a,c⟩ ⟨phL (o::os),C3 x fs j,(j:Int),(o::os).length,bL (tLs tP) (o::os)⟩=.next ⟨1,C3 x fs (j+1),((j+1:Nat):Int),(o::os).length,bL (tLs tP) (o::os)⟩:=by
      show A7 Stp.next Stp.exit Stp.fail _ _=_;simp only[A7,Int.toNat_natCast,i6,p6,Zc1 hb,c1,c2,hn,hf7,hf8,l1,l2,m1,m2,De7,De8,e1,e2,g8,C8,Qkc,Qkaj];rw[btD (g9 hj),bt (f7 hj)]
     rw[e];exact hnx (by rw[hnew];rfl)
  ·have e1:decide (((C3 x fs j).length:Int)>=48)=true:=decide_eq_true (by omega)
   have hno:Fa9 x fs=false:=by
    cases h:Fa9 x fs with
    |false=>rfl
    |true =>
     have:=Qkm.1 h j (Qkn.2 hj)
     exact absurd (by simpa using this) h48
   have hex:∀{t:Nat},(t=1\/t=3)->(Fa9 x fs=true->t=phL (O++Na0 x fs fs.length)*2+2/\(⟨phL O',C3 x fs j,(j:Int),O'.length,bL (tLs tP) O'⟩:l5).C4=(O++Na0 x fs fs.length).length/\(⟨phL O',C3 x fs j,(j:Int),O'.length,bL (tLs tP) O'⟩:l5).eh3=bL (tLs tP) (O++Na0 x fs fs.length))/\(Fa9 x fs=false->t=1\/t=3):=λh=>⟨λh'=>(by rw[hno] at h';cases h'),λ_=>h⟩
   cases O' with
   |nil =>
    have e:n8 ⟨fs,(fs.length:Int),q,fs,xs,a,c⟩ ⟨phL [],C3 x fs j,(j:Int),([]:List (List Pln)).length,bL (tLs tP) []⟩=.exit 1:=by
     show A6 Stp.next Stp.exit Stp.fail _ _=_;simp only[A6,e1,g8];rw[btD (g9 hj),bt (f7 hj)]
    rw[e];exact .ex (hex (.inl rfl))
   |cons o os =>
    have e:n8 ⟨fs,(fs.length:Int),q,fs,xs,a,c⟩ ⟨phL (o::os),C3 x fs j,(j:Int),(o::os).length,bL (tLs tP) (o::os)⟩=.exit 3:=by
     show A7 Stp.next Stp.exit Stp.fail _ _=_;simp only[A7,e1,g8];rw[btD (g9 hj),bt (f7 hj)]
    rw[e];exact .ex (hex (.inr rfl))
 ·obtain⟨h1,hO',hr⟩:=hi;have hje:j=fs.length:=by omega
  subst hje;have hyes:Fa9 x fs=true:=Qkm.2 λi hi=>by simpa using hr i (Qkn.1 hi)
  refine⟨phL O'*2+2,?_,λ_=>?_,λh=>(by rw[hyes] at h;cases h)⟩
  ·cases O' with
   |nil =>
    show A6 Stp.next Stp.exit Stp.fail _ _=_;simp only[A6];rw[bfD (m9 (Qke _))];rfl
   |cons o os =>
    show A7 Stp.next Stp.exit Stp.fail _ _=_;simp only[A7];rw[bfD (m9 (Qke _))];rfl
  ·rw[<- hO'];exact⟨rfl,rfl,rfl⟩
theorem De9{α β:Type}(t:Ty α)(l:List α)(f:α->List β){j:Nat}(hj:j<l.length):(l.take (j+1)).flatMap f=(l.take j).flatMap f++f (gL t l j):=by
 rw[Qkap,Qkh hj,List.flatMap_append];simp[gL,Qkj,Qkh hj]
theorem Ee0{α:Type}(t:Ty α)(l:List α)(f:α->Bool){j:Nat}(hj:j<l.length):(l.take (j+1)).all f=((l.take j).all f&&f (gL t l j)):=by
 rw[Qkap,Qkh hj,List.all_append];simp[gL,Qkj,Qkh hj]
theorem Ve0{q x:List Pln}(h:(lean q).length<=48):(Ga0 q x).length<=48:=by
 unfold Ga0;split
 ·simp
 ·exact Qkq (md4 _ _ _) h
theorem ce6{q:List Pln}(h:(lean q).length<=48):∀l:List (List Pln),(l.flatMap (Ga0 q)).length<=48*l.length
 |[]=>by simp
 |x::l=>by
  have:=ce6 h l
  have:=Ve0 (x:=x) h
  simp only[List.flatMap_cons,Qkg,List.length_cons];omega
structure W0(q:List Pln)(xs:List (List Pln))(t:Nat)(s:o9):Prop where
 y:xs.all (Xa1 q)=true->t=phL (xs.flatMap (Ga0 q))*3+3/\s.C4=(xs.flatMap (Ga0 q)).length/\s.eh3=bL (tLs tP) (xs.flatMap (Ga0 q))
 n:xs.all (Xa1 q)=false->t=1\/t=2\/t=4\/t=5
theorem nbA:Nat.beq 1 2=false/\Nat.beq 1 3=false/\Nat.beq 1 4=false/\Nat.beq 1 1=true/\Nat.beq 3 1=false/\Nat.beq 3 2=false/\Nat.beq 3 3=true/\Nat.beq 4 1=false/\Nat.beq 4 2=false/\Nat.beq 4 3=false/\Nat.beq 4 4=true/\Nat.beq 2 3=false/\Nat.beq 2 4=false:=⟨rfl,rfl,rfl,rfl,rfl,rfl,rfl,rfl,rfl,rfl,rfl,rfl,rfl⟩
theorem if0 (q : List Pln) (xs : List (List Pln)) (hq : q.length ≤ 1000000) (hxs : xs.length ≤ 10000) (hx : ∀ x ∈ xs, x.length ≤ 1000000) (hf : ∀ p ∈ lean q, okp p = true) (hfl : (lean q).length ≤ 48) :
  ∃t s,lp (w9 ⟨(xs.length:Int)⟩) ⟨0,q,lean q,xs,0,0,[]⟩=(t,s)/\W0 q xs t s:=by
 refine W9 (step:=w9 ⟨(xs.length:Int)⟩) (mk:=λj (O':List (List Pln))=>(⟨phL O',q,lean q,xs,(j:Int),O'.length,bL (tLs tP) O'⟩:o9)) xs.length
  (λj O'=>j<=xs.length/\O'=(xs.take j).flatMap (Ga0 q)/\(xs.take j).all (Xa1 q)=true) (W0 q xs) (by omega)
  (λj O' hj hi=>?_) (λj O' hj hi=>?_) 0 [] ⟨Qkp _,by simp,by simp⟩
 ·obtain⟨_,hO',hr⟩:=hi;have hn:W ((j:Int)+1)=((j+1:Nat):Int):=o3 hj (by omega)
  have hxl:=hx _ (Fa3 (tLs tP) hj);have hOl:O'.length<=800000:=by
   rw[hO']
   have:=ce6 hfl (xs.take j)
   have:=List.length_take_le j xs
   omega
  have hroom:=me9 O' (by omega)
  have hA:=se7 (a:=gL (tLs tP) xs j) (c:=q) (by omega) (by omega)
  have gA:=se8 (a:=gL (tLs tP) xs j) (c:=q) (by omega) (by omega)
  have hnew:=De9 (tLs tP) xs (Ga0 q) hj;have hall:=Ee0 (tLs tP) xs (Xa1 q) hj;rw[<- hO'] at hnew;rw[hr,Bool.true_and] at hall;have hfull:∀{v:Bool},Xa1 q (gL (tLs tP) xs j)=v->v=false->xs.all (Xa1 q)=false:=λ{v} h hv=>by
   rw[List.all_eq_false];exact⟨_,Fa3 (tLs tP) hj,by rw[h,hv];decide⟩
  have hnx : Xa1 q (gL (tLs tP) xs j) = true → ∀ {s : o9}, s = ⟨phL ((xs.take (j + 1)).flatMap (Ga0 q)), q, lean q, xs, ((j + 1 : Nat) : Int), ((xs.take (j + 1)).flatMap (Ga0 q)).length, bL (tLs tP) ((xs.take (j + 1)).flatMap (Ga0 q))⟩ →
    Nx (.next s) (λt=>W0 q xs t (⟨phL O',q,lean q,xs,(j:Int),O'.length,bL (tLs tP) O'⟩:o9))
     (λs=>∃O'',s=(⟨phL O'',q,lean q,xs,((j+1:Nat):Int),O''.length,bL (tLs tP) O''⟩:o9)/\(j+1<=xs.length/\O''=(xs.take (j+1)).flatMap (Ga0 q)/\(xs.take (j+1)).all (Xa1 q)=true)) :=
   λh {s} hs=>.nx ⟨_,hs,hj,rfl,by rw[hall,h]⟩
  have hex:Xa1 q (gL (tLs tP) xs j)=false->∀{t:Nat},(t=1\/t=2\/t=4\/t=5)->W0 q xs t (⟨phL O',q,lean q,xs,(j:Int),O'.length,bL (tLs tP) O'⟩:o9):=λh {t} ht =>
   ⟨λh'=>(by rw[hfull h rfl] at h';cases h'),λ_=>ht⟩
  have hgx:inB (j:Int) xs.length=true:=f7 hj;have hlt:((j:Int)<(xs.length:Int)):=g9 hj;generalize hX:gL (tLs tP) xs j=x at *
  obtain⟨z1,z2,z3,z4,z5,z6,z7,z8,z9,zA,zB,zC,zD⟩:=nbA;cases hap:apart x q with
  |true =>
   have hp:Ga0 q x=[x]:=by unfold Ga0;rw[hap,if_pos rfl]
   have hro:Xa1 q x=true:=by unfold Xa1;rw[hap];rfl
   rw[hap] at hA;rw[hp] at hnew;cases O' with
   |nil =>
    have e:w9 ⟨(xs.length:Int)⟩ ⟨phL [],q,lean q,xs,(j:Int),([]:List (List Pln)).length,bL (tLs tP) []⟩=.next ⟨1,q,lean q,xs,((j+1:Nat):Int),1,[[eL tP x]]⟩:=by
     show o8 Stp.next Stp.exit Stp.fail _ _=_;simp only[o8,Int.toNat_natCast,i6,p6,hX,hA,gA,hn,hgx,g8];rw[btD hlt]
    rw[e];exact hnx hro (by rw[hnew];rfl)
   |cons o os =>
    have e:w9 ⟨(xs.length:Int)⟩ ⟨phL (o::os),q,lean q,xs,(j:Int),(o::os).length,bL (tLs tP) (o::os)⟩=.next ⟨1,q,lean q,xs,((j+1:Nat):Int),(o::os).length+1,bL (tLs tP) (o::os++[x])⟩:=by
     show u7 Stp.next Stp.exit Stp.fail _ _=_;simp only[u7,Int.toNat_natCast,i6,p6,hX,hA,gA,hn,hgx,hroom,ue5,g8];rw[btD hlt]
    rw[e];exact hnx hro (by rw[hnew,Nd1,Qkg];rfl)
  |false =>
   have hp:Ga0 q x=Na0 x (lean q) (lean q).length:=by unfold Ga0;rw[hap,if_neg (by decide)]
   have hro:Xa1 q x=Fa9 x (lean q):=by unfold Xa1;rw[hap];rfl
   rw[hap] at hA;rw[hp] at hnew;obtain⟨t,s,hlp,hy,hno⟩:=hf9 x (lean q) q xs (xs.length:Int) (j:Int) O' hf (by omega) (by omega)
   cases hr48:Fa9 x (lean q) with
   |true =>
    obtain⟨h1,h2,h3⟩:=hy hr48;rw[<- hnew] at h1 h2 h3;cases O' with
    |nil =>
     have hlp:lp (n8 ⟨lean q,((lean q).length:Int),q,lean q,xs,(xs.length:Int),(j:Int)⟩) ⟨0,x,0,0,[]⟩=(t,s):=hlp;by_cases hO:(xs.take (j+1)).flatMap (Ga0 q)=[]
     ·rw[hO] at h1;have h1:t=2:=h1;subst h1;have e:w9 ⟨(xs.length:Int)⟩ ⟨phL [],q,lean q,xs,(j:Int),([]:List (List Pln)).length,bL (tLs tP) []⟩=.next ⟨0,q,lean q,xs,((j+1:Nat):Int),0,[]⟩:=by
       show o8 Stp.next Stp.exit Stp.fail _ _=_;simp only[o8,Int.toNat_natCast,i6,p6,i8,hX,hA,gA,hn,hgx,hlp,De7,De8,g8,C8,Qkc];rw[btD hlt]
      rw[e];exact hnx (hro.trans hr48) (by rw[hO];rfl)
     ·obtain⟨o,os,hO⟩:=Qkan hO;rw[hO] at h1 h2 h3;have h1:t=4:=h1;subst h1;have e:w9 ⟨(xs.length:Int)⟩ ⟨phL [],q,lean q,xs,(j:Int),([]:List (List Pln)).length,bL (tLs tP) []⟩=.next ⟨1,q,lean q,xs,((j+1:Nat):Int),s.C4,s.eh3⟩:=by
       show o8 Stp.next Stp.exit Stp.fail _ _=_;simp only[o8,Int.toNat_natCast,i6,p6,i8,hX,hA,gA,hn,hgx,hlp,z8,z9,zA,zB,g8,C8,Qkc];rw[btD hlt]
      rw[e];exact hnx (hro.trans hr48) (by rw[h2,h3,hO];rfl)
    |cons o os =>
     have hlp:lp (n8 ⟨lean q,((lean q).length:Int),q,lean q,xs,(xs.length:Int),(j:Int)⟩) ⟨1,x,0,(o::os).length,bL (tLs tP) (o::os)⟩=(t,s):=hlp;have h1:t=4:=by rw[h1,hnew];rfl
     subst h1;have e:w9 ⟨(xs.length:Int)⟩ ⟨phL (o::os),q,lean q,xs,(j:Int),(o::os).length,bL (tLs tP) (o::os)⟩=.next ⟨1,q,lean q,xs,((j+1:Nat):Int),s.C4,s.eh3⟩:=by
      show u7 Stp.next Stp.exit Stp.fail _ _=_;simp only[u7,Int.toNat_natCast,i6,p6,i8,hX,hA,gA,hn,hgx,hlp,z8,z9,zA,zB,g8,C8,Qkc];rw[btD hlt]
     rw[e];exact hnx (hro.trans hr48) (by rw[h2,h3,hnew];rfl)
   |false =>
    have ht:=hno hr48;cases O' with
    |nil =>
     have hlp:lp (n8 ⟨lean q,((lean q).length:Int),q,lean q,xs,(xs.length:Int),(j:Int)⟩) ⟨0,x,0,0,[]⟩=(t,s):=hlp
     rcases ht with rfl|rfl
     ·have e : w9 ⟨(xs.length : Int)⟩ ⟨phL [], q, lean q, xs, (j : Int), ([] : List (List Pln)).length, bL (tLs tP) []⟩ = .exit 1 := by
       show o8 Stp.next Stp.exit Stp.fail _ _=_;simp only[o8,Int.toNat_natCast,i6,p6,i8,hX,hA,gA,hn,hgx,hlp,z4,g8,C8,Qkc];rw[btD hlt]
      rw[e];exact .ex (hex (hro.trans hr48) (by simp))
     ·have e : w9 ⟨(xs.length : Int)⟩ ⟨phL [], q, lean q, xs, (j : Int), ([] : List (List Pln)).length, bL (tLs tP) []⟩ = .exit 2 := by
       show o8 Stp.next Stp.exit Stp.fail _ _=_;simp only[o8,Int.toNat_natCast,i6,p6,i8,hX,hA,gA,hn,hgx,hlp,z5,z6,z7,g8,C8,Qkc];rw[btD hlt]
      rw[e];exact .ex (hex (hro.trans hr48) (by simp))
    |cons o os =>
     have hlp:lp (n8 ⟨lean q,((lean q).length:Int),q,lean q,xs,(xs.length:Int),(j:Int)⟩) ⟨1,x,0,(o::os).length,bL (tLs tP) (o::os)⟩=(t,s):=hlp
     rcases ht with rfl|rfl
     ·have e : w9 ⟨(xs.length : Int)⟩ ⟨phL (o :: os), q, lean q, xs, (j : Int), (o :: os).length, bL (tLs tP) (o :: os)⟩ = .exit 4 := by
       show u7 Stp.next Stp.exit Stp.fail _ _=_;simp only[u7,Int.toNat_natCast,i6,p6,i8,hX,hA,gA,hn,hgx,hlp,z4,g8,C8,Qkc];rw[btD hlt]
      rw[e];exact .ex (hex (hro.trans hr48) (by simp))
     ·have e : w9 ⟨(xs.length : Int)⟩ ⟨phL (o :: os), q, lean q, xs, (j : Int), (o :: os).length, bL (tLs tP) (o :: os)⟩ = .exit 5 := by
       show u7 Stp.next Stp.exit Stp.fail _ _=_;simp only[u7,Int.toNat_natCast,i6,p6,i8,hX,hA,gA,hn,hgx,hlp,z5,z6,z7,g8,C8,Qkc];rw[btD hlt]
      rw[e];exact .ex (hex (hro.trans hr48) (by simp))
 ·obtain⟨h1,hO',hr⟩:=hi;have hje:j=xs.length:=by omega
  subst hje;rw[List.take_length] at hO' hr;refine⟨phL O'*3+3,?_,λ_=>?_,λh=>(by rw[hr] at h;cases h)⟩
  ·cases O' with
   |nil =>
    show o8 Stp.next Stp.exit Stp.fail _ _=_;simp only[o8];rw[bfD (m9 (Qke _))];rfl
   |cons o os =>
    show u7 Stp.next Stp.exit Stp.fail _ _=_;simp only[u7];rw[bfD (m9 (Qke _))];rfl
  ·rw[<- hO'];exact⟨rfl,rfl,rfl⟩
noncomputable def ya2(x:List (List Pln))(y:List Pln):List (List Pln)×Int:=match G1 x y with
 |some r=>(r,0)
 |none=>([],9)
theorem qf4{α:Type}(t:Ty α)(l:List α)(n:Int):(two (r1L t) r1I).rd (.tup [eL t l,i n],[])=some (l,n):=by
 have h:(r1L t).rd [] (eL t l)=some l:=by
  show Bool.rec (motive:=λ_=>Option (List α)) none (some (rt t l)) (Bool.and (Nat.beq t.es t.es) (okE t l))=_
  rw[i6,p6,Qkac];rfl
 simp only[two,h];rfl
theorem Jf3{α:Type}(t:Ty α)(l:List α)(n:Int):(two (r1L t) r1I).rd (.tup [.tree t.es l.length (λk=>l9 (bL t l) (0+k)),i n],[])=some (l,n):=by
 have h:(r1L t).rd [] (.tree t.es l.length (λk=>l9 (bL t l) (0+k)))=some l:=by
  show Bool.rec (motive:=λ_=>Option (List α)) none (some (lsL t l.length λk=>l9 (bL t l) (0+k))) (Bool.and (Nat.beq t.es t.es) (okL t l.length λk=>l9 (bL t l) (0+k)))=_
  rw[cc9 t (l:=l) rfl λk hk=>by rw[Qkv,P7 t hk],Ua6 t (f:=λk=>gL t l k) λk hk=>by rw[Qkv,P7 t hk],Qkac]
  rfl
 simp only[two,h];rfl
theorem Jf4{α:Type}(t:Ty α)(k:Nat)(l:List α)(n:Int):(two (r1L t) r1I).rd (.tup [.sl 0 0 l.length 0,i n],[⟨k,t.es,bL t l,true,false,0⟩])=some (l,n):=by
 have h:(r1L t).rd [⟨k,t.es,bL t l,true,false,0⟩] (.sl 0 0 l.length 0)=some l:=Qe7 t k l;simp only[two,h];rfl
theorem md5(x:List (List Pln))(y:List Pln)(hy:y.length<=1000000)(hx:x.length<=10000)(hxl:∀c∈x,c.length<=1000000):Rd (two (r1L (tLs tP)) r1I) (Da4 x y) (λr=>r=ya2 x y):=by
 have hF:=id1 (c:=y) (by omega);have gF:=id3 (c:=y) (by omega)
 have hL:Q9 y=lean y:=rfl;have gL':s8 y=true:=decide_eq_true hy;unfold Da4 ya2 G1;simp only[i6,p6,i8,hF,gF,hL,gL',g8,Qkc];cases hf:ful y with
 |false=>exact⟨_,(x,0),rfl,qf4 (tLs tP) x 0,rfl⟩
 |true =>
  have hc:=(fa8.1 hf).1;have hfl:(lean y).length<=48:=by
   have:=bb8 y
   rw[beq_iff_eq,Ja5] at hc;omega
  obtain⟨t,s,hlp,hw⟩:=if0 y x hy hx hxl (λp hp=>Ib1 hc p (Qka _ (Pb3 hp))) hfl
  simp only[hlp,Bool.not_true,C8,if_true];cases hr:x.all (Xa1 y) with
  |false =>
   rcases hw.n hr with rfl|rfl|rfl|rfl<;>exact⟨_,([],9),rfl,rfl,rfl⟩
  |true =>
   obtain⟨h1,h2,h3⟩:=hw.y hr;by_cases hO:x.flatMap (Ga0 y)=[]
   ·rw[hO] at h1 ⊢;have h1:t=3:=h1;subst h1;exact⟨_,([],0),rfl,rfl,rfl⟩
   ·have h1 : t = 6 := by
     obtain⟨o,os,hO⟩:=Qkan hO;rw[h1,hO];rfl
    subst h1;rw[h2,h3];by_cases h200:(x.flatMap (Ga0 y)).length<=200
    ·rw[decide_eq_true h200];refine⟨_,(x.flatMap (Ga0 y),0),?_,Jf3 (tLs tP) _ 0,rfl⟩
     have:decide (((x.flatMap (Ga0 y)).length:Int)>200)=false:=decide_eq_false (by omega)
     rw[this];rfl
    ·rw[decide_eq_false h200]
     have:decide (((x.flatMap (Ga0 y)).length:Int)>200)=true:=decide_eq_true (by omega)
     rw[this];exact⟨_,([],9),rfl,rfl,rfl⟩
theorem mc8{x:List (List Pln)}{y:List Pln}(hy:y.length<=1000000)(hx:x.length<=10000)(hxl:∀c∈x,c.length<=1000000):aa7 x y=ya2 x y:=(md5 x y hy hx hxl).p
theorem Ee1{x:List (List Pln)}{y:List Pln}(hy:y.length<=1000000)(hx:x.length<=10000)(hxl:∀c∈x,c.length<=1000000):Ua0 x y=true:=(md5 x y hy hx hxl).g
noncomputable def schk(s:List (List Pln)):Int:=if (s.length:Int)>16 then 2 else match s.find? λc=>chk c != 0 with
 |some c=>chk c
 |none=>0
theorem Nd2{α:Type}(t:Ty α)(l:List α)(f:α->Bool)(h:l.any f=true):l.find? f=some (gL t l (l.findIdx f)):=by
 have hlt:l.findIdx f<l.length:=Qkau.2 (Qkk.1 h);rw[List.find?_eq_some_iff_getElem];refine⟨?_,l.findIdx f,hlt,?_,λj hj=>?_⟩
 ·simp only[gL,Qkj,Qkh hlt,Option.getD_some];exact List.findIdx_getElem (w:=hlt)
 ·simp[gL,Qkj,Qkh hlt]
 ·have:=List.not_of_lt_findIdx hj
  simpa using this
theorem Bd6(s:List (List Pln))(hs:s.length<=1000000)(hl:∀c∈s,c.length<=1000000):Sa5 s=some (i (schk s),[]):=by
 have h:=Ta1 (step:=ya1 ⟨s,(s.length:Int)⟩) (mk:=λj=>(⟨(j:Int)⟩:V0)) (c:=λc=>chk c != 0) (u:=1) (fin:=2) (tLs tP) s (by omega)
  (λj hj=>by
   have hc:=hl _ (Fa3 (tLs tP) hj);simp only[ya1,ta5,Int.toNat_natCast,i6,p6,Yc4 _ (show (gL (tLs tP) s j).length<=1000000000 by omega),Jd3 _ (show (gL (tLs tP) s j).length<=1000000000 by omega),o3 hj (show s.length<=4611686018427387904 by omega),g8]
   rw[btD (g9 hj),bt (f7 hj)])
  (by simp only[ya1,ta5];rw[bfD (m9 (Qke _))]) 0 (Qkp _)
 rw[Qku,Qkv] at h;unfold Sa5 schk;simp only[i6,p6,i8];rw[show (⟨0⟩:V0)=⟨((0:Nat):Int)⟩ from rfl,h]
 by_cases h16:(s.length:Int)>16
 ·rw[btD h16,if_pos h16]
 ·rw[bfD h16,if_neg h16];cases ha:s.any λc=>chk c != 0 with
  |true =>
   have hlt:s.findIdx (λc=>chk c != 0)<s.length:=Qkau.2 (Qkk.1 ha)
   have hc:=hl _ (Fa3 (tLs tP) hlt);rw[Nd2 (tLs tP) s _ ha];simp only[Int.toNat_natCast,if_true,Yc4 _ (show (gL (tLs tP) s (s.findIdx λc=>chk c != 0)).length<=1000000000 by omega)]
   rfl
  |false =>
   rw[List.find?_eq_none.2 λc hc=>by have:=List.any_eq_false.1 ha c hc;simpa using this]
   rfl
theorem Pb6{s:List (List Pln)}(hs:s.length<=1000000)(hl:∀c∈s,c.length<=1000000):T4 s=schk s:=by unfold T4;rw[Bd6 s hs hl];rfl
theorem Pb7{s:List (List Pln)}(hs:s.length<=1000000)(hl:∀c∈s,c.length<=1000000):T5 s=true:=by unfold T5;rw[Bd6 s hs hl];rfl
theorem ne0{c:List Pln}(h:chk c=0):c.length<=48:=(Ja5.1 h).1
theorem Bd7{s:List (List Pln)}(h:schk s=0):s.length<=16/\∀c∈s,chk c=0:=by
 unfold schk at h
 split at h
 ·cases h
 ·refine⟨by omega,λc hc=>?_⟩
  cases hf:s.find? λc=>chk c != 0 with
  |none=>simpa using List.find?_eq_none.1 hf c hc
  |some d =>
   rw[hf] at h
   have:=List.find?_some hf
   simp only at h
   rw[h] at this;cases this
theorem Gc3{ps r:List (List Pln)}{q:List Pln}(h:G1 ps q=some r)(hp:ps.length<=200):r.length<=200:=by
 unfold G1 at h
 split at h
 ·split at h
  ·rename_i h';injection h with h;subst h;rw[Qkl] at h';exact of_decide_eq_true h'.2
  ·cases h
 ·injection h with h;subst h;exact hp
theorem Ve1(x fs:List Pln)(j:Nat)(h:(C3 x fs j).length<48):(Ma9 x fs j).length<=48:=by
 unfold Ma9
 have:=bb8 (C3 x fs j++[O4 (gL tP fs j)])
 rw[Qkg] at this;simp only[List.length_singleton] at this;omega
theorem Rc9{ps r:List (List Pln)}{q:List Pln}(h:G1 ps q=some r)(hp:∀c∈ps,c.length<=48):∀c∈r,c.length<=48:=by
 unfold G1 at h
 split at h
 ·split at h
  ·rename_i h';injection h with h;subst h;rw[Qkl,Qkm] at h';intro c hc;obtain⟨x,hx,hc⟩:=Qkz.1 hc;have hr:=h'.1 x hx;unfold Ga0 at hc;unfold Xa1 at hr;cases ha:apart x q with
   |true=>rw[ha,if_pos rfl] at hc;rw[Qkd.1 hc];exact hp x hx
   |false =>
    rw[ha,if_neg (by decide)] at hc
    rw[ha,Bool.false_or] at hr;obtain⟨j,hj,rfl,_⟩:=Pb4.1 hc
    have:=Qkm.1 hr j (Qkn.2 hj)
    exact Ve1 x _ j (by simpa using this)
  ·cases h
 ·injection h with h;subst h;exact hp
noncomputable def Cb0(s:List (List Pln))(o:Option (List (List Pln))):Option (List (List Pln)):=s.foldl (λst q=>st.bind λps=>G1 ps q) o
noncomputable def Pa5(x:List Pln)(y:List (List Pln)):List (List Pln)×Int :=
 if chk x != 0 then ([],chk x) else if schk y != 0 then ([],schk y) else match ma4 x y with
  |some r=>(r,0)
  |none=>([],9)
structure M0(c:List Pln)(ys:List (List Pln))(t:Nat)(s:A4):Prop where
 y:∀r,Cb0 ys (some [c])=some r->(ys=[]/\t=2)\/(ys≠[]/\t=4/\s.db7=r)
 n:Cb0 ys (some [c])=none->(t=1/\∃j,s.Db0=((j:Nat):Int)/\ya2 [c] (gL (tLs tP) ys j)=([],9))\/(t=3/\∃j,s.Db0=((j:Nat):Int)/\ya2 s.db7 (gL (tLs tP) ys j)=([],9)/\j<ys.length/\s.db7.length<=200/\∀c∈s.db7,c.length<=48)
theorem md6(s:List (List Pln)):Cb0 s none=none:=Xb8 s
theorem ne2{ys:List (List Pln)}{j:Nat}(hj:j<ys.length)(o:Option (List (List Pln))):Cb0 (ys.take (j+1)) o=(Cb0 (ys.take j) o).bind λps=>G1 ps (gL (tLs tP) ys j):=by
 unfold Cb0;rw[Qkap,Qkh hj,Qkae];simp[gL,Qkj,Qkh hj]
theorem ce7(ys:List (List Pln))(j:Nat)(o:Option (List (List Pln))):Cb0 ys o=Cb0 (ys.drop j) (Cb0 (ys.take j) o):=by
 unfold Cb0;rw[<- Qkae,List.take_append_drop]
theorem if1 (c : List Pln) (ys : List (List Pln)) (hc : c.length ≤ 48) (hn : ys.length ≤ 1000) (hy : ∀ q ∈ ys, q.length ≤ 1000000) :
  ∃t s,lp (M4 ⟨ys,(ys.length:Int),c⟩) ⟨0,0,[]⟩=(t,s)/\M0 c ys t s:=by
 refine W9 (step:=M4 ⟨ys,(ys.length:Int),c⟩) (mk:=λj (ps:List (List Pln))=>(⟨if j=0 then 0 else 1,(j:Int),if j=0 then [] else ps⟩:A4)) ys.length
  (λj ps=>j<=ys.length/\Cb0 (ys.take j) (some [c])=some ps/\ps.length<=200/\∀x∈ps,x.length<=48) (M0 c ys) (by omega)
  (λj ps hj hi=>?_) (λj ps hj hi=>?_) 0 [c] ⟨Qkp _,rfl,by simp,by simpa using hc⟩
 ·obtain⟨_,hm,hl,hle⟩:=hi;have hw1:W ((j:Int)+1)=((j+1:Nat):Int):=o3 hj (by omega)
  have hq:=hy _ (Fa3 (tLs tP) hj);have hgx:inB (j:Int) ys.length=true:=f7 hj;have hmj:=ne2 hj (some [c]);have hsp:=ce7 ys (j+1) (some [c]);rw[hm] at hmj;have pw:=mc8 (x:=ps) hq (by omega) λx hx=>Qkq (hle x hx) (by omega)
  have gw:=Ee1 (x:=ps) hq (by omega) λx hx=>Qkq (hle x hx) (by omega)
  have hmj:Cb0 (ys.take (j+1)) (some [c])=G1 ps (gL (tLs tP) ys j):=hmj;by_cases h0:j=0
  ·subst h0;have hps:ps=[c]:=by
    have:some [c]=some ps:=hm
    injection this with this;exact this.symm
   subst hps;cases hw:G1 [c] (gL (tLs tP) ys 0) with
   |some r =>
    have hR:ya2 [c] (gL (tLs tP) ys 0)=(r,0):=by unfold ya2;rw[hw]
    rw[hR] at pw;have e:M4 ⟨ys,(ys.length:Int),c⟩ ⟨0,((0:Nat):Int),[]⟩=.next ⟨1,((0+1:Nat):Int),r⟩:=by
     show O0 Stp.next Stp.exit Stp.fail _ _=_;simp only[O0,Int.toNat_natCast,i6,p6,pw,gw,hw1,hgx,g8,Qkc];rw[btD (g9 hj)];rfl
    show Nx (M4 ⟨ys,(ys.length:Int),c⟩ ⟨0,((0:Nat):Int),[]⟩) _ _;rw[e];exact .nx ⟨r,rfl,hj,hmj.trans hw,Gc3 hw (by simp),Rc9 hw (by simpa using hc)⟩
   |none =>
    have hR:ya2 [c] (gL (tLs tP) ys 0)=([],9):=by unfold ya2;rw[hw]
    rw[hR] at pw;have e:M4 ⟨ys,(ys.length:Int),c⟩ ⟨0,((0:Nat):Int),[]⟩=.exit 1:=by
     show O0 Stp.next Stp.exit Stp.fail _ _=_;simp only[O0,Int.toNat_natCast,i6,p6,pw,gw,hw1,hgx,g8,Qkc];rw[btD (g9 hj)];rfl
    show Nx (M4 ⟨ys,(ys.length:Int),c⟩ ⟨0,((0:Nat):Int),[]⟩) _ _;rw[e];rw[hmj,hw,md6] at hsp;exact .ex ⟨λr hr=>(by rw[hsp] at hr;cases hr),λ_=>.inl ⟨rfl,0,rfl,hR⟩⟩
  ·have em:(⟨if j=0 then 0 else 1,(j:Int),if j=0 then [] else ps⟩:A4)=⟨1,(j:Int),ps⟩:=by rw[if_neg h0,if_neg h0]
   rw[em];cases hw:G1 ps (gL (tLs tP) ys j) with
   |some r =>
    have hR:ya2 ps (gL (tLs tP) ys j)=(r,0):=by unfold ya2;rw[hw]
    rw[hR] at pw;have e:M4 ⟨ys,(ys.length:Int),c⟩ ⟨1,(j:Int),ps⟩=.next ⟨1,((j+1:Nat):Int),r⟩:=by
     show O1 Stp.next Stp.exit Stp.fail _ _=_;simp only[O1,Int.toNat_natCast,i6,p6,pw,gw,hw1,hgx,g8,Qkc];rw[btD (g9 hj)];rfl
    rw[e];exact .nx ⟨r,by rw[if_neg (by omega),if_neg (by omega)],hj,hmj.trans hw,Gc3 hw hl,Rc9 hw hle⟩
   |none =>
    have hR:ya2 ps (gL (tLs tP) ys j)=([],9):=by unfold ya2;rw[hw]
    rw[hR] at pw;have e:M4 ⟨ys,(ys.length:Int),c⟩ ⟨1,(j:Int),ps⟩=.exit 3:=by
     show O1 Stp.next Stp.exit Stp.fail _ _=_;simp only[O1,Int.toNat_natCast,i6,p6,pw,gw,hw1,hgx,g8,Qkc];rw[btD (g9 hj)];rfl
    rw[e];rw[hmj,hw,md6] at hsp;exact .ex ⟨λr hr=>(by rw[hsp] at hr;cases hr),λ_=>.inr ⟨rfl,j,rfl,hR,hj,hl,hle⟩⟩
 ·obtain⟨h1,hm,hl,hle⟩:=hi;have hje:j=ys.length:=by omega
  subst hje;rw[List.take_length] at hm;by_cases h0:ys.length=0
  ·have hnil:ys=[]:=List.length_eq_zero_iff.1 h0;subst hnil;refine⟨2,?_,λr hr=>.inl ⟨rfl,rfl⟩,λh=>(by rw[hm] at h;cases h)⟩
   show O0 Stp.next Stp.exit Stp.fail ⟨[],((([]:List (List Pln)).length:Nat):Int),c⟩ ⟨0,((([]:List (List Pln)).length:Nat):Int),[]⟩=_;simp only[O0];rfl
  ·have em:(⟨if ys.length=0 then 0 else 1,(ys.length:Int),if ys.length=0 then [] else ps⟩:A4)=⟨1,(ys.length:Int),ps⟩:=by rw[if_neg h0,if_neg h0]
   rw[em];refine⟨4,?_,λr hr=>.inr ⟨λe=>h0 (by rw[e];rfl),rfl,?_⟩,λh=>(by rw[hm] at h;cases h)⟩
   ·show O1 Stp.next Stp.exit Stp.fail _ _=_;simp only[O1];rw[bfD (m9 (Qke _))]
   ·rw[hm] at hr;injection hr
theorem Bd8{c:List Pln}(h:ful c=false):∀s:List (List Pln),ma4 c s=some []:=by
 intro s;unfold ma4;rw[h,if_neg (by decide)]
 induction s with
 |nil=>rfl
 |cons q s ih =>
  have:G1 [] q=some []:=by unfold G1;split<;>rfl
  show s.foldl _ (G1 [] q)=_;rw[this];exact ih
theorem ce8(x:List Pln)(y:List (List Pln))(hx:x.length<=1000000)(hn:y.length<=1000000)(hy:∀q∈y,q.length<=1000000):Rd (two (r1L (tLs tP)) r1I) (Sa7 x y) (λr=>r=Pa5 x y):=by
 have hC:=Yc4 x (show x.length<=1000000000 by omega);have gC:=Jd3 x (show x.length<=1000000000 by omega)
 have hS:=Pb6 hn hy;have gS:=Pb7 hn hy;have hF:=id1 (c:=x) (by omega);have gF:=id3 (c:=x) (by omega)
 have hL:Q9 x=lean x:=rfl;have gL':s8 x=true:=decide_eq_true hx;unfold Sa7 Pa5;simp only[i6,p6,i8,hC,gC,hS,gS,hF,gF,hL,gL',g8,Qkc];cases hc:chk x != 0 with
 |true=>exact⟨_,([],chk x),rfl,rfl,rfl⟩
 |false =>
  cases hs:schk y != 0 with
  |true=>exact⟨_,([],schk y),rfl,rfl,rfl⟩
  |false =>
   have hc0:chk x=0:=by simpa using hc
   have hs0:=Bd7 (show schk y=0 by simpa using hs)
   simp only[C8,Qko,if_false];cases hf:ful x with
   |false =>
    rw[Bd8 hf];exact⟨_,([],0),rfl,rfl,rfl⟩
   |true =>
    simp only[Bool.not_true,C8];have hm:ma4 x y=Cb0 y (some [lean x]):=by unfold ma4 Cb0;rw[hf];rfl
    have hll:(lean x).length<=48:=Qkq (bb8 x) (ne0 hc0);obtain⟨t,s,hlp,hM⟩:=if1 (lean x) y hll (by omega) hy
    rw[hlp,hm];cases hr:Cb0 y (some [lean x]) with
    |some r =>
     rcases hM.y r hr with⟨rfl,rfl⟩|⟨_,rfl,rfl⟩
     ·have : r = [lean x] := by
       have:some [lean x]=some r:=hr
       injection this with this;exact this.symm
      subst this;exact⟨_,([lean x],0),rfl,Jf4 (tLs tP) 24 [lean x] 0,rfl⟩
     ·exact⟨_,(s.db7,0),rfl,qf4 (tLs tP) _ 0,rfl⟩
    |none =>
     rcases hM.n hr with⟨rfl,j,h1,h2⟩|⟨rfl,j,h1,h2,hj,h4,h5⟩
     ·by_cases hj:j<y.length
      ·have pw:=mc8 (x:=[lean x]) (hy _ (Fa3 (tLs tP) hj)) (by simp) (by simpa using Qkq hll (by omega))
       rw[h2] at pw;simp only[h1,Int.toNat_natCast,pw];exact⟨_,([],9),rfl,rfl,rfl⟩
      ·have hd:gL (tLs tP) y j=[]:=by simp[gL,Qkj,List.getElem?_eq_none (show y.length<=j by omega)];rfl
       have pw:=mc8 (x:=[lean x]) (y:=gL (tLs tP) y j) (by rw[hd];simp) (by simp) (by simpa using Qkq hll (by omega))
       rw[h2] at pw;simp only[h1,Int.toNat_natCast,pw];exact⟨_,([],9),rfl,rfl,rfl⟩
     ·have pw:=mc8 (x:=s.db7) (hy _ (Fa3 (tLs tP) hj)) (by omega) λc hc=>Qkq (h5 c hc) (by omega)
      rw[h2] at pw;simp only[h1,Int.toNat_natCast,pw];exact⟨_,([],9),rfl,rfl,rfl⟩
theorem ue6{x:List Pln}{y:List (List Pln)}(hx:x.length<=1000000)(hn:y.length<=1000000)(hy:∀q∈y,q.length<=1000000):kb1 x y=Pa5 x y:=(ce8 x y hx hn hy).p
theorem ue7{x:List Pln}{y:List (List Pln)}(hx:x.length<=1000000)(hn:y.length<=1000000)(hy:∀q∈y,q.length<=1000000):kb2 x y=true:=(ce8 x y hx hn hy).g
noncomputable def p4(x:List (List Pln))(y:List Pln):Bool×Int:=((Pa5 y x).2==0&&((Pa5 y x).1.length:Int)==0,(Pa5 y x).2)
theorem Bd9(x:List (List Pln))(y:List Pln)(hy:y.length<=1000000)(hn:x.length<=1000000)(hx:∀q∈x,q.length<=1000000):Ka7 x y=some (.tup [b (p4 x y).1,i (p4 x y).2],[]):=by
 unfold Ka7 p4;simp only[i6,p6,ue6 hy hn hx,ue7 hy hn hx,g8];cases (Pa5 y x).2==0<;>rfl
theorem Pb8{x:List (List Pln)}{y:List Pln}(hy:y.length<=1000000)(hn:x.length<=1000000)(hx:∀q∈x,q.length<=1000000):T6 x y=p4 x y:=by unfold T6;rw[Bd9 x y hy hn hx];rfl
theorem Gc4{x:List (List Pln)}{y:List Pln}(hy:y.length<=1000000)(hn:x.length<=1000000)(hx:∀q∈x,q.length<=1000000):ha4 x y=true:=by unfold ha4;rw[Bd9 x y hy hn hx];rfl
end Go.Ev.Ce
