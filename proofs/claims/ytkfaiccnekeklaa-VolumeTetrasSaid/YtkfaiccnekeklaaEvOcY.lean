/- Own work. -/
import Derived.Test.YtkfaiccnekeklaaEvOcV2
import Derived.ChangeStays
import Derived.ChangeSame
import Derived.OpenShut
import Derived.RowKit
set_option linter.all false
noncomputable section
def Qka:=@Classical.byContradiction
def Qkb:=@List.mem_cons
def Qkc:=@List.mem_singleton
def Qkd:=@Int.mul_nonneg
def Qke:=@List.mem_append
def Qkf:=@Int.mul_eq_zero
def Qkg:=@List.getElem?_eq_getElem
def Qkh:=@List.not_mem_nil
def Qki:=@Int.mul_zero
def Qkj:=@List.mem_filter
def Qkk:=@Int.mul_pos
def Qkl:=@List.all_eq_true
def Qkm:=@Option.bind_eq_some_iff
def Qkn:=@Int.le_refl
def Qko:=@List.mem_map
def Qkp:=@List.length_filter_le
def Qkq:=@Int.add_zero
def Qkr:=@Nat.lt_irrefl
def Qks:=@List.append_nil
def Qkt:=@Int.mul_le_mul_of_nonneg_right
def Qku:=@List.getElem?_range
def Qkv:=@Int.mul_neg
def Qkw:=@Nat.zero_le
def Qkx:=@List.length_append
def Qky:=@List.length_range
def Qkz:=@Nat.zero_add
def Qkaa:=@List.take_length
def Qkab:=@Nat.le_trans
def Qkac:=@List.length_map
def Qkad:=@Option.map_eq_some_iff
def Qkae:=@List.mem_range
namespace Go.Ev.Ce
open Go Go.Ev Go.Ev.L Go.Proofs
structure Rim(X C:List V3)(n:V3)(k:Int):Prop where
 n0:n≠⟨0,0,0⟩
 hx:∀v∈X,∃m,Hi X v m
 sub:∀c∈C,c∈X/\dot n c=k
 nd:C.Nodup
 two:2<=C.length
def Edg(C:List V3)(n a c:V3):Prop:=a∈C/\c∈C/\a≠c/\∀v∈C,v≠a->v≠c->0<orp n a c v
def nxF(n a:V3):List V3->V3->V3
 |[],best=>best
 |w::l,best=>if (!eqV w a&&(eqV best a||decide (orp n a best w<0)))=true then nxF n a l w else nxF n a l best
def nxt(C:List V3)(n a:V3):V3:=nxF n a C a
theorem Edg.out{C:List V3}{n a c d:V3}(h1:Edg C n a c)(h2:Edg C n a d):c=d:=by
 apply Qka;intro hne;have e1:=h1.2.2.2 d h2.2.1 (Ne.symm h2.2.2.1) (Ne.symm hne);have e2:=h2.2.2.2 c h1.2.1 (Ne.symm h1.2.2.1) hne;rw[lc0] at e2;omega
theorem Edg.inn{C:List V3}{n a c d:V3}(h1:Edg C n a c)(h2:Edg C n d c):a=d:=by
 apply Qka;intro hne;have e1:=h1.2.2.2 d h2.1 (Ne.symm hne) h2.2.2.1;have e2:=h2.2.2.2 a h1.1 hne h1.2.2.1;rw[Od6,lc0] at e2;omega
section
variable{X C:List V3}{n:V3}{k:Int}(h:Rim X C n k)
include h
theorem Rim.perp{a c:V3}(ha:a∈C)(hc:c∈C):dot (d7 a c) n=0:=by
 rw[ie1,(h.sub a ha).2,(h.sub c hc).2,Int.sub_self]
theorem Rim.orp_tr{a c v w:V3}(ha:a∈C)(hc:c∈C)(hv:v∈C)(hw:w∈C)(ca:c≠a)(va:v≠a)(wa:w≠a)(h1:0<orp n a c v)(h2:0<orp n a v w):0<orp n a c w:=by
 obtain⟨m,hm⟩:=h.hx a (h.sub a ha).1;have m1:=hm c (h.sub c hc).1 ca;have m2:=hm v (h.sub v hv).1 va;have m3:=hm w (h.sub w hw).1 wa;exact vc7 (m:=m) h.n0 (h.perp hc ha) (h.perp hv ha) (h.perp hw ha) (by rw[ma6];omega) (by rw[ma6];omega) (by rw[ma6];omega) h1 h2
theorem Rim.ne0{a c v:V3}(ha:a∈C)(hc:c∈C)(hv:v∈C)(h1:a≠c)(h2:a≠v)(h3:c≠v):orp n a c v≠0 :=
 Od8 h.hx h.n0 (h.sub a ha).1 (h.sub c hc).1 (h.sub v hv).1 (h.sub a ha).2 (h.sub c hc).2 (h.sub v hv).2 h1 h2 h3
def Fnd(D:List V3)(n a best:V3):Prop:=(best=a/\∀c∈D,c=a)\/(best∈D/\best≠a/\∀c∈D,c≠a->c≠best->0<orp n a best c)
theorem Rim.fnd{a:V3}(ha:a∈C):∀(l D:List V3) (best:V3),(∀x∈D,x∈C)->(∀x∈l,x∈C)->Fnd D n a best->Fnd (D++l) n a (nxF n a l best)
 |[],D,best,_,_,hf=>by rw[Qks];exact hf
 |w::l,D,best,hD,hl,hf=>by
  have hw:=hl w (by simp)
  have rec':=λb hb=>Rim.fnd ha l (D++[w]) b (λx hx=>(Qke.1 hx).elim (hD x) λe=>by rw[Qkc.1 e];exact hw) (λx hx=>hl x (by simp[hx])) hb
  rw[List.append_assoc] at rec';unfold nxF;by_cases hwa:w=a
  ·rw[if_neg (by rw[show eqV w a=true from (bb7 _ _).2 hwa];simp)]
   refine rec' best ?_
   rcases hf with⟨e,hf⟩|⟨e1,e2,hf⟩
   ·exact .inl ⟨e,λc hc=>(Qke.1 hc).elim (hf c) λe=>(Qkc.1 e).trans hwa⟩
   ·exact .inr ⟨List.mem_append_left _ e1,e2,λc hc h1 h2=>(Qke.1 hc).elim (λk=>hf c k h1 h2) λe=>absurd ((Qkc.1 e).trans hwa) h1⟩
  ·have ew : eqV w a = false := by
    cases hq:eqV w a with
    |false=>rfl
    |true=>exact absurd ((bb7 _ _).1 hq) hwa
   rcases hf with⟨e,hf⟩|⟨e1,e2,hf⟩
   ·rw[if_pos (by rw[ew,(bb7 _ _).2 e];rfl)]
    refine rec' w (.inr ⟨by simp,hwa,λc hc h1 h2=>?_⟩)
    rcases Qke.1 hc with k|k
    ·exact absurd (hf c k) h1
    ·exact absurd (Qkc.1 k) h2
   ·have eb : eqV best a = false := by
     cases hq:eqV best a with
     |false=>rfl
     |true=>exact absurd ((bb7 _ _).1 hq) e2
    have hb:=hD best e1;by_cases ho:orp n a best w<0
    ·rw[if_pos (by rw[ew,eb,decide_eq_true ho];rfl)]
     have o1:0<orp n a w best:=by rw[lc0];omega
     refine rec' w (.inr ⟨by simp,hwa,λc hc h1 h2=>?_⟩)
     rcases Qke.1 hc with k|k
     ·by_cases hcb:c=best
      ·rw[hcb];exact o1
      ·exact h.orp_tr ha hw hb (hD c k) hwa e2 h1 o1 (hf c k h1 hcb)
     ·exact absurd (Qkc.1 k) h2
    ·rw[if_neg (by rw[ew,eb,decide_eq_false ho];simp)]
     refine rec' best (.inr ⟨List.mem_append_left _ e1,e2,λc hc h1 h2=>?_⟩)
     rcases Qke.1 hc with k|k
     ·exact hf c k h1 h2
     ·rw[Qkc.1 k] at h2 ⊢
      have:=h.ne0 ha hb hw (Ne.symm e2) (Ne.symm hwa) (Ne.symm h2)
      omega
theorem Rim.other(a:V3):∃c∈C,c≠a:=by
 apply Qka;intro hno
 have:C.length<=[a].length:=List.Nodup.length_le_of_subset h.nd λc hc=>by
  have:c=a:=Qka λhne=>hno ⟨c,hc,hne⟩
  simp[this]
 have:=h.two
 simp only[List.length_singleton] at *
 omega
theorem Rim.nx{a:V3}(ha:a∈C):Edg C n a (nxt C n a):=by
 have hf:=h.fnd ha C [] a (λx hx=>by cases hx) (λx hx=>hx) (.inl ⟨rfl,λc hc=>by cases hc⟩)
 rw[List.nil_append] at hf;obtain⟨c,hc,hca⟩:=h.other a
 rcases hf with⟨_,hf⟩|⟨e1,e2,hf⟩
 ·exact absurd (hf c hc) hca
 ·exact⟨ha,e1,Ne.symm e2,hf⟩
theorem Rim.nx_mem{a:V3}(ha:a∈C):nxt C n a∈C:=(h.nx ha).2.1
theorem Rim.nx_inj{a c:V3}(ha:a∈C)(hc:c∈C)(e:nxt C n a=nxt C n c):a=c:=(h.nx ha).inn (e ▸ h.nx hc)
def itr(C:List V3)(n a:V3):Nat->V3
 |0=>a
 |i+1=>nxt C n (itr C n a i)
theorem Rim.it_mem{a:V3}(ha:a∈C):∀i,itr C n a i∈C
 |0=>ha
 |i+1=>h.nx_mem (Rim.it_mem ha i)
theorem Rim.it_back{a:V3}(ha:a∈C):∀i j,itr C n a i=itr C n a (i+j)->a=itr C n a j
 |0,j,e=>by rw[Qkz] at e;exact e
 |i+1,j,e=>Rim.it_back ha i j (by
  rw[Nat.add_right_comm] at e;exact h.nx_inj (h.it_mem ha i) (h.it_mem ha (i+j)) e)
theorem Rim.it_ret{a:V3}(ha:a∈C){m:Nat}(hm:0<m)(e:itr C n a m=a):∀x∈C,∃i,i<m/\itr C n a i=x:=λx hx=>by
 apply Qka;intro hno;have hne:∀i,i<=m->itr C n a i≠x:=λi hi he=>by
  by_cases k:i<m
  ·exact hno ⟨i,k,he⟩
  ·have:i=m:=by omega
   subst this;exact hno ⟨0,hm,by rw[<- he,e];rfl⟩
 obtain⟨w,hw⟩:=h.hx x (h.sub x hx).1;have hlow:∀i,i<=m->dot w (d7 (itr C n a i) x)<0:=λi hi=>by
  have:=hw _ (h.sub _ (h.it_mem ha i)).1 (hne i hi)
  rw[ma6];omega
 have hstep:∀i,i+1<=m->0<crs n (d7 (itr C n a i) x) (d7 (itr C n a (i+1)) x):=λi hi=>by
  rw[<- Bd2];exact (h.nx (h.it_mem ha i)).2.2.2 x hx (Ne.symm (hne i (by omega))) (Ne.symm (hne (i+1) hi))
 have key:∀j,j+1<=m->0<crs n (d7 (itr C n a 0) x) (d7 (itr C n a (j+1)) x):=λj=>by
  induction j with
  |zero=>exact hstep 0
  |succ j ih=>exact λhj=>vc7 (m:=w) h.n0 (h.perp (h.it_mem ha _) hx) (h.perp (h.it_mem ha _) hx) (h.perp (h.it_mem ha _) hx) (hlow 0 (by omega)) (hlow (j+1) (by omega)) (hlow (j+2) hj) (ih (by omega)) (hstep (j+1) hj)
 have:=key (m-1) (by omega)
 rw[show m-1+1=m by omega,e] at this
 have z:crs n (d7 a x) (d7 a x)=0:=by simp only[crs,dot,a8,d7];grind
 have:0<crs n (d7 a x) (d7 a x):=this
 omega
theorem Rim.it_len{a:V3}(ha:a∈C){m:Nat}(hm:0<m)(e:itr C n a m=a):C.length<=m:=by
 have:=List.Nodup.length_le_of_subset h.nd (l₂:=(List.range m).map (itr C n a)) λx hx=>by
  obtain⟨i,hi,rfl⟩:=h.it_ret ha hm e x hx;exact Qko.2 ⟨i,Qkae.2 hi,rfl⟩
 rw[Qkac,Qky] at this;exact this
theorem Rim.it_nd{a:V3}(ha:a∈C):((List.range C.length).map (itr C n a)).Nodup:=by
 unfold List.Nodup;rw[List.pairwise_map];refine List.Pairwise.imp_of_mem (λ{i j} hi hj hij e=>?_) List.pairwise_lt_range
 have hj':=Qkae.1 hj
 have:=h.it_back ha i (j-i) (by rw[show i+(j-i)=j by omega];exact e)
 have:=h.it_len ha (m:=j-i) (by omega) this.symm
 omega
theorem Rim.it_perm{a:V3}(ha:a∈C):((List.range C.length).map (itr C n a)).Perm C:=by
 refine kc8 (h.it_nd ha) h.nd (λx hx=>?_) (by rw[Qkac,Qky];exact Nat.le_refl _)
 obtain⟨i,_,rfl⟩:=Qko.1 hx;exact h.it_mem ha i
theorem Rim.it_end{a:V3}(ha:a∈C):itr C n a C.length=a:=by
 have:=(h.it_perm ha).mem_iff.2 (h.it_mem ha C.length)
 obtain⟨i,hi,e⟩:=Qko.1 this;have hi:=Qkae.1 hi;have hb:=h.it_back ha i (C.length-i) (by rw[show i+(C.length-i)=C.length by omega];exact e)
 have:=h.it_len ha (m:=C.length-i) (by omega) hb.symm
 have:i=0:=by omega
 subst this;exact e.symm
theorem Rim.nx_perm:(C.map (nxt C n)).Perm C:=by
 refine kc8 ?_ h.nd (λx hx=>?_) (by rw[Qkac];exact Nat.le_refl _)
 ·unfold List.Nodup;rw[List.pairwise_map];exact List.Pairwise.imp_of_mem (λ{a c} ha hc hne e=>hne (h.nx_inj ha hc e)) h.nd
 ·obtain⟨a,ha,rfl⟩:=Qko.1 hx;exact h.nx_mem ha
theorem Rim.sig_nx(f:V3->Int):sig C (λa=>f (nxt C n a))=sig C f:=by rw[<- Zb2 (nxt C n) f,Hb0 h.nx_perm]
theorem Rim.sig_it(f:V3->Int){a:V3}(ha:a∈C):sig C f=sig (List.range C.length) (λi=>f (itr C n a i)):=by rw[<- Zb2 (itr C n a) f,Hb0 (h.it_perm ha)]
end
def AR(C:List V3)(n d:V3):Int:=sig C λa=>dot (a8 a (nxt C n a)) d
def D3(a c v:V3):Int:=dot (a8 a c) v
theorem lc1(C:List V3)(n d e:V3):AR C n (d7 d e)=AR C n d-AR C n e:=by
 unfold AR;rw[<- pb7];exact L0 λa _=>ma6 _ _ _
theorem Bd4(C:List V3)(n d:V3)(k:Int):AR C n ⟨k*d.x,k*d.y,k*d.z⟩=k*AR C n d:=by
 unfold AR;rw[<- dd9];exact L0 λa _=>by simp only[dot];grind
section
variable{X C:List V3}{n:V3}{k:Int}(h:Rim X C n k)
include h
theorem Rim.ar_o(o d:V3):sig C (λa=>D3 (d7 a o) (d7 (nxt C n a) o) d)=AR C n d:=by
 have e:∀a c:V3,D3 (d7 a o) (d7 c o) d=dot (a8 a c) d-(dot (a8 o c) d-dot (a8 o a) d):=λa c=>by simp only[D3,dot,a8,d7];grind
 have h1:sig C (λa=>D3 (d7 a o) (d7 (nxt C n a) o) d)=sig C (λa=>dot (a8 a (nxt C n a)) d-(dot (a8 o (nxt C n a)) d-dot (a8 o a) d)):=L0 λa _=>e a _
 rw[h1,pb7,pb7,h.sig_nx (λc=>dot (a8 o c) d)]
 show AR C n d-_=_;omega
theorem Rim.ne:∃a,a∈C:=by
 obtain⟨c,hc,_⟩:=h.other ⟨0,0,0⟩;exact⟨c,hc⟩
theorem Rim.ar_perp{d:V3}(hd:dot d n=0):AR C n d=0:=by
 obtain⟨o,ho⟩:=h.ne;rw[<- h.ar_o o d];refine wa3 λa ha=>?_
 have:=ie0 h.n0 hd (h.perp ha ho) (h.perp (h.nx_mem ha) ho)
 rw[show D3 (d7 a o) (d7 (nxt C n a) o) d=dot d (a8 (d7 a o) (d7 (nxt C n a) o)) from ed2 _ _]
 exact this
theorem Rim.ar_n(d:V3):dot n n*AR C n d=dot n d*AR C n n:=by
 have e:AR C n (d7 ⟨dot n n*d.x,dot n n*d.y,dot n n*d.z⟩ ⟨dot n d*n.x,dot n d*n.y,dot n d*n.z⟩)=0:=h.ar_perp (by simp only[dot,d7];grind)
 rw[lc1,Bd4,Bd4] at e;omega
theorem Rim.ar_pos(h3:3<=C.length):0<AR C n n:=by
 obtain⟨o,ho⟩:=h.ne;rw[<- h.ar_o o n];have term:∀a∈C,D3 (d7 a o) (d7 (nxt C n a) o) n=orp n a (nxt C n a) o:=λa _=>by rw[Bd2];simp only[D3,crs];exact ed2 _ _
 have nn:∀a∈C,0<=D3 (d7 a o) (d7 (nxt C n a) o) n:=λa ha=>by
  rw[term a ha];by_cases e1:o=a
  ·rw[e1,Bd3];exact Qkn _
  ·by_cases e2:o=nxt C n a
   ·rw[<- e2,Xc7];exact Qkn _
   ·have:=(h.nx ha).2.2.2 o ho e1 e2;omega
 -- the corner behind the next one
 have ha:=h.nx_mem ho;have hne:o≠nxt C n o:=(h.nx ho).2.2.1;have hne2:o≠nxt C n (nxt C n o):=λe=>by
  have:=h.it_len ho (m:=2) (by omega) e.symm
  omega
 have hp:0<D3 (d7 (nxt C n o) o) (d7 (nxt C n (nxt C n o)) o) n:=by
  rw[term _ ha];exact (h.nx ha).2.2.2 o ho hne hne2
 have hsum:∀(l:List V3),(∀a∈l,0<=D3 (d7 a o) (d7 (nxt C n a) o) n)->nxt C n o∈l->0<sig l (λa=>D3 (d7 a o) (d7 (nxt C n a) o) n):=λl=>by
  induction l with
  |nil=>intro _ hx;cases hx
  |cons x l ih =>
   intro hl hx;rw[j6];have h1:=hl x (by simp)
   have h2:0<=sig l (λa=>D3 (d7 a o) (d7 (nxt C n a) o) n):=kc7 λa ha=>hl a (by simp[ha])
   rcases Qkb.1 hx with e|hx
   ·rw[e] at hp;omega
   ·have:=ih (λa ha=>hl a (by simp[ha])) hx;omega
 exact hsum C nn ha
theorem Rim.cone(h3:3<=C.length){c:V3}(hc:dot n c=k)(o:V3):(dot n o<k->0<AR C n (d7 c o))/\(dot n o=k->AR C n (d7 c o)=0)/\(k<dot n o->AR C n (d7 c o)<0):=by
 have e:=h.ar_n (d7 c o);rw[ma6,hc] at e;have hp:=h.ar_pos h3;have hn:=ca3 h.n0;refine⟨λhk=>?_,λhk=>?_,λhk=>?_⟩
 ·have:=Qkk (show 0<k-dot n o by omega) hp
  apply Qka;intro hno
  have:=Qkd (show 0<=dot n n by omega) (show 0<=-AR C n (d7 c o) by omega)
  rw[Qkv] at this;omega
 ·rw[show k-dot n o=0 by omega,Int.zero_mul] at e
  exact (Qkf.1 e).resolve_left (by omega)
 ·have:=Qkk (show 0<dot n o-k by omega) hp
  apply Qka;intro hno;have h1:=Qkd (show 0<=dot n n by omega) (show 0<=AR C n (d7 c o) by omega)
  have:(dot n o-k)*AR C n n=-((k-dot n o)*AR C n n):=by rw[<- Int.neg_mul];congr 1;omega
  omega
theorem Rim.sum_edges(f:V3->V3->Int):sig C (λa=>sig C (λc=>@ite _ (Edg C n a c) (Classical.propDecidable _) (f a c) 0))=sig C (λa=>f a (nxt C n a)):=by
 refine L0 λa ha=>?_
 rw[cb5 h.nd (h.nx_mem ha) λc hc hne=>?_]
 ·rw[if_pos (h.nx ha)]
 ·rw[if_neg λhe=>hne (he.out (h.nx ha))]
end
theorem Rim.fan{X C:List V3}{n:V3}{k:Int}(h:Rim X C n k){a:V3}(ha:a∈C):sig (List.range (C.length-2)) (λi=>D3 a (itr C n a (i+1)) (itr C n a (i+2)))=AR C n a:=by
 have e1:AR C n a=sig (List.range C.length) (λi=>dot (a8 (itr C n a i) (itr C n a (i+1))) a):=h.sig_it (λv=>dot (a8 v (nxt C n v)) a) ha
 rw[e1];have h2:=h.two;obtain⟨m,hm⟩:∃m,C.length=m+2:=⟨C.length-2,by omega⟩
 rw[hm,show m+2-2=m by omega]
 have hend:=h.it_end ha;rw[hm] at hend;have hr:List.range (m+2)=0::(List.range m).map (·+1)++[m+1]:=by
  rw[List.range_succ,List.range_succ_eq_map]
 rw[hr,List.cons_append,j6,Zb1,Zb2,j6,Ha6];have z1:dot (a8 (itr C n a 0) (itr C n a (0+1))) a=0:=by
  show dot (a8 a _) a=0;simp only[dot,a8];grind
 have z2:dot (a8 (itr C n a (m+1)) (itr C n a (m+1+1))) a=0:=by
  rw[show m+1+1=m+2 from rfl,hend]
  simp only[dot,a8];grind
 rw[z1,z2,Int.zero_add,Qkq,Qkq];exact L0 λi _=>by simp only[D3,dot,a8];grind
structure Pol(X:List V3):Prop where
 iv:X.all inV=true
 sol:Sol X
 nd:X.Nodup
 ex:∀v∈X,∃m,Hi X v m
def onF(p:Pln)(X:List V3):List V3:=X.filter λv=>decide (dot p.n v=p.b)
theorem F5{p:Pln}{X:List V3}{v:V3}:v∈onF p X↔v∈X/\dot p.n v=p.b:=by unfold onF;rw[Qkj,decide_eq_true_eq]
theorem be2(x:Int):0<=x*x:=by rw[<- Int.natAbs_mul_self];exact Int.natCast_nonneg _
theorem lc2{α:Type}(s h:α->Int):∀l:List α,l≠[]->(∀x∈l,0<h x)->∃x∈l,∀y∈l,s x*h y<=s y*h x
 |[],hn,_=>absurd rfl hn
 |[x],_,_=>⟨x,by simp,λy hy=>by rw[Qkc.1 hy];exact Qkn _⟩
 |x::y::l,_,hp=>by
  obtain⟨z,hz,hm⟩:=lc2 s h (y::l) (by simp) λa ha=>hp a (by simp only[Qkb] at ha ⊢;exact .inr ha)
  have px:=hp x (by simp)
  have pz:=hp z (by simp only[Qkb] at hz ⊢;exact .inr hz)
  by_cases hc:s z*h x<=s x*h z
  ·refine⟨z,by simp only[Qkb] at hz ⊢;exact .inr hz,λa ha=>?_⟩
   rcases Qkb.1 ha with rfl|ha
   ·exact hc
   ·exact hm a ha
  ·refine⟨x,by simp,λa ha=>?_⟩
   rcases Qkb.1 ha with rfl|ha
   ·exact Qkn _
   ·have h1:=hm a ha;have pa:=hp a (by simp only[Qkb] at ha ⊢;exact .inr ha)
    have k1:s x*h z*h a<=s z*h x*h a:=Qkt (by omega) (by omega)
    have k2:s z*h a*h x<=s a*h z*h x:=Qkt h1 (by omega)
    have k3:h z*(s x*h a)<=h z*(s a*h x):=by grind
    exact Int.le_of_mul_le_mul_left k3 pz
section
variable{X:List V3}(hX:Pol X)
include hX
theorem Pol.lens{p:Pln}(hp:wa9 X p):3<=(onF p X).length:=by
 obtain⟨u,w,x,hu,hw,hx,h3,e1,e2,e3⟩:=hp.on;have n1:u≠w:=λe=>h3 (by subst e;refine V3.ext' ?_ ?_ ?_<;>simp only[N3,a8,d7]<;>grind)
 have n2:u≠x:=λe=>h3 (by subst e;refine V3.ext' ?_ ?_ ?_<;>simp only[N3,a8,d7]<;>grind)
 have n3:w≠x:=λe=>h3 (by subst e;refine V3.ext' ?_ ?_ ?_<;>simp only[N3,a8,d7]<;>grind)
 have hnd:[u,w,x].Nodup:=by simp[n1,n2,n3]
 exact List.Nodup.length_le_of_subset hnd λv hv=>by
  simp only[Qkb,Qkh,or_false] at hv
  rcases hv with rfl|rfl|rfl
  ·exact F5.2 ⟨hu,e1⟩
  ·exact F5.2 ⟨hw,e2⟩
  ·exact F5.2 ⟨hx,e3⟩
theorem Pol.rim{p:Pln}(hp:wa9 X p):Rim X (onF p X) p.n p.b :=
 ⟨Qa7 hp.ok,hX.ex,λc hc=>F5.1 hc,hX.nd.filter _,by have:=hX.lens hp;omega⟩
theorem Pol.third{p:Pln}(hp:wa9 X p)(a c:V3):∃v∈onF p X,v≠a/\v≠c:=by
 apply Qka;intro hno
 have:(onF p X).length<=[a,c].length:=List.Nodup.length_le_of_subset (hX.nd.filter _) λv hv=>by
  simp only[Qkb,Qkh,or_false];apply Qka;intro hne;exact hno ⟨v,hv,λe=>hne (.inl e),λe=>hne (.inr e)⟩
 have:=hX.lens hp
 simp only[List.length_cons,List.length_nil] at *
 omega
theorem Pol.uni{p q:Pln}(hp:wa9 X p)(hq:wa9 X q){a c:V3}(e1:Edg (onF p X) p.n a c)(e2:Edg (onF q X) q.n a c):p=q:=by
 obtain⟨b1,hb1,ba1,bc1⟩:=hX.third hp a c;obtain⟨b2,hb2,ba2,bc2⟩:=hX.third hq a c;have s1:=e1.2.2.2 b1 hb1 ba1 bc1;have s2:=e2.2.2.2 b2 hb2 ba2 bc2;have pa:=(F5.1 e1.1).2;have pc:=(F5.1 e1.2.1).2;have qa:=(F5.1 e2.1).2;have qc:=(F5.1 e2.2.1).2;obtain⟨x1,p1⟩:=F5.1 hb1;obtain⟨x2,q2⟩:=F5.1 hb2;have c1:=λe=>ma5 (d:=e) (pa1 (n:=p.n) (a:=d7 c a) (c:=d7 b1 a) (by rw[ma6];omega) (by rw[ma6];omega))
 have c2:=λe=>ma5 (d:=e) (pa1 (n:=q.n) (a:=d7 c a) (c:=d7 b2 a) (by rw[ma6];omega) (by rw[ma6];omega))
 have t1:0<dot p.n (a8 (d7 c a) (d7 b1 a)):=s1;have t2:0<dot q.n (a8 (d7 c a) (d7 b2 a)):=s2;have hd1:=hp.hd b2 x2;by_cases hon:dot p.n b2=p.b
 ·-- both planes go through the same db2 corners
  have s3:0<dot p.n (a8 (d7 c a) (d7 b2 a)):=e1.2.2.2 b2 (F5.2 ⟨x2,hon⟩) ba2 bc2;have hN:(a8 (d7 c a) (d7 b2 a):V3)≠⟨0,0,0⟩:=λe=>by rw[e] at t2;simp[dot] at t2
  have c3:=λe=>ma5 (d:=e) (pa1 (n:=p.n) (a:=d7 c a) (c:=d7 b2 a) (by rw[ma6];omega) (by rw[ma6];omega))
  generalize a8 (d7 c a) (d7 b2 a)=N at *
  have hNN:=ca3 hN;have par:a8 p.n q.n=⟨0,0,0⟩:=by
   have d1:∀v:V3,dot v ⟨1,0,0⟩=v.x:=λv=>by simp[dot]
   have d2:∀v:V3,dot v ⟨0,1,0⟩=v.y:=λv=>by simp[dot]
   have d3:∀v:V3,dot v ⟨0,0,1⟩=v.z:=λv=>by simp[dot]
   have a1:=c3 ⟨1,0,0⟩;have a2:=c3 ⟨0,1,0⟩;have a3:=c3 ⟨0,0,1⟩;have f1:=c2 ⟨1,0,0⟩;have f2:=c2 ⟨0,1,0⟩;have f3:=c2 ⟨0,0,1⟩;rw[d1,d1] at a1 f1;rw[d2,d2] at a2 f2;rw[d3,d3] at a3 f3;have z:∀{t:Int},dot N N*t=0->t=0:=λe=>(Qkf.1 e).resolve_left (by omega)
   generalize dot N N=m at *
   generalize dot p.n N=x at *
   generalize dot q.n N=y at *
   refine V3.ext' (z (z ?_)) (z (z ?_)) (z (z ?_))
   ·have:m*(m*(a8 p.n q.n).x)=(m*p.n.y)*(m*q.n.z)-(m*p.n.z)*(m*q.n.y):=by simp only[a8];grind
    rw[this,a2,a3,f2,f3];grind
   ·have:m*(m*(a8 p.n q.n).y)=(m*p.n.z)*(m*q.n.x)-(m*p.n.x)*(m*q.n.z):=by simp only[a8];grind
    rw[this,a1,a3,f1,f3];grind
   ·have:m*(m*(a8 p.n q.n).z)=(m*p.n.x)*(m*q.n.y)-(m*p.n.y)*(m*q.n.x):=by simp only[a8];grind
    rw[this,a1,a2,f1,f2];grind
  have hn:q.n=p.n:=by
   rcases Nc2 (jc0 hp.ok) (jc0 hq.ok) par with e|e
   ·exact e
   ·rw[e] at t2
    have:dot (neg p.n) N=-dot p.n N:=by simp only[dot,neg];grind
    omega
  have hb:q.b=p.b:=by rw[<- qa,hn,pa]
  cases p;cases q
  simp only at hn hb
  rw[hn,hb]
 ·exfalso;have k1:=c1 (d7 b2 a);have h1:dot p.n (d7 b2 a)<0:=by rw[ma6];omega
  have hN1:0<dot (a8 (d7 c a) (d7 b1 a)) (a8 (d7 c a) (d7 b1 a)):=ca3 λe=>by rw[e] at t1;simp[dot] at t1
  have m1:=Int.mul_neg_of_pos_of_neg hN1 h1;have r1:dot (a8 (d7 c a) (d7 b1 a)) (d7 b2 a)<0:=by
   apply Qka;intro hno
   have:=Qkd (show 0<=dot p.n (a8 (d7 c a) (d7 b1 a)) by omega) (show 0<=dot (a8 (d7 c a) (d7 b1 a)) (d7 b2 a) by omega)
   omega
  have k2:=c2 (d7 b1 a);have h2:dot q.n (d7 b1 a)<=0:=by rw[ma6];have:=hq.hd b1 x1;omega
  have hN2:0<dot (a8 (d7 c a) (d7 b2 a)) (a8 (d7 c a) (d7 b2 a)):=ca3 λe=>by rw[e] at t2;simp[dot] at t2
  have m2:=Qkd (show 0<=dot (a8 (d7 c a) (d7 b2 a)) (a8 (d7 c a) (d7 b2 a)) by omega) (show 0<=-dot q.n (d7 b1 a) by omega)
  rw[Qkv] at m2;have e3:dot (a8 (d7 c a) (d7 b2 a)) (d7 b1 a)=-dot (a8 (d7 c a) (d7 b1 a)) (d7 b2 a):=by simp only[dot,a8,d7];grind
  have m3:=Qkk t2 (show 0<dot (a8 (d7 c a) (d7 b2 a)) (d7 b1 a) by omega)
  omega
end
section
variable{X:List V3}(hX:Pol X)
include hX
theorem Pol.rev{p:Pln}(hp:wa9 X p){a c:V3}(he:Edg (onF p X) p.n a c):∃q,wa9 X q/\Edg (onF q X) q.n c a:=by
 obtain⟨xa,pa⟩:=F5.1 he.1;obtain⟨xc,pc⟩:=F5.1 he.2.1;obtain⟨b1,hb1,ba1,bc1⟩:=hX.third hp a c;obtain⟨xb,pb⟩:=F5.1 hb1;have sb:=he.2.2.2 b1 hb1 ba1 bc1
 -- the points off the plane
 obtain⟨v0,hv0,hne⟩:=hX.sol.off (Qa7 hp.ok) p.b;have hle:=hp.hd;have hY:X.filter (λv=>decide (dot p.n v<p.b))≠[]:=λe=>by
  have:v0∈X.filter (λv=>decide (dot p.n v<p.b)):=Qkj.2 ⟨hv0,decide_eq_true (by have:=hle v0 hv0;omega)⟩
  rw[e] at this;cases this
 obtain⟨z,hz,hmin⟩:=lc2 (λv=>orp p.n a c v) (λv=>p.b-dot p.n v) _ hY λv hv=>by
  have:=of_decide_eq_true (Qkj.1 hv).2
  omega
 obtain⟨xz,hz'⟩:=Qkj.1 hz;have hzb:=of_decide_eq_true hz';have hmin':∀v∈X,dot p.n v<p.b->orp p.n a c z*(p.b-dot p.n v)<=orp p.n a c v*(p.b-dot p.n z):=λv hv hlt=>hmin v (Qkj.2 ⟨hv,decide_eq_true hlt⟩)
 clear hmin
 obtain⟨S,hS⟩:∃S,S=orp p.n a c z:=⟨_,rfl⟩;obtain⟨H,hH⟩:∃H,H=p.b-dot p.n z:=⟨_,rfl⟩;rw[<- hS,<- hH] at hmin';have hH0:0<H:=by omega
 -- how far a point Yd6 within,and below
 have hs0:∀v∈X,dot p.n v=p.b->0<=orp p.n a c v:=λv hv on=>by
  by_cases e1:v=a
  ·rw[e1,Bd3];exact Qkn _
  ·by_cases e2:v=c
   ·rw[e2,Xc7];exact Qkn _
   ·have:=he.2.2.2 v (F5.2 ⟨hv,on⟩) e1 e2;omega
 obtain⟨u,hu⟩:∃u:V3,u=a8 p.n (d7 c a):=⟨_,rfl⟩;obtain⟨m,hm⟩:∃m:V3,m=⟨-(H*u.x)-S*p.n.x,-(H*u.y)-S*p.n.y,-(H*u.z)-S*p.n.z⟩:=⟨_,rfl⟩;have hsv:∀v,orp p.n a c v=dot u (d7 v a):=λv=>by rw[hu];simp only[orp,crs,dot,a8,d7];grind
 have hmv:∀v,dot m v-dot m a=-(H*orp p.n a c v)+S*(p.b-dot p.n v):=λv=>by
  rw[hsv,hm,<- pa];simp only[dot,d7];grind
 have hma:∀v∈X,dot m v<=dot m a:=λv hv=>by
  have e:=hmv v;by_cases hlt:dot p.n v<p.b
  ·have:=hmin' v hv hlt
   have:orp p.n a c v*H=H*orp p.n a c v:=Int.mul_comm _ _
   omega
  ·have on:dot p.n v=p.b:=by have:=hle v hv;omega
   have:=Qkd (show 0<=H by omega) (hs0 v hv on)
   rw[show p.b-dot p.n v=0 by omega,Qki] at e
   omega
 have hmc:dot m c=dot m a:=by
  have e:=hmv c;rw[Xc7,Qki,show p.b-dot p.n c=0 by omega,Qki] at e
  omega
 have hmz:dot m z=dot m a:=by
  have e:=hmv z;rw[<- hS,<- hH,Int.mul_comm H S] at e;omega
 have hmb:dot m b1<dot m a:=by
  have e:=hmv b1
  have:=Qkk hH0 sb
  rw[show p.b-dot p.n b1=0 by omega,Qki] at e
  omega
 have hdne:d7 c a≠⟨0,0,0⟩:=λe=>he.2.2.1 (by
  simp only[d7,V3.mk.injEq] at e;obtain⟨k1,k2,k3⟩:=e;exact V3.ext' (by omega) (by omega) (by omega))
 have hdd:=ca3 hdne;have hN3:N3 a c z≠⟨0,0,0⟩:=λe=>by
  have:=Ob6 (m:=d7 c a) (show a8 (d7 c a) (d7 z a)=⟨0,0,0⟩ from e) p.n
  rw[ma6 p.n c a,show dot p.n c-dot p.n a=0 by omega,Qki,ma6 p.n z a] at this
  have:=(Qkf.1 this.symm).resolve_left (by omega)
  omega
 obtain⟨q,hq,qa,qc,qz⟩:=Zb3 hX.iv (n:=m) xa xc xz hN3 hma hmc hmz ⟨b1,xb,by omega⟩
 -- the plane's normal Yd6 along m
 have hmne:m≠⟨0,0,0⟩:=λe=>by rw[e] at hmb;simp[dot] at hmb
 have hmm:=ca3 hmne;have hpar:a8 q.n m=⟨0,0,0⟩:=by
  have k1:a8 q.n (N3 a c z)=⟨0,0,0⟩:=pa1 (by rw[ma6];omega) (by rw[ma6];omega)
  have k2:a8 m (N3 a c z)=⟨0,0,0⟩:=pa1 (by rw[ma6];omega) (by rw[ma6];omega)
  have c1:=λe=>ma5 (d:=e) k1
  have c2:=λe=>ma5 (d:=e) k2
  have hNN:=ca3 hN3;generalize N3 a c z=N at *
  have d1:∀v:V3,dot v ⟨1,0,0⟩=v.x:=λv=>by simp[dot]
  have d2:∀v:V3,dot v ⟨0,1,0⟩=v.y:=λv=>by simp[dot]
  have d3:∀v:V3,dot v ⟨0,0,1⟩=v.z:=λv=>by simp[dot]
  have a1:=c1 ⟨1,0,0⟩;have a2:=c1 ⟨0,1,0⟩;have a3:=c1 ⟨0,0,1⟩;have f1:=c2 ⟨1,0,0⟩;have f2:=c2 ⟨0,1,0⟩;have f3:=c2 ⟨0,0,1⟩;rw[d1,d1] at a1 f1;rw[d2,d2] at a2 f2;rw[d3,d3] at a3 f3;have w:∀{t:Int},dot N N*t=0->t=0:=λe=>(Qkf.1 e).resolve_left (by omega)
  clear hmv hm hu hsv
  generalize dot N N=g at *
  generalize dot q.n N=x at *
  generalize dot m N=y at *
  refine V3.ext' (w (w ?_)) (w (w ?_)) (w (w ?_))
  ·have:g*(g*(a8 q.n m).x)=(g*q.n.y)*(g*m.z)-(g*q.n.z)*(g*m.y):=by simp only[a8];grind
   rw[this,a2,a3,f2,f3];grind
  ·have:g*(g*(a8 q.n m).y)=(g*q.n.z)*(g*m.x)-(g*q.n.x)*(g*m.z):=by simp only[a8];grind
   rw[this,a1,a3,f1,f3];grind
  ·have:g*(g*(a8 q.n m).z)=(g*q.n.x)*(g*m.y)-(g*q.n.y)*(g*m.x):=by simp only[a8];grind
   rw[this,a1,a2,f1,f2];grind
 have hq2:=λe=>ma5 (d:=e) hpar
 have hk:0<dot q.n m:=by
  have e:=hq2 (d7 b1 a);rw[ma6,ma6] at e;have h1:dot q.n b1-dot q.n a<=0:=by have:=hq.hd b1 xb;omega
  apply Qka;intro hno;have t1:=Qkd (show 0<=dot m m by omega) (show 0<=-(dot q.n b1-dot q.n a) by omega)
  rw[Qkv] at t1;have t2:=Qkd (show 0<=-dot q.n m by omega) (show 0<=-(dot m b1-dot m a) by omega)
  rw[Int.neg_mul_neg] at t2;have t3:dot q.n m*(dot m b1-dot m a)=0:=by omega
  rcases Qkf.1 t3 with t3|t3
  ·have e':=hq2 q.n;rw[t3,Int.zero_mul] at e'
   have:=ca3 (Qa7 hq.ok)
   rcases Qkf.1 e' with r|r<;>omega
  ·omega
 refine⟨q,hq,F5.2 ⟨xc,qc⟩,F5.2 ⟨xa,qa⟩,Ne.symm he.2.2.1,λv hv n1 n2=>?_⟩
 obtain⟨xv,qv⟩:=F5.1 hv;have e:=hq2 (a8 (d7 a c) (d7 v c))
 -- how the db2 points turn,seen along m
 have em:H*dot m (a8 (d7 a c) (d7 v c))=(p.b-dot p.n v)*(H*H*dot (d7 c a) (d7 c a)+S*S):=by
  have mv:dot m v=dot m a:=by
   have e':=hq2 (d7 v a);rw[ma6,ma6,show dot q.n v-dot q.n a=0 by omega,Qki] at e'
   have:=(Qkf.1 e'.symm).resolve_left (by omega)
   omega
  have r1:H*orp p.n a c v=S*(p.b-dot p.n v):=by have:=hmv v;omega
  have r2:dot m (a8 (d7 a c) (d7 v c))=H*((p.b-dot p.n v)*dot (d7 c a) (d7 c a))+S*orp p.n a c v:=by
   have nd:dot p.n (d7 c a)=0:=by rw[ma6];omega
   have r3:dot m (a8 (d7 a c) (d7 v c))=H*(dot p.n (d7 c a)*dot (d7 c a) (d7 v a))-H*(dot p.n (d7 v a)*dot (d7 c a) (d7 c a))+S*orp p.n a c v:=by
    have q1:dot u (a8 (d7 c a) (d7 v a))=dot p.n (d7 c a)*dot (d7 c a) (d7 v a)-dot p.n (d7 v a)*dot (d7 c a) (d7 c a):=by rw[hu];simp only[dot,a8];grind
    have q2:a8 (d7 a c) (d7 v c)=⟨-(a8 (d7 c a) (d7 v a)).x,-(a8 (d7 c a) (d7 v a)).y,-(a8 (d7 c a) (d7 v a)).z⟩:=by refine V3.ext' ?_ ?_ ?_<;>simp only[a8,d7]<;>grind
    have q3:orp p.n a c v=dot p.n (a8 (d7 c a) (d7 v a)):=rfl;rw[q2,q3];have q4:dot m ⟨-(a8 (d7 c a) (d7 v a)).x,-(a8 (d7 c a) (d7 v a)).y,-(a8 (d7 c a) (d7 v a)).z⟩=H*dot u (a8 (d7 c a) (d7 v a))+S*dot p.n (a8 (d7 c a) (d7 v a)):=by
     rw[hm];generalize a8 (d7 c a) (d7 v a)=w;simp only[dot];grind
    rw[q4,q1]
    grind
   rw[r3,nd,Int.zero_mul,Qki,ma6 p.n v a,show dot p.n v-dot p.n a=-(p.b-dot p.n v) by omega]
   grind
  rw[r2];generalize dot (d7 c a) (d7 c a)=D at *
  generalize orp p.n a c v=s at *
  generalize p.b-dot p.n v=t at *
  grind
 have hpos:0<H*H*dot (d7 c a) (d7 c a)+S*S:=by
  have:=Qkk (Qkk hH0 hH0) hdd
  have:=be2 S
  omega
 have hv0':0<p.b-dot p.n v:=by
  apply Qka;intro hno;have on:dot p.n v=p.b:=by have:=hle v xv;omega
  have s1:=he.2.2.2 v (F5.2 ⟨xv,on⟩) n2 n1;have e':=hq2 (d7 v a);rw[ma6,ma6,show dot q.n v-dot q.n a=0 by omega,Qki] at e'
  have mv:=(Qkf.1 e'.symm).resolve_left (by omega)
  have e2:=hmv v;rw[show p.b-dot p.n v=0 by omega,Qki] at e2
  have:=Qkk hH0 s1
  omega
 have t1:=Qkk hv0' hpos;rw[<- em] at t1;have t2:0<dot m (a8 (d7 a c) (d7 v c)):=by
  apply Qka;intro hno
  have:=Qkd (show 0<=H by omega) (show 0<=-dot m (a8 (d7 a c) (d7 v c)) by omega)
  rw[Qkv] at this;omega
 have t3:=Qkk hk t2;rw[<- e] at t3;show 0<dot q.n (a8 (d7 a c) (d7 v c));apply Qka;intro hno
 have:=Qkd (show 0<=dot m m by omega) (show 0<=-dot q.n (a8 (d7 a c) (d7 v c)) by omega)
 rw[Qkv] at this;omega
end
open Classical in
def atE(X:List V3)(p:Pln)(a c:V3)(t:Int):Int:=if Edg (onF p X) p.n a c then t else 0
def ptF(p:Pln)(X:List V3):V3:=(onF p X).headD ⟨0,0,0⟩
def V6(X:List V3)(o:V3):Int:=sig (F0 X) λp=>AR (onF p X) p.n (d7 (ptF p X) o)
section
variable{X:List V3}(hX:Pol X)
include hX
theorem Pol.mem{p:Pln}:p∈F0 X↔wa9 X p:=z7 hX.iv p
omit hX in
theorem ed3(X:List V3):(F0 X).Nodup:=Nb8 (Nb7 X)
theorem Pol.pt{p:Pln}(hp:wa9 X p):ptF p X∈onF p X:=by
 have:=hX.lens hp
 unfold ptF;cases h:onF p X with
 |nil=>rw[h] at this;simp at this
 |cons a l=>simp
theorem Pol.edges{p:Pln}(hp:wa9 X p)(f:V3->V3->Int):sig X (λa=>sig X (λc=>atE X p a c (f a c)))=sig (onF p X) (λa=>f a (nxt (onF p X) p.n a)):=by
 rw[<- (hX.rim hp).sum_edges f];unfold onF;rw[ya9];refine L0 λa ha=>?_
 split
 ·rw[ya9];refine L0 λc hc=>?_
  split
  ·rfl
  ·rename_i hn;unfold atE;rw[if_neg λhe=>hn (decide_eq_true (F5.1 he.2.1).2)]
 ·rename_i hn;refine wa3 λc _=>?_
  unfold atE;rw[if_neg λhe=>hn (decide_eq_true (F5.1 he.1).2)]
theorem Pol.anti(f:V3->V3->Int)(hf:∀a c,f a c=-f c a):sig (F0 X) (λp=>sig X (λa=>sig X (λc=>atE X p a c (f a c))))=0:=by
 rw[Gb9];have e:sig X (λa=>sig (F0 X) (λp=>sig X (λc=>atE X p a c (f a c))))=sig X (λa=>sig X (λc=>sig (F0 X) (λp=>atE X p a c (f a c)))):=L0 λa _=>Gb9 _ _ _
 rw[e];have one:∀a c t,(∃p,p∈F0 X/\Edg (onF p X) p.n a c)->sig (F0 X) (λp=>atE X p a c t)=t:=λa c t ⟨p,hp,he⟩=>by
  rw[cb5 (ed3 X) hp λq hq hne=>?_]
  ·unfold atE;rw[if_pos he]
  ·unfold atE;rw[if_neg λhe'=>hne (hX.uni (hX.mem.1 hq) (hX.mem.1 hp) he' he)]
 have none:∀a c t,¬ (∃p,p∈F0 X/\Edg (onF p X) p.n a c)->sig (F0 X) (λp=>atE X p a c t)=0:=λa c t hn=>wa3 λp hp=>by
  unfold atE;rw[if_neg λhe=>hn ⟨p,hp,he⟩]
 have turn:∀a c,(∃p,p∈F0 X/\Edg (onF p X) p.n a c)->∃p,p∈F0 X/\Edg (onF p X) p.n c a:=λa c ⟨p,hp,he⟩=>by
  obtain⟨q,hq,h⟩:=hX.rev (hX.mem.1 hp) he;exact⟨q,hX.mem.2 hq,h⟩
 refine zd9 λa _ c _=>?_
 by_cases h:∃p,p∈F0 X/\Edg (onF p X) p.n a c
 ·rw[one a c _ h,one c a _ (turn a c h)];exact hf a c
 ·rw[none a c _ h,none c a _ λk=>h (turn c a k)]
  rfl
theorem Pol.closed(w:V3):sig (F0 X) (λp=>AR (onF p X) p.n w)=0:=by
 rw[<- hX.anti (λa c=>dot (a8 a c) w) λa c=>by simp only[dot,a8];grind]
 refine L0 λp hp=>?_
 rw[hX.edges (hX.mem.1 hp)];rfl
theorem Pol.from'(o:V3):V6 X o=sig (F0 X) λp=>AR (onF p X) p.n (ptF p X):=by
 unfold V6;have e:sig (F0 X) (λp=>AR (onF p X) p.n (d7 (ptF p X) o))=sig (F0 X) (λp=>AR (onF p X) p.n (ptF p X)-AR (onF p X) p.n o):=L0 λp _=>lc1 _ _ _ _
 rw[e,pb7,hX.closed o,Int.sub_zero]
theorem Pol.any(o o':V3):V6 X o=V6 X o':=by rw[hX.from',hX.from']
theorem Pol.cone{p:Pln}(hp:wa9 X p)(o:V3):(dot p.n o<p.b->0<AR (onF p X) p.n (d7 (ptF p X) o))/\(dot p.n o=p.b->AR (onF p X) p.n (d7 (ptF p X) o)=0)/\(p.b<dot p.n o->AR (onF p X) p.n (d7 (ptF p X) o)<0) :=
 (hX.rim hp).cone (hX.lens hp) (F5.1 (hX.pt hp)).2 o
theorem Pol.pos:0<V6 X ⟨0,0,0⟩:=by
 obtain⟨o,ho⟩:=hX.sol.ne;rw[hX.any _ o]
 -- some facet does not have this corner
 have nn:∀p∈F0 X,0<=AR (onF p X) p.n (d7 (ptF p X) o):=λp hp=>by
  have h:=hX.mem.1 hp;obtain⟨k1,k2,_⟩:=hX.cone h o
  have:=h.hd o ho
  by_cases e:dot p.n o=p.b
  ·rw[k2 e];exact Qkn _
  ·have:=k1 (by omega);omega
 have hx:∃p∈F0 X,dot p.n o<p.b:=by
  apply Qka;intro hno;have hall:∀p∈F0 X,dot p.n o=p.b:=λp hp=>by
   have:=(hX.mem.1 hp).hd o ho
   apply Qka;intro hne;exact hno ⟨p,hp,by omega⟩
  have hz:V6 X o=0:=wa3 λp hp=>(hX.cone (hX.mem.1 hp) o).2.1 (hall p hp)
  -- take another corner: all cones from there count nothing either
  have hne:=Sd1 hX.iv hX.sol;cases hF:F0 X with
  |nil=>exact hne hF
  |cons p l =>
   have hp:p∈F0 X:=by rw[hF];simp
   have hf:=hX.mem.1 hp;obtain⟨v,hv,hoff⟩:=hX.sol.off (Qa7 hf.ok) p.b;have hpos:0<V6 X v:=by
    unfold V6;have nn':∀q∈F0 X,0<=AR (onF q X) q.n (d7 (ptF q X) v):=λq hq=>by
     have h:=hX.mem.1 hq;obtain⟨k1,k2,_⟩:=hX.cone h v
     have:=h.hd v hv
     by_cases e:dot q.n v=q.b
     ·rw[k2 e];exact Qkn _
     ·have:=k1 (by omega);omega
    rw[hF,j6];have h1:=(hX.cone hf v).1 (by have:=hf.hd v hv;omega)
    have h2:0<=sig l λq=>AR (onF q X) q.n (d7 (ptF q X) v):=kc7 λq hq=>nn' q (by rw[hF];simp[hq])
    omega
   rw[hX.any v o,hz] at hpos;omega
 obtain⟨p,hp,hlt⟩:=hx;unfold V6;have hs:∀l:List Pln,(∀q∈l,q∈F0 X)->p∈l->0<sig l λq=>AR (onF q X) q.n (d7 (ptF q X) o):=λl=>by
  induction l with
  |nil=>intro _ h;cases h
  |cons q l ih =>
   intro hl hm;rw[j6];have h1:=nn q (hl q (by simp))
   have h2:0<=sig l λq=>AR (onF q X) q.n (d7 (ptF q X) o):=kc7 λr hr=>nn r (hl r (by simp[hr]))
   rcases Qkb.1 hm with e|hm
   ·subst e
    have:=(hX.cone (hX.mem.1 hp) o).1 hlt
    omega
   ·have:=ih (λr hr=>hl r (by simp[hr])) hm;omega
 exact hs _ (λq h=>h) hp
end
set_option maxRecDepth 100000
theorem ie2{a c:Nat}{x y:Int}(h1:Sm a x)(h2:Sm c y):Sm ((a*c:Nat):Int) (x*y):=by
 have k1:x.natAbs<=a:=by obtain⟨p,q⟩:=h1;omega
 have k2:y.natAbs<=c:=by obtain⟨p,q⟩:=h2;omega
 have k:(x*y).natAbs<=a*c:=by rw[Int.natAbs_mul];exact Nat.mul_le_mul k1 k2
 constructor<;>omega
def Sm3(n:Int)(v:V3):Prop:=Sm n v.x/\Sm n v.y/\Sm n v.z
theorem Xc8{v:V3}:inV v=true↔Sm3 24 v:=qa4 v
theorem Hb4{u w:V3}(hu:inV u=true)(hw:inV w=true):r7 u w=d7 u w/\Sm3 48 (d7 u w):=by
 obtain⟨⟨a1,a2⟩,⟨a3,a4⟩,a5,a6⟩:=(qa4 _).1 hu;obtain⟨⟨c1,c2⟩,⟨c3,c4⟩,c5,c6⟩:=(qa4 _).1 hw;refine⟨?_,⟨by simp only[d7];omega,by simp only[d7];omega⟩,⟨by simp only[d7];omega,by simp only[d7];omega⟩,by simp only[d7];omega,by simp only[d7];omega⟩
 unfold r7 d7;rw[na2 (by omega) (by omega),na2 (by omega) (by omega),na2 (by omega) (by omega)]
theorem lc3{a c:V3}(ha:Sm3 48 a)(hc:Sm3 48 c):q8 a c=a8 a c/\Sm3 4608 (a8 a c):=by
 have m:∀{x y:Int},Sm 48 x->Sm 48 y->-2304<=x*y/\x*y<=2304:=λh1 h2=>ie2 (a:=48) (c:=48) h1 h2
 obtain⟨a1,a2,a3⟩:=ha;obtain⟨c1,c2,c3⟩:=hc;have p1:=m a2 c3;have p2:=m a3 c2;have p3:=m a3 c1;have p4:=m a1 c3;have p5:=m a1 c2;have p6:=m a2 c1;have hs:Sm3 4608 (a8 a c):=⟨⟨by simp only[a8];omega,by simp only[a8];omega⟩,⟨by simp only[a8];omega,by simp only[a8];omega⟩,by simp only[a8];omega,by simp only[a8];omega⟩
 refine⟨?_,hs⟩;unfold q8;simp only[Bc2,Vc6];obtain⟨s1,s2,s3⟩:=hs;show (⟨W (a8 a c).x,W (a8 a c).y,W (a8 a c).z⟩:V3)=a8 a c;rw[lb3 (s1.mono (by omega)),lb3 (s2.mono (by omega)),lb3 (s3.mono (by omega))]
theorem lc4{a c:V3}(ha:Sm3 4608 a)(hc:Sm3 4608 c):p9 a c=dot a c/\Sm 63700992 (dot a c):=by
 have m:∀{x y:Int},Sm 4608 x->Sm 4608 y->-21233664<=x*y/\x*y<=21233664:=λh1 h2=>ie2 (a:=4608) (c:=4608) h1 h2
 have p1:=m ha.1 hc.1;have p2:=m ha.2.1 hc.2.1;have p3:=m ha.2.2 hc.2.2;have hs:Sm 63700992 (dot a c):=by unfold dot;constructor<;>omega
 refine⟨?_,hs⟩;unfold p9;simp only[xb5,gc8];exact lb3 (hs.mono (by omega))
theorem Sm3.mono{n m:Int}{v:V3}(h:Sm3 n v)(hn:n<=m):Sm3 m v:=⟨Sm.mono h.1 hn,Sm.mono h.2.1 hn,Sm.mono h.2.2 hn⟩
theorem Bd5{a c v:V3}(ha:inV a=true)(hc:inV c=true)(hv:inV v=true):p9 (q8 a c) v=D3 a c v/\Sm 63700992 (D3 a c v):=by
 obtain⟨e1,e2⟩:=lc3 ((Xc8.1 ha).mono (by omega)) ((Xc8.1 hc).mono (by omega))
 rw[e1];exact lc4 e2 ((Xc8.1 hv).mono (by omega))
theorem be3{n a c v:V3}(hn:Sm3 4608 n)(ha:inV a=true)(hc:inV c=true)(hv:inV v=true):p9 n (q8 (r7 c a) (r7 v a))=orp n a c v:=by
 obtain⟨e1,e2⟩:=Hb4 hc ha;obtain⟨e3,e4⟩:=Hb4 hv ha;obtain⟨e5,e6⟩:=lc3 e2 e4;rw[e1,e3,e5];exact (lc4 hn e6).1
def Bd6(C:List V3)(g:Nat->List a7):Prop:=∀k,k<C.length->g k=tV.row (gL tV C k)
section
variable{n:V3}{C:List V3}{g:Nat->List a7}(hn:Sm3 4608 n)(hg:Bd6 C g)(hC:∀c∈C,inV c=true)(hl:C.length<=1000)
include hn hg hC hl
theorem nd4{v:V3}(hv:inV v=true):∃j,lp (K5 ⟨C.length,g,(C.length:Int),n.x,n.y,n.z,C.length,g,v.x,v.y,v.z⟩) ⟨0,v.x,v.y,v.z⟩=(1,⟨j,(nxt C n v).x,(nxt C n v).y,(nxt C n v).z⟩):=by
 suffices key:∃t s,lp (K5 ⟨C.length,g,(C.length:Int),n.x,n.y,n.z,C.length,g,v.x,v.y,v.z⟩) ⟨0,v.x,v.y,v.z⟩=(t,s)/\(t=1/\∃j,s=⟨j,(nxt C n v).x,(nxt C n v).y,(nxt C n v).z⟩) by
  obtain⟨t,s,h,rfl,j,rfl⟩:=key;exact⟨j,h⟩
 refine V7 (step:=K5 ⟨C.length,g,(C.length:Int),n.x,n.y,n.z,C.length,g,v.x,v.y,v.z⟩) (mk:=λj (b:V3)=>(⟨(j:Int),b.x,b.y,b.z⟩:m8)) C.length (λj b=>inV b=true/\nxF n v (C.drop j) b=nxt C n v) (λt s=>t=1/\∃j,s=⟨j,(nxt C n v).x,(nxt C n v).y,(nxt C n v).z⟩) (by omega)
  (λj b hj hi=>?_) (λj b hj hi=>?_) 0 v ⟨hv,rfl⟩
 ·obtain⟨hb,hi⟩:=hi;have hw:=hC _ (bb2 tV hj);have hN:=J0 hj (show C.length<=4611686018427387904 by omega)
  have ho:=be3 (a:=v) (c:=b) (v:=gL tV C j) hn hv hb hw;have hd:C.drop j=gL tV C j::C.drop (j+1):=by
   rw[eb1 tV hj];exact List.drop_eq_getElem_cons hj
  rw[hd] at hi;unfold nxF at hi;have e1:((gL tV C j).x==v.x&&((gL tV C j).y==v.y&&((gL tV C j).z==v.z&&true)))=eqV (gL tV C j) v:=rfl;have e2:(b.x==v.x&&(b.y==v.y&&(b.z==v.z&&true)))=eqV b v:=rfl;have e3:∀u:V3,toI (hdA (tV.row u))=u.x/\toI (hdA (tlA (tV.row u)))=u.y/\toI (hdA (tlA (tlA (tV.row u))))=u.z/\(Nat.ble 3 (len (tV.row u))&&Ea9 [CK.int .i64,CK.int .i64,CK.int .i64] (tV.row u))=true:=λ_=>⟨rfl,rfl,rfl,rfl⟩
  obtain⟨f1,f2,f3,f4⟩:=e3 (gL tV C j);show Nx (w6 Stp.next Stp.exit Stp.fail _ _) _ _;simp only[w6,Int.toNat_natCast,hg j hj,f1,f2,f3,f4,e1,e2,hN,k8 hj];rw[btD (B7 hj)];simp only[J1];rw[show (⟨(gL tV C j).x,(gL tV C j).y,(gL tV C j).z⟩:V3)=gL tV C j from rfl,show (⟨b.x,b.y,b.z⟩:V3)=b from rfl,show (⟨v.x,v.y,v.z⟩:V3)=v from rfl,show (⟨n.x,n.y,n.z⟩:V3)=n from rfl,ho]
  have take : ∀ c : V3, inV c = true → nxF n v (C.drop (j + 1)) c = nxt C n v → Nx (.next (⟨((j + 1 : Nat) : Int), c.x, c.y, c.z⟩ : m8)) (fun t => t = 1 ∧ ∃ j', (⟨(j : Int), b.x, b.y, b.z⟩ : m8) = ⟨j', (nxt C n v).x, (nxt C n v).y, (nxt C n v).z⟩)
    (λs=>∃c':V3,s=(⟨((j+1:Nat):Int),c'.x,c'.y,c'.z⟩:m8)/\(inV c'=true/\nxF n v (C.drop (j+1)) c'=nxt C n v)):=λc hc he=>.nx ⟨c,rfl,hc,he⟩
  cases h1:eqV (gL tV C j) v with
  |true =>
   rw[h1] at hi;exact take b hb (by simpa using hi)
  |false =>
   rw[h1] at hi;cases h2:eqV b v with
   |true =>
    rw[h2] at hi;exact take _ hw (by simpa using hi)
   |false =>
    rw[h2] at hi;by_cases h3:orp n v b (gL tV C j)<0
    ·rw[decide_eq_true h3] at hi ⊢;exact take _ hw (by simpa using hi)
    ·rw[decide_eq_false h3] at hi ⊢;exact take b hb (by simpa using hi)
 ·obtain⟨hb,hi⟩:=hi;rw[List.drop_eq_nil_of_le hj] at hi;have hi:b=nxt C n v:=hi;refine⟨1,?_,rfl,(j:Int),by rw[hi]⟩
  show w6 Stp.next Stp.exit Stp.fail _ _=_;simp only[w6];rw[bfD (G6 (by omega))]
theorem Bd7{v:V3}(hv:inV v=true):S1 ⟨n.x,n.y,n.z,C.length,g,v.x,v.y,v.z⟩=⟨1,(nxt C n v).x,(nxt C n v).y,(nxt C n v).z⟩:=by
 obtain⟨j,h⟩:=nd4 hn hg hC hl hv;unfold S1 K9;simp only[h];rfl
end
theorem lc5(f:Nat->Int)(n:Nat):sig (List.range (n+1)) f=sig (List.range n) f+f n:=by
 rw[List.range_succ,Zb1,j6,Ha6,Qkq]
theorem Dc7{α:Type}{f:α->Int}{B:Nat}:∀{l:List α},(∀x∈l,Sm B (f x))->Sm ((l.length*B:Nat):Int) (sig l f)
 |[],_=>by rw[Ha6];exact⟨by simp,by simp⟩
 |x::l,h=>by
  obtain⟨h1,h2⟩:=h x (by simp)
  obtain⟨k1,k2⟩:=Dc7 (l:=l) λy hy=>h y (by simp[hy])
  rw[j6,List.length_cons,Nat.succ_mul]
  constructor<;>omega
section
variable{X C:List V3}{n:V3}{k:Int}(h:Rim X C n k){g:Nat->List a7}(hn:Sm3 4608 n)(hg:Bd6 C g)(hC:∀c∈C,inV c=true)(hl:C.length<=48)
include h hn hg hC hl
theorem Bd8 {a : V3} (ha : a ∈ C) {s0 : Int} (hs : Sm 100000000000000000 s0) :
  ∃s,lp (fa5 ⟨n.x,n.y,n.z,C.length,g,((C.length-2:Nat):Int),a.x,a.y,a.z⟩) ⟨0,s0,(nxt C n a).x,(nxt C n a).y,(nxt C n a).z⟩=(1,s)/\s.e8=s0+AR C n a:=by
 rw[<- h.fan ha];have hterm:∀i,Sm 63700992 (D3 a (itr C n a (i+1)) (itr C n a (i+2))):=λi=>(Bd5 (hC a ha) (hC _ (h.it_mem ha _)) (hC _ (h.it_mem ha _))).2
 suffices key:∃t s,lp (fa5 ⟨n.x,n.y,n.z,C.length,g,((C.length-2:Nat):Int),a.x,a.y,a.z⟩) ⟨0,s0,(nxt C n a).x,(nxt C n a).y,(nxt C n a).z⟩=(t,s)/\(t=1/\s.e8=s0+sig (List.range (C.length-2)) (λi=>D3 a (itr C n a (i+1)) (itr C n a (i+2)))) by
  obtain⟨t,s,h,rfl,h2⟩:=key;exact⟨s,h,h2⟩
 refine V7 (step:=fa5 ⟨n.x,n.y,n.z,C.length,g,((C.length-2:Nat):Int),a.x,a.y,a.z⟩) (mk:=λj (q:Int×V3)=>(⟨(j:Int),q.1,q.2.x,q.2.y,q.2.z⟩:O6)) (C.length-2) (λj q=>j<=C.length-2/\q.1=s0+sig (List.range j) (λi=>D3 a (itr C n a (i+1)) (itr C n a (i+2)))/\q.2=itr C n a (j+1)) (λt s=>t=1/\s.e8=s0+sig (List.range (C.length-2)) (λi=>D3 a (itr C n a (i+1)) (itr C n a (i+2)))) (by omega)
  (λj q hj hi=>?_) (λj q hj hi=>?_) 0 (s0,nxt C n a) ⟨Qkw _,by rw[List.range_zero,Ha6,Qkq],rfl⟩
 ·obtain⟨s,v⟩:=q;obtain⟨hj',e1,e2⟩:=hi
  simp only at e1 e2
  subst e1 e2;have hN:=J0 hj (show C.length-2<=4611686018427387904 by omega)
  have hp:=Bd7 hn hg hC (by omega) (hC _ (h.it_mem ha (j+1)))
  obtain⟨hd,hdb⟩:=Bd5 (hC a ha) (hC _ (h.it_mem ha (j+1))) (hC _ (h.it_mem ha (j+2)));obtain⟨b1,b2⟩:=Dc7 (l:=List.range j) (B:=63700992) λi _=>hterm i
  rw[Qky] at b1 b2;have hsum:W (s0+sig (List.range j) (λi=>D3 a (itr C n a (i+1)) (itr C n a (i+2)))+D3 a (itr C n a (j+1)) (itr C n a (j+2)))=s0+sig (List.range (j+1)) (λi=>D3 a (itr C n a (i+1)) (itr C n a (i+2))):=by
   rw[lc5];obtain⟨d1,d2⟩:=hdb;obtain⟨c1,c2⟩:=hs;rw[na2 (by omega) (by omega)]
   omega
  show Nx (N4 Stp.next Stp.exit Stp.fail _ _) _ _;simp only[N4,hp,hN];rw[btD (B7 hj)];rw[show (⟨a.x,a.y,a.z⟩:V3)=a from rfl,show (⟨(itr C n a (j+1)).x,(itr C n a (j+1)).y,(itr C n a (j+1)).z⟩:V3)=itr C n a (j+1) from rfl,
   show (⟨(nxt C n (itr C n a (j+1))).x,(nxt C n (itr C n a (j+1))).y,(nxt C n (itr C n a (j+1))).z⟩:V3)=itr C n a (j+2) from rfl,hd,hsum]
  exact .nx ⟨(s0+sig (List.range (j+1)) (λi=>D3 a (itr C n a (i+1)) (itr C n a (i+2))),itr C n a (j+2)),rfl,by omega,rfl,rfl⟩
 ·obtain⟨s,v⟩:=q;obtain⟨hj',e1,e2⟩:=hi
  simp only at e1 e2
  have e:j=C.length-2:=by omega
  subst e;refine⟨1,?_,rfl,e1⟩;show N4 Stp.next Stp.exit Stp.fail _ _=_;simp only[N4];rw[bfD (G6 (Qkr _))]
theorem ie3{a:V3}(ha:a∈C){s0:Int}(hs:Sm 100000000000000000 s0):Ha5 ⟨a.x,a.y,a.z,(C.length:Int),n.x,n.y,n.z,C.length,g,s0⟩=⟨1,s0+AR C n a⟩:=by
 obtain⟨s,h1,h2⟩:=Bd8 h hn hg hC hl ha hs;have hp:=Bd7 hn hg hC (by omega) (hC _ ha)
 have hW:W ((C.length:Int)-2)=((C.length-2:Nat):Int):=by
  have:=h.two
  rw[na2 (by omega) (by omega)];omega
 unfold Ha5 ma4;simp only[hp,hW,h1,<- h2];rfl
end
theorem ie4{p:Pln}{v:V3}(hp:okp p=true)(hv:inV v=true):(da6 p v==0)=decide (dot p.n v=p.b):=by
 unfold da6;rw[hp,hv];simp only[Bool.and_self,if_true];by_cases h1:dot p.n v-p.b<0
 ·rw[if_pos h1,decide_eq_false (by omega)];rfl
 ·rw[if_neg h1];by_cases h2:dot p.n v-p.b>0
  ·rw[if_pos h2,decide_eq_false (by omega)];rfl
  ·rw[if_neg h2,decide_eq_true (by omega)];rfl
theorem nd5 (P : K6) (p : Pln) (X : List V3) (h1 : P.ra5 = X) (h2 : P.Yc4 = (X.length : Int)) (h3 : P.H8 = p.n.x ∧ P.H9 = p.n.y ∧ P.I0 = p.n.z ∧ P.Ha7 = p.b) (hp : okp p = true) (hX : ∀ v ∈ X, inV v = true) (hl : X.length ≤ 1000000) :
  ∃j,lp (fa6 P) ⟨0,0,0,[]⟩=(phV (onF p X)+1,⟨phV (onF p X),j,(onF p X).length,bL tV (onF p X)⟩):=by
 suffices key:∃t s,lp (fa6 P) ⟨0,0,0,[]⟩=(t,s)/\(t=phV (onF p X)+1/\∃j,s=⟨phV (onF p X),j,(onF p X).length,bL tV (onF p X)⟩) by
  obtain⟨t,s,h,rfl,j,rfl⟩:=key;exact⟨j,h⟩
 refine V7 (step:=fa6 P) (mk:=λj (o:List V3)=>(⟨phV o,(j:Int),o.length,bL tV o⟩:o0)) X.length (λj o=>j<=X.length/\o=onF p (X.take j)) (λt s=>t=phV (onF p X)+1/\∃j,s=⟨phV (onF p X),j,(onF p X).length,bL tV (onF p X)⟩) (by omega)
  (λj o hj hi=>?_) (λj o hj hi=>?_) 0 [] ⟨Qkw _,by simp[onF]⟩
 ·obtain⟨_,hi⟩:=hi;have hN:=J0 hj (show X.length<=4611686018427387904 by omega)
  have hv:=hX _ (bb2 tV hj);have hlen:o.length<=1000000:=by
   rw[hi];have a1:=Qkp (λv=>decide (dot p.n v=p.b)) (X.take j)
   have a2:=List.length_take_le j X;unfold onF;omega
  have hT:onF p (X.take (j+1))=if dot p.n (gL tV X j)=p.b then o++[gL tV X j] else o:=by
   rw[bb5 tV hj,hi];unfold onF;rw[List.filter_append];by_cases hc:dot p.n (gL tV X j)=p.b
   ·rw[if_pos hc,List.filter_cons,if_pos (decide_eq_true hc)];rfl
   ·rw[if_neg hc,List.filter_cons,if_neg (by rw[decide_eq_true_eq];exact hc),List.filter_nil,Qks]
  have hside:(J2 ⟨⟨P.H8,P.H9,P.I0⟩,P.Ha7⟩ (gL tV X j)==0)=decide (dot p.n (gL tV X j)=p.b):=by
   rw[h3.1,h3.2.1,h3.2.2.1,h3.2.2.2];show (J2 p (gL tV X j)==0)=_;rw[Gb5,ie4 hp hv]
  clear hi
  cases o with
  |nil =>
   show Nx (N5 Stp.next Stp.exit Stp.fail _ _) _ _;simp only[N5,Int.toNat_natCast,h1,h2,hside,pb5,hN,k8 hj];rw[btD (B7 hj)];by_cases hc:dot p.n (gL tV X j)=p.b
   ·rw[if_pos hc] at hT;rw[decide_eq_true hc];exact Nx.nx (s:=(⟨1,((j+1:Nat):Int),1,bL tV ([]++[gL tV X j])⟩:o0)) (N:=λs=>∃o',s=(⟨phV o',((j+1:Nat):Int),o'.length,bL tV o'⟩:o0)/\(j+1<=X.length/\o'=onF p (X.take (j+1)))) ⟨[]++[gL tV X j],rfl,by omega,hT.symm⟩
   ·rw[if_neg hc] at hT;rw[decide_eq_false hc];exact Nx.nx (s:=(⟨0,((j+1:Nat):Int),0,[]⟩:o0)) ⟨[],rfl,by omega,hT.symm⟩
  |cons q o =>
   have rr:(Nat.beq (q::o).length (len (bL tV (q::o)))&&Nat.ble (((q::o).length+1)*24) room)=true:=Rd7 rfl (by omega)
   show Nx (N6 Stp.next Stp.exit Stp.fail _ _) _ _;simp only[N6,Int.toNat_natCast,h1,h2,hside,pb5,hN,k8 hj,rr,ne8];rw[btD (B7 hj)];by_cases hc:dot p.n (gL tV X j)=p.b
   ·rw[if_pos hc] at hT;rw[decide_eq_true hc];exact Nx.nx (s:=(⟨1,((j+1:Nat):Int),(q::o).length+1,bL tV ((q::o)++[gL tV X j])⟩:o0)) ⟨(q::o)++[gL tV X j],by rw[cd4,Qkx];rfl,by omega,hT.symm⟩
   ·rw[if_neg hc] at hT;rw[decide_eq_false hc];exact Nx.nx (s:=(⟨1,((j+1:Nat):Int),(q::o).length,bL tV (q::o)⟩:o0)) ⟨q::o,rfl,by omega,hT.symm⟩
 ·obtain⟨h4,hi⟩:=hi;have e:j=X.length:=by omega
  subst e;rw[Qkaa] at hi;rw[<- hi];cases o with
  |nil =>
   refine⟨1,?_,rfl,_,rfl⟩;show N5 Stp.next Stp.exit Stp.fail _ _=_;simp only[N5,h2];rw[bfD (G6 (Qkr _))]
  |cons q o =>
   refine⟨2,?_,rfl,_,rfl⟩;show N6 Stp.next Stp.exit Stp.fail _ _=_;simp only[N6,h2];rw[bfD (G6 (Qkr _))]
theorem ed4{l:List V3}(hl:l.all inV=true)(h4:Sol l):Pol (ha1 (F0 l) l):=by
 refine⟨ed1 hl h4,Od4 hl h4,(uc7 l).filter _,λv hv=>?_⟩
 obtain⟨m,hm⟩:=(Hb3 hl h4 (qa6 hl h4 hv)).1 hv;exact⟨m,λw hw hne=>hm w (qa6 hl h4 hw) hne⟩
theorem Od9{l:List V3}:(ha1 (F0 l) l).length<=l.length:=Qkab (Qkp _ _) (Cc1 l)
def V6l(X:List V3):Int:=sig (F0 X) λp=>AR (onF p X) p.n (ptF p X)
theorem Pol.v6l{X:List V3}(hX:Pol X)(o:V3):V6 X o=V6l X:=hX.from' o
section
variable{X:List V3}(hX:Pol X)(h48:X.length<=48)
include hX h48
theorem Pol.ar_bd{p:Pln}(hp:wa9 X p):Sm 3057647616 (AR (onF p X) p.n (ptF p X)):=by
 have hR:=hX.rim hp;have hi:=Qkl.1 hX.iv;have hC:∀c∈onF p X,inV c=true:=λc hc=>hi c (F5.1 hc).1
 have hpt:=hX.pt hp;have hb:=Dc7 (l:=onF p X) (B:=63700992) (f:=λa=>dot (a8 a (nxt (onF p X) p.n a)) (ptF p X)) λa ha=>(Bd5 (hC a ha) (hC _ (hR.nx_mem ha)) (hC _ hpt)).2
 have hlen:(onF p X).length<=48:=Qkab (Qkp _ _) h48
 have:(onF p X).length*63700992<=48*63700992:=Nat.mul_le_mul_right _ hlen
 exact hb.mono (by omega)
theorem Bd9:∃s,lp (fa7 ⟨((F0 X).length:Int)⟩) ⟨X,F0 X,0,0⟩=(1,s)/\s.e8=V6l X:=by
 have hF:(F0 X).length<=1000000:=Oc8 h48 hX.iv;have hi:=Qkl.1 hX.iv
 suffices key:∃t s,lp (fa7 ⟨((F0 X).length:Int)⟩) ⟨X,F0 X,0,0⟩=(t,s)/\(t=1/\s.e8=V6l X) by
  obtain⟨t,s,h,rfl,h2⟩:=key;exact⟨s,h,h2⟩
 refine V7 (step:=fa7 ⟨((F0 X).length:Int)⟩) (mk:=λj (q:Int)=>(⟨X,F0 X,(j:Int),q⟩:G7)) (F0 X).length (λj q=>j<=(F0 X).length/\q=sig ((F0 X).take j) λp=>AR (onF p X) p.n (ptF p X)) (λt s=>t=1/\s.e8=V6l X) (by omega)
  (λj q hj hq=>?_) (λj q hj hq=>?_) 0 0 ⟨Qkw _,by simp[sig]⟩
 ·obtain⟨hj',rfl⟩:=hq;have hN:=J0 hj (show (F0 X).length<=4611686018427387904 by omega)
  have hpm:gL tP (F0 X) j∈F0 X:=bb2 tP hj;have hp:=hX.mem.1 hpm;have hR:=hX.rim hp;have hC:∀c∈onF (gL tP (F0 X) j) X,inV c=true:=λc hc=>hi c (F5.1 hc).1
  have hlen:=hX.lens hp;have hl48:(onF (gL tP (F0 X) j) X).length<=48:=Qkab (Qkp _ _) h48;have bp:=Mb9 hp.ok;have np:Sm3 4608 (gL tP (F0 X) j).n:=⟨⟨bp.x1,bp.x2⟩,⟨bp.y1,bp.y2⟩,bp.z1,bp.z2⟩;have hT:(F0 X).take (j+1)=(F0 X).take j++[gL tP (F0 X) j]:=bb5 tP hj;have hbs:=Dc7 (l:=(F0 X).take j) (B:=3057647616) (f:=λp=>AR (onF p X) p.n (ptF p X)) λp hp=>hX.ar_bd h48 (hX.mem.1 (List.mem_of_mem_take hp))
  have hlt:((F0 X).take j).length*3057647616<=1000000*3057647616:=Nat.mul_le_mul_right _ (by have:=List.length_take_le j (F0 X);omega)
  have hsm:Sm 100000000000000000 (sig ((F0 X).take j) λp=>AR (onF p X) p.n (ptF p X)):=hbs.mono (by omega)
  have hpt:ptF (gL tP (F0 X) j) X=gL tV (onF (gL tP (F0 X) j) X) 0:=by
   unfold ptF;cases onF (gL tP (F0 X) j) X<;>rfl
  have hg:Bd6 (onF (gL tP (F0 X) j) X) (λk=>l9 (bL tV (onF (gL tP (F0 X) j) X)) (0+k)):=λk hk=>by
   show l9 _ (0+k)=_;rw[Qkz,ba0 tV hk]
  have h0:0<(onF (gL tP (F0 X) j) X).length:=by omega
  have hfan:=ie3 hR np hg hC hl48 (hX.pt hp) hsm;rw[hpt] at hfan;have r0:rdR tV (bL tV (onF (gL tP (F0 X) j) X)) 0=gL tV (onF (gL tP (F0 X) j) X) 0:=Ob0 h0;have l0:ldR tV (bL tV (onF (gL tP (F0 X) j) X)) 0=true:=jc2 h0;have hi0:inB 0 (onF (gL tP (F0 X) j) X).length=true:=k8 h0;have hph:phV (onF (gL tP (F0 X) j) X)=1:=by
   cases hO:onF (gL tP (F0 X) j) X with
   |nil=>rw[hO] at h0;simp at h0
   |cons a l=>rfl
  have hgt:decide (((onF (gL tP (F0 X) j) X).length:Int)>2)=true:=decide_eq_true (by omega)
  have hnext:sig ((F0 X).take j) (λp=>AR (onF p X) p.n (ptF p X))+AR (onF (gL tP (F0 X) j) X) (gL tP (F0 X) j).n (gL tV (onF (gL tP (F0 X) j) X) 0)=sig ((F0 X).take (j+1)) λp=>AR (onF p X) p.n (ptF p X):=by
   rw[hT,Zb1,j6,Ha6,Qkq,hpt]
  show Nx (N7 Stp.next Stp.exit Stp.fail _ _) _ _;obtain⟨jj,hlp⟩:=nd5 ⟨X,F0 X,((F0 X).length:Int),(j:Int),X,(X.length:Int),sig ((F0 X).take j) (λp=>AR (onF p X) p.n (ptF p X)),(gL tP (F0 X) j).n.x,(gL tP (F0 X) j).n.y,(gL tP (F0 X) j).n.z,(gL tP (F0 X) j).b,(gL tP (F0 X) j).n.x,(gL tP (F0 X) j).n.y,(gL tP (F0 X) j).n.z⟩ (gL tP (F0 X) j) X rfl rfl ⟨rfl,rfl,rfl,rfl⟩ hp.ok hi (by omega)
  rw[hph] at hlp;simp only[N7,Int.toNat_natCast,s8,p8,hlp,r0,l0,hi0,hgt,hfan,hnext,hN,k8 hj];rw[btD (B7 hj)];exact Nx.nx (s:=(⟨X,F0 X,((j+1:Nat):Int),sig ((F0 X).take (j+1)) λp=>AR (onF p X) p.n (ptF p X)⟩:G7)) (N:=λs=>∃q',s=(⟨X,F0 X,((j+1:Nat):Int),q'⟩:G7)/\(j+1<=(F0 X).length/\q'=sig ((F0 X).take (j+1)) λp=>AR (onF p X) p.n (ptF p X))) ⟨_,rfl,by omega,rfl⟩
 ·obtain⟨hj',rfl⟩:=hq;have e:j=(F0 X).length:=by omega
  subst e;refine⟨1,?_,rfl,by rw[Qkaa];rfl⟩
  show N7 Stp.next Stp.exit Stp.fail _ _=_;simp only[N7];rw[bfD (G6 (Qkr _))]
end
def V8(l:List V3):Int×Int:=if ca5 l=0 then (V6l (ha1 (F0 l) l),0) else (0,ca5 l)
theorem Sd6(l:List V3)(hl:l.length<=900000):wa1 l=some (.tup [i (V8 l).1,i (V8 l).2],[]):=by
 have c1:∀z:List V3,Ua3 z=ca2 z:=λ_=>rfl
 have c2:∀z:List V3,Ea7 z=Vb5 z:=λ_=>rfl
 have g1:Ea8 l=true:=decide_eq_true hl;unfold wa1 V8;simp only[s8,ta7,p8,c1,c2,g1];by_cases h:ca5 l=0
 ·obtain⟨h48,hin,hs⟩:=ma3 h;have hX:=ed4 hin hs;have hXl:=Od9 (l:=l);have e1:Vb5 l=(ha1 (F0 l) l,0):=by unfold Vb5;rw[if_pos h]
  have hc:ca5 (ha1 (F0 l) l)=0:=Ya2 (by omega) hX.iv hX.sol
  have e2:ca2 (ha1 (F0 l) l)=(F0 (ha1 (F0 l) l),0):=by unfold ca2;rw[if_pos hc]
  have g2:Ua4 (ha1 (F0 l) l)=true:=decide_eq_true (by omega)
  obtain⟨s,h1,h2⟩:=Bd9 hX (by omega)
  rw[if_pos h];simp only[e1,e2,g2,h1,h2];rfl
 ·have e1:Vb5 l=([],ca5 l):=by unfold Vb5;rw[if_neg h]
  have hne:(ca5 l != 0)=true:=bne_iff_ne.2 h;rw[if_neg h];simp only[e1,hne];rfl
theorem vc8(l:List V3)(hl:l.length<=900000):D6 l=V8 l:=by unfold D6;rw[Sd6 l hl];rfl
theorem vc9(l:List V3)(hl:l.length<=900000):D7 l=true:=by unfold D7;rw[Sd6 l hl];rfl
end Go.Ev.Ce
namespace Go.Ev
open Go Go.ChangeShapes Go.RowKit
structure lc6(w w':World):Prop where
 os:w'.os=w.os
 output:w'.output=w.output
 size:w.heap.size<=w'.heap.size
 block:∀k,k<w.heap.size->w'.heap[k]?=w.heap[k]?
theorem lc6.kept{w w':World}(h:lc6 w w')(may:MemPlace->Prop):w.keptBut w' may:=by
 refine⟨h.os,h.output,λi hi=>?_⟩
 rw[h.block i hi];cases w.heap[i]? with
 |none=>rfl
 |some o=>cases o<;>first | exact⟨rfl,rfl,rfl,λ_ _=>rfl⟩ | exact .inr ⟨rfl,rfl⟩ | rfl
theorem lc6.frozen{w w':World}(h:lc6 w w')(b off:Nat)(hb:b<w.heap.size):w'.frozen? ⟨b,off,none⟩=w.frozen? ⟨b,off,none⟩:=by
 simp only[World.frozen?,h.block b hb]
theorem lc6.cell{w w':World}(h:lc6 w w')(b off:Nat)(hb:b<w.heap.size):w'.cell? ⟨b,off,none⟩=w.cell? ⟨b,off,none⟩:=by
 simp only[World.cell?,h.block b hb]
theorem lc6.same{w w':World}(h:lc6 w w')(p:MemPlace)(hp:p.block<w.heap.size):w.sameAt w' p:=by
 cases p with
 |cell b off=>exact h.cell b off hp
 |map b=>exact h.block b hp
theorem mb3{α β:Type}{f:α->Option β}:∀{l:List α} {r:List β},l.mapM f=some r->r.length=l.length/\∀(j:Nat) y,r[j]?=some y->∃x,l[j]?=some x/\f x=some y
 |[],r,h=>by
  have:r=[]:=by simpa using h.symm
  subst this;simp
 |x::l,r,h=>by
  rw[List.mapM_cons] at h;obtain⟨y,h1,h2⟩:=Qkm.1 h;obtain⟨r',h3,h4⟩:=Qkm.1 h2
  have:r=y::r':=by simpa using h4.symm
  subst this;obtain⟨g1,g2⟩:=mb3 h3;refine⟨by simp[g1],λj z hz=>?_⟩
  cases j with
  |zero=>simp at hz;subst hz;exact⟨x,rfl,h1⟩
  |succ j=>simpa using g2 j z (by simpa using hz)
section
variable{D:Type}{enc:TypeId×Value->D}{P:Program}
theorem ub5 {T : TypeId → Prop} (K : Kids P T) (hsz : ∀ {t e : TypeId}, T t → P.underlying t = some (.slice e) → 0 < P.cellsOf e) {w w' : World} {sp : Nat → Bool} (hs : lc6 w w') :
  ∀{ts:List TypeId} {vs:List Value} {ds:List (DataW D)} {ps:List MemPlace},(∀t∈ts,T t)->DataW.TrodAll enc P w 0 (λ_=>true) true ts vs ds ps->(∀p∈ps,p.block<w.heap.size)->(∀p∈ps,sp p.block=true)->DataW.TrodAll enc P w' 0 sp true ts vs ds ps
 |[],[],[],_,_,h,_,_=>h
 |t::ts,v::vs,d::ds,ps,ht,h,hlt,hsp=>by
  obtain⟨p,q,⟨fuel,h1⟩,h2,rfl⟩:=h;refine⟨p,q,⟨fuel,?_⟩,ub5 K hsz hs (λt h=>ht t (by simp[h])) h2 (λx hx=>hlt x (by simp[hx])) (λx hx=>hsp x (by simp[hx])),rfl⟩
  exact DataW.trod_stays K hsz (λh=>by cases h) (ht t (by simp)) h1 (λx hx=>hs.same x (hlt x (by simp at hx ⊢;exact .inl hx))) (λx hx=>hsp x (by simp at hx ⊢;exact .inl hx))
 |[],_::_,_,_,_,h,_,_=>h.elim
 |[],[],_::_,_,_,h,_,_=>h.elim
 |_::_,[],_,_,_,h,_,_=>h.elim
 |_::_,_::_,[],_,_,h,_,_=>h.elim
theorem Cd0 {T : TypeId → Prop} (K : Kids P T) (hsz : ∀ {t e : TypeId}, T t → P.underlying t = some (.slice e) → 0 < P.cellsOf e) {f : Func} {s : ChangeSpec} {apart fresh handsOn again : Bool} {W W' : World} {args : Array Value} {ds gs : List (DataW D)} {before : List MemPlace} {tb : TypeId}
  (hT:∀t∈f.params.toList,T t) (hW:DataW.Whole enc P f.params.toList s.vars apart W args.toList ds gs before) (hv:s.vars=[]) (hr:f.resultTypes=#[tb]) (hb:P.underlying tb=some .bool)
  (h1:(s.fn D ds).results=[.lit (.bool true)]) (h2:(s.fn D ds).args=ds) (h3:(s.fn D ds).vars=[]) (hs:lc6 W W') :
  s.post enc P f apart fresh handsOn again W args (.bool true) W':=by
 have hlt:=hW.lt;obtain⟨pa,pv,hA,hV,hps,hz,hn⟩:=id hW;rw[hv] at hV;have hpv:gs=[]/\pv=[]:=by
  cases gs with
  |nil=>exact⟨rfl,hV⟩
  |cons=>exact hV.elim
 obtain⟨rfl,rfl⟩:=hpv;rw[<- Qks ds] at h1 h3;have h2:(s.fn D (ds++[])).args=ds:=by rw[Qks];exact h2
 have hpa:before=pa:=by rw[hps];simp
 subst hpa;have hagain:∀sp:Nat->Bool,(∀p∈before,sp p.block=true)->DataW.TrodAll enc P W' 0 sp true f.params.toList args.toList ds before:=λsp h=>ub5 K hsz hs hT hA hlt h
 have hres:∀(b:Nat) (sp:Nat->Bool) (hd:Bool),DataW.TrodAll enc P W' b sp hd f.resultTypes.toList ((Value.bool true).resultList f.resultTypes.size) [.lit (.bool true)] []:=λb sp hd=>by
  rw[hr];exact⟨[],[],⟨1,by simp[DataW.trod,hb,Value.cells,Value.resultList]⟩,rfl,rfl⟩
 have hvars:∀sp:Nat->Bool,DataW.TrodVars enc P W' sp s.vars ([]:List (DataW D)) []:=λsp=>by rw[hv];exact rfl
 have hok:∀(j:Nat) (t:TypeId) (r:Value),f.resultTypes[j]?=some t->((Value.bool true).resultList f.resultTypes.size)[j]?=some r->Value.okWide P W' .any 0 t r:=by
  rw[hr];intro j t r h4 h5;cases j with
  |zero =>
   simp at h4
   subst h4
   have:r=.bool true:=by simpa [Value.resultList] using h5.symm
   subst this;exact okWide_bool_mk hb _
  |succ j=>simp at h4
 have hag:DataW.TrodAll enc P W' 0 (λ_=>true) true (f.resultTypes.toList++f.params.toList) ((Value.bool true).resultList f.resultTypes.size++args.toList) (.lit (.bool true)::ds) before:=by
  have:=hagain (λ_=>true) (λ_ _=>rfl)
  rw[hr];exact⟨[],before,⟨1,by simp[DataW.trod,hb,Value.cells,Value.resultList]⟩,this,rfl⟩
 refine⟨ds,[],before,[],before,[],hW,?_,?_,?_,hs.kept _,λ_=>?_⟩
 ·rw[h1];exact hres _ _ _
 ·rw[h2];exact hagain _ λp hp=>by simpa using hlt p hp
 ·rw[h3];exact hvars _
 ·refine⟨hok,.lit (.bool true)::ds,[],before,⟨before,[],hag,hvars _,by simp,?_,?_⟩,?_⟩
  ·intro b off hp;rw[hs.frozen b off (hlt _ hp)];exact hz b off (by simpa using hp)
  ·intro ha;simpa using hn ha
  ·intro p hp _;exact hp
variable{w:World}{base:Nat}{spare:Nat->Bool}{held:Bool}
def Xc9(w:World):Fz:=λb o=>(w.cell? ⟨b,o,none⟩).isSome
theorem be4 {fuel : Nat} {t : TypeId} {k : IntKind} {cs : List Value} {x : DataW D × List MemPlace} (ht : P.underlying t = some (.int k)) (h : DataW.trod enc P w base spare held fuel t cs = some x) :
  ∃n,cs=[.int k n]/\(Lit.int k n).wf=true/\x.1=.lit (.int k n):=by
 cases fuel with
 |zero=>cases h
 |succ fuel =>
  match cs,h with
  |[],h=>simp[DataW.trod,ht] at h
  |[v],h =>
   cases v with
   |int k' n =>
    simp only[DataW.trod,ht] at h
    split at h
    ·rename_i hk;obtain⟨rfl,hw⟩:=hk;injection h with h;subst h
     exact⟨n,rfl,hw,rfl⟩
    ·cases h
   |_=>simp[DataW.trod,ht] at h
  |a::b::r,h=>simp[DataW.trod,ht] at h
theorem Pd0 {fuel : Nat} {t : TypeId} {cs : List Value} {x : DataW D × List MemPlace} (ht : P.underlying t = some .bool) (h : DataW.trod enc P w base spare held fuel t cs = some x) :
  ∃n,cs=[.bool n]/\x.1=.lit (.bool n):=by
 cases fuel with
 |zero=>cases h
 |succ fuel =>
  match cs,h with
  |[],h=>simp[DataW.trod,ht] at h
  |[v],h =>
   cases v with
   |bool n =>
    simp only[DataW.trod,ht] at h;injection h with h;subst h
    exact⟨n,rfl,rfl⟩
   |_=>simp[DataW.trod,ht] at h
  |a::b::r,h=>simp[DataW.trod,ht] at h
theorem Cd1 {fuel : Nat} {t e : TypeId} {n : Nat} {cs : List Value} {x : DataW D × List MemPlace} (ht : P.underlying t = some (.array n e)) (h : DataW.trod enc P w base spare held fuel t cs = some x) :
  cs.length=P.cellsOf t/\∃(fuel':Nat) (xs:List (DataW D×List MemPlace)),xs.length=n/\x.1=.agg (xs.map (·.1))/\∀(j:Nat) y,xs[j]?=some y->DataW.trod enc P w base spare held fuel' e ((cs.drop (j*P.cellsOf e)).take (P.cellsOf e))=some y:=by
 cases fuel with
 |zero=>cases h
 |succ fuel =>
  unfold DataW.trod at h;rw[ht] at h
  simp only at h
  split at h
  ·rename_i hl;obtain⟨xs,h1,h2⟩:=Qkad.1 h;have hx:=mb3 h1;exact⟨hl,fuel,xs,by simpa using hx.1,by rw[<- h2],λj y hy=>by
    obtain⟨a,ha,hb⟩:=hx.2 j y hy
    have:j<n:=by
     have:=(List.getElem?_eq_some_iff.1 hy).1
     rw[hx.1] at this;simpa using this
    rw[Qku this] at ha;injection ha with ha;subst ha;exact hb⟩
  ·cases h
theorem nd6 {fuel : Nat} {t : TypeId} {fs : Array Field} {cs : List Value} {x : DataW D × List MemPlace} (ht : P.underlying t = some (.struct fs)) (h : DataW.trod enc P w base spare held fuel t cs = some x) :
  cs.length=P.cellsOf t/\∃(fuel':Nat) (xs:List (DataW D×List MemPlace)),xs.length=fs.size/\x.1=.agg (xs.map (·.1))/\∀(j:Nat) f,fs[j]?=some f->∃y,xs[j]?=some y/\DataW.trod enc P w base spare held fuel' f.type ((cs.drop f.offset).take (P.cellsOf f.type))=some y:=by
 cases fuel with
 |zero=>cases h
 |succ fuel =>
  unfold DataW.trod at h;rw[ht] at h
  simp only at h
  split at h
  ·rename_i hl;obtain⟨xs,h1,h2⟩:=Qkad.1 h;have hx:=mb3 h1;refine⟨hl,fuel,xs,by simpa using hx.1,by rw[<- h2],λj f hf=>?_⟩
   have hj:j<xs.length:=by
    rw[hx.1];simpa using (Array.getElem?_eq_some_iff.1 hf).1
   obtain⟨a,ha,hb⟩:=hx.2 j _ (Qkg hj)
   have:a=f:=by
    have:fs.toList[j]?=some f:=by simpa using hf
    exact Option.some.inj (ha.symm.trans this)
   subst this;exact⟨_,Qkg hj,hb⟩
  ·cases h
theorem Cd2 {fuel : Nat} {t e : TypeId} {cs : List Value} {x : DataW D × List MemPlace} (ht : P.underlying t = some (.slice e)) (h : DataW.trod enc P w base spare held fuel t cs = some x) :
  cs=[.slice none 0 0]\/∃(a:Addr) (n cap fuel':Nat),cs=[.slice (some a) n cap]/\n<=cap/\cap<=maxLen/\∀j,j<n->∃row y,w.cells? base (a.add (j*P.cellsOf e)) (P.cellsOf e)=some row/\DataW.trod enc P w base spare held fuel' e row=some y:=by
 cases fuel with
 |zero=>cases h
 |succ fuel =>
  match cs,h with
  |[],h=>simp[DataW.trod,ht] at h
  |[v],h =>
   cases v with
   |slice a len cap =>
    cases a with
    |none =>
     simp only[DataW.trod,ht] at h
     split at h<;>first | (rename_i e1;cases e1;done) | skip
     all_goals first | exact .inl rfl | (simp_all;done) | skip
    |some a =>
     refine .inr ?_;simp only[DataW.trod,ht] at h
     split at h
     ·rename_i hc;obtain⟨elems,h1,h2⟩:=Qkm.1 h;have hx:=mb3 h1;refine⟨a,len,cap,fuel,rfl,hc.2.1,hc.2.2,λj hj=>?_⟩
      have hj':j<elems.length:=by rw[hx.1];simpa using hj
      obtain⟨i,hi,hb⟩:=hx.2 j _ (Qkg hj');rw[Qku hj] at hi;injection hi with hi;subst hi;obtain⟨row,r1,r2⟩:=Qkm.1 hb;exact⟨row,_,r1,r2⟩
     ·cases h
   |_=>simp[DataW.trod,ht] at h
  |a::b::r,h=>simp[DataW.trod,ht] at h
theorem ed5:∀(d:Nat) (t:TypeId) (l:List (Nat×CK)),R7 P d t=some l->∀(fuel:Nat) (cs:List Value) (x:DataW D×List MemPlace),DataW.trod enc P w base spare held fuel t cs=some x->∀p∈l,ka6 cs.toArray p
 |0,_,_,h,_,_,_,_=>by cases h
 |d+1,t,l,h,fuel,cs,x,hx=>by
  have hpart:∀{off n:Nat} {e:TypeId} {l':List (Nat×CK)} {fuel':Nat} {y:DataW D×List MemPlace},gb5 off n (R7 P d e)=some l'->DataW.trod enc P w base spare held fuel' e ((cs.drop off).take n)=some y->∀p∈l',ka6 cs.toArray p:=λ{off n e l' fuel' y} h1 h2 p hp=>by
   obtain⟨l2,g1,g2,rfl⟩:=ra6 h1;obtain⟨q,hq,rfl⟩:=Qko.1 hp
   have:=ed5 d e l2 g1 fuel' _ y h2 q hq
   have hlt:=g2 q hq;unfold ka6 at this ⊢;simp only[List.getElem?_toArray,List.getElem?_take,hlt,if_true,List.getElem?_drop] at this ⊢;exact this
  have hcat:∀{α:Type} (f:α->Option (List (Nat×CK))) (xs:List α) (l:List (Nat×CK)),Z1 (xs.map f)=some l->∀p∈l,∃a∈xs,∃l',f a=some l'/\p∈l':=λ{α} f xs=>by
   induction xs with
   |nil=>intro l h;simp only[List.map_nil,Z1] at h;injection h with h;subst h;simp
   |cons a xs ih =>
    intro l h p hp;simp only[List.map_cons,Z1] at h;cases h1:f a with
    |none=>simp[h1] at h
    |some l1 =>
    cases h2:Z1 (xs.map f) with
    |none=>simp[h1,h2] at h
    |some l2 =>
    simp only[h1,h2] at h;injection h with h;subst h
    rcases Qke.1 hp with hp|hp
    ·exact⟨a,by simp,l1,h1,hp⟩
    ·obtain⟨b,hb,r⟩:=ih l2 h2 p hp;exact⟨b,by simp[hb],r⟩
  unfold R7 at h;cases hu:P.underlying t with
  |none=>simp[hu] at h
  |some u =>
  cases u with
  |int k =>
   simp only[hu] at h;injection h with h;subst h
   obtain⟨n,rfl,_,_⟩:=be4 hu hx;intro p hp;simp at hp;subst hp;exact⟨n,rfl⟩
  |bool =>
   simp only[hu] at h;injection h with h;subst h
   obtain⟨n,rfl,_⟩:=Pd0 hu hx;intro p hp;simp at hp;subst hp;exact⟨n,rfl⟩
  |struct fs =>
   simp only[hu] at h
   split at h
   ·cases h
   obtain⟨_,fuel',xs,_,_,hxs⟩:=nd6 hu hx;intro p hp;obtain⟨f,hf,l',h1,h2⟩:=hcat _ _ _ h p hp
   split at h1
   ·cases h1
   obtain⟨j,hj⟩:=List.getElem?_of_mem hf;obtain⟨y,_,hy⟩:=hxs j f (by simpa using hj)
   have hc:P.cellsOf f.type=szT P f.type:=by
    unfold Program.cellsOf szT;cases P.info? f.type<;>rfl
   rw[hc] at hy;exact hpart h1 hy p h2
  |array n e =>
   simp only[hu] at h
   split at h
   case isFalse=>cases h
   obtain⟨_,fuel',xs,hn,_,hxs⟩:=Cd1 hu hx;intro p hp;obtain⟨j,hj,l',h1,h2⟩:=hcat _ _ _ h p hp;have hj':j<xs.length:=by rw[hn];simpa using hj
   have hy:=hxs j _ (Qkg hj');have hc:P.cellsOf e=szT P e:=by
    unfold Program.cellsOf szT;cases P.info? e<;>rfl
   rw[hc] at hy;exact hpart h1 hy p h2
  |_=>simp[hu] at h
def za0(k:IntKind)(es:Nat)(g:Nat->Int):List a7:=(List.range es).map λc=>.v (.int k (g c))
def xa7(k:IntKind)(es:Nat):List (Nat×CK):=(List.range es).map λc=>(c,.int k)
theorem Pd1 {d : Nat} {t : TypeId} {k : IntKind} {es : Nat} (hf : R7 P d t = some (xa7 k es)) {fuel : Nat} {cs : List Value} {x : DataW D × List MemPlace} (hx : DataW.trod enc P w base spare held fuel t cs = some x) (hl : cs.length = es) :
  ∃g:Nat->Int,∀c,c<es->cs[c]?=some (.int k (g c)):=by
 have h:=ed5 d t _ hf fuel cs x hx;have h':∀c,∃n:Int,c<es->cs[c]?=some (.int k n):=λc=>by
  by_cases hc:c<es
  ·have:=h (c,.int k) (Qko.2 ⟨c,by simpa using hc,rfl⟩)
   obtain⟨n,hn⟩:=this;exact⟨n,λ_=>by simpa using hn⟩
  ·exact⟨0,λh=>absurd h hc⟩
 exact⟨λc=>Classical.choose (h' c),λc hc=>Classical.choose_spec (h' c) hc⟩
theorem Cd3{F:Fz}{w:World}(k:IntKind)(n:Int):Q9 F w (.v (.int k n)) (.int k n):=.v _ rfl
theorem Yc0{k:IntKind}{es:Nat}{g:Nat->Int}{c:Nat}{x:a7}(h:(za0 k es g)[c]?=some x):c<es/\x=.v (.int k (g c)):=by
 unfold za0 at h;obtain⟨h1,h2⟩:=ta4 h;exact⟨h1,h2.symm⟩
theorem pc7 {t e : TypeId} {k : IntKind} {es d : Nat} (ht : P.underlying t = some (.slice e)) (hf : R7 P d e = some (xa7 k es)) (hes : P.cellsOf e = es) (h0 : 0 < es) {fuel : Nat} {cs : List Value} {x : DataW D × List MemPlace} (hx : DataW.trod enc P w 0 spare held fuel t cs = some x) :
  ∃(v:Value) (n:Nat) (g:Nat->Nat->Int),cs=[v]/\n<=maxLen/\Q9 (Xc9 w) w (.tree es n λj=>za0 k es (g j)) v:=by
 rcases Cd2 ht hx with rfl|⟨a,n,cap,fuel',rfl,hn,hc,hel⟩
 ·exact⟨_,0,λ_ _=>0,rfl,Qkw _,.nil _ _⟩
 ·rw[hes] at hel;have hcell:∀j,j<n->∃g:Nat->Int,∀c,c<es->w.cell? ((a.add (j*es)).add c)=some (.int k (g c)):=λj hj=>by
   obtain⟨row,y,h1,h2⟩:=hel j hj;unfold World.cells? at h1
   split at h1
   ·obtain⟨l1,l2⟩:=mb3 h1;have hl:row.length=es:=by simpa using l1
    obtain⟨g,hg⟩:=Pd1 hf h2 hl;refine⟨g,λc hc=>?_⟩
    obtain⟨i,hi,hi2⟩:=l2 c _ (hg c hc);rw[Qku hc] at hi;injection hi with hi;subst hi;exact hi2
   ·cases h1
  have hg:∀j,∃g:Nat->Int,j<n->∀c,c<es->w.cell? ((a.add (j*es)).add c)=some (.int k (g c)):=λj=>by
   by_cases hj:j<n
   ·obtain⟨g,hg⟩:=hcell j hj;exact⟨g,λ_=>hg⟩
   ·exact⟨λ_=>0,λh=>absurd h hj⟩
  obtain⟨g,hg⟩:=Classical.axiomOfChoice hg;have hspot:0<n->a.spot=none:=λhn=>by
   have:=hg 0 hn 0 h0
   simpa [Addr.add] using World.cell?_spot this
  have hw:∀j c,j<n->c<es->w.cell? ⟨a.block,a.off+(j*es+c),none⟩=some (.int k (g j c)):=λj c hj hc=>by
   have:=hg j hj c hc
   rw[O1 (hspot (by omega)),O1 rfl] at this
   simpa [Nat.add_assoc] using this
  refine⟨_,n,g,rfl,Qkab hn hc,.tree es n _ a cap (λj c=>.int k (g j c)) hspot hn (λi hi=>by simp[za0]) (λi c hi hc=>?_) hw λi c hi hc=>?_⟩
  ·unfold Xc9;rw[hw i c hi hc];rfl
  ·have:=(Yc0 (Qkg hc)).2
   rw[this];exact Cd3 _ _
theorem nd7(w:World):q9 (λk=>w.heap.size<=k) (λ_=>⟨0,0,0⟩) [] (Xc9 w) w :=
 ⟨λid b h=>by simp at h,λid id' b b' h=>by simp at h,λ_ _ h=>h,λ_ h=>h⟩
theorem nd8 {G : Nat → List Value} {f : FuncId} {S : Sum} (hS : g9 P G f S) {aargs : List a7} {args : List Value} (hrun : ∃ out, (S aargs []).run = some (b true, out)) (hl : aargs.length = args.length)
  (ha:∀(i:Nat) x x',aargs[i]?=some x->args[i]?=some x'->T7 (λ_=>⟨0,0,0⟩) [] (Xc9 w) w x x') (hG:∀g (c:Nat) x,(G g)[c]?=some x->x.oneCell'=true/\w.cell? ⟨g,c,none⟩=some x) :
  Calls P f args.toArray w λe w'=>e=.returned (.bool true)/\lc6 w w':=by
 obtain⟨out,hrun⟩:=hrun;obtain⟨_,hc⟩:=hS aargs [] (b true) out hrun (λk=>w.heap.size<=k) (λ_=>⟨0,0,0⟩) (Xc9 w) w args (nd7 w) hl (λi x x' h1 h2=>.val (ha i x x' h1 h2)) (λg c x hx=>by
  obtain⟨h1,h2⟩:=hG g c x hx;exact⟨h1,by unfold Xc9;rw[h2];rfl,h2⟩)
 refine hc.mono λe w' ⟨r',he,ρ',F',hA,hH,hW⟩=>?_
 have:=U7 hW
 subst this;exact⟨he,hA.ext.os,hA.ext.output,hA.ext.size,λk hk=>hA.ext.block k hk (by omega)⟩
theorem nd9 {ρ : Rho} {H : List c7} {t e : TypeId} {k : IntKind} {es d : Nat} {v : Value} {dd : DataW D} {pp : List MemPlace} {bs : Nat} {r : Reach} (ht : P.underlying t = some (.slice e)) (hf : R7 P d e = some (xa7 k es)) (hes : P.cellsOf e = es) (h0 : 0 < es)
  (hok:Value.okWide P w r bs t v) (h:DataW.Trod enc P w 0 spare held t v dd pp):∃(n:Nat) (g:Nat->Nat->Int),n<=maxLen/\T7 ρ H (Xc9 w) w (.tree es n λj=>za0 k es (g j)) v:=by
 obtain⟨fuel,hx⟩:=h;obtain⟨v',n,g,h1,h2,h3⟩:=pc7 ht hf hes h0 hx;have hv:v.cells=#[v]:=by
  unfold Value.okWide at hok;rw[ht] at hok;cases v with
  |agg cs=>exfalso;simp[Cell.okWide,Cell.ok,ht] at hok
  |_=>rfl
 rw[hv] at h1
 have:v=v':=by simpa using h1
 subst this;exact⟨n,g,h2,.cell (.mem h3)⟩
end
end Go.Ev
namespace Go.Ev.L
open Go Go.Ev
theorem Cd4 {α : Type} (t : Ty α) (n : Nat) (g : Nat → Nat → Int) (f : (Nat → Int) → α) (h : ∀ j, za0 .i64 t.es (g j) = t.row (f (g j))) :
  ∃l,(Ba4 t).dec (.tree t.es n λj=>za0 .i64 t.es (g j))=some l/\(Ba4 t).grd (.tree t.es n λj=>za0 .i64 t.es (g j))=true:=by
 refine⟨lsL t n λj=>za0 .i64 t.es (g j),?_,Ra7 t (f:=λk=>f (g k)) λk _=>h k⟩
 show Bool.rec (motive:=λ_=>Option (List α)) none (some (lsL t n λj=>za0 .i64 t.es (g j))) (Nat.beq t.es t.es)=_
 rw[Nat.beq_refl]
def Rdg{α:Type}(c:Cod α)(x:a7)(a:α):Prop:=c.dec x=some a/\c.grd x=true
theorem Cd5{α:Type}(t:Ty α)(n:Nat)(g:Nat->Nat->Int)(f:(Nat->Int)->α)(h:∀j,za0 .i64 t.es (g j)=t.row (f (g j))):∃l,Rdg (Ba4 t) (.tree t.es n λj=>za0 .i64 t.es (g j)) l:=Cd4 t n g f h
theorem Cd6(n:Nat)(g:Nat->Nat->Int):∃l,Rdg (Ba4 tI) (.tree 1 n λj=>za0 .i64 1 (g j)) l:=Cd5 tI n g (λg=>g 0) λ_=>rfl
section
variable{α β γ δ ε:Type}{c:Cod α}{d:Cod β}{e:Cod γ}{f:Cod δ}{c5:Cod ε}{x y z w v:a7}{a:α}{b':β}{g:γ}{j:δ}{m:ε}{r:a7×List c7}
theorem ne9{k:α->DT (a7×List c7)}(h1:Rdg c x a)(h:(k a).run=some r):(O8 c k [x] []).run=some r:=by
 unfold O8;simp only[h1.1,h1.2];exact h
end
theorem be5{g p:Bool}(hg:g=true)(hp:p=true):(DT.guard g (.ret ((one r1B).enc p,([]:List c7)))).run=some (b true,([]:List c7)):=by subst hg;subst hp;rfl
end Go.Ev.L
namespace Go.Ev.Ce
open Go Go.Ev Go.Ev.L Go.Proofs
structure B3 where
 b0:Int
 b1:Int
 b2:Int
structure B2 where
 d0:Int
 d1:Int
structure LL where
 u:List Int
 v:List Int
set_option maxRecDepth 100000
def pc8:List (Nat×Sum):=[]
theorem lc7:n8 prog G pc8:=trivial
def wa4(x:V3)(y:V3):Option (a7×List c7):=(sl (decide (y.x<=x.x)) (some (i 0,[])) (sl (decide (y.y<=x.y)) (some (i 0,[])) (sl (decide (y.z<=x.z)) (some (i 0,[])) (some (i (W ((W ((W (y.x-x.x))*(W (y.y-x.y))))*(W (y.z-x.z)))),[])))))
def H7(x:V3)(y:V3):Int:=T8 (one r1I) (wa4 x y)
def O0(x:V3)(y:V3):Bool:=okO (one r1I) (wa4 x y)
def cb7:Sum:=Oa1 (ta8 tV) (ta8 tV) (λx y=>.guard (O0 x y) (.ret ((one r1I).enc (H7 x y),[])))
theorem ub6:g9 prog G 13 cb7:=Sb0 (bd b13 lc7) (one r1I) (o:=wa4) λx y=>F8 (by kernel_rfl)
def lc8:List (Nat×Sum):=[(9,wa2),(37,kc0),(13,cb7)]
theorem Wb5:n8 prog G lc8:=⟨Aa8,Oc9,ub6,trivial⟩
def pa2(x:List V3)(y:V3)(z:V3):Option (a7×List c7):=let t1:=(D6 (rt tV x));let t2:=(cb1 (rt tV x));let t3:=(H7 (⟨(if t2.1.x>y.x then t2.1.x else y.x),(if t2.1.y>y.y then t2.1.y else y.y),(if t2.1.z>y.z then t2.1.z else y.z)⟩:V3) (⟨(if t2.2.1.x<z.x then t2.2.1.x else z.x),(if t2.2.1.y<z.y then t2.2.1.y else z.y),(if t2.2.1.z<z.z then t2.2.1.z else z.z)⟩:V3));(sl (okE tV x) (sl (D7 (rt tV x)) (sl (t1.2 != 0) (some (.tup [i 0,i t1.2],[])) (sl (okE tV x) (sl (cb2 (rt tV x)) (sl (O0 (⟨(if t2.1.x>y.x then t2.1.x else y.x),(if t2.1.y>y.y then t2.1.y else y.y),(if t2.1.z>y.z then t2.1.z else y.z)⟩:V3) (⟨(if t2.2.1.x<z.x then t2.2.1.x else z.x),(if t2.2.1.y<z.y then t2.2.1.y else z.y),(if t2.2.1.z<z.z then t2.2.1.z else z.z)⟩:V3)) (some ((.tup [(i (if (W (6*t3))<t1.1 then (W (6*t3)) else t1.1)),i 0]),[])) none) none) none)) none) none)
def Aa9(x:List V3)(y:V3)(z:V3):Int×Int:=T8 (two r1I r1I) (pa2 x y z)
def Ba0(x:List V3)(y:V3)(z:V3):Bool:=okO (two r1I r1I) (pa2 x y z)
def ub7:Sum:=nc2 (Ba4 tV) (ta8 tV) (ta8 tV) (λx y z=>.guard (Ba0 x y z) (.ret ((two r1I r1I).enc (Aa9 x y z),[])))
theorem lc9:g9 prog G 23 ub7:=de8 (bd b23 Wb5) (two r1I r1I) (o:=pa2) λx y z=>F8 (by kernel_rfl)
def Dc8:List (Nat×Sum):=[]
theorem pc9:n8 prog G Dc8:=trivial
def A0(x:Int)(y:Int)(z:Int):V3:=(⟨x,y,z⟩:V3)
def Rb0:Sum:=nc2 cI cI cI (λx y z=>.ret ((one r1V).enc (A0 x y z),[]))
theorem Dc9:g9 prog G 10 Rb0:=Zc5 (bd b10 pc9) λx y z=>F8 (by kernel_rfl)
def Ec0:List (Nat×Sum):=[(9,wa2)]
theorem qc0:n8 prog G Ec0:=⟨Aa8,trivial⟩
def Ca3(x:List V3)(y:Int):Option (a7×List c7):=let t1:=(D6 (rt tV x));(sl (okE tV x) (sl (D7 (rt tV x)) (sl (t1.2==0) (some (b (t1.1==y),[])) (some (b false,[]))) none) none)
def ka1(x:List V3)(y:Int):Bool:=T8 (one r1B) (Ca3 x y)
def ka2(x:List V3)(y:Int):Bool:=okO (one r1B) (Ca3 x y)
def Rb1:Sum:=Oa1 (Ba4 tV) cI (λx y=>.guard (ka2 x y) (.ret ((one r1B).enc (ka1 x y),[])))
theorem Ec1:g9 prog G 11 Rb1:=Sb0 (bd b11 qc0) (one r1B) (o:=Ca3) λx y=>F8 (by kernel_rfl)
def qc1:List (Nat×Sum):=[(23,ub7)]
theorem mc0:n8 prog G qc1:=⟨lc9,trivial⟩
def wa5(x:List V3)(y:V3)(z:V3)(w:Int):Option (a7×List c7):=let t1:=(Aa9 (rt tV x) y z);(sl (okE tV x) (sl (Ba0 (rt tV x) y z) (sl (t1.2==0) (some (b (t1.1==w),[])) (some (b false,[]))) none) none)
def T1(x:List V3)(y:V3)(z:V3)(w:Int):Bool:=T8 (one r1B) (wa5 x y z w)
def da8(x:List V3)(y:V3)(z:V3)(w:Int):Bool:=okO (one r1B) (wa5 x y z w)
def Hb5:Sum:=hd9 (Ba4 tV) (ta8 tV) (ta8 tV) cI (λx y z w=>.guard (da8 x y z w) (.ret ((one r1B).enc (T1 x y z w),[])))
theorem qc2:g9 prog G 14 Hb5:=je5 (bd b14 mc0) (one r1B) (o:=wa5) λx y z w=>F8 (by kernel_rfl)
def Wb6:List (Nat×Sum):=[(10,Rb0),(9,wa2),(11,Rb1),(12,ub0),(13,cb7),(14,Hb5)]
theorem Ob7:n8 prog G Wb6:=⟨Dc9,Aa8,Ec1,kc2,ub6,qc2,trivial⟩
def ka3  : Option (a7×List c7):=let t1:=(A0 0 0 0);let t2:=(A0 5 5 5);let t3:=(A0 2 0 0);let t4:=(A0 0 2 0);let t5:=(A0 0 0 2);let t6:=(A0 1 0 0);let t7:=(A0 0 1 0);let t8:=(A0 1 1 0);let t9:=(D6 [t1,t6,t7,t8]);let t10:=(D6 [(⟨0,0,0⟩:V3),(⟨0,0,0⟩:V3),(⟨0,0,0⟩:V3),(⟨0,0,0⟩:V3),(⟨0,0,0⟩:V3),(⟨0,0,0⟩:V3),(⟨0,0,0⟩:V3),(⟨0,0,0⟩:V3),(⟨0,0,0⟩:V3),(⟨0,0,0⟩:V3),(⟨0,0,0⟩:V3),(⟨0,0,0⟩:V3),(⟨0,0,0⟩:V3),(⟨0,0,0⟩:V3),(⟨0,0,0⟩:V3),(⟨0,0,0⟩:V3),(⟨0,0,0⟩:V3),(⟨0,0,0⟩:V3),(⟨0,0,0⟩:V3),(⟨0,0,0⟩:V3),(⟨0,0,0⟩:V3),(⟨0,0,0⟩:V3),(⟨0,0,0⟩:V3),(⟨0,0,0⟩:V3),(⟨0,0,0⟩:V3),(⟨0,0,0⟩:V3),(⟨0,0,0⟩:V3),(⟨0,0,0⟩:V3),(⟨0,0,0⟩:V3),(⟨0,0,0⟩:V3),(⟨0,0,0⟩:V3),(⟨0,0,0⟩:V3),(⟨0,0,0⟩:V3),(⟨0,0,0⟩:V3),(⟨0,0,0⟩:V3),(⟨0,0,0⟩:V3),(⟨0,0,0⟩:V3),(⟨0,0,0⟩:V3),(⟨0,0,0⟩:V3),(⟨0,0,0⟩:V3),(⟨0,0,0⟩:V3),(⟨0,0,0⟩:V3),(⟨0,0,0⟩:V3),(⟨0,0,0⟩:V3),(⟨0,0,0⟩:V3),(⟨0,0,0⟩:V3),(⟨0,0,0⟩:V3),(⟨0,0,0⟩:V3),(⟨0,0,0⟩:V3)]);let t11:=(ka1 [t1,t3,t4,t5] 8);let t12:=(A0 1 2 3);let t13:=(Ua0 t1 t12);let t14:=(ka1 (rt tV t13) 36);let t15:=(H7 t1 t12);let t16:=(A0 1 0 3);let t17:=(H7 t1 t16);let t18:=(A0 (-1) (-1) 3);let t19:=(H7 t1 t18);let t20:=(A0 1 1 1);let t21:=(T1 [t1,t3,t4,t5] t1 t20 6);let t22:=(T1 [t1,t3,t4,t5] t1 t2 8);let t23:=(A0 3 0 0);let t24:=(A0 4 4 4);let t25:=(T1 [t1,t3,t4,t5] t23 t24 0);let w0:Option (a7×List c7):=(sl (O0 t1 t12) (sl (t15==6) (sl (O0 t1 t16) (sl (t17==0) (sl (O0 t1 t18) (some (b false,[])) none) (some (b false,[]))) none) (some (b false,[]))) none);(sl (D7 [t1,t6,t7,t8]) (sl (D7 [(⟨0,0,0⟩:V3),(⟨0,0,0⟩:V3),(⟨0,0,0⟩:V3),(⟨0,0,0⟩:V3),(⟨0,0,0⟩:V3),(⟨0,0,0⟩:V3),(⟨0,0,0⟩:V3),(⟨0,0,0⟩:V3),(⟨0,0,0⟩:V3),(⟨0,0,0⟩:V3),(⟨0,0,0⟩:V3),(⟨0,0,0⟩:V3),(⟨0,0,0⟩:V3),(⟨0,0,0⟩:V3),(⟨0,0,0⟩:V3),(⟨0,0,0⟩:V3),(⟨0,0,0⟩:V3),(⟨0,0,0⟩:V3),(⟨0,0,0⟩:V3),(⟨0,0,0⟩:V3),(⟨0,0,0⟩:V3),(⟨0,0,0⟩:V3),(⟨0,0,0⟩:V3),(⟨0,0,0⟩:V3),(⟨0,0,0⟩:V3),(⟨0,0,0⟩:V3),(⟨0,0,0⟩:V3),(⟨0,0,0⟩:V3),(⟨0,0,0⟩:V3),(⟨0,0,0⟩:V3),(⟨0,0,0⟩:V3),(⟨0,0,0⟩:V3),(⟨0,0,0⟩:V3),(⟨0,0,0⟩:V3),(⟨0,0,0⟩:V3),(⟨0,0,0⟩:V3),(⟨0,0,0⟩:V3),(⟨0,0,0⟩:V3),(⟨0,0,0⟩:V3),(⟨0,0,0⟩:V3),(⟨0,0,0⟩:V3),(⟨0,0,0⟩:V3),(⟨0,0,0⟩:V3),(⟨0,0,0⟩:V3),(⟨0,0,0⟩:V3),(⟨0,0,0⟩:V3),(⟨0,0,0⟩:V3),(⟨0,0,0⟩:V3),(⟨0,0,0⟩:V3)]) (sl (ka2 [t1,t3,t4,t5] 8) (sl t11 (sl (Ua1 t1 t12) (sl (okE tV t13) (sl (ka2 (rt tV t13) 36) (sl t14 (sl (t9.2==11) (sl (O0 t1 t12) (sl (t15==6) (sl (O0 t1 t16) (sl (t17==0) (sl (O0 t1 t18) (sl (t10.2==2) (sl (t19==0) (sl (da8 [t1,t3,t4,t5] t1 t20 6) (sl t21 (sl (da8 [t1,t3,t4,t5] t1 t2 8) (sl t22 (sl (da8 [t1,t3,t4,t5] t23 t24 0) (some (b t25,[])) none) (some (b false,[]))) none) (some (b false,[]))) none) (some (b false,[]))) (some (b false,[]))) none) (sl (t10.2==2) (some (b false,[])) (some (b false,[])))) none) (sl (t10.2==2) (some (b false,[])) (some (b false,[])))) none) w0) w0) none) none) none) w0) none) none) none)
def wa6  : Bool:=T8 (one r1B) ka3
def wa7  : Bool:=okO (one r1B) ka3
def mb4:Sum:=Sc7  (.guard wa7 (.ret ((one r1B).enc wa6,[])))
theorem Wb7:g9 prog G 4 mb4:=je4 (bd b4 Ob7) (one r1B) (o:=ka3) (F8 (by kernel_rfl))
def bxS(s:V3×V3)(v:V3):V3×V3:=(⟨if v.x<s.1.x then v.x else s.1.x,if v.y<s.1.y then v.y else s.1.y,if v.z<s.1.z then v.z else s.1.z⟩,⟨if v.x>s.2.x then v.x else s.2.x,if v.y>s.2.y then v.y else s.2.y,if v.z>s.2.z then v.z else s.2.z⟩)
def bxL:List V3->V3×V3×Bool
 |[]=>(⟨0,0,0⟩,⟨0,0,0⟩,false)
 |v::l=>(((v::l).foldl bxS (v,v)).1,((v::l).foldl bxS (v,v)).2,true)
def bxT(l:List V3)(j:Nat):V3×V3:=(l.take j).foldl bxS (gL tV l 0,gL tV l 0)
theorem Cd7{l:List V3}{j:Nat}(hj:j<l.length):bxT l (j+1)=bxS (bxT l j) (gL tV l j):=by
 unfold bxT;rw[bb5 tV hj,List.foldl_append];rfl
theorem ie5{l:List V3}(h:l≠[]):bxL l=((bxT l l.length).1,(bxT l l.length).2,true):=by
 cases l with
 |nil=>exact absurd rfl h
 |cons v l =>
  unfold bxT;rw[Qkaa];rfl
theorem Sd7(l:List V3)(hl:l.length<=1000000):Na6 l=some (.tup [.agg [i (bxL l).1.x,i (bxL l).1.y,i (bxL l).1.z],.agg [i (bxL l).2.1.x,i (bxL l).2.1.y,i (bxL l).2.1.z],b (bxL l).2.2],[]):=by
 by_cases hne:l=[]
 ·subst hne;rfl
 have hp:0<l.length:=List.length_pos_iff.2 hne;obtain⟨t,s,h,rfl,k,rfl⟩:=V7 (step:=ga4 ⟨l,(l.length:Int)⟩) (mk:=λj (q:V3×V3)=>(⟨(j:Int),q.1.x,q.1.y,q.1.z,q.2.x,q.2.y,q.2.z⟩:Y7)) l.length (λj q=>j<=l.length/\q=bxT l j) (λt s=>t=1/\∃k:Int,s=⟨k,(bxT l l.length).1.x,(bxT l l.length).1.y,(bxT l l.length).1.z,(bxT l l.length).2.x,(bxT l l.length).2.y,(bxT l l.length).2.z⟩) (by omega)
  (λj q hj hi=>by
   obtain⟨_,rfl⟩:=hi;have hn:=J0 hj (show l.length<=4611686018427387904 by omega)
   simp only[ga4,ja7,Int.toNat_natCast,hn];rw[btD (B7 hj),bt (k8 hj)];exact .nx ⟨bxT l (j+1),by rw[Cd7 hj];rfl,by omega,rfl⟩)
  (λj q hj hi=>by
   obtain⟨hje,rfl⟩:=hi;have hje:j=l.length:=by omega
   subst hje;refine⟨1,?_,rfl,_,rfl⟩;simp only[ga4,ja7];rw[bfD (G6 (Qkr _))]) 0 (bxT l 0) ⟨Qkw _,rfl⟩
 have h:lp (ga4 ⟨l,(l.length:Int)⟩) ⟨0,(gL tV l 0).x,(gL tV l 0).y,(gL tV l 0).z,(gL tV l 0).x,(gL tV l 0).y,(gL tV l 0).z⟩=_:=h;unfold Na6;simp only[s8,p8,h];rw[bf (show ((l.length:Int)==0)=false from by rw[beq_eq_false_iff_ne];omega),bt (show inB 0 l.length=true from k8 (j:=0) hp),ie5 hne,bt (show inB 0 l.length=true from k8 (j:=0) hp)]
 rfl
theorem ie6(l:List V3)(hl:l.length<=1000000):cb1 l=bxL l:=by unfold cb1;rw[Sd7 l hl];rfl
theorem ie7(l:List V3)(hl:l.length<=1000000):cb2 l=true:=by unfold cb2;rw[Sd7 l hl];rfl
theorem be6(x y:V3):∃n,wa4 x y=some (i n,[]):=by
 unfold wa4 sl;cases decide (y.x<=x.x)<;>cases decide (y.y<=x.y)<;>cases decide (y.z<=x.z)<;>exact⟨_,rfl⟩
theorem Cd8(x y:V3):O0 x y=true:=by
 obtain⟨n,h⟩:=be6 x y;unfold O0;rw[h];rfl
def Pd2(s:V3×V3×Bool)(y:V3):V3:=⟨if s.1.x>y.x then s.1.x else y.x,if s.1.y>y.y then s.1.y else y.y,if s.1.z>y.z then s.1.z else y.z⟩
def ed6(s:V3×V3×Bool)(z:V3):V3:=⟨if s.2.1.x<z.x then s.2.1.x else z.x,if s.2.1.y<z.y then s.2.1.y else z.y,if s.2.1.z<z.z then s.2.1.z else z.z⟩
def eb9(l:List V3)(y z:V3):Int×Int:=if (V8 l).2=0 then ((if W (6*H7 (Pd2 (bxL l) y) (ed6 (bxL l) z))<(V8 l).1 then W (6*H7 (Pd2 (bxL l) y) (ed6 (bxL l) z)) else (V8 l).1),0) else (0,(V8 l).2)
theorem Cd9(l:List V3)(y z:V3)(hl:l.length<=900000):pa2 l y z=some (.tup [i (eb9 l y z).1,i (eb9 l y z).2],[]):=by
 unfold pa2 eb9;simp only[s8,ta7,p8,vc8 l hl,vc9 l hl,ie6 l (by omega),ie7 l (by omega),Cd8]
 by_cases h:(V8 l).2=0
 ·rw[if_pos h,bf (show ((V8 l).2 != 0)=false from by rw[bne_eq_false_iff_eq];exact h)]
  rfl
 ·rw[if_neg h,bt (show ((V8 l).2 != 0)=true from bne_iff_ne.2 h)]
  rfl
theorem be7(l:List V3)(y z:V3)(hl:l.length<=900000):Aa9 l y z=eb9 l y z:=by unfold Aa9;rw[Cd9 l y z hl];rfl
theorem be8(l:List V3)(y z:V3)(hl:l.length<=900000):Ba0 l y z=true:=by unfold Ba0;rw[Cd9 l y z hl];rfl
theorem Dd0(l:List V3)(n:Int)(hl:l.length<=900000):Ca3 l n=some (b (decide ((V8 l).2=0/\(V8 l).1=n)),[]):=by
 unfold Ca3;simp only[s8,ta7,vc8 l hl,vc9 l hl];by_cases h:(V8 l).2=0
 ·rw[bt rfl,bt rfl,bt (beq_iff_eq.2 h)];by_cases h2:(V8 l).1=n
  ·rw[decide_eq_true ⟨h,h2⟩,beq_iff_eq.2 h2]
  ·rw[decide_eq_false (λk=>h2 k.2),beq_eq_false_iff_ne.2 h2]
 ·rw[bt rfl,bt rfl,bf (beq_eq_false_iff_ne.2 h),decide_eq_false (λk=>h k.1)]
theorem Dd1(l:List V3)(n:Int)(hl:l.length<=900000):ka1 l n=decide ((V8 l).2=0/\(V8 l).1=n):=by unfold ka1;rw[Dd0 l n hl];rfl
theorem Dd2(l:List V3)(n:Int)(hl:l.length<=900000):ka2 l n=true:=by unfold ka2;rw[Dd0 l n hl];rfl
theorem ed7(l:List V3)(y z:V3)(n:Int)(hl:l.length<=900000):wa5 l y z n=some (b (decide ((eb9 l y z).2=0/\(eb9 l y z).1=n)),[]):=by
 unfold wa5;simp only[s8,ta7,be7 l y z hl,be8 l y z hl];by_cases h:(eb9 l y z).2=0
 ·rw[bt rfl,bt rfl,bt (beq_iff_eq.2 h)];by_cases h2:(eb9 l y z).1=n
  ·rw[decide_eq_true ⟨h,h2⟩,beq_iff_eq.2 h2]
  ·rw[decide_eq_false (λk=>h2 k.2),beq_eq_false_iff_ne.2 h2]
 ·rw[bt rfl,bt rfl,bf (beq_eq_false_iff_ne.2 h),decide_eq_false (λk=>h k.1)]
theorem Ec2(l:List V3)(y z:V3)(n:Int)(hl:l.length<=900000):T1 l y z n=decide ((eb9 l y z).2=0/\(eb9 l y z).1=n):=by unfold T1;rw[ed7 l y z n hl];rfl
theorem Pd3(l:List V3)(y z:V3)(n:Int)(hl:l.length<=900000):da8 l y z n=true:=by unfold da8;rw[ed7 l y z n hl];rfl
theorem Dd3{l d:List V3}{n:Int}(hc:ca5 l=0)(hd:d.Pairwise LtV)(hm:∀v,v∈l↔v∈d)(hn:V6l (d.filter (kv (F0 l)))=n):V8 l=(n,0):=by
 have e:dis l=d:=mb2 _ _ (Wc6 _) hd λv=>by rw[pb4];exact hm v
 unfold V8 ha1;rw[if_pos hc,e,hn]
def tt:List V3:=[⟨0,0,0⟩,⟨2,0,0⟩,⟨0,2,0⟩,⟨0,0,2⟩]
theorem Dd4:V8 tt=(8,0):=by
 refine Dd3 (d:=[⟨0,0,0⟩,⟨0,0,2⟩,⟨0,2,0⟩,⟨2,0,0⟩]) (by kernel_rfl) (by simp[LtV]) (λv=>?_) (by kernel_rfl)
 unfold tt;simp only[Qkb,Qkh,or_false]
 constructor<;>rintro (h | h | h | h)<;>simp[h]
def qd:List V3:=[⟨0,0,0⟩,⟨1,0,0⟩,⟨0,2,0⟩,⟨1,2,0⟩,⟨0,0,3⟩,⟨1,0,3⟩,⟨0,2,3⟩,⟨1,2,3⟩]
theorem be9:V8 qd=(36,0):=by
 refine Dd3 (d:=[⟨0,0,0⟩,⟨0,0,3⟩,⟨0,2,0⟩,⟨0,2,3⟩,⟨1,0,0⟩,⟨1,0,3⟩,⟨1,2,0⟩,⟨1,2,3⟩]) (by kernel_rfl) (by simp[LtV]) (λv=>?_) (by kernel_rfl)
 unfold qd;simp only[Qkb,Qkh,or_false]
 constructor<;>rintro (h | h | h | h | h | h | h | h)<;>simp[h]
theorem ce0:V8 [⟨0,0,0⟩,⟨1,0,0⟩,⟨0,1,0⟩,⟨1,1,0⟩]=(0,11):=by
 have h:ca5 [⟨0,0,0⟩,⟨1,0,0⟩,⟨0,1,0⟩,⟨1,1,0⟩]=11:=by kernel_rfl
 unfold V8;rw[h,if_neg (by omega)]
theorem Dd5:V8 (List.replicate 49 ⟨0,0,0⟩)=(0,2):=by
 have h:ca5 (List.replicate 49 ⟨0,0,0⟩)=2:=by kernel_rfl
 unfold V8;rw[h,if_neg (by omega)]
theorem ce1:bxL tt=(⟨0,0,0⟩,⟨2,2,2⟩,true):=by kernel_rfl
theorem Ec3(y z:V3)(n:Int)(h:(if W (6*H7 (Pd2 (⟨0,0,0⟩,⟨2,2,2⟩,true) y) (ed6 (⟨0,0,0⟩,⟨2,2,2⟩,true) z))<8 then W (6*H7 (Pd2 (⟨0,0,0⟩,⟨2,2,2⟩,true) y) (ed6 (⟨0,0,0⟩,⟨2,2,2⟩,true) z)) else 8)=n):eb9 tt y z=(n,0):=by
 unfold eb9;rw[Dd4,ce1,if_pos rfl];show (_,_)=_;rw[h]
theorem Pc1:ka3=some (b true,[]):=by
 have e49:∀n m:V3,D6 (List.replicate 49 ⟨0,0,0⟩)=(0,2)/\D7 (List.replicate 49 ⟨0,0,0⟩)=true:=λ_ _=>⟨by rw[vc8 _ (by simp),Dd5],vc9 _ (by simp)⟩
 have v:∀x y z,A0 x y z=⟨x,y,z⟩:=λ_ _ _=>rfl
 have hc:Ua0 ⟨0,0,0⟩ ⟨1,2,3⟩=qd:=by kernel_rfl
 have hcg:Ua1 ⟨0,0,0⟩ ⟨1,2,3⟩=true:=by kernel_rfl
 have s1:ka1 tt 8=true:=by rw[Dd1 _ _ (by simp[tt]),Dd4];rfl
 have s1g:ka2 tt 8=true:=Dd2 _ _ (by simp[tt])
 have s2:ka1 qd 36=true:=by rw[Dd1 _ _ (by simp[qd]),be9];rfl
 have s2g:ka2 qd 36=true:=Dd2 _ _ (by simp[qd])
 have f1:D6 [⟨0,0,0⟩,⟨1,0,0⟩,⟨0,1,0⟩,⟨1,1,0⟩]=(0,11):=by rw[vc8 _ (by simp),ce0]
 have f1g:D7 [⟨0,0,0⟩,⟨1,0,0⟩,⟨0,1,0⟩,⟨1,1,0⟩]=true:=vc9 _ (by simp)
 have m1:T1 tt ⟨0,0,0⟩ ⟨1,1,1⟩ 6=true:=by rw[Ec2 _ _ _ _ (by simp[tt]),Ec3 _ _ 6 (by kernel_rfl)];rfl
 have m2:T1 tt ⟨0,0,0⟩ ⟨5,5,5⟩ 8=true:=by rw[Ec2 _ _ _ _ (by simp[tt]),Ec3 _ _ 8 (by kernel_rfl)];rfl
 have m3:T1 tt ⟨3,0,0⟩ ⟨4,4,4⟩ 0=true:=by rw[Ec2 _ _ _ _ (by simp[tt]),Ec3 _ _ 0 (by kernel_rfl)];rfl
 have mg:∀y z n,da8 tt y z n=true:=λy z n=>Pd3 _ _ _ _ (by simp[tt])
 have b1:H7 ⟨0,0,0⟩ ⟨1,2,3⟩=6:=by kernel_rfl
 have b2:H7 ⟨0,0,0⟩ ⟨1,0,3⟩=0:=by kernel_rfl
 have b3:H7 ⟨0,0,0⟩ ⟨-1,-1,3⟩=0:=by kernel_rfl
 have t0:[(⟨0,0,0⟩:V3),⟨2,0,0⟩,⟨0,2,0⟩,⟨0,0,2⟩]=tt:=rfl;obtain⟨q1,q2⟩:=e49 ⟨0,0,0⟩ ⟨0,0,0⟩;simp only[List.replicate] at q1 q2;unfold ka3;simp only[v,s8,ta7,q1,q2,hc,hcg,t0,s1,s1g,s2,s2g,f1,f1g,m1,m2,m3,mg,b1,b2,b3,Cd8];rfl
theorem Yc1:wa6=true:=by unfold wa6;rw[Pc1];rfl
theorem Yc2:wa7=true:=by unfold wa7;rw[Pc1];rfl
def K7(l:List V3):List V3:=ha1 (F0 l) l
theorem Pc2(l:List V3):(K7 l).Pairwise LtV:=(Wc6 l).filter _
def CN(p:Pln)(X:List V3)(o:V3):Int:=AR (onF p X) p.n (d7 (ptF p X) o)
theorem ie8{p:Pln}{X Y:List V3}(h:onF p X=onF p Y)(o:V3):CN p X o=CN p Y o:=by unfold CN ptF;rw[h]
theorem Dd6{l:List V3}(hl:l.all inV=true)(h4:Sol l){p:Pln}(hp:∀u∈l,dot p.n u<=p.b){w:V3}:w∈onF p (K7 l)↔w∈l/\dot p.n w=p.b/\∃m,∀u∈l,dot p.n u=p.b->u≠w->dot m u<dot m w:=by
 rw[F5];constructor
 ·rintro⟨hw,e⟩;have hwl:=qa6 hl h4 hw;obtain⟨m,hm⟩:=(Hb3 hl h4 hwl).1 hw;exact⟨hwl,e,m,λu hu _ hne=>hm u hu hne⟩
 ·rintro⟨hw,e,m,hm⟩;refine⟨(Hb3 hl h4 hw).2 ?_,e⟩;obtain⟨N,hN,hb⟩:=big m (l.map λu=>⟨d7 u w,0⟩)
  refine⟨⟨m.x+(N+1)*p.n.x,m.y+(N+1)*p.n.y,m.z+(N+1)*p.n.z⟩,λu hu hne=>?_⟩
  have hd:∀t:V3,dot ⟨m.x+(N+1)*p.n.x,m.y+(N+1)*p.n.y,m.z+(N+1)*p.n.z⟩ t=dot m t+(N+1)*dot p.n t:=λt=>by simp only[dot];grind
  rw[hd,hd,e];by_cases hup:dot p.n u=p.b
  ·rw[hup]
   have:=hm u hu hup hne
   omega
  ·have h1:=hp u hu;have h2:dot (d7 u w) m<=N:=(hb _ (Qko.2 ⟨u,hu,rfl⟩)).1;have h3:dot (d7 u w) m=dot m u-dot m w:=by simp only[dot,d7];grind
   have h5:(N+1)*dot p.n u<=(N+1)*(p.b-1):=Int.mul_le_mul_of_nonneg_left (by omega) (by omega)
   rw[Int.mul_sub,Int.mul_one] at h5;omega
theorem ie9{l l':List V3}(hl:l.all inV=true)(h4:Sol l)(hl':l'.all inV=true)(h4':Sol l'){p:Pln}(hp:∀u∈l,dot p.n u<=p.b)(hp':∀u∈l',dot p.n u<=p.b)(hs:∀u,dot p.n u=p.b->(u∈l↔u∈l')):onF p (K7 l)=onF p (K7 l'):=by
 refine mb2 _ _ ((Pc2 l).filter _) ((Pc2 l').filter _) λw=>?_
 rw[Dd6 hl h4 hp,Dd6 hl' h4' hp'];constructor
 ·rintro⟨hw,e,m,hm⟩;exact⟨(hs w e).1 hw,e,m,λu hu eu hne=>hm u ((hs u eu).2 hu) eu hne⟩
 ·rintro⟨hw,e,m,hm⟩;exact⟨(hs w e).2 hw,e,m,λu hu eu hne=>hm u ((hs u eu).1 hu) eu hne⟩
theorem Sol.same{l l':List V3}(h:Sol l)(hs:∀u∈l,u∈l'):Sol l':=by
 obtain⟨a,c,k,v,ha,hc,hk,hv,hne⟩:=h;exact⟨a,c,k,v,hs a ha,hs c hc,hs k hk,hs v hv,hne⟩
section
variable{l:List V3}(hc:ca5 l=0)
include hc
theorem Ec4:Pol (K7 l):=by
 obtain⟨_,hl,h4⟩:=ma3 hc;exact ed4 hl h4
theorem mc1(o:V3):V8 l=(sig (F0 l) λp=>CN p (K7 l) o,0):=by
 obtain⟨_,hl,h4⟩:=ma3 hc;have h:=(Ec4 hc).v6l o;unfold V8;rw[if_pos hc];show (V6l (K7 l),(0:Int))=_;rw[<- h];unfold V6;rw[show F0 (K7 l)=F0 l from be1 hl h4]
 rfl
theorem pb8{p:Pln}(hp:p∈F0 l)(o:V3):(dot p.n o<p.b->0<CN p (K7 l) o)/\(dot p.n o=p.b->CN p (K7 l) o=0)/\(p.b<dot p.n o->CN p (K7 l) o<0):=by
 obtain⟨_,hl,h4⟩:=ma3 hc;exact (Ec4 hc).cone (Hb2 hl h4 ((z7 hl p).1 hp)) o
theorem Pd4{v:V3}(hv:inV v=true){l':List V3}(h48:l'.length<=48)(hs:∀u,u∈l'↔u∈l\/u=v):V8 l'=(sig (F0 l) λp=>if dot p.n v<p.b then CN p (K7 l) v else 0,0):=by
 obtain⟨_,hl,h4⟩:=ma3 hc;have hl':l'.all inV=true:=Qkl.2 λu hu=>by
  rcases (hs u).1 hu with h|rfl
  ·exact Qkl.1 hl u h
  ·exact hv
 have h4':Sol l':=h4.same λu hu=>(hs u).2 (.inl hu)
 have hc':=Ya2 h48 hl' h4';have on:∀p:Pln,dot p.n v<p.b->∀u,dot p.n u=p.b->(u∈l↔u∈l'):=λp hlt u hu=>by
  rw[hs];refine⟨.inl,λh=>h.resolve_right λe=>?_⟩
  subst e;omega
 have iff:∀p:Pln,dot p.n v<p.b->(p∈F0 l'↔p∈F0 l):=λp hlt=>by
  rw[z7 hl',z7 hl];constructor
  ·rintro⟨⟨hd,u,w,x,hu,hw,hx,h3,e1,e2,e3⟩,ok⟩;exact⟨⟨λt ht=>hd t ((hs t).2 (.inl ht)),u,w,x,(on p hlt u e1).2 hu,(on p hlt w e2).2 hw,(on p hlt x e3).2 hx,h3,e1,e2,e3⟩,ok⟩
  ·rintro⟨⟨hd,u,w,x,hu,hw,hx,h3,e1,e2,e3⟩,ok⟩;refine⟨⟨λt ht=>?_,u,w,x,(on p hlt u e1).1 hu,(on p hlt w e2).1 hw,(on p hlt x e3).1 hx,h3,e1,e2,e3⟩,ok⟩
   rcases (hs t).1 ht with h|rfl
   ·exact hd t h
   ·omega
 rw[mc1 hc' v];congr 1;have term:sig (F0 l') (λp=>CN p (K7 l') v)=sig (F0 l') (λp=>if decide (dot p.n v<p.b)=true then CN p (K7 l) v else 0):=L0 λp hp=>by
  have hpS:=(z7 hl' p).1 hp;by_cases hlt:dot p.n v<p.b
  ·rw[if_pos (decide_eq_true hlt)];exact ie8 (ie9 hl' h4' hl h4 hpS.hd ((z7 hl p).1 ((iff p hlt).1 hp)).hd λu hu=>(on p hlt u hu).symm) v
  ·rw[if_neg (by simpa using hlt)]
   have:=hpS.hd v ((hs v).2 (.inr rfl))
   exact (pb8 hc' hp v).2.1 (by omega)
 have term':sig (F0 l) (λp=>if dot p.n v<p.b then CN p (K7 l) v else 0)=sig (F0 l) (λp=>if decide (dot p.n v<p.b)=true then CN p (K7 l) v else 0):=L0 λp _=>by
  by_cases hlt:dot p.n v<p.b
  ·rw[if_pos hlt,if_pos (decide_eq_true hlt)]
  ·rw[if_neg hlt,if_neg (by simpa using hlt)]
 rw[term,term',<- ya9,<- ya9];refine zd8 ((ed3 l').filter _) ((ed3 l).filter _) λp=>?_
 rw[Qkj,Qkj,decide_eq_true_eq];constructor
 ·rintro⟨h1,h2⟩;exact⟨(iff p h2).1 h1,h2⟩
 ·rintro⟨h1,h2⟩;exact⟨(iff p h2).2 h1,h2⟩
theorem Dd7{v:V3}(hv:inV v=true){l':List V3}(h48:l'.length<=48)(hs:∀u,u∈l'↔u∈l\/u=v):(V8 l').2=0/\(V8 l).1<=(V8 l').1/\((V8 l).1<(V8 l').1↔∃p∈F0 l,p.b<dot p.n v):=by
 have e1:=Pd4 hc hv h48 hs;have e2:=mc1 hc v;have nn:∀p∈F0 l,0<=(if dot p.n v<p.b then CN p (K7 l) v else 0)-CN p (K7 l) v:=λp hp=>by
  obtain⟨k1,k2,k3⟩:=pb8 hc hp v;by_cases hlt:dot p.n v<p.b
  ·rw[if_pos hlt];omega
  ·rw[if_neg hlt];by_cases he:dot p.n v=p.b
   ·rw[k2 he];omega
   ·have:=k3 (by omega);omega
 have ed:sig (F0 l) (λp=>if dot p.n v<p.b then CN p (K7 l) v else 0)-sig (F0 l) (λp=>CN p (K7 l) v)=sig (F0 l) (λp=>(if dot p.n v<p.b then CN p (K7 l) v else 0)-CN p (K7 l) v):=(pb7 _ _ _).symm
 have hnn:=kc7 nn;have pos:∀L:List Pln,(∀p∈L,p∈F0 l)->(∃p∈L,p.b<dot p.n v)->0<sig L (λp=>(if dot p.n v<p.b then CN p (K7 l) v else 0)-CN p (K7 l) v):=λL=>by
  induction L with
  |nil=>rintro _ ⟨p,hp,_⟩;cases hp
  |cons q L ih =>
   rintro hL ⟨p,hp,hlt⟩;rw[j6];have h1:=nn q (hL q (by simp))
   have h2:0<=sig L (λp=>(if dot p.n v<p.b then CN p (K7 l) v else 0)-CN p (K7 l) v):=kc7 λr hr=>nn r (hL r (by simp[hr]))
   rcases Qkb.1 hp with rfl|hp
   ·have h3:=(pb8 hc (hL p (by simp)) v).2.2 hlt
    rw[if_neg (by omega)]
    omega
   ·have:=ih (λr hr=>hL r (by simp[hr])) ⟨p,hp,hlt⟩
    omega
 rw[e1,e2];refine⟨rfl,by show _<=_;omega,?_⟩
 constructor
 ·intro hlt;have hlt:sig (F0 l) (λp=>CN p (K7 l) v)<sig (F0 l) (λp=>if dot p.n v<p.b then CN p (K7 l) v else 0):=hlt
  apply Qka;intro hno
  have:sig (F0 l) (λp=>(if dot p.n v<p.b then CN p (K7 l) v else 0)-CN p (K7 l) v)=0:=wa3 λp hp=>by
   by_cases hb:dot p.n v<p.b
   ·rw[if_pos hb];omega
   ·rw[if_neg hb,(pb8 hc hp v).2.1 ?_]
    ·rfl
    ·apply Qka;intro hne;exact hno ⟨p,hp,by omega⟩
  omega
 ·intro hx
  have:=pos (F0 l) (λp h=>h) hx
  show sig (F0 l) _<sig (F0 l) _;omega
end
theorem Pd5(l:List Int)(n:Nat)(hn1:1<=n)(hn5:n<=5):Rd (one (r1L tV)) (va6 l (n:Int)) (λr=>r.length=n/\∀v∈r,inV v=true):=by
 have key:∃t s,lp (qa5 ⟨(n:Int)⟩) ⟨0,0,l,0,0,[]⟩=(t,s)/\(t=2/\∃O:List V3,(O.length=n/\∀v∈O,inV v=true)/\s.ns6=n/\s.eh1=bL tV O):=by
  refine V7 (step:=qa5 ⟨(n:Int)⟩) (mk:=λj (a:List V3×Int)=>(⟨phV a.1,(j:Int),l,a.2,a.1.length,bL tV a.1⟩:o6)) n (λj a=>(a.1.length=j/\∀v∈a.1,inV v=true)/\0<=a.2/\a.2<=10*j/\j<=n)
   (λt s=>t=2/\∃O:List V3,(O.length=n/\∀v∈O,inV v=true)/\s.ns6=n/\s.eh1=bL tV O) (by omega) (λj a hj hi=>?_) (λj a hj hi=>?_) 0 ([],0) ⟨⟨rfl,by simp⟩,by simp,by simp,by omega⟩
  ·obtain⟨O,d⟩:=a;obtain⟨⟨i1,i0⟩,i2,i3,i4⟩:=hi
   simp only at i1 i0 i2 i3
   obtain⟨v,d1,n1,n2,n3,n4,n5⟩:=Yb3 4 l d i2 (by omega) (by omega) (by omega)
   obtain⟨w,hw⟩:∃w:Nat,v=(w:Int):=⟨v.toNat,by omega⟩
   subst hw;have hw4:w<4:=by omega
   have hrow:∃m:Int,l9 [[i 8],[i 8],[i 3],[i 24]] (0+w)=[i m]/\0<=m/\m<=24:=by
    match w,hw4 with
    |0,_=>exact⟨8,rfl,by omega,by omega⟩
    |1,_=>exact⟨8,rfl,by omega,by omega⟩
    |2,_=>exact⟨3,rfl,by omega,by omega⟩
    |3,_=>exact⟨24,rfl,by omega,by omega⟩
   obtain⟨m,hm,m1,m2⟩:=hrow;obtain⟨a1,a2,a3,d2,v1,b1,b2,b3,v5,v6⟩:=Yd3 m l d1 (by omega) (by omega) m1 (by omega)
   have hall:∀v∈O++[⟨a1,a2,a3⟩],inV v=true:=λv hv=>by
    rcases Qke.1 hv with hv|hv
    ·exact i0 v hv
    ·rw[Qkc.1 hv];exact (qa4 _).2 ⟨b1.mono (by omega),b2.mono (by omega),b3.mono (by omega)⟩
   have e1:toI (hdA (i7 [i m] 0))=m:=rfl;have e2:Ea9 [CK.int .i64] (i7 [i m] 0)=true:=rfl;have e3:Nat.ble (0+1) (len [i m])=true:=rfl;have e4:Nat.blt (0+w) (len [[i 8],[i 8],[i 3],[i 24]])=true:=by rw[Qkz,Nat.blt_eq];exact hw4
   have hn:=J0 hj (show n<=4611686018427387904 by omega)
   have fin : Nx (.next (⟨1, ((j + 1 : Nat) : Int), l, d2, O.length + 1, bL tV (O ++ [⟨a1, a2, a3⟩])⟩ : o6)) (fun t => t = 2 ∧ ∃ O' : List V3, (O'.length = n ∧ ∀ v ∈ O', inV v = true) ∧ (⟨phV O, (j : Int), l, d, O.length, bL tV O⟩ : o6).ns6 = n ∧ (⟨phV O, (j : Int), l, d, O.length, bL tV O⟩ : o6).eh1 = bL tV O')
     (λs=>∃a':List V3×Int,s=(⟨phV a'.1,((j+1:Nat):Int),l,a'.2,a'.1.length,bL tV a'.1⟩:o6)/\((a'.1.length=j+1/\∀v∈a'.1,inV v=true)/\0<=a'.2/\a'.2<=10*((j+1:Nat):Int)/\j+1<=n)) :=
    .nx ⟨(O++[⟨a1,a2,a3⟩],d2),by simp only[cd4,Qkx,List.length_singleton],⟨by simp only[Qkx,List.length_singleton];omega,hall⟩,by simp only;omega,by simp only;omega,by omega⟩
   cases O with
   |nil =>
    show Nx (ca1 Stp.next Stp.exit Stp.fail _ _) _ _;simp only[ca1,s8,p8,n1,Int.toNat_natCast,hm,e1,e2,e3,e4,v1,hn];rw[btD (show (j:Int)<(n:Int) by omega),bt (k8 hw4)]
    exact fin
   |cons o os =>
    show Nx (N2 Stp.next Stp.exit Stp.fail _ _) _ _;have rr:=Rd7 (l:=o::os) rfl (by simp only[List.length_cons] at i1 ⊢;omega)
    simp only[N2,s8,p8,n1,Int.toNat_natCast,hm,e1,e2,e3,e4,v1,hn,rr,wd3];rw[btD (show (j:Int)<(n:Int) by omega),bt (k8 hw4)]
    exact fin
  ·obtain⟨O,d⟩:=a;obtain⟨⟨i1,i0⟩,i2,i3,i4⟩:=hi
   simp only at i1 i0
   cases O with
   |nil=>simp at i1;omega
   |cons o os =>
    have:j=n:=by omega
    refine⟨2,?_,rfl,o::os,⟨by omega,i0⟩,by show (o::os).length=n;omega,rfl⟩
    show N2 Stp.next Stp.exit Stp.fail _ _=_;simp only[N2];rw[bfD (by show ¬ ((j:Nat):Int)<(n:Int);omega)]
 obtain⟨t,s,h1,rfl,O,⟨h2,h5⟩,h3,h4⟩:=key;unfold va6;simp only[s8,p8];rw[h1];simp only[h3,h4];exact⟨_,O,rfl,by rw[<- h2];exact Yd5 tV 28 O,h2,h5⟩
def fb4:List (Nat×Sum):=[(4,mb4),(5,Fb5),(8,Ba5),(7,Z4),(6,ca6),(9,wa2)]
theorem cb8:n8 prog G fb4:=⟨Wb7,pc1,Fa7,ba4,da1,Aa8,trivial⟩
def O7(x:List Int):Option (a7×List c7):=let t1:=wa6;let t2:=(va7 (lsL tI ((if 20<(↑(List.length x):Int) then 20 else (↑(List.length x):Int)).toNat-0) (λk=>(λk=>(tI).row (gL tI x k)) (0+k))) 5);let t3:=(r7 (gL tV t2 1) (gL tV t2 0));let t4:=(r7 (gL tV t2 2) (gL tV t2 0));let t5:=(q8 t3 t4);let t6:=(r7 (gL tV t2 3) (gL tV t2 0));let t7:=(p9 t5 t6);let t8:=(D6 [gL tV t2 0,gL tV t2 1,gL tV t2 2,gL tV t2 3]);let t9:=(D6 (rt tV t2));(sl wa7 (sl (inB (if 20<(↑(List.length x):Int) then 20 else (↑(List.length x):Int)) ((List.length x)+1)) (sl (okL tI ((if 20<(↑(List.length x):Int) then 20 else (↑(List.length x):Int)).toNat-0) (λk=>(λk=>(tI).row (gL tI x k)) (0+k))) (sl (bb6 (lsL tI ((if 20<(↑(List.length x):Int) then 20 else (↑(List.length x):Int)).toNat-0) (λk=>(λk=>(tI).row (gL tI x k)) (0+k))) 5) (sl (inB 1 (List.length t2)) (sl (inB 0 (List.length t2)) (sl (inB 2 (List.length t2)) (sl (inB 0 (List.length t2)) (sl (inB 3 (List.length t2)) (sl (inB 0 (List.length t2)) (sl (inB 4 ((List.length t2)+1)) (sl (D7 [gL tV t2 0,gL tV t2 1,gL tV t2 2,gL tV t2 3]) (sl (t7==0) (sl t1 (sl (t8.2==11) (some (b (t8.1==0),[])) (some (b false,[]))) (some (b false,[]))) (sl (okE tV t2) (sl (D7 (rt tV t2)) (sl t1 (sl (t8.2==0) (sl (t8.1==(if (W (0-t7))>t7 then (W (0-t7)) else t7)) (sl (t9.2==0) (some (b (decide (t9.1>=t8.1)),[])) (some (b false,[]))) (some (b false,[]))) (some (b false,[]))) (some (b false,[]))) none) none)) none) none) none) none) none) none) none) none) none) none) none) none)
def Y9(x:List Int):Bool:=T8 (one r1B) (O7 x)
def Z0(x:List Int):Bool:=okO (one r1B) (O7 x)
def mb5:Sum:=O8 (Ba4 tI) (λx=>.guard (Z0 x) (.ret ((one r1B).enc (Y9 x),[])))
theorem fb5:g9 prog G 3 mb5:=Sa0 (bd b3 cb8) (one r1B) (o:=O7) λx=>F8 (by kernel_rfl)
section
variable{v0 v1 v2 v3:V3}
theorem Dd8(h:dot (a8 (d7 v1 v0) (d7 v2 v0)) (d7 v3 v0)=0):¬ Sol [v0,v1,v2,v3]:=λhs=>by
 rcases Yb6 [d7 v1 v0,d7 v2 v0,d7 v3 v0] with⟨a,c,k,ha,hc,hk,hne⟩|⟨d,hd,hz⟩
 ·simp only[Qkb,Qkh,or_false] at ha hc hk;generalize d7 v1 v0=x at *
  generalize d7 v2 v0=y at *
  generalize d7 v3 v0=z at *
  refine hne ?_
  rcases ha with rfl|rfl|rfl<;>rcases hc with rfl|rfl|rfl<;>rcases hk with rfl|rfl|rfl<;>simp only[dot,a8] at h ⊢<;>grind
 ·obtain⟨v,hv,hne⟩:=hs.off hd (dot d v0);have k:∀w,d7 w v0∈[d7 v1 v0,d7 v2 v0,d7 v3 v0]->dot d w=dot d v0:=λw hw=>by
   have h1:=hz _ hw;have h2:dot (d7 w v0) d=dot d w-dot d v0:=by simp only[dot,d7];grind
   omega
  simp only[Qkb,Qkh,or_false] at hv
  rcases hv with rfl|rfl|rfl|rfl
  ·exact hne rfl
  ·exact hne (k _ (by simp))
  ·exact hne (k _ (by simp))
  ·exact hne (k _ (by simp))
theorem Pd6(h:dot (a8 (d7 v1 v0) (d7 v2 v0)) (d7 v3 v0)≠0):Sol [v0,v1,v2,v3]:=⟨v0,v1,v2,v3,by simp,by simp,by simp,by simp,h⟩
theorem Pd7(hi:∀v∈[v0,v1,v2,v3],inV v=true)(h:dot (a8 (d7 v1 v0) (d7 v2 v0)) (d7 v3 v0)≠0):ca5 [v0,v1,v2,v3]=0/\(V8 [v0,v1,v2,v3]).1=max (dot (a8 (d7 v1 v0) (d7 v2 v0)) (d7 v3 v0)) (-dot (a8 (d7 v1 v0) (d7 v2 v0)) (d7 v3 v0)):=by
 obtain⟨l,hle⟩:∃l,l=[v0,v1,v2,v3]:=⟨_,rfl⟩;have hs:Sol l:=hle ▸ Pd6 h;have hl:l.all inV=true:=Qkl.2 (by rw[hle];exact hi)
 have hc:ca5 l=0:=Ya2 (by rw[hle];simp) hl hs
 rw[<- hle];refine⟨hc,?_⟩;have mem:∀v,v∈l↔v=v0\/v=v1\/v=v2\/v=v3:=λv=>by rw[hle];simp
 have m0:=(mem v0).2 (.inl rfl);have m1:=(mem v1).2 (.inr (.inl rfl));have m2:=(mem v2).2 (.inr (.inr (.inl rfl)));have m3:=(mem v3).2 (.inr (.inr (.inr rfl)));have hN:dot (N3 v0 v1 v2) (d7 v3 v0)≠0:=h;have h3:N3 v0 v1 v2≠⟨0,0,0⟩:=λe=>hN (by rw[e];simp[dot])
 obtain⟨p1,p2⟩:=Dc6 v0 v1 v2
 -- the facet through the first db2 points
 obtain⟨d,d1,d2,d3⟩:∃d:V3,dot d v1=dot d v0/\dot d v2=dot d v0/\dot d v3<dot d v0:=by
  rw[G8] at hN;by_cases hlt:dot (N3 v0 v1 v2) v3<dot (N3 v0 v1 v2) v0
  ·exact⟨_,p1,p2,hlt⟩
  ·have q:∀v:V3,dot (neg (N3 v0 v1 v2)) v=-dot (N3 v0 v1 v2) v:=λv=>by simp only[dot,neg];grind
   exact⟨neg (N3 v0 v1 v2),by rw[q,q];omega,by rw[q,q];omega,by rw[q,q];omega⟩
 obtain⟨p,hp,e0,e1,e2⟩:=Zb3 (n:=d) hl m0 m1 m2 h3 (λv hv=>by
  rcases (mem v).1 hv with rfl|rfl|rfl|rfl<;>omega) d1 d2 ⟨v3,m3,by omega⟩
 have hp0:=(z7 hl p).2 hp;have e3:dot p.n v3<p.b:=by
  have k1:=hp.hd v3 m3;have k2:dot p.n v3≠p.b:=λe=>by
   obtain⟨v,hv,hne⟩:=hs.off (Qa7 hp.ok) p.b
   rcases (mem v).1 hv with rfl|rfl|rfl|rfl
   ·exact hne e0
   ·exact hne e1
   ·exact hne e2
   ·exact hne e
  omega
 -- the only one that counts
 have hsix:(V8 l).1=CN p (K7 l) v3:=by
  rw[mc1 hc v3];refine cb5 (ed3 l) hp0 λq hq hne=>?_
  have hqS:=(z7 hl q).1 hq;refine (pb8 hc hq v3).2.1 ?_;apply Qka;intro hoff;obtain⟨a,c,k,ha,hc2,hk,g3,f1,f2,f3⟩:=hqS.on;have onp:∀t∈l,dot q.n t=q.b->dot p.n t=p.b:=λt ht et=>by
   rcases (mem t).1 ht with rfl|rfl|rfl|rfl
   ·exact e0
   ·exact e1
   ·exact e2
   ·exact absurd et hoff
  exact hne (Hb1 hl hs hqS hp ha hc2 hk g3 f1 f2 f3 (onp a ha f1) (onp c hc2 f2) (onp k hk f3))
 have hpos:=(pb8 hc hp0 v3).1 e3;have hX:=Ec4 hc;have hR:=hX.rim (Hb2 hl hs hp);have n01:v0≠v1:=λe=>h (by subst e;simp only[dot,a8,d7];grind)
 have n02:v0≠v2:=λe=>h (by subst e;simp only[dot,a8,d7];grind)
 have n12:v1≠v2:=λe=>h (by subst e;simp only[dot,a8,d7];grind)
 have hperm:(onF p (K7 l)).Perm [v0,v1,v2]:=kc8 hR.nd (by simp[n01,n02,n12]) (λv hv=>by
  obtain⟨k1,k2⟩:=F5.1 hv
  rcases (mem v).1 (qa6 hl hs k1) with rfl|rfl|rfl|rfl
  ·simp
  ·simp
  ·simp
  ·omega) (hX.lens (Hb2 hl hs hp))
 have c0:v0∈onF p (K7 l):=hperm.mem_iff.2 (by simp)
 have c1:v1∈onF p (K7 l):=hperm.mem_iff.2 (by simp)
 have c2:v2∈onF p (K7 l):=hperm.mem_iff.2 (by simp)
 have db2:∀v∈onF p (K7 l),v=v0\/v=v1\/v=v2:=λv hv=>by
  have:=hperm.mem_iff.1 hv
  simpa using this
 have k0:CN p (K7 l) v3=AR (onF p (K7 l)) p.n (d7 v0 v3):=by
  have z:=hR.ar_perp (d:=d7 (ptF p (K7 l)) v0) (hR.perp (hX.pt (Hb2 hl hs hp)) c0);unfold CN;rw[lc1] at z;rw[lc1,lc1];have z:AR (onF p (K7 l)) p.n (ptF p (K7 l))-AR (onF p (K7 l)) p.n v0=0:=z;omega
 have k1:CN p (K7 l) v3=D3 (d7 v1 v0) (d7 (nxt (onF p (K7 l)) p.n v1) v0) (d7 v0 v3)+D3 (d7 v2 v0) (d7 (nxt (onF p (K7 l)) p.n v2) v0) (d7 v0 v3):=by
  rw[k0,<- hR.ar_o v0,Hb0 hperm,j6,j6,j6,Ha6,Qkq];have z:D3 (d7 v0 v0) (d7 (nxt (onF p (K7 l)) p.n v0) v0) (d7 v0 v3)=0:=by simp only[D3,dot,a8,d7];grind
  rw[z,Int.zero_add]
 obtain⟨_,x1,y1,_⟩:=hR.nx c1;obtain⟨_,x2,y2,_⟩:=hR.nx c2;obtain⟨_,x0,y0,_⟩:=hR.nx c0;have r1:=db2 _ x1;have r2:=db2 _ x2;have r0:=db2 _ x0;have inj:=λa c (ha:a∈onF p (K7 l)) (hc:c∈onF p (K7 l)) e=>hR.nx_inj ha hc e
 have i12:nxt (onF p (K7 l)) p.n v1≠nxt (onF p (K7 l)) p.n v2:=λe=>n12 (inj _ _ c1 c2 e)
 have i01:nxt (onF p (K7 l)) p.n v0≠nxt (onF p (K7 l)) p.n v1:=λe=>n01 (inj _ _ c0 c1 e)
 have i02:nxt (onF p (K7 l)) p.n v0≠nxt (onF p (K7 l)) p.n v2:=λe=>n02 (inj _ _ c0 c2 e)
 generalize nxt (onF p (K7 l)) p.n v0=w0 at *
 generalize nxt (onF p (K7 l)) p.n v1=w1 at *
 generalize nxt (onF p (K7 l)) p.n v2=w2 at *
 rw[hsix];have fin:CN p (K7 l) v3=dot (a8 (d7 v1 v0) (d7 v2 v0)) (d7 v3 v0)\/CN p (K7 l) v3=-dot (a8 (d7 v1 v0) (d7 v2 v0)) (d7 v3 v0):=by
  rw[k1]
  rcases r1 with rfl|rfl|rfl
  ·rcases r2 with rfl|rfl|rfl
   ·exact absurd rfl i12
   ·left;simp only[D3,dot,a8,d7];grind
   ·exact absurd rfl y2
  ·exact absurd rfl y1
  ·rcases r2 with rfl|rfl|rfl
   ·right;simp only[D3,dot,a8,d7];grind
   ·rcases r0 with rfl|rfl|rfl
    ·exact absurd rfl y0
    ·exact absurd rfl i02
    ·exact absurd rfl i01
   ·exact absurd rfl y2
 omega
end
theorem Pd8{v0 v1 v2 v3:V3}(h0:inV v0=true)(h1:inV v1=true)(h2:inV v2=true)(h3:inV v3=true):p9 (q8 (r7 v1 v0) (r7 v2 v0)) (r7 v3 v0)=dot (a8 (d7 v1 v0) (d7 v2 v0)) (d7 v3 v0)/\Sm 63700992 (dot (a8 (d7 v1 v0) (d7 v2 v0)) (d7 v3 v0)):=by
 obtain⟨e1,f1⟩:=Hb4 h1 h0;obtain⟨e2,f2⟩:=Hb4 h2 h0;obtain⟨e3,f3⟩:=Hb4 h3 h0;obtain⟨e4,f4⟩:=lc3 f1 f2;obtain⟨e5,f5⟩:=lc4 f4 (f3.mono (by omega))
 exact⟨by rw[e1,e2,e3,e4,e5],f5⟩
theorem je0{D s:Int}(h:s=max D (-D))(b1:-63700992<=D)(b2:D<=63700992):(if W (0-D)>D then W (0-D) else D)=s:=by
 rw[na2 (by omega) (by omega)]
 split<;>omega
theorem mc2(x:List Int):O7 x=some (b true,[]):=by
 have hwl:((if (20:Int)<(↑(List.length x):Int) then (20:Int) else (↑(List.length x):Int)).toNat-0)=(x.take 20).length:=by
  rw[List.length_take];split<;>omega
 have hin:inB (if (20:Int)<(↑(List.length x):Int) then (20:Int) else (↑(List.length x):Int)) (x.length+1)=true:=by
  split
  ·exact k8 (j:=20) (by omega)
  ·exact k8 (by omega)
 have hg:∀k,k<(x.take 20).length->(λk=>(λk=>tI.row (gL tI x k)) (0+k)) k=tI.row (gL tI (x.take 20) k):=λk hk=>by
  show tI.row (gL tI x (0+k))=_;have hk8:k<20:=by rw[List.length_take] at hk;omega
  rw[Qkz,jc4 tI x hk8]
 have hP:=Pd5 (x.take 20) 5 (by omega) (by omega)
 have hp:=hP.p;have gp:bb6 (x.take 20) 5=true:=hP.g;have hp:(va7 (x.take 20) 5).length=5/\∀v∈va7 (x.take 20) 5,inV v=true:=hp;unfold O7;rw[hin,hwl,Ib8 tI rfl hg,Ra7 tI (f:=λk=>gL tI (x.take 20) k) hg,gp]
 generalize va7 (x.take 20) 5=l at hp;obtain⟨hlen,hall⟩:=hp
 match l,hlen,hall with
 |[v0,v1,v2,v3,v4],_,hall =>
  have i0:=hall v0 (by simp);have i1:=hall v1 (by simp);have i2:=hall v2 (by simp);have i3:=hall v3 (by simp);have i4:=hall v4 (by simp)
  obtain⟨hd,b1,b2⟩:=Pd8 i0 i1 i2 i3;have g0:gL tV [v0,v1,v2,v3,v4] 0=v0:=rfl;have g1:gL tV [v0,v1,v2,v3,v4] 1=v1:=rfl;have g2:gL tV [v0,v1,v2,v3,v4] 2=v2:=rfl;have g3:gL tV [v0,v1,v2,v3,v4] 3=v3:=rfl;have s4:D6 [v0,v1,v2,v3]=V8 [v0,v1,v2,v3]:=vc8 _ (by simp)
  have q4:D7 [v0,v1,v2,v3]=true:=vc9 _ (by simp)
  have s5:D6 [v0,v1,v2,v3,v4]=V8 [v0,v1,v2,v3,v4]:=vc8 _ (by simp)
  have q5:D7 [v0,v1,v2,v3,v4]=true:=vc9 _ (by simp)
  have hi4:∀v∈[v0,v1,v2,v3],inV v=true:=λv hv=>hall v (by simp only[Qkb,Qkh,or_false] at hv ⊢;rcases hv with h | h | h | h<;>simp[h])
  simp only[Yc1,Yc2,s8,ta7,g0,g1,g2,g3,hd,s4,q4,s5,q5];generalize hD:dot (a8 (d7 v1 v0) (d7 v2 v0)) (d7 v3 v0)=D at *
  by_cases hz:D=0
  ·have hf:ca5 [v0,v1,v2,v3]=11:=(kc9 (by simp) (Qkl.2 hi4)).2 (Dd8 (by rw[hD,hz]))
   have e:V8 [v0,v1,v2,v3]=(0,11):=by unfold V8;rw[hf,if_neg (by omega)]
   rw[e,show (D==0)=true from beq_iff_eq.2 hz]
   rfl
  ·obtain⟨hc,h6⟩:=Pd7 hi4 (by rw[hD];exact hz)
   rw[hD] at h6;obtain⟨m1,m2,_⟩:=Dd7 hc i4 (l':=[v0,v1,v2,v3,v4]) (by simp) λu=>by simp[or_assoc]
   have e0:(V8 [v0,v1,v2,v3]).2=0:=by unfold V8;rw[if_pos hc]
   have ew:(if W (0-D)>D then W (0-D) else D)=(V8 [v0,v1,v2,v3]).1:=je0 h6 b1 b2
   rw[ew,show (D==0)=false from beq_eq_false_iff_ne.2 hz,e0,m1,show ((V8 [v0,v1,v2,v3]).1==(V8 [v0,v1,v2,v3]).1)=true from beq_self_eq_true _,show decide ((V8 [v0,v1,v2,v3,v4]).1>=(V8 [v0,v1,v2,v3]).1)=true from decide_eq_true m2]
   rfl
theorem Dd9(x:List Int):Y9 x=true:=by unfold Y9;rw[mc2 x];rfl
theorem Ed0(x:List Int):Z0 x=true:=by unfold Z0;rw[mc2 x];rfl
end Go.Ev.Ce
