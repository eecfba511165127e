/- Own work. -/
import Derived.Test.YtekgjjgbdcgldaaGreatEvOXK
set_option linter.all false
def Qla:=@List.mem_append
def Qlb:=@List.mem_cons_of_mem
def Qlc:=@List.length_append
def Qld:=@List.mem_singleton
def Qle:=@List.mem_append_left
def Qlf:=@List.getElem?_eq_getElem
def Qlg:=@List.mem_cons
def Qlh:=@Bool.and_eq_true
def Qli:=@List.all_eq_true
def Qlj:=@List.not_mem_nil
def Qlk:=@List.append_nil
def Qll:=@Int.mul_le_mul
def Qlm:=@List.getD_eq_getElem?_getD
def Qln:=@Bool.not_true
def Qlo:=@Array.getElem?_eq_getElem
def Qlp:=@Nat.zero_add
def Qlq:=@Int.tmod_nonneg
def Qlr:=@List.mem_append_right
def Qls:=@Nat.ble_eq_true_of_le
def Qlt:=@List.mem_of_mem_take
def Qlu:=@List.map_cons
def Qlv:=@List.map_congr_left
def Qlw:=@Int.tmod_lt_of_pos
def Qlx:=@Nat.le_refl
namespace Go.Ev.Ce
open Go Go.Ev Go.Ev.L Go.Proofs
def SV(d:List Pln)(l:List (List Pln)):Int:=(l.map λy=>vol (y++d)).sum
theorem Ad9(d:List Pln):SV d []=0:=rfl
theorem fb2(d:List Pln)(y:List Pln)(l:List (List Pln)):SV d (y::l)=vol (y++d)+SV d l:=by unfold SV;rw[Qlu,List.sum_cons]
theorem Fe9(d:List Pln)(l m:List (List Pln)):SV d (l++m)=SV d l+SV d m:=by unfold SV;rw[List.map_append,List.sum_append]
theorem Ge0(d:List Pln):∀l,0<=SV d l
 |[]=>Int.le_refl _
 |y::l=>by rw[fb2];have:=Ge0 d l;have:=Pb3 (y++d);omega
theorem qb1{c d:List Pln}{z:Pt}:Inr (c++d++ws) z↔Inr (c++ws) z/\∀p∈d,0<=rmZ p z:=by
 constructor
 ·intro h;exact⟨h.mono λp hp=>by simp only[Qla] at hp ⊢;rcases hp with h | h<;>simp[h],λp hp=>h.h p (by simp[hp])⟩
 ·rintro⟨h1,h2⟩;refine⟨h1.w,λp hp=>?_⟩
  simp only[Qla] at hp
  rcases hp with (hp|hp)|hp
  ·exact h1.h p (by simp[hp])
  ·exact h2 p hp
  ·exact h1.h p (by simp[hp])
section
variable{x fs d:List Pln}(hx:(chk x==0)=true)(hf:∀p∈fs,okp p=true){z0:Pt}(h1:Ins (x++ws) z0)(h2:Ins (fs++ws) z0)(h48:ra9 x fs=true)(ax:Ax x)(af:Ax fs)(ad:Ax d)
include hx hf h1 h2 h48 ax af ad
theorem Ze3:∀j,j<=fs.length->SV d (Ca6 x fs j)+vol (v7 x fs j++d)=vol (x++d)
 |0,_=>by show 0+vol (x++d)=_;omega
 |j+1,hj=>by
  have ih:=Ze3 j (by omega)
  obtain⟨k1,k2,_⟩:=pb6 hx hf h1 h2 h48 j (by omega)
  obtain⟨_,q2,_⟩:=pb6 hx hf h1 h2 h48 (j+1) hj;obtain⟨c1,c2⟩:=Dc4 hx hf h1 h2 h48 (show j<fs.length by omega)
  have hpf:gL tP fs j∈fs:=ga4 tP (by omega)
  have hr:Ax (v7 x fs j):=λp hp=>(Ib9 j (by omega) p hp).elim (ax p) (af p)
  have hr1:Ax (v7 x fs (j+1)):=λp hp=>(Ib9 (j+1) hj p hp).elim (ax p) (af p)
  have e1:vol (v7 x fs (j+1)++d)=vol (v7 x fs j++d++[gL tP fs j]):=ec9 (hr1.app ad) ((hr.app ad).app (.one (af _ hpf))) λz=>by
   rw[he5,qb1,qb1,q2 z,k2 z];constructor
   ·rintro⟨⟨a1,a2⟩,a3⟩;exact⟨⟨⟨a1,λi hi=>a2 i (by omega)⟩,a3⟩,a2 j (by omega)⟩
   ·rintro⟨⟨⟨a1,a2⟩,a3⟩,a4⟩;refine⟨⟨a1,λi hi=>?_⟩,a3⟩
    by_cases e:i=j
    ·subst e;exact a4
    ·exact a2 i (by omega)
  have e2:SV d (if 0<(sa5 x fs j).length then [sa5 x fs j] else [])=vol (v7 x fs j++d++[U1 (gL tP fs j)]):=by
   have hl:=Zc9 hx hf h1 h2 h48 (show j<fs.length by omega)
   by_cases he:sa5 x fs j=[]
   ·rw[he];show 0=_;refine (oc5 λhw=>?_).symm
    obtain⟨z,hz⟩:=Ec6 ((hr.app ad).app (.one (Oc4 (af _ hpf)))) hw;have hful:=c1.1 he
    have:ful (v7 x fs j++[U1 (gL tP fs j)])=true:=D9.2 ⟨Se3 k1 (by omega) (Pd0 (hf _ hpf)),z,hz.mono λp hp=>by
     simp only[Qla,Qld] at hp ⊢
     rcases hp with (h|h)|h<;>simp[h]⟩
    rw[this] at hful;cases hful
   ·rw[if_pos (List.length_pos_iff.2 he),fb2,Ad9];obtain⟨_,c3,_⟩:=c2 he;have hc:Ax (sa5 x fs j):=λp hp=>by
     have hp:=ga1 (show p∈lean (v7 x fs j++[U1 (gL tP fs j)]) from hp)
     rcases Qla.1 hp with h|h
     ·exact hr p h
     ·rw[Qld.1 h];exact Oc4 (af _ hpf)
    rw[Int.add_zero];refine ec9 (hc.app ad) ((hr.app ad).app (.one (Oc4 (af _ hpf)))) λz=>?_
    rw[he5,qb1,qb1,c3 z,qa1];constructor
    ·rintro⟨⟨a1,a2⟩,a3⟩;exact⟨⟨a1,a3⟩,by omega⟩
    ·rintro⟨⟨a1,a3⟩,a2⟩;exact⟨⟨a1,by omega⟩,a3⟩
  rw[pd5,Fe9,e1,e2]
  have:=Te2 (c:=v7 x fs j++d) (af _ hpf)
  omega
end
theorem he9{x q d:List Pln}(hd:Ax (x++(q++d)))(h:∀z,Ins (x++ws) z->Ins (q++ws) z->False):vol (x++(q++d))=0:=oc5 λhw=>by
 obtain⟨z,hz⟩:=Ec6 hd hw;exact h z (hz.mono λp hp=>by simp only[Qla] at hp ⊢;rcases hp with h | h<;>simp[h]) (hz.mono λp hp=>by simp only[Qla] at hp ⊢;rcases hp with h | h<;>simp[h])
theorem sf5{x q d:List Pln}(hx:ful x=true)(hq:ful q=true)(hr:Ha4 q x=true)(ax:Ax x)(aq:Ax q)(ad:Ax d):SV d (qa2 q x)+vol (x++(q++d))=vol (x++d):=by
 unfold qa2;cases ha:apart x q with
 |true =>
  rw[if_pos rfl,fb2,Ad9,he9 (ax.app (aq.app ad)) ((cb6 (D9.1 hx).1 (D9.1 hq).1).1 ha)];omega
 |false =>
  rw[if_neg (by decide)]
  obtain⟨z0,z1,z2⟩:=ec6 hx hq ha;unfold Ha4 at hr;rw[ha,Bool.false_or] at hr;have al:Ax (lean q):=aq.sub λp hp=>ga1 hp
  have k:=Ze3 (D9.1 hx).1 (ec8 hq) z1 ((Xa9 hq).2 z2) hr ax al ad _ (Qlx _);obtain⟨_,q2,_⟩:=pb6 (D9.1 hx).1 (ec8 hq) z1 ((Xa9 hq).2 z2) hr _ (Qlx _);have hrx:Ax (v7 x (lean q) (lean q).length):=λp hp=>(Ib9 _ (Qlx _) p hp).elim (ax p) (al p)
  have e:vol (v7 x (lean q) (lean q).length++d)=vol (x++(q++d)):=ec9 (hrx.app ad) (ax.app (aq.app ad)) λz=>by
   rw[<- List.append_assoc,qb1,qb1,qb1,q2 z];have hl:Inr (lean q++ws) z↔Inr (q++ws) z:=Aa9 hq;constructor
   ·rintro⟨⟨a1,a2⟩,a3⟩
    have:Inr (q++ws) z:=hl.1 ⟨a1.w,λp hp=>by
     rcases Qla.1 hp with h|h
     ·obtain⟨i,hi,rfl⟩:=List.getElem_of_mem h
      have:=a2 i hi
      simpa [gL,Qlm,Qlf hi] using this
     ·exact a1.h p (Qlr _ h)⟩
    exact⟨⟨a1,λp hp=>this.h p (Qle _ hp)⟩,a3⟩
   ·rintro⟨⟨a1,a2⟩,a3⟩
    have:Inr (lean q++ws) z:=hl.2 ⟨a1.w,λp hp=>by
     rcases Qla.1 hp with h|h
     ·exact a2 p h
     ·exact a1.h p (Qlr _ h)⟩
    exact⟨⟨a1,λi hi=>this.h _ (Qle _ (ga4 tP hi))⟩,a3⟩
  omega
structure Pv(c E:List Pln)(ps:List (List Pln)):Prop where
 d:∀x∈ps,x.Nodup/\(∀p∈x,p∈Ec5 c E)/\ful x=true/\∀z,Inr (x++ws) z->Inr (c++ws) z
theorem Te3{c E:List Pln}(hc:Ax c)(hE:Ax E):Ax (Ec5 c E):=by
 intro p hp;unfold Ec5 at hp;simp only[Qla,List.mem_map] at hp
 rcases hp with h|h|⟨q,hq,rfl⟩
 ·exact hc p h
 ·exact hE p h
 ·exact Oc4 (hE q hq)
theorem Pv.ax{c E:List Pln}{ps:List (List Pln)}(hc:Ax c)(hE:Ax E)(h:Pv c E ps){x:List Pln}(hx:x∈ps):Ax x:=(Te3 hc hE).sub (h.d x hx).2.1
theorem Ge1{q d:List Pln}:∀ps:List (List Pln),(∀x∈ps,SV d (qa2 q x)+vol (x++(q++d))=vol (x++d))->SV d (ps.flatMap (qa2 q))+SV (q++d) ps=SV d ps
 |[],_=>rfl
 |x::ps,h=>by
  have h1:=h x (by simp)
  have h2:=Ge1 ps λy hy=>h y (Qlb _ hy)
  rw[List.flatMap_cons,Fe9,fb2,fb2];omega
theorem Ze4{ps:List (List Pln)}(h:∀x∈ps,ful x=true/\Ax x):(ps.length:Int)<=SV [] ps:=by
 induction ps with
 |nil=>exact Int.le_refl _
 |cons x ps ih =>
  have h1:=ih λy hy=>h y (Qlb _ hy)
  obtain⟨h2,h3⟩:=h x (by simp)
  obtain⟨_,z,hz⟩:=D9.1 h2
  have:=Te0 (Ad8 hz)
  rw[fb2,Qlk];simp only[List.length_cons];omega
theorem qe6 {c E q : List Pln} {ps : List (List Pln)} (he : 1 ≤ E.length) (hU : (Ec5 c E).length ≤ 47) (hc : Ax c) (hE : Ax E) (hk : ∀ p ∈ q, p ∈ c ∨ p ∈ E) (hqc : (chk q == 0) = true) (h : Pv c E ps) (hv : SV [] ps ≤ 200) :
  ∃r,E8 ps q=some r/\Pv c E r/\∀d,Ax d->SV d r+SV (q++d) ps=SV d ps:=by
 have aq:Ax q:=λp hp=>(hk p hp).elim (hc p) (hE p)
 cases hq:ful q with
 |false =>
  refine⟨ps,by unfold E8;rw[hq];rfl,h,λd ad=>?_⟩
  have k2:∀l:List (List Pln),(∀x∈l,Ax x)->SV (q++d) l=0:=λl=>by
   induction l with
   |nil=>intro _;rfl
   |cons x l ih =>
    intro hl;rw[fb2,ih λy hy=>hl y (Qlb _ hy),he9 ((hl x (by simp)).app (aq.app ad)) λz _ hz=>by
     rw[D9.2 ⟨hqc,z,hz⟩] at hq;cases hq]
    rfl
  rw[k2 ps λx hx=>h.ax hc hE hx]
  omega
 |true =>
  have hp:=λx (hx:x∈ps)=>qe5 he hU hq hk (h.d x hx)
  have hV:∀d,Ax d->SV d (ps.flatMap (qa2 q))+SV (q++d) ps=SV d ps:=λd ad=>Ge1 ps λx hx=>sf5 (h.d x hx).2.2.1 hq (hp x hx).1 (h.ax hc hE hx) aq ad
  have hd:Pv c E (ps.flatMap (qa2 q)):=⟨λy hy=>by
   obtain⟨x,hx,hy⟩:=List.mem_flatMap.1 hy;exact (hp x hx).2.2 y hy⟩
  have hlen:=Ze4 (ps:=ps.flatMap (qa2 q)) λy hy=>⟨(hd.d y hy).2.2.1,hd.ax hc hE hy⟩
  have h0:=hV [] λp hp=>by cases hp
  have hnn:=Ge0 (q++[]) ps;refine⟨_,?_,hd,hV⟩;unfold E8;rw[hq,if_pos rfl,if_pos];rw[Qlh];exact⟨Qli.2 λx hx=>(hp x hx).1,decide_eq_true (by omega)⟩
def SS(ps s:List (List Pln)):Int:=(s.map λq=>SV q ps).sum
theorem hf8(ps:List (List Pln)):SS ps []=0:=rfl
theorem Bd0(ps:List (List Pln))(q:List Pln)(s:List (List Pln)):SS ps (q::s)=SV q ps+SS ps s:=by unfold SS;rw[Qlu,List.sum_cons]
theorem Ge2 {c E : List Pln} (he : 1 ≤ E.length) (hU : (Ec5 c E).length ≤ 47) (hc : Ax c) (hE : Ax E) : ∀ (s ps : List (List Pln)), (∀ q ∈ s, (chk q == 0) = true ∧ ∀ p ∈ q, p ∈ c ∨ p ∈ E) → s.Pairwise (fun q q' => ∀ z, Ins (q ++ ws) z → Ins (q' ++ ws) z → False) → Pv c E ps → SV [] ps ≤ 200 →
  ∃r,ab0 s (some ps)=some r/\Pv c E r/\SV [] r+SS ps s=SV [] ps
 |[],ps,_,_,h,_=>⟨ps,rfl,h,by rw[hf8];omega⟩
 |q::s,ps,hs,hp,h,hv=>by
  obtain⟨hq,hk⟩:=hs q (by simp)
  have aq:∀q'∈q::s,Ax q':=λq' hq' p hp=>((hs q' hq').2 p hp).elim (hc p) (hE p)
  obtain⟨p1,p2⟩:=List.pairwise_cons.1 hp;obtain⟨r1,e1,d1,v1⟩:=qe6 he hU hc hE hk hq h hv;have v0:=v1 [] λp hp=>by cases hp
  have hnn:=Ge0 (q++[]) ps;obtain⟨r,e,dd,v⟩:=Ge2 he hU hc hE s r1 (λq' hq'=>hs q' (Qlb _ hq')) p2 d1 (by omega)
  refine⟨r,?_,dd,?_⟩
  ·show ab0 s (E8 ps q)=_;rw[e1];exact e
  ·have hss : ∀ t : List (List Pln), (∀ q' ∈ t, q' ∈ s) → SS r1 t = SS ps t := fun t => by
    induction t with
    |nil=>intro _;rfl
    |cons q' t ih =>
     intro ht;have hq':=ht q' (by simp)
     have aq':=aq q' (Qlb _ hq');have k1:=v1 q' aq';have k2:∀l:List (List Pln),(∀x∈l,Ax x)->SV (q++q') l=0:=λl=>by
      induction l with
      |nil=>intro _;rfl
      |cons x l ih =>
       intro hl;rw[fb2,ih λy hy=>hl y (Qlb _ hy)]
       have:vol (x++(q++q'))=0:=oc5 λhw=>by
        obtain⟨z,hz⟩:=Ec6 ((hl x (by simp)).app ((aq q (by simp)).app aq')) hw
        exact p1 q' hq' z (hz.mono λp hp=>by simp only[Qla] at hp ⊢;rcases hp with h | h<;>simp[h]) (hz.mono λp hp=>by simp only[Qla] at hp ⊢;rcases hp with h | h<;>simp[h])
       omega
     rw[Bd0,Bd0,ih λy hy=>ht y (Qlb _ hy)]
     have:=k2 ps λx hx=>h.ax hc hE hx
     omega
   rw[Bd0]
   have:=hss s λ_ h=>h
   rw[Qlk] at v0;omega
theorem Te4 {c E : List Pln} {s : List (List Pln)} (he : 1 ≤ E.length) (hU : (Ec5 c E).length ≤ 47) (hc : Ax c) (hE : Ax E) (hf : ful c = true) (hs : ∀ q ∈ s, (chk q == 0) = true ∧ ∀ p ∈ q, p ∈ c ∨ p ∈ E) (hp : s.Pairwise (fun q q' => ∀ z, Ins (q ++ ws) z → Ins (q' ++ ws) z → False)) (hv : vol c ≤ 200) :
  ∃r,la4 c s=some r/\Pv c E r/\SV [] r+(s.map λq=>vol (c++q)).sum=vol c:=by
 have al:Ax (lean c):=hc.sub λp hp=>ga1 hp
 have ev:∀d,Ax d->vol (lean c++d)=vol (c++d):=λd ad=>ec9 (al.app ad) (hc.app ad) λz=>by rw[qb1,qb1,Aa9 hf]
 have e0:=ev [] λp hp=>by cases hp
 rw[Qlk c] at e0;have s0:SV [] [lean c]=vol c:=by rw[fb2,Ad9,e0];omega
 obtain⟨r,e,d,v⟩:=Ge2 he hU hc hE s [lean c] hs hp ⟨λx hx=>by
  rw[Qld.1 hx];exact⟨Pb2 c,λp hp=>Qle _ (ga1 hp),Zc8 hf,λz hz=>(Aa9 hf).1 hz⟩⟩ (by rw[s0];exact hv)
 refine⟨r,?_,d,?_⟩
 ·rw[Qd9,hf];exact e
 ·rw[s0] at v;rw[<- v];congr 1;unfold SS;congr 1;refine Qlv λq hq=>?_
  have aq:Ax q:=λp hp=>((hs q hq).2 p hp).elim (hc p) (hE p)
  rw[fb2,Ad9,ev q aq];omega
theorem Rd1{r:List Pln}{p q:Pln}{out:List Pt}{s:Pln}(h:out.Nodup):(za8 r p q out s).Nodup:=by
 unfold za8;split
 ·rename_i hc;simp only[Qlh,Bool.not_eq_true'] at hc;rw[List.nodup_append];refine⟨h,by simp,λa ha b hb e=>?_⟩
  rw[Qld] at hb;have h1:=hc.2.1;unfold Rb9 at h1;have h2:=List.any_eq_false.1 h1 a ha;rw[e,hb] at h2;exact h2 (by simp[eqX])
 ·exact h
theorem bd8{r:List Pln}{p q:Pln}:∀{l:List Pln} {out:List Pt},out.Nodup->(ib4 r p q l out).Nodup
 |[],_,h=>h
 |_::l,_,h=>bd8 (l:=l) (Rd1 h)
theorem bd9{r:List Pln}{p:Pln}:∀{l:List Pln} {out:List Pt},out.Nodup->(Ta2 r p l out).Nodup
 |[],_,h=>h
 |_::l,_,h=>bd9 (l:=l) (bd8 h)
theorem cd0{r:List Pln}:∀{l:List Pln} {out:List Pt},out.Nodup->(mc8 r l out).Nodup
 |[],_,h=>h
 |_::l,_,h=>cd0 (l:=l) (bd9 h)
theorem qe7(r:List Pln):(cor r).Nodup:=cd0 List.nodup_nil
def axX(a:V3):Bool:=a.y==0&&a.z==0
def axY(a:V3):Bool:=a.x==0&&a.z==0
def axZ(a:V3):Bool:=a.x==0&&a.y==0
def ax3(a b c:V3):Bool:=dot a (k9 b c)==0||((dot a (k9 b c)==1||dot a (k9 b c)==-1)&&((axX a||(axX b||axX c))&&((axY a||(axY b||axY c))&&(axZ a||(axZ b||axZ c)))))
theorem Te5:(axs.all λa=>axs.all λb=>axs.all λc=>ax3 a b c)=true:=by decide
theorem Ge3 {a b c : V3} (ha : a ∈ axs) (hb : b ∈ axs) (hc : c ∈ axs) (h : dot a (k9 b c) ≠ 0) :
  (dot a (k9 b c)=1\/dot a (k9 b c)=-1)/\(axX a=true\/axX b=true\/axX c=true)/\(axY a=true\/axY b=true\/axY c=true)/\(axZ a=true\/axZ b=true\/axZ c=true):=by
 have h1:=Qli.1 (Qli.1 (Qli.1 Te5 a ha) b hb) c hc;unfold ax3 at h1;simp only[Bool.or_eq_true,Qlh,beq_iff_eq] at h1;exact h1.resolve_left h
def bxE(lo hi:V3):List Pt:=[⟨lo.x,lo.y,lo.z,1⟩,⟨lo.x,lo.y,hi.z,1⟩,⟨lo.x,hi.y,lo.z,1⟩,⟨lo.x,hi.y,hi.z,1⟩,⟨hi.x,lo.y,lo.z,1⟩,⟨hi.x,lo.y,hi.z,1⟩,⟨hi.x,hi.y,lo.z,1⟩,⟨hi.x,hi.y,hi.z,1⟩]
theorem Oc6{lo hi:V3}{x:Pt}:x∈bxE lo hi↔x.pw=1/\(x.px=lo.x\/x.px=hi.x)/\(x.py=lo.y\/x.py=hi.y)/\(x.pz=lo.z\/x.pz=hi.z):=by
 obtain⟨a,b,c,w⟩:=x;simp only[bxE,Qlg,Qlj,or_false,Pt.mk.injEq];constructor
 ·rintro (⟨rfl,rfl,rfl,rfl⟩|⟨rfl,rfl,rfl,rfl⟩|⟨rfl,rfl,rfl,rfl⟩|⟨rfl,rfl,rfl,rfl⟩|⟨rfl,rfl,rfl,rfl⟩|⟨rfl,rfl,rfl,rfl⟩|⟨rfl,rfl,rfl,rfl⟩|⟨rfl,rfl,rfl,rfl⟩)<;>simp
 ·rintro⟨rfl,rfl|rfl,rfl|rfl,rfl|rfl⟩<;>simp
theorem Ec8(a c s:Int):(if c<(if a<s then a else s) then c else (if a<s then a else s))=(if a<(if c<s then c else s) then a else (if c<s then c else s)):=by
 repeat' split
 all_goals omega
theorem Ec9(a c s:Int):(if c>(if a>s then a else s) then c else (if a>s then a else s))=(if a>(if c>s then c else s) then a else (if c>s then c else s)):=by
 repeat' split
 all_goals omega
theorem ae2(s:V3×V3)(x y:Pt):vb4 (vb4 s x) y=vb4 (vb4 s y) x:=by
 unfold vb4
 simp only
 rw[Ec8 (x.px / x.pw),Ec8 (x.py / x.pw),Ec8 (x.pz / x.pw),Ec9 (W (0 - -x.px / x.pw)),Ec9 (W (0 - -x.py / x.pw)),Ec9 (W (0 - -x.pz / x.pw))]
structure Cx(c:List Pln):Prop where
 k:(chk c==0)=true
 a:Ax c
 w:Wid c
 s:∀n∈axs,mb n c<=20
theorem Cx.lt{c:List Pln}(h:Cx c):(loV c).x<(hiV c).x/\(loV c).y<(hiV c).y/\(loV c).z<(hiV c).z:=by
 obtain⟨h1,h2,h3⟩:=h.w;unfold wx at h1;unfold wy at h2;unfold wz at h3;simp only[loV,hiV];omega
theorem Cx.lo{c:List Pln}(h:Cx c):Sm 20 (loV c).x/\Sm 20 (loV c).y/\Sm 20 (loV c).z/\Sm 20 (hiV c).x/\Sm 20 (hiV c).y/\Sm 20 (hiV c).z:=by
 obtain⟨m1,m2,m3,m4,m5,m6⟩:=Bb9;have k1:=h.s _ m1;have k2:=h.s _ m2;have k3:=h.s _ m3;have k4:=h.s _ m4;have k5:=h.s _ m5;have k6:=h.s _ m6;obtain⟨h1,h2,h3⟩:=h.lt;simp only[loV,hiV,Sm] at *
 omega
theorem Cx.bds{c:List Pln}(h:Cx c):Bds (c++ws):=(Qa3 h.k).1
theorem cd1{c:List Pln}(h:Ax c):∀p∈c++ws,p.n∈axs:=λp hp=>(Qla.1 hp).elim (h p) (Fe8 p)
theorem sf6{c:List Pln}(h:Cx c):∀x∈cor (c++ws),x.pw=1:=λx hx=>by
 have h1:x.pw=1\/x.pw=-1:=xd8 (Q:=λx=>x.pw=1\/x.pw=-1) (λp hp q hq s hs hm _=>by
  obtain⟨h0,k,_,_,_,_,hk⟩:=De0 hm
  have:=(Ge3 (cd1 h.a p hp) (cd1 h.a q hq) (cd1 h.a s hs) h0).1
  have hkm:k*(mpt p q s).1.pw=1\/k*(mpt p q s).1.pw=-1:=by rw[hk];exact this
  generalize (mpt p q s).1.pw=w at *
  have hn:k.natAbs*w.natAbs=1:=by rw[<- Int.natAbs_mul];omega
  have:=Nat.eq_one_of_mul_eq_one_left hn
  omega) x hx
 have:=(Nb9 h.bds x hx).w1
 omega
theorem ae3{lo hi:V3}(h:lo.x<hi.x/\lo.y<hi.y/\lo.z<hi.z):(bxE lo hi).Nodup:=by
 obtain⟨_,_,_⟩:=h;simp only[bxE,List.nodup_cons,Qlg,Qlj,or_false,Pt.mk.injEq,List.nodup_nil,and_true,not_or,not_false_eq_true];omega
theorem tgx {c : List Pln} (h : Ax c) {p : Pln} (hp : p ∈ c ++ ws) {x : Pt} (hw : x.pw = 1) (hi : InB (loV c) (hiV c) x) (h0 : rmZ p x = 0) :
  (axX p.n=true->x.px=(loV c).x\/x.px=(hiV c).x)/\(axY p.n=true->x.py=(loV c).y\/x.py=(hiV c).y)/\(axZ p.n=true->x.pz=(loV c).z\/x.pz=(hiV c).z):=by
 have hn:=cd1 h p hp;have hm:mb p.n c<=p.b:=ae1 hp rfl;obtain⟨x1,x2,y1,y2,z1,z2⟩:=hi;rw[hw] at x1 x2 y1 y2 z1 z2;obtain⟨n,e⟩:=p
 simp only at hn hm
 simp only[rmZ,hw] at h0;simp only[loV,hiV] at x1 x2 y1 y2 z1 z2 ⊢
 revert hm h0
 refine Jb0 (P:=λn=>mb n c<=e->e*1-(n.x*x.px+n.y*x.py+n.z*x.pz)=0->(axX n=true->x.px=-mb ⟨-1,0,0⟩ c\/x.px=mb ⟨1,0,0⟩ c)/\(axY n=true->x.py=-mb ⟨0,-1,0⟩ c\/x.py=mb ⟨0,1,0⟩ c)/\(axZ n=true->x.pz=-mb ⟨0,0,-1⟩ c\/x.pz=mb ⟨0,0,1⟩ c)) hn ?_ ?_ ?_ ?_ ?_ ?_<;>intro hm h0<;>simp only at h0<;>refine⟨λh=>?_,λh=>?_,λh=>?_⟩<;>first | (exact absurd h (by decide)) | omega
theorem Te6{c:List Pln}(h:Cx c){x:Pt}(hx:x∈bxE (loV c) (hiV c)):InB (loV c) (hiV c) x:=by
 obtain⟨hw,h1,h2,h3⟩:=Oc6.1 hx;obtain⟨_,_,_⟩:=h.lt
 constructor<;>rw[hw]<;>omega
theorem fcx(c:List Pln){a:Int}:(a=(loV c).x\/a=(hiV c).x->∃s:Int,(s=1\/s=-1)/\(⟨⟨s,0,0⟩,s*a⟩:Pln)∈c++ws)/\(a=(loV c).y\/a=(hiV c).y->∃s:Int,(s=1\/s=-1)/\(⟨⟨0,s,0⟩,s*a⟩:Pln)∈c++ws)/\(a=(loV c).z\/a=(hiV c).z->∃s:Int,(s=1\/s=-1)/\(⟨⟨0,0,s⟩,s*a⟩:Pln)∈c++ws):=by
 obtain⟨m1,m2,m3,m4,m5,m6⟩:=Bb9;have k1:=sa3 m1 c;have k2:=sa3 m2 c;have k3:=sa3 m3 c;have k4:=sa3 m4 c;have k5:=sa3 m5 c;have k6:=sa3 m6 c;refine⟨?_,?_,?_⟩
 ·rintro (rfl|rfl)
  ·exact⟨-1,.inr rfl,by simpa [loV] using k2⟩
  ·exact⟨1,.inl rfl,by simpa [hiV] using k1⟩
 ·rintro (rfl|rfl)
  ·exact⟨-1,.inr rfl,by simpa [loV] using k4⟩
  ·exact⟨1,.inl rfl,by simpa [hiV] using k3⟩
 ·rintro (rfl|rfl)
  ·exact⟨-1,.inr rfl,by simpa [loV] using k6⟩
  ·exact⟨1,.inl rfl,by simpa [hiV] using k5⟩
theorem sf7{c:List Pln}(h:Cx c){x:Pt}(hx:x∈bxE (loV c) (hiV c)):Cn (c++ws) x:=by
 obtain⟨hw,h1,h2,h3⟩:=Oc6.1 hx;obtain⟨s,hs,m1⟩:=(fcx c).1 h1;obtain⟨t,ht,m2⟩:=(fcx c).2.1 h2;obtain⟨u,hu,m3⟩:=(fcx c).2.2 h3;refine⟨(xc5 h.a).2 ⟨by omega,Te6 h hx⟩,_,_,_,m1,m2,m3,?_,?_,?_,?_⟩
 ·unfold mw dot k9
  simp only
  rcases hs with rfl|rfl<;>rcases ht with rfl|rfl<;>rcases hu with rfl|rfl<;>decide
 ·simp only[rmZ,hw];omega
 ·simp only[rmZ,hw];omega
 ·simp only[rmZ,hw];omega
theorem hf9{c:List Pln}(h:Cx c)(x:Pt):x∈cor (c++ws)↔x∈bxE (loV c) (hiV c):=by
 have hb:=h.bds;constructor
 ·intro hx;have hw:=sf6 h x hx;have hc:=Zd0 hb x hx;have hin:=((xc5 h.a).1 hc.toInr).2;obtain⟨p,q,s,hp,hq,hs,h0,r1,r2,r3⟩:=hc.c;obtain⟨_,k1,k2,k3⟩:=Ge3 (cd1 h.a p hp) (cd1 h.a q hq) (cd1 h.a s hs) h0;have t1:=tgx h.a hp hw hin r1;have t2:=tgx h.a hq hw hin r2;have t3:=tgx h.a hs hw hin r3;refine Oc6.2 ⟨hw,?_,?_,?_⟩
  ·rcases k1 with k|k|k
   ·exact t1.1 k
   ·exact t2.1 k
   ·exact t3.1 k
  ·rcases k2 with k|k|k
   ·exact t1.2.1 k
   ·exact t2.2.1 k
   ·exact t3.2.1 k
  ·rcases k3 with k|k|k
   ·exact t1.2.2 k
   ·exact t2.2.2 k
   ·exact t3.2.2 k
 ·intro hx;obtain⟨y,hy,e⟩:=Zd1 hb (sf7 h hx);have hw:=sf6 h y hy;have hw':=(Oc6.1 hx).1
  have:y=x:=by
   obtain⟨e1,e2,e3⟩:=e;obtain⟨y1,y2,y3,y4⟩:=y;obtain⟨x1,x2,x3,x4⟩:=x
   simp only at hw hw' e1 e2 e3
   subst hw hw';simp only[Int.mul_one] at e1 e2 e3;subst e1 e2 e3;rfl
  exact this ▸ hy
theorem Ge4{c:List Pln}(h:Cx c):ful c=true:=D9.2 ⟨h.k,Ec6 h.a h.w⟩
theorem if0{c:List Pln}(h:Cx c):List.Perm (pts c) (bxE (loV c) (hiV c)):=by
 unfold pts;rw[if_pos h.k];exact (List.perm_ext_iff_of_nodup (qe7 _) (ae3 h.lt)).2 (hf9 h)
theorem Ge5{c:List Pln}(h:Cx c):bnd c=(loV c,hiV c,true):=by
 unfold bnd;rw[if_pos (Ge4 h),(if0 h).foldl_eq' (λx _ y _ z=>ae2 z x y)]
 obtain⟨⟨a1,a2⟩,⟨a3,a4⟩,⟨a5,a6⟩,⟨b1,b2⟩,⟨b3,b4⟩,⟨b5,b6⟩⟩:=h.lo;obtain⟨c1,c2,c3⟩:=h.lt;generalize loV c=lo at *
 generalize hiV c=hi at *
 have w:∀{x:Int},-20<=x->x<=20->W (0 - -x)=x:=λh h'=>by rw[qa9 (by omega) (by omega)];omega
 have n1:¬ hi.x<lo.x:=by omega
 have n2:¬ hi.y<lo.y:=by omega
 have n3:¬ hi.z<lo.z:=by omega
 have l1:lo.x<24:=by omega
 have l2:lo.y<24:=by omega
 have l3:lo.z<24:=by omega
 have m1:-24<lo.x:=by omega
 have m2:-24<lo.y:=by omega
 have m3:-24<lo.z:=by omega
 simp only[bxE,List.foldl_cons,List.foldl_nil,vb4,Int.ediv_one,w a1 a2,w a3 a4,w a5 a6,w b1 b2,w b3 b4,w b5 b6,gt_iff_lt,n1,n2,n3,l1,l2,l3,m1,m2,m3,c1,c2,c3,Int.lt_irrefl,if_true,if_false]
theorem if1{c:List Pln}(h:ful c=false):bnd c=(⟨0,0,0⟩,⟨0,0,0⟩,false):=by unfold bnd;rw[h];rfl
theorem Te7{c:List Pln}(h:Cx c):W (W (W ((hiV c).x-(loV c).x)*W ((hiV c).y-(loV c).y))*W ((hiV c).z-(loV c).z))=vol c:=by
 obtain⟨⟨a1,a2⟩,⟨a3,a4⟩,⟨a5,a6⟩,⟨b1,b2⟩,⟨b3,b4⟩,⟨b5,b6⟩⟩:=h.lo;obtain⟨c1,c2,c3⟩:=h.lt;rw[he7 h.w];have e1:wx c=(hiV c).x-(loV c).x:=by simp only[wx,hiV,loV];omega
 have e2:wy c=(hiV c).y-(loV c).y:=by simp only[wy,hiV,loV];omega
 have e3:wz c=(hiV c).z-(loV c).z:=by simp only[wz,hiV,loV];omega
 rw[e1,e2,e3];generalize hx:(hiV c).x-(loV c).x=x at *
 generalize hy:(hiV c).y-(loV c).y=y at *
 generalize hz:(hiV c).z-(loV c).z=z at *
 have x1:0<x/\x<=40:=by omega
 have y1:0<y/\y<=40:=by omega
 have z1:0<z/\z<=40:=by omega
 have p1:x*y<=40*40:=Qll x1.2 y1.2 (by omega) (by omega)
 have p2:0<x*y:=Int.mul_pos x1.1 y1.1;have p3:x*y*z<=40*40*40:=Qll p1 z1.2 (by omega) (by omega)
 have p4:0<x*y*z:=Int.mul_pos p2 z1.1;rw[qa9 (n:=x) (by omega) (by omega),qa9 (n:=y) (by omega) (by omega),qa9 (n:=z) (by omega) (by omega),qa9 (n:=x*y) (by omega) (by omega),qa9 (by omega) (by omega),Int.mul_assoc]
theorem qe8{c:List Pln}(h:Cx c):lies (Hb6 (loV c) (hiV c)) c=true:=by
 obtain⟨s1,s2,s3,s4,s5,s6⟩:=h.lo;have w:∀{x:Int},Sm 20 x->W (0-x)=-x:=λh=>by rw[qa9 (by have:=h.1;have:=h.2;omega) (by have:=h.1;have:=h.2;omega)];omega
 refine Se8 (Pd1 ⟨s1,s2,s3⟩ ⟨s4,s5,s6⟩ h.lt).ful h.k λz hz=>(xc5 h.a).2 ⟨hz.w,?_⟩
 have g:∀p,p∈Hb6 (loV c) (hiV c)->0<=rmZ p z:=λp hp=>hz.h p (Qle _ hp)
 unfold Hb6 at g;rw[w s1,w s2,w s3] at g;have h1:=g ⟨⟨1,0,0⟩,(hiV c).x⟩ (by simp)
 have h2:=g ⟨⟨-1,0,0⟩,-(loV c).x⟩ (by simp)
 have h3:=g ⟨⟨0,1,0⟩,(hiV c).y⟩ (by simp)
 have h4:=g ⟨⟨0,-1,0⟩,-(loV c).y⟩ (by simp)
 have h5:=g ⟨⟨0,0,1⟩,(hiV c).z⟩ (by simp)
 have h6:=g ⟨⟨0,0,-1⟩,-(loV c).z⟩ (by simp)
 simp only[rmZ,Int.neg_mul] at h1 h2 h3 h4 h5 h6
 constructor<;>omega
set_option maxRecDepth 100000
noncomputable def sa9:List (Nat×Sum):=[(37,bc5),(60,bd5),(45,Fb3),(40,fb0),(61,xc3),(56,pb0),(62,Nb1),(63,nc4),(57,jc2)]
theorem bc6:g9 prog G sa9:=⟨Mc2,Qd3,bc0,wb8,jd3,Eb9,ic8,Hc3,Yc2,trivial⟩
structure H9 where
 Ma2:List B6
 bs5:Bool
 p9:List Pln
structure o4 where
 ph:Nat
 is8:Int
 ns7:Nat
 eh0:List (List a7)
noncomputable def xa5(p:H9)(s:o4):St:=⟨.unk::eL tS p.Ma2::ra 3 (b p.bs5::eL tP p.p9::.v (.slice none 0 0)::i s.is8::ra 120 []),[]⟩
noncomputable def xa6(p:H9)(s:o4):St:=⟨.unk::eL tS p.Ma2::ra 3 (b p.bs5::eL tP p.p9::.sl 0 0 s.ns7 0::i s.is8::ra 120 []),[⟨24,1,s.eh0,true,false,0⟩]⟩
noncomputable def Sb7(p:H9)(s:o4):St:=(sel (Nat.beq s.ph 1) (xa6 p s) (xa5 p s))
noncomputable def r5{α:Type}(k:o4->α)(e:Nat->α)(z:α)(p:H9)(s:o4):α:=let t1:=(db2 (gL tS p.Ma2 s.is8.toNat));let t2:=(sa1 (rt tP t1) []);(sl (decide (s.is8<(↑(List.length p.Ma2):Int))) (sl (decide (s.is8<3)) (sl (inB s.is8 (List.length p.Ma2)) (sl (db3 (gL tS p.Ma2 s.is8.toNat)) (sl (okE tP t1) (sl (sa2 (rt tP t1) []) (sl t2 (k ⟨1,W (s.is8+1),1,[[eL tP t1]]⟩) (k ⟨0,W (s.is8+1),0,[]⟩)) z) z) z) z) (e 1)) (e 2))
noncomputable def m0{α:Type}(k:o4->α)(e:Nat->α)(z:α)(p:H9)(s:o4):α:=let t1:=(db2 (gL tS p.Ma2 s.is8.toNat));let t2:=(sa1 (rt tP t1) (lsL (tLs tP) s.ns7 (λk=>i6 s.eh0 (0+k))));(sl (decide (s.is8<(↑(List.length p.Ma2):Int))) (sl (decide (s.is8<3)) (sl (inB s.is8 (List.length p.Ma2)) (sl (db3 (gL tS p.Ma2 s.is8.toNat)) (sl (okE tP t1) (sl (okL (tLs tP) s.ns7 (λk=>i6 s.eh0 (0+k))) (sl (sa2 (rt tP t1) (lsL (tLs tP) s.ns7 (λk=>i6 s.eh0 (0+k)))) (sl t2 (sl (Nat.beq s.ns7 (len s.eh0)&&Nat.ble ((s.ns7+1)*24) room) (k ⟨1,W (s.is8+1),s.ns7+1,app s.eh0 [[eL tP t1]]⟩) z) (k ⟨1,W (s.is8+1),s.ns7,s.eh0⟩)) z) z) z) z) z) (e 3)) (e 4))
noncomputable def F4(p:H9)(s:o4):Stp o4:=(sel (Nat.beq s.ph 1) (m0 .next .exit .fail p s) (r5 .next .exit .fail p s))
noncomputable def Ia2:Lo H9 o4:=⟨En sa9,0,Ne2,[1,1,1,1,0,1,4,4],[1,5,6,7,8],.p,[⟨sUq::sLq tS::ru2 3 (sBq::sLq tP::.s (.o .nil)::sIq::ru2 120 []),[],λa H=>(⟨aLq tS a 1,aBq a 5,aLq tP a 6⟩,⟨0,aIq a 8,0,[]⟩)⟩,⟨sUq::sLq tS::ru2 3 (sBq::sLq tP::.s (.o (.sl 0 0 (some 0) none))::sIq::ru2 120 []),[⟨24,1,true,none⟩],λa H=>(⟨aLq tS a 1,aBq a 5,aLq tP a 6⟩,⟨1,aIq a 8,slN (slT a 7),elT H 0⟩)⟩],F4,[(some 0,λp s=>upq (xa5 p s) [(28,i s.is8),(29,eL tS p.Ma2),(30,i (↑(List.length p.Ma2):Int)),(31,b (decide (s.is8<(↑(List.length p.Ma2):Int)))),(32,b true),(33,i s.is8),(34,b (decide (s.is8<3))),(35,b (decide (s.is8<3)))]),(some 0,λp s=>upq (xa5 p s) [(28,i s.is8),(29,eL tS p.Ma2),(30,i (↑(List.length p.Ma2):Int)),(31,b (decide (s.is8<(↑(List.length p.Ma2):Int)))),(32,b false),(33,u),(34,u),(35,b false)]),(some 0,λp s=>upq (xa6 p s) [(28,i s.is8),(29,eL tS p.Ma2),(30,i (↑(List.length p.Ma2):Int)),(31,b (decide (s.is8<(↑(List.length p.Ma2):Int)))),(32,b true),(33,i s.is8),(34,b (decide (s.is8<3))),(35,b (decide (s.is8<3)))]),(some 0,λp s=>upq (xa6 p s) [(28,i s.is8),(29,eL tS p.Ma2),(30,i (↑(List.length p.Ma2):Int)),(31,b (decide (s.is8<(↑(List.length p.Ma2):Int)))),(32,b false),(33,u),(34,u),(35,b false)])],Sb7⟩
theorem Sb8:Ia2.Ok:=Lo.ok [] (by kernel_rfl) .nil rfl (.cons (λa H=>by kernel_rfl) (.cons (λa H=>by kernel_rfl) .nil)) λp s=>(.sel (Nat.beq s.ph 1) (.of @m0 (λF _ _ _ _ _=>by unfold m0;(repeat' apply l5 (f:=F))<;>rfl) (by kernel_rfl)) (.of @r5 (λF _ _ _ _ _=>by unfold r5;(repeat' apply l5 (f:=F))<;>rfl) (by kernel_rfl)))
structure E1 where
 bs5:Bool
 p9:List Pln
 ie3:List (List Pln)
 re2:Int
 tf1:Nat
 eh0:List (List a7)
structure n8 where
 ph:Nat
 (Fc2 Pa9:Int)
noncomputable def Ya9(p:E1)(s:n8):St:=⟨ra 5 (b p.bs5::eL tP p.p9::ra 3 (eL (tLs tP) p.ie3::.unk::i s.Fc2::ra 54 (.v (.slice none 0 0)::i p.re2::i s.Pa9::ra 59 []))),[]⟩
noncomputable def Za0(p:E1)(s:n8):St:=⟨ra 5 (b p.bs5::eL tP p.p9::ra 3 (eL (tLs tP) p.ie3::.unk::i s.Fc2::ra 54 (.sl 0 0 p.tf1 0::i p.re2::i s.Pa9::ra 59 []))),[⟨24,1,p.eh0,false,false,0⟩]⟩
noncomputable def Sb9(p:E1)(s:n8):St:=(sel (Nat.beq s.ph 1) (Za0 p s) (Ya9 p s))
noncomputable def xa7{α:Type}(k:n8->α)(e:Nat->α)(z:α)(p:E1)(s:n8):α:=(sl (decide (s.Pa9<p.re2)) z (e 1))
noncomputable def J4{α:Type}(k:n8->α)(e:Nat->α)(z:α)(p:E1)(s:n8):α:=let t1:=(ia5 (slR tP (app (app [] (n5 (λk=>(tP).row (gL tP p.p9 k)) (List.range (List.length p.p9)))) (n5 (toG (hdA (e8 (i6 p.eh0 (0+s.Pa9.toNat)) 0))) (List.range (toN (hdA (e8 (i6 p.eh0 (0+s.Pa9.toNat)) 0)))))) 0 ((0+(len (n5 (λk=>(tP).row (gL tP p.p9 k)) (List.range (List.length p.p9)))))+(len (n5 (toG (hdA (e8 (i6 p.eh0 (0+s.Pa9.toNat)) 0))) (List.range (toN (hdA (e8 (i6 p.eh0 (0+s.Pa9.toNat)) 0)))))))));let t2:=(wa9 (rt tP p.p9) (lsL tP (toN (hdA (e8 (i6 p.eh0 (0+s.Pa9.toNat)) 0))) (toG (hdA (e8 (i6 p.eh0 (0+s.Pa9.toNat)) 0)))));(sl (decide (s.Pa9<p.re2)) (sl (inB s.Pa9 p.tf1) (sl (((Nat.blt (0+s.Pa9.toNat) (len p.eh0))&&(Nat.ble (0+1) (len (i6 p.eh0 (0+s.Pa9.toNat)))))&&(Ka2 [CK.sl 4] (e8 (i6 p.eh0 (0+s.Pa9.toNat)) 0))) (sl (Nat.beq 0 0&&Nat.ble ((0+(len (n5 (λk=>(tP).row (gL tP p.p9 k)) (List.range (List.length p.p9)))))*32) room) (sl (Nat.beq (0+(len (n5 (λk=>(tP).row (gL tP p.p9 k)) (List.range (List.length p.p9))))) (len (app [] (n5 (λk=>(tP).row (gL tP p.p9 k)) (List.range (List.length p.p9)))))&&Nat.ble (((0+(len (n5 (λk=>(tP).row (gL tP p.p9 k)) (List.range (List.length p.p9)))))+(len (n5 (toG (hdA (e8 (i6 p.eh0 (0+s.Pa9.toNat)) 0))) (List.range (toN (hdA (e8 (i6 p.eh0 (0+s.Pa9.toNat)) 0)))))))*32) room) (sl (okS tP (app (app [] (n5 (λk=>(tP).row (gL tP p.p9 k)) (List.range (List.length p.p9)))) (n5 (toG (hdA (e8 (i6 p.eh0 (0+s.Pa9.toNat)) 0))) (List.range (toN (hdA (e8 (i6 p.eh0 (0+s.Pa9.toNat)) 0)))))) 0 ((0+(len (n5 (λk=>(tP).row (gL tP p.p9 k)) (List.range (List.length p.p9)))))+(len (n5 (toG (hdA (e8 (i6 p.eh0 (0+s.Pa9.toNat)) 0))) (List.range (toN (hdA (e8 (i6 p.eh0 (0+s.Pa9.toNat)) 0)))))))) (sl (xa4 (slR tP (app (app [] (n5 (λk=>(tP).row (gL tP p.p9 k)) (List.range (List.length p.p9)))) (n5 (toG (hdA (e8 (i6 p.eh0 (0+s.Pa9.toNat)) 0))) (List.range (toN (hdA (e8 (i6 p.eh0 (0+s.Pa9.toNat)) 0)))))) 0 ((0+(len (n5 (λk=>(tP).row (gL tP p.p9 k)) (List.range (List.length p.p9)))))+(len (n5 (toG (hdA (e8 (i6 p.eh0 (0+s.Pa9.toNat)) 0))) (List.range (toN (hdA (e8 (i6 p.eh0 (0+s.Pa9.toNat)) 0))))))))) (sl (okE tP p.p9) (sl (okL tP (toN (hdA (e8 (i6 p.eh0 (0+s.Pa9.toNat)) 0))) (toG (hdA (e8 (i6 p.eh0 (0+s.Pa9.toNat)) 0)))) (sl (xa0 (rt tP p.p9) (lsL tP (toN (hdA (e8 (i6 p.eh0 (0+s.Pa9.toNat)) 0))) (toG (hdA (e8 (i6 p.eh0 (0+s.Pa9.toNat)) 0))))) (sl (!(t1.2==(!t2))) (e 2) (sl t1.2 (k ⟨1,W (s.Fc2-t1.1),W (s.Pa9+1)⟩) (k ⟨1,s.Fc2,W (s.Pa9+1)⟩))) z) z) z) z) z) z) z) z) z) (e 3))
noncomputable def F5(p:E1)(s:n8):Stp n8:=(sel (Nat.beq s.ph 1) (J4 .next .exit .fail p s) (xa7 .next .exit .fail p s))
noncomputable def Ia3:Lo E1 n8:=⟨En sa9,0,Ne2,[1,1,1,1,1,1,1,1,0,1,4,4],[5,6,10,12,67,68,69],.p,[⟨ru2 5 (sBq::sLq tP::ru2 3 (.s (.c 1 (nL (tLs tP)))::sUq::sIq::ru2 54 (.s (.o .nil)::sIq::sIq::ru2 59 []))),[],λa H=>(⟨aBq a 5,aLq tP a 6,rL (tLs tP) (slT a 10),aIq a 68,0,[]⟩,⟨0,aIq a 12,aIq a 69⟩)⟩,⟨ru2 5 (sBq::sLq tP::ru2 3 (.s (.c 1 (nL (tLs tP)))::sUq::sIq::ru2 54 (.s (.o (.sl 0 0 (some 0) none))::sIq::sIq::ru2 59 []))),[⟨24,1,false,none⟩],λa H=>(⟨aBq a 5,aLq tP a 6,rL (tLs tP) (slT a 10),aIq a 68,slN (slT a 67),elT H 0⟩,⟨1,aIq a 12,aIq a 69⟩)⟩],F5,[(some 2,λp s=>upq (Ya9 p s) [(70,b (decide (s.Pa9<p.re2)))]),(none,λp s=>⟨[b false],[]⟩),(some 2,λp s=>upq (Za0 p s) [(70,b (decide (s.Pa9<p.re2)))])],Sb9⟩
theorem Tb0:Ia3.Ok:=Lo.ok [] (by kernel_rfl) .nil rfl (.cons (λa H=>by kernel_rfl) (.cons (λa H=>by kernel_rfl) .nil)) λp s=>(.sel (Nat.beq s.ph 1) (.of @J4 (λF _ _ _ _ _=>by unfold J4;(repeat' apply l5 (f:=F))<;>rfl) (by kernel_rfl)) (.of @xa7 (λF _ _ _ _ _=>by unfold xa7;(repeat' apply l5 (f:=F))<;>rfl) (by kernel_rfl)))
structure T6 where
 bs5:Bool
 Za3:List (List Pln)
 if7:Int
structure E2 where
 (Fc2 yc3:Int)
noncomputable def ab1(p:T6)(s:E2):St:=⟨ra 5 (b p.bs5::ra 6 (i s.Fc2::ra 80 (eL (tLs tP) p.Za3::i p.if7::i s.yc3::ra 33 []))),[]⟩
noncomputable def X4{α:Type}(k:E2->α)(e:Nat->α)(z:α)(p:T6)(s:E2):α:=let t1:=(ia5 (rt tP (gL (tLs tP) p.Za3 s.yc3.toNat)));let t2:=(Xa0 (rt tP (gL (tLs tP) p.Za3 s.yc3.toNat)));let t3:=(xa1 t2.1 t2.2.1);let t4:=(eb5 [(⟨(⟨1,0,0⟩:V3),t3.i9⟩:Pln),(⟨(⟨-1,0,0⟩:V3),t3.xc8⟩:Pln),(⟨(⟨0,1,0⟩:V3),t3.xc9⟩:Pln),(⟨(⟨0,-1,0⟩:V3),t3.yc0⟩:Pln),(⟨(⟨0,0,1⟩:V3),t3.yc1⟩:Pln),(⟨(⟨0,0,-1⟩:V3),t3.yc2⟩:Pln)] (rt tP (gL (tLs tP) p.Za3 s.yc3.toNat)));(sl (decide (s.yc3<p.if7)) (sl (inB s.yc3 (List.length p.Za3)) (sl (okE tP (gL (tLs tP) p.Za3 s.yc3.toNat)) (sl (xa4 (rt tP (gL (tLs tP) p.Za3 s.yc3.toNat))) (sl (okE tP (gL (tLs tP) p.Za3 s.yc3.toNat)) (sl (Xa1 (rt tP (gL (tLs tP) p.Za3 s.yc3.toNat))) (sl (!t1.2) (e 1) (sl (okE tP (gL (tLs tP) p.Za3 s.yc3.toNat)) (sl (eb6 [(⟨(⟨1,0,0⟩:V3),t3.i9⟩:Pln),(⟨(⟨-1,0,0⟩:V3),t3.xc8⟩:Pln),(⟨(⟨0,1,0⟩:V3),t3.xc9⟩:Pln),(⟨(⟨0,-1,0⟩:V3),t3.yc0⟩:Pln),(⟨(⟨0,0,1⟩:V3),t3.yc1⟩:Pln),(⟨(⟨0,0,-1⟩:V3),t3.yc2⟩:Pln)] (rt tP (gL (tLs tP) p.Za3 s.yc3.toNat))) (sl (!t4) (e 1) (k ⟨W (s.Fc2-t1.1),W (s.yc3+1)⟩)) z) z)) z) z) z) z) z) (e 2))
noncomputable def F6(p:T6)(s:E2):Stp E2:=X4 .next .exit .fail p s
noncomputable def Ia4:Lo T6 E2:=⟨En sa9,0,Ne2,[1,1,1,1,1,1,1,1,1,0,1,4,4],[5,12,93,94,95],.p,[⟨ru2 5 (sBq::ru2 6 (sIq::ru2 80 (.s (.c 1 (nL (tLs tP)))::sIq::sIq::ru2 33 []))),[],λa H=>(⟨aBq a 5,rL (tLs tP) (slT a 93),aIq a 94⟩,⟨aIq a 12,aIq a 95⟩)⟩],F6,[(none,λp s=>⟨[b false],[]⟩),(some 4,λp s=>upq (ab1 p s) [(96,b (decide (s.yc3<p.if7)))])],ab1⟩
theorem Tb1:Ia4.Ok:=Lo.ok [] (by kernel_rfl) .nil rfl (.cons (λa H=>by kernel_rfl) .nil) λp s=>(.of @X4 (λF _ _ _ _ _=>by unfold X4;(repeat' apply l5 (f:=F))<;>rfl) (by kernel_rfl))
noncomputable def la9(x:B6)(y:List B6):Option (a7×List a8):=let t1:=Ya7;let t2:=(db2 x);let t3:=(lp (F4 (⟨rt tS y,t1,rt tP t2⟩:H9)) (⟨0,0,0,[]⟩:o4));let t4:=(Ba8 (rt tP (rt tP t2)) []);let t5:=(ia5 (rt tP (rt tP t2)));let t6:=(lp (F5 (⟨t1,rt tP (rt tP t2),rt (tLs tP) t4.1,0,0,[]⟩:E1)) (⟨0,t5.1,0⟩:n8));let t7:=(lp (F6 (⟨t1,rt (tLs tP) (rt (tLs tP) t4.1),(↑(List.length (rt (tLs tP) t4.1)):Int)⟩:T6)) (⟨t6.2.Fc2,0⟩:E2));let t8:=(Ba8 (rt tP (rt tP t2)) (lsL (tLs tP) t3.2.ns7 (λk=>i6 t3.2.eh0 (0+k))));let t9:=(lp (F5 (⟨t1,rt tP (rt tP t2),rt (tLs tP) t8.1,(↑t3.2.ns7:Int),t3.2.ns7,t3.2.eh0⟩:E1)) (⟨1,t5.1,0⟩:n8));let t10:=(lp (F6 (⟨t1,rt (tLs tP) (rt (tLs tP) t8.1),(↑(List.length (rt (tLs tP) t8.1)):Int)⟩:T6)) (⟨t9.2.Fc2,0⟩:E2));let w0:Option (a7×List a8):=(sl (okE tP (rt tP t2)) (sl (sa0 (rt tP (rt tP t2)) []) (sl (okE tP (rt tP t2)) (sl (xa4 (rt tP (rt tP t2))) (sl (t4.2 != 0) (some (b false,[])) (sl (!t5.2) (some (b false,[])) (sl ((cnE tP (rt tP t2))&&((cnE (tLs tP) t4.1)&&true)) (sl (Nat.beq t6.1 1) (sl ((cnE (tLs tP) (rt (tLs tP) t4.1))&&true) (sl (Nat.beq t7.1 1) (some (b false,[])) (sl (Nat.beq t7.1 2) (sl t1 (some (b (t7.2.Fc2==0),[])) (some (b false,[]))) none)) none) (sl (Nat.beq t6.1 2) (some (b false,[])) (sl (Nat.beq t6.1 3) (sl ((cnE (tLs tP) (rt (tLs tP) t4.1))&&true) (sl (Nat.beq t7.1 1) (some (b false,[])) (sl (Nat.beq t7.1 2) (sl t1 (some (b (t7.2.Fc2==0),[])) (some (b false,[]))) none)) none) none))) none))) none) none) none) none);let w1:Option (a7×List a8):=(sl (okE tP (rt tP t2)) (sl (xa4 (rt tP (rt tP t2))) (sl (t8.2 != 0) (some (b false,[])) (sl (!t5.2) (some (b false,[])) (sl ((cnE tP (rt tP t2))&&((cnE (tLs tP) t8.1)&&true)) (sl (Nat.beq t9.1 1) (sl ((cnE (tLs tP) (rt (tLs tP) t8.1))&&true) (sl (Nat.beq t10.1 1) (some (b false,[])) (sl (Nat.beq t10.1 2) (sl t1 (some (b (t10.2.Fc2==0),[])) (some (b false,[]))) none)) none) (sl (Nat.beq t9.1 2) (some (b false,[])) (sl (Nat.beq t9.1 3) (sl ((cnE (tLs tP) (rt (tLs tP) t8.1))&&true) (sl (Nat.beq t10.1 1) (some (b false,[])) (sl (Nat.beq t10.1 2) (sl t1 (some (b (t10.2.Fc2==0),[])) (some (b false,[]))) none)) none) none))) none))) none) none);(sl Ya8 (sl (db3 x) (sl ((cnE tS y)&&((cnE tP t2)&&true)) (sl (Nat.beq t3.1 1) w0 (sl (Nat.beq t3.1 2) w0 (sl (Nat.beq t3.1 3) (sl (okE tP (rt tP t2)) (sl (okL (tLs tP) t3.2.ns7 (λk=>i6 t3.2.eh0 (0+k))) (sl (sa0 (rt tP (rt tP t2)) (lsL (tLs tP) t3.2.ns7 (λk=>i6 t3.2.eh0 (0+k)))) w1 none) none) none) (sl (Nat.beq t3.1 4) (sl (okE tP (rt tP t2)) (sl (okL (tLs tP) t3.2.ns7 (λk=>i6 t3.2.eh0 (0+k))) (sl (sa0 (rt tP (rt tP t2)) (lsL (tLs tP) t3.2.ns7 (λk=>i6 t3.2.eh0 (0+k)))) w1 none) none) none) none)))) none) none) none)
noncomputable def xa8(x:B6)(y:List B6):Bool:=Q5 (one r1B) (la9 x y)
noncomputable def xa9(x:B6)(y:List B6):Bool:=okO (one r1B) (la9 x y)
noncomputable def oc6:Sum:=ta3 (oa3 tS) (ba7 tS) (λx y=>.guard (xa9 x y) (.ret ((one r1B).enc (xa8 x y),[])))
theorem gc3:e7 prog G 12 oc6:=Gb0 (bd b12 bc6) (one r1B) (o:=la9) λx y=>Da7 (.s .p (.s .p (.s .p (.s .p (.s (.s .p (.b (.u Ia2.ls))) (.s .p (.s .p (.s .p (.s (.s .p (.b (.u Ia3.ls))) (.s (.s .p (.b (.u Ia4.ls))) .p)))))))))) [Ia2.pr,Ia3.pr,Ia4.pr] (by kernel_rfl) (.cons Sb8 (.cons Tb0 (.cons Tb1 .nil))) (by kernel_rfl)
theorem Te8(x y z w v q:Int):E9 x y z w v q=Hb6 ⟨x,y,z⟩ ⟨w,v,q⟩:=by
 unfold E9 jb2;exact na8 _ (Yd4 tP 73 (Hb6 ⟨x,y,z⟩ ⟨w,v,q⟩))
theorem Te9(x y z w v q:Int):E0 x y z w v q=true:=by
 unfold E0 jb2;exact za9 _ (Yd4 tP 73 (Hb6 ⟨x,y,z⟩ ⟨w,v,q⟩))
noncomputable def Mc3(x:B6):V3:=⟨W (W (Int.tmod x.c0 9)-4),W (W (Int.tmod x.c1 9)-4),W (W (Int.tmod x.c2 9)-4)⟩
noncomputable def Mc4(x:B6):V3:=⟨W (W (W (W (Int.tmod x.c0 9)-4)+1)+W (Int.tmod x.c3 5)),W (W (W (W (Int.tmod x.c1 9)-4)+1)+W (Int.tmod x.c4 5)),W (W (W (W (Int.tmod x.c2 9)-4)+1)+W (Int.tmod x.c5 5))⟩
noncomputable def ofL(x:B6):List Pln:=Hb6 (Mc3 x) (Mc4 x)
theorem ie0(x:B6):xb2 x=some (eL tP (ofL x),[]):=by
 unfold xb2;simp only[Te8,Te9,j5];rfl
theorem Bd1(x:B6):db2 x=ofL x:=by
 unfold db2;rw[ie0];exact na8 _ (od4 tP (ofL x))
theorem Bd2(x:B6):db3 x=true:=by
 unfold db3;rw[ie0];exact za9 _ (od4 tP (ofL x))
theorem Ze5(x:Int){m:Int}(hm:0<m):-m<Int.tmod x m/\Int.tmod x m<m:=by
 by_cases h:0<=x
 ·have:=Qlq m h
  have:=Qlw x hm
  omega
 ·have h1:=Qlq m (show 0<=-x by omega)
  have h2:=Qlw (-x) hm;rw[Int.neg_tmod] at h1 h2;omega
theorem Fc0 (a s : Int) : (-12 ≤ W (W (Int.tmod a 9) - 4) ∧ W (W (Int.tmod a 9) - 4) ≤ 4) ∧ (-15 ≤ W (W (W (W (Int.tmod a 9) - 4) + 1) + W (Int.tmod s 5)) ∧ W (W (W (W (Int.tmod a 9) - 4) + 1) + W (Int.tmod s 5)) ≤ 9) ∧
  (0<=s->W (W (Int.tmod a 9)-4)<W (W (W (W (Int.tmod a 9)-4)+1)+W (Int.tmod s 5))/\W (W (W (W (Int.tmod a 9)-4)+1)+W (Int.tmod s 5))<=W (W (Int.tmod a 9)-4)+5):=by
 have h1:=Ze5 a (m:=9) (by omega)
 have h2:=Ze5 s (m:=5) (by omega)
 have h3:0<=s->0<=Int.tmod s 5:=λh=>Qlq 5 h
 generalize Int.tmod a 9=t at *
 generalize Int.tmod s 5=u at *
 rw[qa9 (n:=t) (by omega) (by omega),qa9 (n:=u) (by omega) (by omega),qa9 (n:=t-4) (by omega) (by omega),qa9 (n:=t-4+1) (by omega) (by omega),qa9 (n:=t-4+1+u) (by omega) (by omega)]
 refine⟨by omega,by omega,λh=>?_⟩
 have:=h3 h
 omega
structure S6(c:List Pln):Prop where
 k:(chk c==0)=true
 a:Ax c
 l:c.length=6
theorem Ge6{lo hi:V3}(h1:Sm 20 lo.x/\Sm 20 lo.y/\Sm 20 lo.z)(h2:Sm 20 hi.x/\Sm 20 hi.y/\Sm 20 hi.z):Hb6 lo hi=[⟨⟨1,0,0⟩,hi.x⟩,⟨⟨-1,0,0⟩,-lo.x⟩,⟨⟨0,1,0⟩,hi.y⟩,⟨⟨0,-1,0⟩,-lo.y⟩,⟨⟨0,0,1⟩,hi.z⟩,⟨⟨0,0,-1⟩,-lo.z⟩]/\S6 (Hb6 lo hi):=by
 obtain⟨⟨a1,a2⟩,⟨a3,a4⟩,a5,a6⟩:=h1;obtain⟨⟨b1,b2⟩,⟨b3,b4⟩,b5,b6⟩:=h2;have w:∀{x:Int},-20<=x->x<=20->W (0-x)=-x:=λh h'=>by rw[qa9 (by omega) (by omega)];omega
 have e:Hb6 lo hi=[⟨⟨1,0,0⟩,hi.x⟩,⟨⟨-1,0,0⟩,-lo.x⟩,⟨⟨0,1,0⟩,hi.y⟩,⟨⟨0,-1,0⟩,-lo.y⟩,⟨⟨0,0,1⟩,hi.z⟩,⟨⟨0,0,-1⟩,-lo.z⟩]:=by
  unfold Hb6;rw[w a1 a2,w a3 a4,w a5 a6]
 refine⟨e,?_,?_,by rw[e];rfl⟩
 ·rw[e,beq_iff_eq,za7];refine⟨by simp,λp hp=>?_⟩
  simp only[Qlg,Qlj,or_false] at hp;unfold okp;simp only[List.all_cons,List.all_nil,Bool.and_true,Qlh,Bb1,beq_iff_eq,Sm]
  rcases hp with rfl|rfl|rfl|rfl|rfl|rfl<;>exact⟨by simp,by first|exact Qb8.1|exact Qb8.2.1|exact Qb8.2.2.1|exact Qb8.2.2.2.1|exact Qb8.2.2.2.2.1|exact Qb8.2.2.2.2.2,by simp only;omega⟩
 ·rw[e];intro p hp;simp only[Qlg,Qlj,or_false] at hp
  rcases hp with rfl|rfl|rfl|rfl|rfl|rfl<;>simp[axs]
theorem cd2(x:B6):(Sm 20 (Mc3 x).x/\Sm 20 (Mc3 x).y/\Sm 20 (Mc3 x).z)/\(Sm 20 (Mc4 x).x/\Sm 20 (Mc4 x).y/\Sm 20 (Mc4 x).z):=by
 have h1:=Fc0 x.c0 x.c3;have h2:=Fc0 x.c1 x.c4;have h3:=Fc0 x.c2 x.c5;unfold Sm Mc3 Mc4
 simp only
 omega
theorem sf8(x:B6):S6 (ofL x):=(Ge6 (cd2 x).1 (cd2 x).2).2
structure Own(c:List Pln):Prop extends Cx c where
 l:c.length=6
 v:vol c<=200
 f:(⟨⟨1,0,0⟩,mb ⟨1,0,0⟩ c⟩:Pln)∈c++ws
theorem ae4{x m:Int}(hm:0<=m)(h:x<=m):wdt x<=m:=by unfold wdt;split<;>omega
theorem Ge7{c:List Pln}{m:Int}(hm:0<=m)(h1:wx c<=m)(h2:wy c<=m)(h3:wz c<=m):vol c<=m*(m*m):=by
 unfold vol;exact Qll (ae4 hm h1) (Qll (ae4 hm h2) (ae4 hm h3) (Ec7 _) hm) (Int.mul_nonneg (Ec7 _) (Ec7 _)) hm
theorem cd3{c:List Pln}(h:∀n∈axs,mb n c<=20):vol c<=64000:=by
 obtain⟨m1,m2,m3,m4,m5,m6⟩:=Bb9;have k1:=h _ m1;have k2:=h _ m2;have k3:=h _ m3;have k4:=h _ m4;have k5:=h _ m5;have k6:=h _ m6
 have:=Ge7 (c:=c) (m:=40) (by omega) (by unfold wx;omega) (by unfold wy;omega) (by unfold wz;omega)
 omega
theorem if2{x:B6}(h:0<=x.c3/\0<=x.c4/\0<=x.c5):Own (ofL x):=by
 have h1:=Fc0 x.c0 x.c3;have h2:=Fc0 x.c1 x.c4;have h3:=Fc0 x.c2 x.c5;have d1:=h1.2.2 h.1;have d2:=h2.2.2 h.2.1;have d3:=h3.2.2 h.2.2;obtain⟨e,hs⟩:=Ge6 (cd2 x).1 (cd2 x).2;have hg:=Pd1 (lo:=Mc3 x) (hi:=Mc4 x) (cd2 x).1 (cd2 x).2 ⟨d1.1,d2.1,d3.1⟩;have hg:Zc5 (ofL x):=hg;have hs:S6 (ofL x):=hs;have e:ofL x=_:=e;obtain⟨_,z,hz⟩:=D9.1 hg.ful;have g:=λp (hp:p∈ofL x)=>Ze2 hp rfl
 rw[e] at g;have k1:=g ⟨⟨1,0,0⟩,(Mc4 x).x⟩ (by simp)
 have k2:=g ⟨⟨-1,0,0⟩,-(Mc3 x).x⟩ (by simp)
 have k3:=g ⟨⟨0,1,0⟩,(Mc4 x).y⟩ (by simp)
 have k4:=g ⟨⟨0,-1,0⟩,-(Mc3 x).y⟩ (by simp)
 have k5:=g ⟨⟨0,0,1⟩,(Mc4 x).z⟩ (by simp)
 have k6:=g ⟨⟨0,0,-1⟩,-(Mc3 x).z⟩ (by simp)
 rw[<- e] at k1 k2 k3 k4 k5 k6;obtain⟨⟨s1,s2,s3⟩,s4,s5,s6⟩:=cd2 x;simp only[Sm] at s1 s2 s3 s4 s5 s6
 simp only at k1 k2 k3 k4 k5 k6
 have q1:(Mc4 x).x<=(Mc3 x).x+5:=d1.2;have q2:(Mc4 x).y<=(Mc3 x).y+5:=d2.2;have q3:(Mc4 x).z<=(Mc3 x).z+5:=d3.2;refine⟨⟨hg.chk,hs.a,Ad8 hz,λn hn=>?_⟩,hs.l,?_,sa3 Bb9.1 _⟩
 ·refine Jb0 (P:=λn=>mb n (ofL x)<=20) hn ?_ ?_ ?_ ?_ ?_ ?_<;>omega
 ·have:=Ge7 (c:=ofL x) (m:=5) (by omega) (by unfold wx;omega) (by unfold wy;omega) (by unfold wz;omega)
  omega
theorem xc6{c:List Pln}(hc:c.length<=1000000000):ia5 c=(W (W (W ((bnd c).2.1.x-(bnd c).1.x)*W ((bnd c).2.1.y-(bnd c).1.y))*W ((bnd c).2.1.z-(bnd c).1.z)),(bnd c).2.2)/\xa4 c=true:=by
 unfold ia5 xa4 qb0;simp only[i8,p7,ee7 hc,ee8 hc,j5];exact⟨rfl,rfl⟩
theorem Bd3{c:List Pln}(h:Cx c):ia5 c=(vol c,true):=by
 have hl:c.length<=48:=ad5 (beq_iff_eq.1 h.k);rw[(xc6 (c:=c) (by omega)).1,Ge5 h]
 simp only[Te7 h]
theorem Ue0{c:List Pln}(hc:c.length<=1000000000)(h:ful c=false):ia5 c=(0,false):=by
 rw[(xc6 hc).1,if1 h];rfl
theorem xc7{c q:List Pln}(hc:Own c)(hq:S6 q):(chk (c++q)==0)=true/\Ax (c++q)/\ful (c++q)=!apart c q/\ia5 (c++q)=(vol (c++q),ful (c++q))/\vol (c++q)<=64000:=by
 have hk:(chk (c++q)==0)=true:=by
  have h1:=hc.k;have h2:=hq.k;rw[beq_iff_eq,za7] at *
  exact⟨by rw[Qlc,hc.l,hq.l];omega,λp hp=>(Qla.1 hp).elim (h1.2 p) (h2.2 p)⟩
 have ha:Ax (c++q):=hc.a.app hq.a;have hf:ful (c++q)=!apart c q:=by
  rw[Bool.eq_iff_iff,Bool.not_eq_true',D9];constructor
  ·rintro⟨_,z,hz⟩;cases h:apart c q with
   |false=>rfl
   |true =>
    exact ((cb6 hc.k hq.k).1 h z (hz.mono λp hp=>by simp only[Qla] at hp ⊢;rcases hp with h | h<;>simp[h]) (hz.mono λp hp=>by simp only[Qla] at hp ⊢;rcases hp with h | h<;>simp[h])).elim
  ·intro h;refine⟨hk,?_⟩;apply Classical.byContradiction;intro hn;rw[(cb6 hc.k hq.k).2 λz z1 z2=>hn ⟨z,z1.w,λp hp=>by
    simp only[Qla] at hp
    rcases hp with (hp|hp)|hp
    ·exact z1.h p (by simp[hp])
    ·exact z2.h p (by simp[hp])
    ·exact z1.h p (by simp[hp])⟩] at h
   cases h
 have hlen:(c++q).length<=1000000000:=by rw[Qlc,hc.l,hq.l];omega
 cases hw:ful (c++q) with
 |true =>
  obtain⟨_,z,hz⟩:=D9.1 hw;have wd:=Ad8 hz;have hs:∀n∈axs,mb n (c++q)<=20:=λn hn=>Int.le_trans (fb1 ha wd (λz hz=>hz.mono λp hp=>by simp only[Qla] at hp ⊢;rcases hp with h | h<;>simp[h]) hn) (hc.s n hn)
  exact⟨hk,ha,by rw[<- hf,hw],Bd3 ⟨hk,ha,wd,hs⟩,cd3 hs⟩
 |false =>
  have hv:vol (c++q)=0:=oc5 λwd=>by
   rw[D9.2 ⟨hk,Ec6 ha wd⟩] at hw;cases hw
  exact⟨hk,ha,by rw[<- hf,hw],by rw[Ue0 hlen hw,hv],by omega⟩
structure Sb(O:List (List Pln)):Prop where
 s:∀q∈O,S6 q
 p:O.Pairwise (λq q'=>∀z,Ins (q++ws) z->Ins (q'++ws) z->False)
theorem Sb.add{O:List (List Pln)}{c:List Pln}(h:Sb O)(hc:S6 c)(ha:Ya4 c O=true):Sb (O++[c]):=by
 refine⟨λq hq=>?_,?_⟩
 ·rcases Qla.1 hq with h'|h'
  ·exact h.s q h'
  ·rw[Qld.1 h'];exact hc
 ·rw[List.pairwise_append];refine⟨h.p,by simp,λq hq q' hq' z z1 z2=>?_⟩
  rw[Qld.1 hq'] at z2;exact (Zd6 hc.k λq hq=>(h.s q hq).k).1 ha q hq z z2 z1
structure B0(t:Nat)(st:o4):Prop where
 h:∃O,(t=phL O*2+1\/t=phL O*2+2)/\st.ns7=O.length/\st.eh0=bL (tLs tP) O/\O.length<=3/\Sb O
theorem Ue1(y:List B6)(c0:Bool)(own:List Pln):∃t st,lp (F4 ⟨y,c0,own⟩) ⟨0,0,0,[]⟩=(t,st)/\B0 t st:=by
 refine pa5 (step:=F4 ⟨y,c0,own⟩) (mk:=λj (O:List (List Pln))=>(⟨phL O,(j:Int),O.length,bL (tLs tP) O⟩:o4)) 3
  (λj O=>j<=3/\O.length<=j/\Sb O) B0 (by omega) (λj O hj hi=>?_) (λj O hj hi=>?_) 0 [] ⟨by omega,by simp,⟨λq hq=>by simp at hq,.nil⟩⟩
 ·obtain⟨_,hl,hS⟩:=hi;have hn:W ((j:Int)+1)=((j+1:Nat):Int):=r8 hj (by omega)
  have h3:decide ((j:Int)<3)=true:=decide_eq_true (by omega)
  have s6:=sf8 (gL tS y j);have hol:∀q∈O,q.length<=1000000:=λq hq=>by have:=(hS.s q hq).l;omega
  have hA:=Pd8 (c:=ofL (gL tS y j)) (s:=O) (by have:=s6.l;omega) (by omega) hol
  have gA:=Pd9 (c:=ofL (gL tS y j)) (s:=O) (by have:=s6.l;omega) (by omega) hol
  have hroom:=Zd3 O (by omega)
  by_cases hy:j<y.length
  ·cases O with
   |nil =>
    have hA:sa1 (ofL (gL tS y j)) []=true:=hA.trans rfl;have e:F4 ⟨y,c0,own⟩ ⟨phL [],(j:Int),([]:List (List Pln)).length,bL (tLs tP) []⟩=.next ⟨1,((j+1:Nat):Int),1,[[eL tP (ofL (gL tS y j))]]⟩:=by
     show r5 Stp.next Stp.exit Stp.fail _ _=_;simp only[r5,Int.toNat_natCast,i8,p7,Bd1,Bd2,hA,gA,hn,h3,j5];rw[btD (l0 hy),bt (d9 hy)]
    rw[e];exact .nx ⟨[ofL (gL tS y j)],rfl,hj,by simp,hS.add s6 rfl⟩
   |cons o os =>
    obtain⟨e1,e2⟩:=Rd0 (tLs tP) (o::os) (n:=(o::os).length) rfl;cases hap:Ya4 (ofL (gL tS y j)) (o::os) with
    |true =>
     rw[hap] at hA;have e:F4 ⟨y,c0,own⟩ ⟨phL (o::os),(j:Int),(o::os).length,bL (tLs tP) (o::os)⟩=.next ⟨1,((j+1:Nat):Int),(o::os).length+1,bL (tLs tP) (o::os++[ofL (gL tS y j)])⟩:=by
      show m0 Stp.next Stp.exit Stp.fail _ _=_;simp only[m0,Int.toNat_natCast,i8,p7,Bd1,Bd2,Qlp,e1,e2,hA,gA,hn,h3,hroom,Ee4,j5];rw[btD (l0 hy),bt (d9 hy)]
     rw[e];exact .nx ⟨o::os++[ofL (gL tS y j)],by rw[zd9,Qlc];rfl,hj,by rw[Qlc];simp only[List.length_cons,List.length_nil] at hl ⊢;omega,hS.add s6 hap⟩
    |false =>
     rw[hap] at hA;have e:F4 ⟨y,c0,own⟩ ⟨phL (o::os),(j:Int),(o::os).length,bL (tLs tP) (o::os)⟩=.next ⟨1,((j+1:Nat):Int),(o::os).length,bL (tLs tP) (o::os)⟩:=by
      show m0 Stp.next Stp.exit Stp.fail _ _=_;simp only[m0,Int.toNat_natCast,i8,p7,Bd1,Bd2,Qlp,e1,e2,hA,gA,hn,h3,j5,L2];rw[btD (l0 hy),bt (d9 hy)]
     rw[e];exact .nx ⟨o::os,rfl,hj,by omega,hS⟩
  ·have e : F4 ⟨y, c0, own⟩ ⟨phL O, (j : Int), O.length, bL (tLs tP) O⟩ = .exit (phL O * 2 + 2) := by
    cases O with
    |nil =>
     show r5 Stp.next Stp.exit Stp.fail _ _=_;simp only[r5];rw[bfD (D7 hy)];rfl
    |cons o os =>
     show m0 Stp.next Stp.exit Stp.fail _ _=_;simp only[m0];rw[bfD (D7 hy)];rfl
   rw[e];exact .ex ⟨O,.inr rfl,rfl,rfl,by omega,hS⟩
 ·obtain⟨h1,hl,hS⟩:=hi;have h3:decide ((j:Int)<3)=false:=decide_eq_false (by omega)
  by_cases hy:j<y.length
  ·refine⟨phL O*2+1,?_,O,.inl rfl,rfl,rfl,by omega,hS⟩
   cases O with
   |nil =>
    show r5 Stp.next Stp.exit Stp.fail _ _=_;simp only[r5,h3,L2];rw[btD (l0 hy)];rfl
   |cons o os =>
    show m0 Stp.next Stp.exit Stp.fail _ _=_;simp only[m0,h3,L2];rw[btD (l0 hy)];rfl
  ·refine⟨phL O*2+2,?_,O,.inr rfl,rfl,rfl,by omega,hS⟩
   cases O with
   |nil =>
    show r5 Stp.next Stp.exit Stp.fail _ _=_;simp only[r5];rw[bfD (D7 hy)];rfl
   |cons o os =>
    show m0 Stp.next Stp.exit Stp.fail _ _=_;simp only[m0];rw[bfD (D7 hy)];rfl
theorem Rd2{α:Type}(t:Ty α)(l:List α)(f:α->Int){j:Nat}(hj:j<l.length):((l.take (j+1)).map f).sum=((l.take j).map f).sum+f (gL t l j):=by
 rw[List.take_add_one,Qlf hj,List.map_append,List.sum_append];simp[gL,Qlm,Qlf hj]
theorem cd4{α:Type}(f:α->Int):∀l:List α,(∀q∈l,0<=f q/\f q<=64000)->0<=(l.map f).sum/\(l.map f).sum<=64000*(l.length:Int)
 |[],_=>by simp
 |q::l,h=>by
  have h1:=h q (by simp)
  have h2:=cd4 f l λq hq=>h q (Qlb _ hq)
  rw[Qlu,List.sum_cons];simp only[List.length_cons];omega
theorem Ue2(c0:Bool)(own:List Pln)(r:List (List Pln))(v:Int):lp (F5 ⟨c0,own,r,0,0,[]⟩) ⟨0,v,0⟩=(1,⟨0,v,0⟩):=by
 obtain⟨t,s,h,rfl,rfl⟩:=pa5 (step:=F5 ⟨c0,own,r,0,0,[]⟩) (mk:=λ(_:Nat) (_:Unit)=>(⟨0,v,0⟩:n8)) 0 (λ_ _=>True) (λt st=>t=1/\st=⟨0,v,0⟩) (by omega)
  (λj _ hj _=>absurd hj (Nat.not_lt_zero j)) (λj _ _ _=>⟨1,rfl,rfl,rfl⟩) 0 () trivial
 exact h
theorem Ue3 (c0 : Bool) (own : List Pln) (r O : List (List Pln)) (ho : Own own) (hn : O.length ≤ 3) (hS : Sb O) :
  ∃m,lp (F5 ⟨c0,own,r,(O.length:Int),O.length,bL (tLs tP) O⟩) ⟨1,vol own,0⟩=(3,⟨1,vol own-(O.map λq=>vol (own++q)).sum,m⟩):=by
 have hb:∀l:List (List Pln),(∀q∈l,q∈O)->0<=(l.map λq=>vol (own++q)).sum/\(l.map λq=>vol (own++q)).sum<=64000*(l.length:Int):=λl hl=>cd4 _ l λq hq=>⟨Pb3 _,(xc7 ho (hS.s q (hl q hq))).2.2.2.2⟩
 have hv0:=Pb3 own;have hv1:=ho.v;obtain⟨t,s,h,rfl,m,rfl⟩:=pa5 (step:=F5 ⟨c0,own,r,(O.length:Int),O.length,bL (tLs tP) O⟩) (mk:=λj (a:Int)=>(⟨1,a,(j:Int)⟩:n8)) O.length
  (λj a=>j<=O.length/\a=vol own-((O.take j).map λq=>vol (own++q)).sum) (λt st=>t=3/\∃m,st=⟨1,vol own-(O.map λq=>vol (own++q)).sum,m⟩) (by omega)
  (λj a hj hi=>by
   obtain⟨_,ha⟩:=hi;have hm:gL (tLs tP) O j∈O:=ga4 (tLs tP) hj;have hq6:=hS.s _ hm;obtain⟨k,ax,hf,hz,hvl⟩:=xc7 ho hq6;have hT:=Rd2 (tLs tP) O (λq=>vol (own++q)) hj
   have hb1:=hb (O.take j) λq hq=>Qlt hq
   rw[List.length_take] at hb1;have hrow:i6 (bL (tLs tP) O) j=[eL tP (gL (tLs tP) O j)]:=ba2 (tLs tP) hj;have hvn:=Pb3 (own++gL (tLs tP) O j);generalize gL (tLs tP) O j=q at *
   have e1:n5 (toG (hdA (e8 [eL tP q] 0))) (List.range (toN (hdA (e8 [eL tP q] 0))))=bL tP q:=sb5 tP q;have e2:lsL tP (toN (hdA (e8 [eL tP q] 0))) (toG (hdA (e8 [eL tP q] 0)))=q:=i8 tP q;have e3:okL tP (toN (hdA (e8 [eL tP q] 0))) (toG (hdA (e8 [eL tP q] 0)))=true:=p7 tP q;have e4:slR tP (bL tP (own++q)) 0 (own.length+q.length)=own++q:=Qe4 _ (by rw[Qlc])
   have e5:okS tP (bL tP (own++q)) 0 (own.length+q.length)=true:=Qe3 _ (by rw[Qlc])
   have ck1:Nat.ble 1 (len [eL tP q])=true:=rfl;have ck2:Ka2 [CK.sl 4] (e8 [eL tP q] 0)=true:=rfl;have bl:Nat.blt j O.length=true:=by rw[Nat.blt_eq];exact hj
   have hlq:=hq6.l;have hlo:=ho.l;have r1:Nat.ble (own.length*32) room=true:=Qls (by unfold room;omega)
   have r2:Nat.ble ((own.length+q.length)*32) room=true:=Qls (by unfold room;omega)
   have gz:=(xc6 (c:=own++q) (by rw[Qlc];omega)).2
   have hA:=yd0 (a:=own) (c:=q) (by omega) (by omega)
   have gA:=yd1 (a:=own) (c:=q) (by omega) (by omega)
   have hfe:(ful (own++q)==!apart own q)=true:=by rw[hf];exact beq_self_eq_true _
   have hW:W (a-vol (own++q))=a-vol (own++q):=qa9 (by omega) (by omega)
   have e:F5 ⟨c0,own,r,(O.length:Int),O.length,bL (tLs tP) O⟩ ⟨1,a,(j:Int)⟩=sl (ful (own++q)) (.next ⟨1,a-vol (own++q),((j+1:Nat):Int)⟩) (.next ⟨1,a,((j+1:Nat):Int)⟩):=by
    show J4 Stp.next Stp.exit Stp.fail _ _=_;simp only[J4,Int.toNat_natCast,Qlp,hrow,sb5,Se9,qa8,e1,e2,e3,bb0,e4,e5,ck1,ck2,bl,r1,r2,Nat.beq_refl,show Nat.beq 0 0=true from rfl,hz,gz,i8,p7,hA,gA,hfe,hW,r8 hj (show O.length<=4611686018427387904 by omega),Bool.and_self,Qln,j5,L2]
    rw[btD (l0 hj),bt (d9 hj)]
   rw[e];cases hff:ful (own++q) with
   |true=>exact .nx ⟨_,rfl,hj,by rw[hT,ha];omega⟩
   |false =>
    have hv:vol (own++q)=0:=oc5 λwd=>by
     rw[D9.2 ⟨k,Ec6 ax wd⟩] at hff;cases hff
    exact .nx ⟨a,rfl,hj,by rw[hT,ha,hv];omega⟩)
  (λj a hj hi=>by
   obtain⟨hje,ha⟩:=hi
   have:j=O.length:=by omega
   subst this;rw[List.take_length] at ha;refine⟨3,?_,rfl,_,by rw[ha]⟩
   show J4 Stp.next Stp.exit Stp.fail _ _=_;simp only[J4];rw[bfD (D7 (Nat.lt_irrefl _))]) 0 (vol own) ⟨Nat.zero_le _,by simp⟩
 exact⟨m,h⟩
theorem Ue4(lo hi:V3):[(⟨⟨1,0,0⟩,(xa1 lo hi).i9⟩:Pln),⟨⟨-1,0,0⟩,(xa1 lo hi).xc8⟩,⟨⟨0,1,0⟩,(xa1 lo hi).xc9⟩,⟨⟨0,-1,0⟩,(xa1 lo hi).yc0⟩,⟨⟨0,0,1⟩,(xa1 lo hi).yc1⟩,⟨⟨0,0,-1⟩,(xa1 lo hi).yc2⟩]=Hb6 lo hi:=rfl
theorem ie1 (c0 : Bool) (r : List (List Pln)) (v : Int) (hn : r.length ≤ 1000) (hr : ∀ y ∈ r, Cx y) (hv : -1000000000 ≤ v ∧ v ≤ 1000000000) :
  ∃m,lp (F6 ⟨c0,r,(r.length:Int)⟩) ⟨v,0⟩=(2,⟨v-(r.map vol).sum,m⟩):=by
 have hb:∀l:List (List Pln),(∀q∈l,q∈r)->0<=(l.map vol).sum/\(l.map vol).sum<=64000*(l.length:Int):=λl hl=>cd4 _ l λq hq=>⟨Pb3 _,cd3 (hr q (hl q hq)).s⟩
 obtain⟨t,s,h,rfl,m,rfl⟩:=pa5 (step:=F6 ⟨c0,r,(r.length:Int)⟩) (mk:=λj (a:Int)=>(⟨a,(j:Int)⟩:E2)) r.length
  (λj a=>j<=r.length/\a=v-((r.take j).map vol).sum) (λt st=>t=2/\∃m,st=⟨v-(r.map vol).sum,m⟩) (by omega)
  (λj a hj hi=>by
   obtain⟨_,ha⟩:=hi;have hm:gL (tLs tP) r j∈r:=ga4 (tLs tP) hj;have hc:=hr _ hm;have hT:=Rd2 (tLs tP) r vol hj;have hb1:=hb (r.take j) λq hq=>Qlt hq
   rw[List.length_take] at hb1;have hvl:=cd3 hc.s;have hvn:=Pb3 (gL (tLs tP) r j);have hl:(gL (tLs tP) r j).length<=48:=ad5 (beq_iff_eq.1 hc.k);have hz:=Bd3 hc;have gz:=(xc6 (c:=gL (tLs tP) r j) (by omega)).2
   have hB:=ee7 (c:=gL (tLs tP) r j) (by omega)
   have gB:=ee8 (c:=gL (tLs tP) r j) (by omega)
   rw[Ge5 hc] at hB;have l6:(Hb6 (loV (gL (tLs tP) r j)) (hiV (gL (tLs tP) r j))).length<=1000000000:=(by decide:6<=1000000000)
   have hWi:=Be5 l6 (c:=gL (tLs tP) r j) (by omega)
   have gWi:=Be6 l6 (c:=gL (tLs tP) r j) (by omega)
   rw[qe8 hc] at hWi;have hW:W (a-vol (gL (tLs tP) r j))=a-vol (gL (tLs tP) r j):=qa9 (by omega) (by omega)
   have e:F6 ⟨c0,r,(r.length:Int)⟩ ⟨a,(j:Int)⟩=.next ⟨a-vol (gL (tLs tP) r j),((j+1:Nat):Int)⟩:=by
    simp only[F6,X4,Int.toNat_natCast,i8,p7,hz,gz,hB,gB,Ue4,hWi,gWi,hW,r8 hj (show r.length<=4611686018427387904 by omega),Qln,j5,L2]
    rw[btD (l0 hj),bt (d9 hj)]
   rw[e];exact .nx ⟨_,rfl,hj,by rw[hT,ha];omega⟩)
  (λj a hj hi=>by
   obtain⟨hje,ha⟩:=hi
   have:j=r.length:=by omega
   subst this;rw[List.take_length] at ha;refine⟨2,?_,rfl,_,by rw[ha]⟩
   simp only[F6,X4];rw[bfD (D7 (Nat.lt_irrefl _))]) 0 v ⟨Nat.zero_le _,by simp⟩
 exact⟨m,h⟩
theorem Cf5{own:List Pln}{O:List (List Pln)}(ho:Own own)(hn:O.length<=3)(hS:Sb O):∃r,Ma6 own O=(r,0)/\r.length<=200/\(∀y∈r,Cx y)/\(r.map vol).sum+(O.map λq=>vol (own++q)).sum=vol own:=by
 have hlen:∀l:List (List Pln),(∀q∈l,S6 q)->l.flatten.length=6*l.length:=λl=>by
  induction l with
  |nil=>intro _;rfl
  |cons q l ih =>
   intro h;rw[List.flatten_cons,Qlc,ih λy hy=>h y (Qlb _ hy),(h q (by simp)).l,List.length_cons]
   omega
 have h6:=hlen O hS.s;obtain⟨p0,ps,hp0⟩:∃p0 ps,own=p0::ps:=by
  cases h:own with
  |nil=>have:=ho.l;rw[h] at this;cases this
  |cons p ps=>exact⟨p,ps,rfl⟩
 have hmem:p0∈own:=by rw[hp0];simp
 have hE:Ax (p0::O.flatten):=λp hp=>by
  rcases Qlg.1 hp with rfl|h
  ·exact ho.a _ hmem
  ·obtain⟨q,hq,hp⟩:=List.mem_flatten.1 h;exact (hS.s q hq).a p hp
 obtain⟨r,hm,hP,hv⟩:=Te4 (c:=own) (E:=p0::O.flatten) (s:=O) (by simp) (by
  unfold Ec5;simp only[Qlc,List.length_map,List.length_cons,ho.l,h6]
  omega) ho.a hE (Ge4 ho.toCx) (λq hq=>⟨(hS.s q hq).k,λp hp=>.inr (Qlb _ (List.mem_flatten.2 ⟨q,hq,hp⟩))⟩) hS.p ho.v
 have hcx:∀y∈r,Cx y:=λy hy=>by
  obtain⟨d1,d2,d3,d4⟩:=hP.d y hy;obtain⟨k,z,hz⟩:=D9.1 d3;have ay:=hP.ax ho.a hE hy;have wd:=Ad8 hz;exact⟨k,ay,wd,λn hn=>Int.le_trans (fb1 ay wd d4 hn) (ho.s n hn)⟩
 have hsv:SV [] r=(r.map vol).sum:=by
  unfold SV;congr 1;exact Qlv λy _=>by rw[Qlk]
 have hl:=Ze4 (ps:=r) λy hy=>⟨(hP.d y hy).2.2.1,hP.ax ho.a hE hy⟩
 rw[hsv] at hv hl;have hnn:=(cd4 (λq=>vol (own++q)) O λq hq=>⟨Pb3 _,(xc7 ho (hS.s q hq)).2.2.2.2⟩).1
 have hov:=ho.v;exact⟨r,(Zd5 ho.k (xc4 (by omega) λq hq=>(hS.s q hq).k) hm).2,by omega,hcx,hv⟩
theorem qd5(x:B6)(y:List B6)(hx:0<=x.c3/\0<=x.c4/\0<=x.c5):la9 x y=some (b true,[]):=by
 have ho:=if2 hx;unfold la9;simp only[i8,p7,n9,Zd8,Zd9,Bd1,Bd2,j5,Bool.and_self];generalize ofL x=own at *
 obtain⟨t,st,h0,O,ht,hn7,he0,hn3,hS⟩:=Ue1 y true own;rw[h0];simp only[hn7,he0];obtain⟨r,hm,hrl,hcx,hsum⟩:=Cf5 ho hn3 hS;have hol:=ho.l;have hsl:∀q∈O,q.length<=1000000:=λq hq=>by have:=(hS.s q hq).l;omega
 have pm:=Ad1 (x:=own) (y:=O) (by omega) (by omega) hsl
 have gm:=Ad2 (x:=own) (y:=O) (by omega) (by omega) hsl
 rw[hm] at pm;have hz:=Bd3 ho.toCx;have gz:=(xc6 (c:=own) (by omega)).2
 have hv0:=Pb3 own;have hv1:=ho.v;have z00:((0:Int) != 0)=false:=rfl;have n11:Nat.beq 1 1=true:=rfl;have n22:Nat.beq 2 2=true:=rfl;have n33:Nat.beq 3 3=true:=rfl;have n44:Nat.beq 4 4=true:=rfl;have n21:Nat.beq 2 1=false:=rfl;have n31:Nat.beq 3 1=false:=rfl;have n32:Nat.beq 3 2=false:=rfl;have n41:Nat.beq 4 1=false:=rfl;have n42:Nat.beq 4 2=false:=rfl;have n43:Nat.beq 4 3=false:=rfl;cases O with
 |nil =>
  obtain⟨m,hl2⟩:=ie1 true r (vol own) (by omega) hcx ⟨by omega,by omega⟩
  have hfin:vol own-(r.map vol).sum=0:=by
   have:((([]:List (List Pln)).map λq=>vol (own++q)).sum)=0:=rfl
   omega
  rw[hfin] at hl2;simp only[pm,gm,hz,gz,Ue2,hl2,z00,Qln,j5,L2,n11,n22,n21,show ((0:Int)==0)=true from rfl]
  rcases ht with rfl|rfl
  ·rfl
  ·rfl
 |cons o os =>
  obtain⟨m1,hl1⟩:=Ue3 true own r (o::os) ho hn3 hS;have hnn:=cd4 (λq=>vol (own++q)) (o::os) λq hq=>⟨Pb3 _,(xc7 ho (hS.s q hq)).2.2.2.2⟩
  obtain⟨m,hl2⟩:=ie1 true r (vol own-((o::os).map λq=>vol (own++q)).sum) (by omega) hcx ⟨by omega,by omega⟩
  have hfin:vol own-((o::os).map λq=>vol (own++q)).sum-(r.map vol).sum=0:=by omega
  rw[hfin] at hl2;obtain⟨e1,e2⟩:=Rd0 (tLs tP) (o::os) (n:=(o::os).length) rfl;simp only[Qlp,e1,e2,pm,gm,hz,gz,hl1,hl2,z00,Qln,j5,L2,n11,n22,n33,n21,n31,n32,show ((0:Int)==0)=true from rfl]
  rcases ht with rfl|rfl
  ·rfl
  ·rfl
theorem qe9(x:B6)(y:List B6)(hx:0<=x.c3/\0<=x.c4/\0<=x.c5):xa8 x y=true:=by unfold xa8;rw[qd5 x y hx];rfl
theorem re0(x:B6)(y:List B6)(hx:0<=x.c3/\0<=x.c4/\0<=x.c5):xa9 x y=true:=by unfold xa9;rw[qd5 x y hx];rfl
end Go.Ev.Ce
namespace Go.Ev.Ce
open Go Go.Ev Go.Ev.L Go.ChangeShapes Go.RowKit
theorem Ue5(g:Nat->Int)(h:∀c,c<6->0<=g c/\g c<=255):∃a,Rdg (oa3 tS) (.agg (Ra8 .u8 6 g)) a/\(0<=a.c3/\0<=a.c4/\0<=a.c5) :=
 ⟨⟨g 0,g 1,g 2,g 3,g 4,g 5⟩,⟨rfl,rfl⟩,(h 3 (by omega)).1,(h 4 (by omega)).1,(h 5 (by omega)).1⟩
theorem re1(n:Nat)(g:Nat->Nat->Int):∃l,Rdg (ba7 tS) (.tree 6 n λj=>Ra8 .u8 6 (g j)) l:=by
 refine⟨lsL tS n λj=>Ra8 .u8 6 (g j),?_,Kb6 tS (f:=λk=>⟨g k 0,g k 1,g k 2,g k 3,g k 4,g k 5⟩) λ_ _=>rfl⟩
 show Bool.rec (motive:=λ_=>Option (List B6)) none (some (lsL tS n λj=>Ra8 .u8 6 (g j))) (Nat.beq 6 6)=_
 rfl
theorem if3 {D : Type} {enc : TypeId × Value → D} {P : Program} {w : World} {base : Nat} {spare : Nat → Bool} {held : Bool} {ρ : Rho} {H : List a8} {F : Fz} {t e : TypeId} {d : Nat} {v : Value} {dd : DataW D} {pp : List MemPlace} {bs : Nat} {r : Reach}
  (ht:P.underlying t=some (.array 6 e)) (he:P.underlying e=some (.int .u8)) (hts:P.cellTypes P.depth t=some [e,e,e,e,e,e]) (hf:ca5 P d t=some (Ea4 .u8 6)) (hes:P.cellsOf t=6)
  (hok:Value.okWide P w r bs t v) (h:DataW.Trod enc P w base spare held t v dd pp):∃g:Nat->Int,(∀c,c<6->0<=g c/\g c<=255)/\fa7 ρ H F w (.agg (Ra8 .u8 6 g)) v:=by
 obtain⟨g,hv⟩:=Se1 (ρ:=ρ) (H:=H) (F:=F) (by simp[agT,ht]) hf hes hok h
 refine⟨g,λc hc=>?_,hv⟩
 obtain⟨vs,e0,hl,hr⟩:=Ca8 (.val hv);subst e0;have hlen:vs.size=6:=by rw[<- hl];simp[Ra8]
 have hc':c<vs.size:=by omega
 have hg:(Ra8 .u8 6 g)[c]?=some (.v (.int .u8 (g c))):=by
  unfold Ra8;rw[List.getElem?_map,List.getElem?_range hc];rfl
 have hx:=ea0 (.val (.cell (hr c _ _ hg (Qlo hc'))));unfold Value.okWide at hok;rw[ht] at hok;obtain⟨cs,e1,hsz,ts,h1,h2,h3⟩:=hok;injection e1 with e1;subst e1;rw[hts] at h1;injection h1 with h1;subst h1;obtain⟨u,hu,hcell⟩:=h3 c _ (Qlo hc');rw[hx] at hcell;have hue:u=e:=by
  have:c=0\/c=1\/c=2\/c=3\/c=4\/c=5:=by omega
  rcases this with rfl|rfl|rfl|rfl|rfl|rfl<;>simpa using hu.symm
 subst hue;simp only[Cell.okWide,Cell.ok,he] at hcell
 have:=hcell.2
 simp only[IntKind.has,IntKind.min,IntKind.max,IntKind.bits,IntKind.signed] at this
 simp at this
 omega
end Go.Ev.Ce
