/- Own work. -/
import Derived.Test.YtekgjjgbdcgldaaGreatEvOT2
set_option linter.all false
def Qma:=@List.all_eq_true
def Qmb:=@List.mem_map
def Qmc:=@List.length_append
def Qmd:=@List.mem_cons_self
def Qme:=@Nat.lt_irrefl
def Qmf:=@List.mem_cons
def Qmg:=@List.length_map
def Qmh:=@Int.mul_le_mul_of_nonneg_left
def Qmi:=@Nat.zero_le
def Qmj:=@Bool.true_and
def Qmk:=@List.mem_cons_of_mem
def Qml:=@Int.tmod_lt_of_pos
def Qmm:=@Classical.byContradiction
def Qmn:=@Array.getElem?_eq_getElem
def Qmo:=@List.take_length
def Qmp:=@Bool.and_eq_true
def Qmq:=@List.mem_filter
def Qmr:=@Int.tmod_nonneg
def Qms:=@List.drop_zero
def Qmt:=@Bool.and_true
def Qmu:=@List.pairwise_cons
def Qmv:=@Int.mul_comm
def Qmw:=@Int.add_comm
def Qmx:=@Int.le_refl
namespace Go.Ev.Ce
open Go Go.Ev Go.Ev.L Go.Proofs
theorem He0{α:Type}(t:Ty α){l:List α}{j:Nat}{c:α->Bool}(h:j<l.length):(l.take (j+1)).all c=((l.take j).all c&&c (gL t l j)):=by
 rw[Gb2 t h,List.all_append,List.all_cons,List.all_nil,Qmt]
theorem kg7{α:Type}(t:Ty α){l:List α}{j:Nat}{c:α->Bool}(h:j<l.length)(hc:c (gL t l j)=false):l.all c=false:=by
 rw[List.all_eq_false];exact⟨_,lc1 t h,by rw[hc];simp⟩
section
variable(c:List Pln)(e:V3)(s:Int)
structure PI(j:Nat)(o:List Pln):Prop where
 le:j<=c.length
 o:o=(c.take j).map (pq e s)
 a:(c.take j).all (okq e s)=true
def PE{σ:Type}(mk:Nat->List Pln->σ)(t:Nat)(st:σ):Prop:=(t=1/\c.all (okq e s)=false)\/(c.all (okq e s)=true/\t=phP (c.map (pq e s))+2/\∃j,st=mk j (c.map (pq e s)))
theorem de8 {σ : Type} {step : σ → Stp σ} {mk : Nat → List Pln → σ} (hc : c.length ≤ 1000000)
  (h:∀j o,j<c.length->o.length<=1000000->step (mk j o)=if okq e s (gL tP c j)=true then .next (mk (j+1) (o++[pq e s (gL tP c j)])) else .exit 1)
  (hf:∀o,step (mk c.length o)=.exit (phP o+2)):∃t st,lp step (mk 0 [])=(t,st)/\PE c e s mk t st :=
 P5 (step:=step) (mk:=mk) c.length (PI c e s) (PE c e s mk) (by omega)
  (λj o hj hi=>by
   have hlen:o.length<=1000000:=by
    rw[hi.o,Qmg]
    have:=List.length_take_le j c
    omega
   rw[h j o hj hlen];cases hk:okq e s (gL tP c j) with
   |true=>exact .nx ⟨_,rfl,by omega,by rw[Gb2 tP hj,List.map_append,<- hi.o];rfl,by rw[He0 tP hj,hi.a,hk];rfl⟩
   |false=>exact .ex (.inl ⟨rfl,kg7 tP hj hk⟩))
  (λj o hj hi=>by
   have hje:j=c.length:=by have:=hi.le;omega
   subst hje;have ho:=hi.o;have ha:=hi.a;rw[Qmo] at ho ha;subst ho;exact⟨_,hf _,.inr ⟨ha,rfl,_,rfl⟩⟩) 0 [] ⟨Qmi _,by simp,by simp⟩
end
theorem wg7(O:List Pln)(p:Pln):app (bL tP O) [[i p.n.x,i p.n.y,i p.n.z,i p.b]]=bL tP (O++[p]):=Ka4 tP O [p]
theorem pe6 {σ : Type} {e : V3} {s : Int} {p : Pln} (k : Pln → Stp σ) :
  sl (!(if okq e s p=true then (pq e s p,true) else ((⟨⟨0,0,0⟩,0⟩:Pln),false)).2) (.exit 1) (k (if okq e s p=true then (pq e s p,true) else ((⟨⟨0,0,0⟩,0⟩:Pln),false)).1)=if okq e s p=true then k (pq e s p) else .exit 1:=by
 cases okq e s p<;>rfl
theorem pe7(c:List Pln){e:V3}(he:B12 e)(hc:c.length<=1000000):∃t st,lp (Ta2 ⟨e.x,e.y,e.z,c,(c.length:Int)⟩) ⟨0,0,0,[]⟩=(t,st)/\PE c e 1 (λj o=>(⟨phP o,(j:Int),o.length,bL tP o⟩:r6)) t st:=by
 refine de8 c e 1 (step:=Ta2 ⟨e.x,e.y,e.z,c,(c.length:Int)⟩) (mk:=λj o=>(⟨phP o,(j:Int),o.length,bL tP o⟩:r6)) hc (λj o hj ho=>?_) (λo=>?_)
 ·have hn:=m9 hj (show c.length<=4611686018427387904 by omega)
  have hb:=f9 hj;have hp:Se2 (gL tP c j) (Ha9 ⟨e.x,e.y,e.z⟩ (gL tP c j))=if okq e 1 (gL tP c j)=true then (pq e 1 (gL tP c j),true) else (⟨⟨0,0,0⟩,0⟩,false):=Ef9 he (.inl rfl) λhp=>by
   rw[Int.one_mul];exact Ge6 hp he
  cases o with
  |nil =>
   show Z9 Stp.next Stp.exit Stp.fail _ _=_;simp only[Z9,Int.toNat_natCast,pe4,pe5,hp,hn,hb];rw[btD (i8 hj)];exact pe6 (λp=>Stp.next (⟨1,((j+1:Nat):Int),1,[[i p.n.x,i p.n.y,i p.n.z,i p.b]]⟩:r6))
  |cons q o =>
   have rr:(Nat.beq (q::o).length (len (bL tP (q::o)))&&Nat.ble (((q::o).length+1)*32) room)=true:=fc6 rfl (by omega)
   show aa0 Stp.next Stp.exit Stp.fail _ _=_;simp only[aa0,Int.toNat_natCast,pe4,pe5,hp,hn,hb,rr,wg7];rw[btD (i8 hj)];refine (pe6 (λp=>Stp.next (⟨1,((j+1:Nat):Int),(q::o).length+1,bL tP (q::o++[p])⟩:r6))).trans ?_
   cases okq e 1 (gL tP c j)
   ·rfl
   ·show Stp.next (⟨1,_,(q::o).length+1,_⟩:r6)=Stp.next (⟨1,_,(q::o++[_]).length,_⟩:r6);rw[Qmc];rfl
 ·cases o with
  |nil =>
   show Z9 Stp.next Stp.exit Stp.fail _ _=_;simp only[Z9];rw[bfD (n5 (Qme _))];rfl
  |cons q o =>
   show aa0 Stp.next Stp.exit Stp.fail _ _=_;simp only[aa0];rw[bfD (n5 (Qme _))];rfl
theorem pe8(c:List Pln){e:V3}(he:B12 e)(hc:c.length<=1000000):∃t st,lp (Ta3 ⟨e.x,e.y,e.z,c,(c.length:Int)⟩) ⟨0,0,0,[]⟩=(t,st)/\PE c e (-1) (λj o=>(⟨phP o,(j:Int),o.length,bL tP o⟩:r7)) t st:=by
 refine de8 c e (-1) (step:=Ta3 ⟨e.x,e.y,e.z,c,(c.length:Int)⟩) (mk:=λj o=>(⟨phP o,(j:Int),o.length,bL tP o⟩:r7)) hc (λj o hj ho=>?_) (λo=>?_)
 ·have hn:=m9 hj (show c.length<=4611686018427387904 by omega)
  have hb:=f9 hj;have hp:Se2 (gL tP c j) (lb4 ⟨e.x,e.y,e.z⟩ (gL tP c j))=if okq e (-1) (gL tP c j)=true then (pq e (-1) (gL tP c j),true) else (⟨⟨0,0,0⟩,0⟩,false):=Ef9 he (.inr rfl) λhp=>by
   show W (0-Za3 (gL tP c j).n e)=_
   have:=kd8 hp he
   rw[Ge6 hp he,E4 (by omega) (by omega)]
   omega
  cases o with
  |nil =>
   show aa1 Stp.next Stp.exit Stp.fail _ _=_;simp only[aa1,Int.toNat_natCast,pe4,pe5,hp,hn,hb];rw[btD (i8 hj)];exact pe6 (λp=>Stp.next (⟨1,((j+1:Nat):Int),1,[[i p.n.x,i p.n.y,i p.n.z,i p.b]]⟩:r7))
  |cons q o =>
   have rr:(Nat.beq (q::o).length (len (bL tP (q::o)))&&Nat.ble (((q::o).length+1)*32) room)=true:=fc6 rfl (by omega)
   show aa2 Stp.next Stp.exit Stp.fail _ _=_;simp only[aa2,Int.toNat_natCast,pe4,pe5,hp,hn,hb,rr,wg7];rw[btD (i8 hj)];refine (pe6 (λp=>Stp.next (⟨1,((j+1:Nat):Int),(q::o).length+1,bL tP (q::o++[p])⟩:r7))).trans ?_
   cases okq e (-1) (gL tP c j)
   ·rfl
   ·show Stp.next (⟨1,_,(q::o).length+1,_⟩:r7)=Stp.next (⟨1,_,(q::o++[_]).length,_⟩:r7);rw[Qmc];rfl
 ·cases o with
  |nil =>
   show aa1 Stp.next Stp.exit Stp.fail _ _=_;simp only[aa1];rw[bfD (n5 (Qme _))];rfl
  |cons q o =>
   show aa2 Stp.next Stp.exit Stp.fail _ _=_;simp only[aa2];rw[bfD (n5 (Qme _))];rfl
theorem af6(l:List Pln):(two (r1L tP) r1B).rd (.tup [.sl 0 0 l.length 0,b true],[⟨73,4,bL tP l,true,false,0⟩])=some (l,true):=by
 have h:(r1L tP).rd [⟨73,4,bL tP l,true,false,0⟩] (.sl 0 0 l.length 0)=some l:=by
  show Bool.rec (motive:=λ_=>Option (List Pln)) none (some (slR tP (bL tP l) 0 l.length)) (Bool.and true (okS tP (bL tP l) 0 l.length))=_
  rw[gb6,nb7];rfl
 simp only[two,h];rfl
theorem Ff0(c:List Pln)(e:V3)(hc:c.length<=1000000):∃x,Ob7 c e=some x/\(two (r1L tP) r1B).rd x=some (gc0 c e 1):=by
 unfold Ob7 Zb3 Ja6 gc0;simp only[i9,i6,Ge8,Ge9];cases hb:Kc0 e with
 |false=>exact⟨_,rfl,rfl⟩
 |true =>
  obtain⟨t,st,h,hE⟩:=pe7 c ((kd7 e).1 hb) hc;rw[h]
  rcases hE with⟨rfl,ha⟩|⟨ha,rfl,j,rfl⟩
  ·rw[ha];exact⟨_,rfl,rfl⟩
  ·rw[ha];cases hm:c.map (pq e 1) with
   |nil=>exact⟨_,rfl,rfl⟩
   |cons q o=>exact⟨_,rfl,af6 (q::o)⟩
theorem He1(c:List Pln)(e:V3)(hc:c.length<=1000000):∃x,lb5 c e=some x/\(two (r1L tP) r1B).rd x=some (gc0 c e (-1)):=by
 unfold lb5 Zb4 Ja7 gc0;simp only[i9,i6,Ge8,Ge9];cases hb:Kc0 e with
 |false=>exact⟨_,rfl,rfl⟩
 |true =>
  obtain⟨t,st,h,hE⟩:=pe8 c ((kd7 e).1 hb) hc;rw[h]
  rcases hE with⟨rfl,ha⟩|⟨ha,rfl,j,rfl⟩
  ·rw[ha];exact⟨_,rfl,rfl⟩
  ·rw[ha];cases hm:c.map (pq e (-1)) with
   |nil=>exact⟨_,rfl,rfl⟩
   |cons q o=>exact⟨_,rfl,af6 (q::o)⟩
section
variable(c:List Pln)(e:V3)(hc:c.length<=1000000)
include hc
theorem pe9:db6 c e=gc0 c e 1:=by obtain⟨x,h,k⟩:=Ff0 c e hc;unfold db6;rw[h];exact ua3 _ k
theorem qe0:db7 c e=true:=by obtain⟨x,h,k⟩:=Ff0 c e hc;unfold db7;rw[h];exact Ia0 _ k
theorem Od4:Ta4 c e=gc0 c e (-1):=by obtain⟨x,h,k⟩:=He1 c e hc;unfold Ta4;rw[h];exact ua3 _ k
theorem Od5:Ta5 c e=true:=by obtain⟨x,h,k⟩:=He1 c e hc;unfold Ta5;rw[h];exact Ia0 _ k
end
noncomputable def mxS(n:V3)(m:Int)(v:V3):Int:=if j7 v n>m then j7 v n else m
noncomputable def mxL(n:V3):List V3->Int
 |[]=>0
 |v::l=>l.foldl (mxS n) (j7 v n)
noncomputable def Od6(l:List V3)(n:V3):Int×Bool:=(mxL n l,decide (0<l.length))
theorem Tf0(n v:V3):∀l,l≠[]->mxL n (l++[v])=mxS n (mxL n l) v
 |[],h=>absurd rfl h
 |w::l,_=>by
  show (l++[v]).foldl (mxS n) (j7 w n)=_;rw[List.foldl_append];rfl
theorem Ff1{n:V3}{l:List V3}{j:Nat}(hj:j<l.length):mxL n (l.take (j+1))=if j=0 then j7 (gL tV l j) n else mxS n (mxL n (l.take j)) (gL tV l j):=by
 rw[Gb2 tV hj];split
 ·rename_i h;subst h;rfl
 ·rename_i h;refine Tf0 _ _ _ λe=>?_
  have:=congrArg List.length e
  rw[List.length_take,List.length_nil] at this;omega
theorem de9(l:List V3)(n:V3)(hl:l.length<=1000000):Za4 l n=some (.tup [i (Od6 l n).1,b (Od6 l n).2],[]):=by
 obtain⟨t,s,h,rfl,k,rfl⟩:=P5 (step:=qa0 ⟨l,l,(l.length:Int),n.x,n.y,n.z⟩) (mk:=λj (m:Int)=>(⟨m,(j:Int)⟩:ba2)) l.length (λj m=>j<=l.length/\m=mxL n (l.take j)) (λt s=>t=1/\∃k:Int,s=⟨mxL n l,k⟩) (by omega)
  (λj m hj hi=>by
   obtain⟨_,hi⟩:=hi;have hn:=m9 hj (show l.length<=4611686018427387904 by omega)
   have hT:=Ff1 (n:=n) hj;simp only[qa0,xa1,Int.toNat_natCast,hn];rw[btD (i8 hj),bt (f9 hj)];by_cases h0:j=0
   ·subst h0;exact .nx ⟨_,rfl,by omega,by rw[hT];rfl⟩
   ·rw[if_neg h0,<- hi] at hT;rw[bf (by rw[beq_eq_false_iff_ne];omega)]
    unfold mxS at hT
    split at hT
    ·rename_i h;rw[btD h];exact .nx ⟨_,rfl,by omega,hT.symm⟩
    ·rename_i h;rw[bfD h];exact .nx ⟨_,rfl,by omega,hT.symm⟩)
  (λj m hj hi=>by
   obtain⟨hje,hi⟩:=hi;have hje:j=l.length:=by omega
   subst hje;rw[Qmo] at hi;subst hi;refine⟨1,?_,rfl,_,rfl⟩;simp only[qa0,xa1];rw[bfD (n5 (Qme _))]) 0 0 ⟨Qmi _,by simp[mxL]⟩
 have h:lp (qa0 ⟨l,l,(l.length:Int),n.x,n.y,n.z⟩) ⟨0,0⟩=_:=h;unfold Za4 Od6;simp only[i9,i6,h];have e:decide ((l.length:Int)>0)=decide (0<l.length):=by rw[decide_eq_decide];omega
 rw[e];rfl
theorem ee0(l:List V3)(n:V3)(hl:l.length<=1000000):Za5 l n=Od6 l n:=by unfold Za5;rw[de9 l n hl];rfl
theorem ee1(l:List V3)(n:V3)(hl:l.length<=1000000):Za6 l n=true:=by unfold Za6;rw[de9 l n hl];rfl
theorem af7(l:List V3)(hl:l.length<=1000000000):Ra3 l l=some (b true,[]):=by
 have he:∀v:V3,(v.x==v.x&&(v.y==v.y&&(v.z==v.z&&true)))=true:=λv=>by simp
 have h:=kb8 (step:=xa2 ⟨l,l⟩) (mk:=λj=>(⟨(j:Int)⟩:P6)) (c:=λ_=>false) (u:=1) (fin:=2) tV l hl
  (λj hj=>by
   simp only[xa2,ra8,Int.toNat_natCast,m9 hj (by omega),he]
   rw[btD (i8 hj),bt (f9 hj),bt (f9 hj)]
   rfl)
  (by simp only[xa2,ra8];rw[bfD (n5 (Qme _))]) 0 (Qmi _)
 rw[Qms,show (l.any λ_=>false)=false by simp] at h
 unfold Ra3;simp only[i9,i6];rw[show (⟨0⟩:P6)=⟨((0:Nat):Int)⟩ from rfl,h,bf (by simp)]
 rfl
theorem Tf1(l:List V3)(hl:l.length<=1000000000):Ra4 l l=true:=by unfold Ra4;rw[af7 l hl];rfl
theorem Tf2(l:List V3)(hl:l.length<=1000000000):Ra5 l l=true:=by unfold Ra5;rw[af7 l hl];rfl
theorem Tf3:tb5=[⟨0,0,0⟩,⟨1,0,0⟩,⟨0,1,0⟩,⟨0,0,1⟩]:=rfl
theorem Tf4:Ja8=true:=rfl
theorem od6:∀(l r:List V3),l.Pairwise LtV->r.Pairwise LtV->(∀v,v∈l↔v∈r)->l=r
 |[],[],_,_,_=>rfl
 |[],y::r,_,_,h=>absurd ((h y).2 (Qmd ..)) (by simp)
 |x::l,[],_,_,h=>absurd ((h x).1 (Qmd ..)) (by simp)
 |x::l,y::r,h1,h2,h=>by
  obtain⟨a1,a2⟩:=Qmu.1 h1;obtain⟨b1,b2⟩:=Qmu.1 h2;have e:x=y:=by
   rcases Qmf.1 ((h x).1 (Qmd ..)) with e|hx
   ·exact e
   ·rcases Qmf.1 ((h y).2 (Qmd ..)) with e|hy
    ·exact e.symm
    ·exact absurd (jd2 (b1 x hx) (a1 y hy)) (Yc9 y)
  subst e
  have:l=r:=od6 l r a2 b2 λv=>by
   have hv:=h v;simp only[Qmf] at hv;constructor
   ·intro hm
    rcases hv.1 (.inr hm) with e|h'
    ·subst e;exact absurd (a1 v hm) (Yc9 v)
    ·exact h'
   ·intro hm
    rcases hv.2 (.inr hm) with e|h'
    ·subst e;exact absurd (b1 v hm) (Yc9 v)
    ·exact h'
  rw[this]
def N46(n:V3):Prop:=Sm 4608 n.x/\Sm 4608 n.y/\Sm 4608 n.z
section
variable(N:List V3)(hN:∀n∈N,N46 n)(hl:N.length<=1000000)
include hN hl
end
theorem Tf5{l:List V3}(hl:l.all inV=true):∀p∈ws,∀v∈l,dot p.n v<=p.b:=λp hp v hv=>by
 have:=zf8 (Qma.1 hl v hv) p hp
 simp only[rmZ,ipt,dot] at this ⊢;omega
section
variable{l:List V3}(hl:l.all inV=true)(h4:Sol l)
include hl
theorem af8(v:V3):v∈Ra2 (F0 l) l↔v∈l/\Spn (F0 l) v:=by
 unfold Ra2;rw[Qmq,Cc2];exact⟨λh=>⟨h.1,(Cf2 hl h.1).1 h.2⟩,λh=>⟨h.1,(Cf2 hl h.1).2 h.2⟩⟩
include h4
theorem mc3{n:V3}{b:Int}(hv:∀v∈Ra2 (F0 l) l,dot n v<=b):∀x∈l,dot n x<=b:=by
 have hfacs:=Ze7 hl λp hp=>(Gb3 hl p).2 hp
 have hall:∀p∈F0 l++ws,∀v∈l,dot p.n v<=p.b:=λp hp=>by
  rcases List.mem_append.1 hp with hp|hp
  ·exact ((Gb3 hl p).1 hp).hd
  ·exact Tf5 hl p hp
 intro x hx;have hz:∀(a:Pln) (v:V3),rmZ a ⟨v.x,v.y,v.z,1⟩=a.b-dot a.n v:=λa v=>by simp only[rmZ,dot];omega
 have hI:Inr (F0 l++ws) ⟨x.x,x.y,x.z,1⟩:=⟨by show (0:Int)<1;omega,λp hp=>by rw[hz];have:=hall p hp x hx;omega⟩
 have key:=Ia1 (Qe4 (F0 l)) (h:=⟨n,b⟩) (λy hy=>by
  obtain⟨v,hvl,he,hs⟩:=Qf7 h4 hfacs hall hy;have h1:=hv v ((af8 hl v).2 ⟨hvl,hs⟩);have h2:=he.rm ⟨n,b⟩;rw[hz] at h2;have hw:=hy.w;have h3:0<=(b-dot n v)*y.pw:=Int.mul_nonneg (by omega) (by omega)
  have h4:rmZ ⟨n,b⟩ y*1=(b-dot n v)*y.pw:=h2
  omega) hI
 rw[hz] at key;have key:0<=b-dot n x:=key;omega
theorem tb7{v:V3}(hv:v∈Ra2 (F0 l) l):v∈l:=((af8 hl v).1 hv).1
theorem Ff2:∃v,v∈Ra2 (F0 l) l:=by
 apply Qmm;intro hno;obtain⟨x,hx⟩:=h4.ne
 have:=mc3 hl h4 (n:=⟨0,0,0⟩) (b:=-1) (λv hv=>absurd ⟨v,hv⟩ hno) x hx
 simp[dot] at this
theorem Tf6:Sol (Ra2 (F0 l) l):=by
 obtain⟨a,ha⟩:=Ff2 hl h4
 rcases ne6 ((Ra2 (F0 l) l).map λv=>G6 v a) with⟨x,y,z,hx,hy,hz,hw⟩|⟨d,hd,h⟩
 ·obtain⟨u,hu,rfl⟩:=Qmb.1 hx;obtain⟨v,hv,rfl⟩:=Qmb.1 hy;obtain⟨w,hw',rfl⟩:=Qmb.1 hz;exact⟨a,v,w,u,ha,hv,hw',hu,λe=>hw (by rw[<- e];simp only[dot,d8,N3];grind)⟩
 ·exfalso;have e:∀v∈Ra2 (F0 l) l,dot d v=dot d a:=λv hv=>by
   have:=h _ (Qmb.2 ⟨v,hv,rfl⟩)
   simp only[dot,G6] at this ⊢
   grind
  obtain⟨v,hv,hne⟩:=h4.off hd (dot d a);have h1:=mc3 hl h4 (n:=d) (b:=dot d a) (λw hw=>by rw[e w hw];exact Qmx _) v hv
  have h2:=mc3 hl h4 (n:=neg d) (b:=-dot d a) (λw hw=>by
   have:=e w hw
   have h3:dot (neg d) w=-dot d w:=by simp only[dot,neg];grind
   omega) v hv
  have h3:dot (neg d) v=-dot d v:=by simp only[dot,neg];grind
  omega
theorem af9:(Ra2 (F0 l) l).all inV=true:=Qma.2 λv hv=>Qma.1 hl v (tb7 hl h4 hv)
theorem Tf7{p:Pln}(hp:Vd9 l p):Vd9 (Ra2 (F0 l) l) p:=by
 refine⟨⟨λv hv=>hp.hd v (tb7 hl h4 hv),?_⟩,hp.ok⟩
 obtain⟨u,w,x,hu,hw,hx,h3,t1,t2,t3⟩:=hp.on
 -- a Qe2 on the plane
 obtain⟨a,ha,ta⟩:∃a∈Ra2 (F0 l) l,dot p.n a=p.b:=by
  apply Qmm;intro hno
  have:=mc3 hl h4 (n:=p.n) (b:=p.b-1) (λv hv=>by
   have h1:=hp.hd v (tb7 hl h4 hv);have h2:dot p.n v≠p.b:=λe=>hno ⟨v,hv,e⟩
   omega) u hu
  omega
 rcases ne6 (p.n::(((Ra2 (F0 l) l).filter λv=>dot p.n v==p.b).map λv=>G6 v a)) with⟨n1,n2,n3,k1,k2,k3,hne⟩|⟨d,hd,hz⟩
 ·have on : ∀ {n}, n ∈ p.n :: (((Ra2 (F0 l) l).filter fun v => dot p.n v == p.b).map fun v => G6 v a) → n = p.n ∨ ∃ v ∈ Ra2 (F0 l) l, dot p.n v = p.b ∧ n = G6 v a := fun {n} hn => by
   rcases Qmf.1 hn with e|hn
   ·exact .inl e
   ·obtain⟨v,hv,rfl⟩:=Qmb.1 hn;obtain⟨h1,h2⟩:=Qmq.1 hv;exact .inr ⟨v,h1,beq_iff_eq.1 h2,rfl⟩
  have fin:∀{v1 v2:V3},v1∈Ra2 (F0 l) l->v2∈Ra2 (F0 l) l->dot p.n v1=p.b->dot p.n v2=p.b->dot p.n (d8 (G6 v1 a) (G6 v2 a))≠0->∃u w x,u∈Ra2 (F0 l) l/\w∈Ra2 (F0 l) l/\x∈Ra2 (F0 l) l/\N3 u w x≠⟨0,0,0⟩/\dot p.n u=p.b/\dot p.n w=p.b/\dot p.n x=p.b:=λ{v1 v2} hv1 hv2 e1 e2 h=>⟨a,v1,v2,ha,hv1,hv2,ce2 h,ta,e1,e2⟩
  rcases on k1 with rfl|⟨v1,m1,e1,rfl⟩<;>rcases on k2 with rfl|⟨v2,m2,e2,rfl⟩<;>rcases on k3 with rfl|⟨v3,m3,e3,rfl⟩
  ·exact absurd (by simp only[dot,d8];grind) hne
  ·exact absurd (by simp only[dot,d8];grind) hne
  ·exact absurd (by simp only[dot,d8];grind) hne
  ·exact fin m2 m3 e2 e3 hne
  ·exact absurd (by simp only[dot,d8];grind) hne
  ·exact fin m3 m1 e3 e1 λe=>hne (by rw[<- e];simp only[dot,d8];grind)
  ·exact fin m1 m2 e1 e2 λe=>hne (by rw[<- e];simp only[dot,d8];grind)
  ·exfalso;have q:∀v:V3,dot p.n v=p.b->dot p.n (G6 v a)=0:=λv e=>by
    have:dot p.n (G6 v a)=dot p.n v-dot p.n a:=by simp only[dot,G6];grind
    omega
   have r1:=q v1 e1;have r2:=q v2 e2;have r3:=q v3 e3;have hw:mw ⟨G6 v1 a,0⟩ ⟨G6 v2 a,0⟩ ⟨G6 v3 a,0⟩≠0:=hne;refine od2 hp.ok (Yc7 hw ?_ ?_ ?_)
   ·rw[<- r1];simp only[dot];grind
   ·rw[<- r2];simp only[dot];grind
   ·rw[<- r3];simp only[dot];grind
 ·exfalso;have hdn:dot p.n d=0:=hz _ Qmd;have hdv:∀v∈Ra2 (F0 l) l,dot p.n v=p.b->dot d v=dot d a:=λv hv e=>by
   have:=hz _ (Qmk _ (Qmb.2 ⟨v,Qmq.2 ⟨hv,beq_iff_eq.2 e⟩,rfl⟩))
   simp only[dot,G6] at this ⊢
   grind
  -- one of the mg7 points is off the line
  have hoff:¬ (dot d u=dot d a/\dot d w=dot d a/\dot d x=dot d a):=λ⟨g1,g2,g3⟩=>by
   have ht:=(oa5 (fc5 (Qma.1 hl u hu) (Qma.1 hl w hw) (Qma.1 hl x hx) h3)).2;have hm:mw p ⟨G6 w u,0⟩ ⟨G6 x u,0⟩≠0:=by
    have hN:mw p ⟨G6 w u,0⟩ ⟨G6 x u,0⟩=dot p.n (N3 u w x):=rfl;rw[hN];intro e;obtain⟨_,⟨g,hg,f1,f2,f3⟩,_⟩:=ht;have f1:g*(A6 u w x).1.n.x=(N3 u w x).x:=f1;have f2:g*(A6 u w x).1.n.y=(N3 u w x).y:=f2;have f3:g*(A6 u w x).1.n.z=(N3 u w x).z:=f3;have e2:g*dot p.n (A6 u w x).1.n=0:=by rw[<- e];simp only[dot];rw[<- f1,<- f2,<- f3];grind
    have e3:=(Int.mul_eq_zero.1 e2).resolve_left (by omega)
    have hpn:=od2 hp.ok;have hpos:=Ze6 hpn
    rcases Md6 ((oa5 (fc5 (Qma.1 hl u hu) (Qma.1 hl w hw) (Qma.1 hl x hx) h3)).2) hp.ok t1 t2 t3 with hq|hq
    ·rw[<- hq] at e3;omega
    ·have : dot p.n (A6 u w x).1.n = -dot p.n p.n := by
      have h5:p.n=⟨-(A6 u w x).1.n.x,-(A6 u w x).1.n.y,-(A6 u w x).1.n.z⟩:=congrArg Pln.n hq;have h6:(A6 u w x).1.n=⟨-p.n.x,-p.n.y,-p.n.z⟩:=by
       rw[h5];simp
      rw[h6];simp only[dot]
      grind
     omega
   refine hd (Yc7 hm hdn ?_ ?_)
   ·show dot (G6 w u) d=0
    have:dot (G6 w u) d=dot d w-dot d u:=by simp only[dot,G6];grind
    omega
   ·show dot (G6 x u) d=0
    have:dot (G6 x u) d=dot d x-dot d u:=by simp only[dot,G6];grind
    omega
  -- so a plane that is turned a little would vg6 it out
  have main:∀(e:V3) (t:V3),t∈l->dot p.n t=p.b->(∀v∈Ra2 (F0 l) l,dot p.n v=p.b->dot e v=dot e a)->dot e t<=dot e a:=λe t ht hte hev=>by
   obtain⟨N,hN,hbig⟩:=big e ((Ra2 (F0 l) l).map λv=>⟨G6 v a,0⟩)
   have:=mc3 hl h4 (n:=⟨e.x+N*p.n.x,e.y+N*p.n.y,e.z+N*p.n.z⟩) (b:=dot e a+N*p.b) (λv hv=>by
    have h1:dot ⟨e.x+N*p.n.x,e.y+N*p.n.y,e.z+N*p.n.z⟩ v=dot e v+N*dot p.n v:=by simp only[dot];grind
    rw[h1];by_cases hvp:dot p.n v=p.b
    ·rw[hvp,hev v hv hvp];exact Qmx _
    ·have h2:=hp.hd v (tb7 hl h4 hv);have h3:=(hbig _ (Qmb.2 ⟨v,hv,rfl⟩)).1;have h4:dot (G6 v a) e=dot e v-dot e a:=by simp only[dot,G6];grind
     have h3:dot (G6 v a) e<=N:=h3;have h5:N*dot p.n v<=N*(p.b-1):=Qmh (by omega) (by omega)
     rw[Int.mul_sub,Int.mul_one] at h5
     omega) t ht
   have h1:dot ⟨e.x+N*p.n.x,e.y+N*p.n.y,e.z+N*p.n.z⟩ t=dot e t+N*dot p.n t:=by simp only[dot];grind
   rw[h1,hte] at this;omega
  have both:∀t,t∈l->dot p.n t=p.b->dot d t=dot d a:=λt ht hte=>by
   have g1:=main d t ht hte hdv;have g2:=main (neg d) t ht hte (λv hv e=>by
    have:=hdv v hv e
    have q1:∀z:V3,dot (neg d) z=-dot d z:=λz=>by simp only[dot,neg];grind
    rw[q1,q1];omega)
   have q1:∀z:V3,dot (neg d) z=-dot d z:=λz=>by simp only[dot,neg];grind
   rw[q1,q1] at g2;omega
  exact hoff ⟨both u hu t1,both w hw t2,both x hx t3⟩
theorem kg8:F0 (Ra2 (F0 l) l)=F0 l:=by
 refine id9 (Qe9 _) (Qe9 _) λp=>?_
 rw[Gb3 (af9 hl h4),Gb3 hl];refine⟨λh=>⟨⟨mc3 hl h4 h.hd,?_⟩,h.ok⟩,λh=>Tf7 hl h4 h⟩
 obtain⟨u,w,x,hu,hw,hx,hr⟩:=h.on;exact⟨u,w,x,tb7 hl h4 hu,tb7 hl h4 hw,tb7 hl h4 hx,hr⟩
theorem Tf8(h48:l.length<=48):xb8 (Ra2 (F0 l) l)=0:=by
 refine jd4 ?_ (af9 hl h4) (Tf6 hl h4);have h1:=oe0 l;have h2:(Ra2 (F0 l) l).length<=(dis l).length:=List.length_filter_le _ _;omega
end
theorem Tf9(p:Pln)(v:V3):lc9 ⟨p.n.x,p.n.y,p.n.z,p.b,v.x,v.y,v.z⟩=⟨1,decide (fa8 p v>0)⟩:=by
 unfold lc9 Zc8;simp only[Zc1,Zc2];rfl
theorem Uf0 (l : List Pln) (v : V3) (hl : l.length ≤ 1000000000) :
  ta4 ⟨l,v.x,v.y,v.z⟩=⟨1,if l.any (λp=>decide (fa8 p v>0)) then ((l.findIdx (λp=>decide (fa8 p v>0)):Nat):Int) else -1⟩:=by
 have h:=wa3 (step:=U8 ⟨l,(l.length:Int),v.x,v.y,v.z⟩) (mk:=λj=>(⟨(j:Int)⟩:A0)) (c:=λp=>decide (fa8 p v>0)) (u:=1) (fin:=2) tP l hl
  (λj hj=>by
   simp only[U8,ha8,Int.toNat_natCast,Tf9,m9 hj (show l.length<=4611686018427387904 by omega)]
   rw[btD (i8 hj),bt (f9 hj)]
   rfl)
  (by simp only[U8,ha8];rw[bfD (n5 (Qme _))]) 0 (Qmi _)
 rw[Qms] at h;unfold ta4 Va7;simp only[i9,i6];rw[show (⟨0⟩:A0)=⟨((0:Nat):Int)⟩ from rfl,h]
 split
 ·simp only[Nat.zero_add];rfl
 ·rfl
theorem Uf1(l:List Pln)(v:V3)(hl:l.length<=1000000000):ma0 ⟨l,v.x,v.y,v.z⟩=⟨1,l.any λp=>decide (fa8 p v>0)⟩:=by
 unfold ma0 Ia5;simp only[i9,i6,Uf0 l v hl];split
 ·rename_i h;rw[h,show decide (((l.findIdx (λp=>decide (fa8 p v>0)):Nat):Int)>=0)=true from decide_eq_true (by omega)];rfl
 ·rename_i h;rw[Bool.not_eq_true] at h;rw[h];rfl
theorem Ff3{l:List V3}(hc:xb8 l=0){v:V3}(hv:inV v=true)(hf:∀p∈F0 l,dot p.n v<=p.b):mc0 l v=some (b true,[]):=by
 obtain⟨h48,hl,h4⟩:=jd5 hc;have hne:1<=l.length:=by
  obtain⟨a,ha⟩:=h4.ne;exact List.length_pos_of_mem ha
 have hg:Jc3 l=true:=decide_eq_true ⟨hne,by omega⟩
 have hp:Zb9 l=(F0 l,0):=by unfold Zb9 Zb8;rw[if_pos hc]
 have hF:=Ge1 h48 hl;have hany:(F0 l).any (λp=>decide (fa8 p v>0))=false:=by
  rw[List.any_eq_false];intro p hp' hs
  have:=(Md1 ((Gb3 hl p).1 hp').ok hv).1 (of_decide_eq_true hs)
  have:=hf p hp'
  omega
 unfold mc0;simp only[i9,J1,i6,hg,hp,(Zb7 v).1,(Zb7 v).2,hv,Uf1 (F0 l) v (by omega),hany]
 rfl
theorem Ff4{l:List V3}(hc:xb8 l=0){v:V3}(hv:inV v=true)(hf:∀p∈F0 l,dot p.n v<=p.b):mc1 l v=true:=by unfold mc1;rw[Ff3 hc hv hf];rfl
theorem Ff5{l:List V3}(hc:xb8 l=0){v:V3}(hv:inV v=true)(hf:∀p∈F0 l,dot p.n v<=p.b):mc2 l v=true:=by unfold mc2;rw[Ff3 hc hv hf];rfl
def mc4(a c:V3):V3:=⟨a.x+c.x,a.y+c.y,a.z+c.z⟩
theorem Se3{a c:V3}(ha:Sm 1000 a.x/\Sm 1000 a.y/\Sm 1000 a.z)(hc:Sm 1000 c.x/\Sm 1000 c.y/\Sm 1000 c.z):g9 a c=mc4 a c:=by
 obtain⟨⟨a1,a2⟩,⟨a3,a4⟩,a5,a6⟩:=ha;obtain⟨⟨c1,c2⟩,⟨c3,c4⟩,c5,c6⟩:=hc;unfold g9 mc4;rw[E4 (by omega) (by omega),E4 (by omega) (by omega),E4 (by omega) (by omega)]
theorem mc5(n a c:V3):dot n (mc4 a c)=dot n a+dot n c:=by simp only[dot,mc4];grind
structure Sx(A B:List V3):Prop where
 a:Sol A
 b:∃y,y∈B
 sa:∀x∈A,Sm 1000 x.x/\Sm 1000 x.y/\Sm 1000 x.z
 sb:∀y∈B,Sm 1000 y.x/\Sm 1000 y.y/\Sm 1000 y.z
 i:∀x∈A,∀y∈B,inV (mc4 x y)=true
 la:A.length<=48
 lb:B.length<=48
 l:(Ma5 A B).length<=48
section
variable{A B:List V3}(h:Sx A B)
include h
theorem Sx.mem(w:V3):w∈Ma5 A B↔∃x∈A,∃y∈B,w=mc4 x y:=by
 rw[Ef4];constructor
 ·rintro⟨x,hx,y,hy,rfl⟩;exact⟨x,hx,y,hy,Se3 (h.sa x hx) (h.sb y hy)⟩
 ·rintro⟨x,hx,y,hy,rfl⟩;exact⟨x,hx,y,hy,(Se3 (h.sa x hx) (h.sb y hy)).symm⟩
theorem Sx.inV:(Ma5 A B).all Ce.inV=true:=Qma.2 λw hw=>by
 obtain⟨x,hx,y,hy,rfl⟩:=(h.mem w).1 hw;exact h.i x hx y hy
theorem Sx.sol:Sol (Ma5 A B):=by
 obtain⟨a,c,k,v,ha,hc,hk,hv,hne⟩:=h.a;obtain⟨y,hy⟩:=h.b;exact⟨mc4 a y,mc4 c y,mc4 k y,mc4 v y,(h.mem _).2 ⟨a,ha,y,hy,rfl⟩,(h.mem _).2 ⟨c,hc,y,hy,rfl⟩,(h.mem _).2 ⟨k,hk,y,hy,rfl⟩,(h.mem _).2 ⟨v,hv,y,hy,rfl⟩,λe=>hne (by
  rw[<- e];simp only[dot,N3,d8,G6,mc4];grind)⟩
theorem Sx.chk:xb8 (Ma5 A B)=0:=jd4 h.l h.inV h.sol
theorem Sx.sum:ad2 A B=(Ra2 (F0 (Ma5 A B)) (Ma5 A B),0):=by
 unfold ad2 Zc3
 have:=h.la;have:=h.lb
 rw[if_neg (by omega),if_pos h.chk]
theorem Sx.has {w : V3} (hw : Ce.inV w = true) (hf : ∀ (n : V3) (b : Int), (∀ x ∈ A, ∀ y ∈ B, dot n x + dot n y ≤ b) → dot n w ≤ b) :
  mc1 (Ra2 (F0 (Ma5 A B)) (Ma5 A B)) w=true/\mc2 (Ra2 (F0 (Ma5 A B)) (Ma5 A B)) w=true:=by
 have hc:=Tf8 h.inV h.sol h.l;have hk:∀p∈F0 (Ra2 (F0 (Ma5 A B)) (Ma5 A B)),dot p.n w<=p.b:=λp hp=>by
  rw[kg8 h.inV h.sol] at hp;have hd:=((Gb3 h.inV p).1 hp).hd;refine hf p.n p.b λx hx y hy=>?_
  have:=hd _ ((h.mem _).2 ⟨x,hx,y,hy,rfl⟩)
  rwa [mc5] at this
 exact⟨Ff4 hc hw hk,Ff5 hc hw hk⟩
end
theorem kg9(n:V3)(m:Int)(v:V3):m<=mxS n m v/\j7 v n<=mxS n m v/\(mxS n m v=m\/mxS n m v=j7 v n):=by
 unfold mxS
 split<;>omega
theorem bf0(n:V3):∀(l:List V3) (m:Int),m<=l.foldl (mxS n) m/\(∀v∈l,j7 v n<=l.foldl (mxS n) m)/\(l.foldl (mxS n) m=m\/∃v∈l,l.foldl (mxS n) m=j7 v n)
 |[],m=>⟨Qmx _,λv hv=>(by cases hv),.inl rfl⟩
 |w::l,m=>by
  obtain⟨h1,h2,h3⟩:=bf0 n l (mxS n m w);obtain⟨k1,k2,k3⟩:=kg9 n m w;rw[List.foldl_cons];refine⟨by omega,λv hv=>?_,?_⟩
  ·rcases Qmf.1 hv with rfl|hv
   ·omega
   ·exact h2 v hv
  ·rcases h3 with h3|⟨v,hv,h3⟩
   ·rcases k3 with k3|k3
    ·exact .inl (by rw[h3,k3])
    ·exact .inr ⟨w,Qmd,by rw[h3,k3]⟩
   ·exact .inr ⟨v,Qmk _ hv,h3⟩
theorem qe1(n:V3){l:List V3}(hl:l≠[]):(∀v∈l,j7 v n<=mxL n l)/\∃v∈l,mxL n l=j7 v n:=by
 cases l with
 |nil=>exact absurd rfl hl
 |cons w l =>
  obtain⟨h1,h2,h3⟩:=bf0 n l (j7 w n);refine⟨λv hv=>?_,?_⟩
  ·rcases Qmf.1 hv with rfl|hv
   ·exact h1
   ·exact h2 v hv
  ·rcases h3 with h3|⟨v,hv,h3⟩
   ·exact⟨w,Qmd,h3⟩
   ·exact⟨v,Qmk _ hv,h3⟩
theorem qe2{v n:V3}(hv:Sm 1000 v.x/\Sm 1000 v.y/\Sm 1000 v.z)(hn:Sm 1000 n.x/\Sm 1000 n.y/\Sm 1000 n.z):j7 v n=dot n v/\Sm 3000000 (dot n v):=by
 obtain⟨⟨a1,a2⟩,⟨a3,a4⟩,a5,a6⟩:=hv;obtain⟨⟨c1,c2⟩,⟨c3,c4⟩,c5,c6⟩:=hn;have r1:=mb a1 a2 c1 c2;have r2:=mb a3 a4 c3 c4;have r3:=mb a5 a6 c5 c6;have e1:=Qmv n.x v.x;have e2:=Qmv n.y v.y;have e3:=Qmv n.z v.z;unfold j7 dot;simp only[Va9,pb8];rw[E4 (by omega) (by omega)]
 exact⟨by omega,by omega,by omega⟩
theorem Uf2{l:List V3}(hl:l.all inV=true)(h4:Sol l):Ra2 (F0 l) l≠[]:=λe=>by
 obtain⟨v,hv⟩:=Ff2 hl h4;rw[e] at hv;cases hv
theorem Sx.mx {A B : List V3} (h : Sx A B) {n : V3} (hn : Sm 1000 n.x ∧ Sm 1000 n.y ∧ Sm 1000 n.z) :
  mxL n (Ra2 (F0 (Ma5 A B)) (Ma5 A B))=W (mxL n A+mxL n B):=by
 have hA:A≠[]:=λe=>by obtain⟨v,hv⟩:=h.a.ne;rw[e] at hv;cases hv
 have hB:B≠[]:=λe=>by obtain⟨v,hv⟩:=h.b;rw[e] at hv;cases hv
 obtain⟨a1,a,ha,ea⟩:=qe1 n hA;obtain⟨b1,b,hb,eb⟩:=qe1 n hB;obtain⟨v1,v,hv,ev⟩:=qe1 n (Uf2 h.inV h.sol);have sv:∀{w},w∈Ma5 A B->j7 w n=dot n w:=λ{w} hw=>by
  obtain⟨c1,c2,c3⟩:=(cb0 w).1 (Qma.1 h.inV w hw);exact (qe2 ⟨c1.mono (by omega),c2.mono (by omega),c3.mono (by omega)⟩ hn).1
 have sA:∀{x},x∈A->j7 x n=dot n x/\Sm 3000000 (dot n x):=λ{x} hx=>qe2 (h.sa x hx) hn
 have sB:∀{x},x∈B->j7 x n=dot n x/\Sm 3000000 (dot n x):=λ{x} hx=>qe2 (h.sb x hx) hn
 have k1:=(sA ha).2;have k2:=(sB hb).2;rw[E4 (by rw[ea,eb,(sA ha).1,(sB hb).1];have:=k1.1;have:=k2.1;omega) (by rw[ea,eb,(sA ha).1,(sB hb).1];have:=k1.2;have:=k2.2;omega)]
 -- not less
 have up:=mc3 h.inV h.sol (n:=n) (b:=mxL n (Ra2 (F0 (Ma5 A B)) (Ma5 A B))) (λw hw=>by
  have:=v1 w hw
  rw[sv (tb7 h.inV h.sol hw)] at this;exact this) (mc4 a b) ((h.mem _).2 ⟨a,ha,b,hb,rfl⟩)
 rw[mc5] at up
 -- not more
 obtain⟨x,hx,y,hy,exy⟩:=(h.mem v).1 (tb7 h.inV h.sol hv);have lo1:=a1 x hx;have lo2:=b1 y hy;rw[(sA hx).1] at lo1;rw[(sB hy).1] at lo2;have e1:mxL n (Ra2 (F0 (Ma5 A B)) (Ma5 A B))=dot n x+dot n y:=by
  rw[ev,sv (tb7 h.inV h.sol hv),exy,mc5]
 rw[(sA ha).1] at ea;rw[(sB hb).1] at eb;omega
noncomputable def tet:List V3:=[⟨0,0,0⟩,⟨1,0,0⟩,⟨0,1,0⟩,⟨0,0,1⟩]
noncomputable def Ff6:List V3:=[⟨0,0,0⟩,⟨2,0,0⟩,⟨1,0,0⟩,⟨3,0,0⟩,⟨0,1,0⟩,⟨2,1,0⟩,⟨0,0,1⟩,⟨2,0,1⟩]
noncomputable def Uf3:List V3:=[⟨0,0,0⟩,⟨0,0,1⟩,⟨0,1,0⟩,⟨1,0,0⟩,⟨2,0,0⟩,⟨2,0,1⟩,⟨2,1,0⟩,⟨3,0,0⟩]
noncomputable def He2:List V3:=[⟨0,0,0⟩,⟨0,0,1⟩,⟨0,1,0⟩,⟨2,0,1⟩,⟨2,1,0⟩,⟨3,0,0⟩]
theorem Uf4:Ma5 tet [⟨0,0,0⟩,⟨2,0,0⟩]=Ff6:=by kernel_rfl
theorem Uf5:xb8 Ff6=0:=by kernel_rfl
theorem Uf6:dis Ff6=Uf3:=by
 refine od6 _ _ (Af9 _) ?_ λv=>?_
 ·simp[Uf3,LtV]
 ·rw[Cc2];unfold Ff6 Uf3;simp only[Qmf,List.not_mem_nil,or_false]
  constructor<;>rintro (h | h | h | h | h | h | h | h)<;>simp[h]
theorem Uf7:Uf3.filter (kv (F0 Ff6))=He2:=by kernel_rfl
theorem Uf8:ad2 tet [⟨0,0,0⟩,⟨2,0,0⟩]=(He2,0):=by
 unfold ad2;rw[if_neg (by simp[tet]),Uf4]
 unfold Zc3 Ra2;rw[if_pos Uf5,Uf6,Uf7]
theorem Ff7:ad2 tet []=([],11):=by
 unfold ad2;rw[if_neg (by simp[tet])]
 have h:Ma5 tet []=[]:=by kernel_rfl
 rw[h];unfold Zc3;rw[yc4,if_neg (by omega)]
theorem Uf9:ad2 tet [⟨24,0,0⟩]=([],3):=by
 unfold ad2;rw[if_neg (by simp[tet])]
 have h:xb8 (Ma5 tet [⟨24,0,0⟩])=3:=by kernel_rfl
 unfold Zc3;rw[h,if_neg (by omega)]
theorem Vf0:Od6 tet ⟨3,-1,2⟩=(3,true):=by kernel_rfl
theorem Kg7:gc0 [⟨⟨1,1,1⟩,3⟩,⟨⟨-1,0,0⟩,0⟩] ⟨1,0,2⟩ 1=([⟨⟨1,1,1⟩,6⟩,⟨⟨-1,0,0⟩,1⟩],true):=by kernel_rfl
theorem Kg8:gc0 [⟨⟨1,1,1⟩,3⟩,⟨⟨-1,0,0⟩,0⟩] ⟨1,0,2⟩ (-1)=([⟨⟨1,1,1⟩,0⟩,⟨⟨-1,0,0⟩,-1⟩],true):=by kernel_rfl
theorem Kg9:gc0 [⟨⟨1,1,1⟩,3⟩,⟨⟨-1,0,0⟩,0⟩] ⟨13,0,0⟩ 1=([],false):=by kernel_rfl
theorem Lg0:gc0 [⟨⟨1,1,1⟩,3⟩,⟨⟨-1,0,0⟩,0⟩] ⟨0,-1,0⟩ (-1)=([],false):=by kernel_rfl
theorem Lg1:gc0 [⟨⟨1,0,0⟩,2097152⟩] ⟨1,0,0⟩ 1=([],false):=by kernel_rfl
theorem He3:Ra6=some (b true,[]):=by
 have ht:tb5=tet:=Tf3;have lt:tet.length<=1000000:=by simp[tet]
 unfold Ra6;simp only[ht,Tf4,i9,J1,wg5,wg6,Uf8,Ff7,Uf9,ee0 tet _ lt,ee1 tet _ lt,Vf0,ee0 [] _ (by simp),ee1 [] _ (by simp)]
 rw[pe9 _ _ (by simp),qe0 _ _ (by simp),Od4 _ _ (by simp),Od5 _ _ (by simp),pe9 _ ⟨13,0,0⟩ (by simp),qe0 _ ⟨13,0,0⟩ (by simp),Od4 _ ⟨0,-1,0⟩ (by simp),Od5 _ ⟨0,-1,0⟩ (by simp),pe9 [⟨⟨1,0,0⟩,2097152⟩] _ (by simp),qe0 [⟨⟨1,0,0⟩,2097152⟩] _ (by simp),Kg7,Kg8,Kg9,Lg0,Lg1]
 simp only[wf0 _ (show [(⟨⟨1,1,1⟩,6⟩:Pln),⟨⟨-1,0,0⟩,1⟩].length<=1000000000 by simp),wf1 _ (show [(⟨⟨1,1,1⟩,6⟩:Pln),⟨⟨-1,0,0⟩,1⟩].length<=1000000000 by simp),wf0 _ (show [(⟨⟨1,1,1⟩,0⟩:Pln),⟨⟨-1,0,0⟩,-1⟩].length<=1000000000 by simp),wf1 _ (show [(⟨⟨1,1,1⟩,0⟩:Pln),⟨⟨-1,0,0⟩,-1⟩].length<=1000000000 by simp)]
 have e1:Ra4 He2 [⟨0,0,0⟩,⟨0,0,1⟩,⟨0,1,0⟩,⟨2,0,1⟩,⟨2,1,0⟩,⟨3,0,0⟩]=true:=Tf1 He2 (by simp[He2])
 have e2:Ra5 He2 [⟨0,0,0⟩,⟨0,0,1⟩,⟨0,1,0⟩,⟨2,0,1⟩,⟨2,1,0⟩,⟨3,0,0⟩]=true:=Tf2 He2 (by simp[He2])
 rw[e1,e2];rfl
theorem Se4:mb3=true:=by unfold mb3;rw[He3];rfl
theorem Se5:mb4=true:=by unfold mb4;rw[He3];rfl
set_option maxRecDepth 100000
structure He5 where
 bs7:Bool
 (Lg4 c8 b9 c9:Int)
 (g7 kf0 kf1 kf2 kf3 kf4 kf5 kf6 kf7:List V3)
 xd5:Nat
 yg5:Nat->List b7
 yg6:Nat
 yg7:Nat->List b7
structure He6 where
 Ng0:Int
structure He7 where
 bs7:Bool
 (c8 b9 c9:Int)
structure He8 where
 Lg4:Int
 (g7 kf0 kf1 kf2 kf3 kf4 kf5 kf6 kf7:List V3)
structure Ff8 where
 f7:List V3
 (c8 b9 c9:Int)
structure Ff9 where
 ph:Nat
 is6:Int
 ns5:Nat
 eh1:List (List b7)
structure Vf1 where
 (alt ns0:Nat)
 eh0:List (List b7)
structure He9 where
 is3:Int
 bs9:Bool
 ld1:List V3
 (c8 b9 c9 y5 y6 y7:Int)
structure Ie0 where
 Ng1:Nat
 Ng2:Int
 eh2:List (List b7)
structure Ie1 where
 bs9:Bool
 (ld1 lg4:List V3)
 Lg5:Nat
 (xg1 xg2:Int)
 yg8:List V3
 (Mg0 c8 b9 c9 y5 y6 y7 Aa3 Aa4 Aa5:Int)
 eh3:List (List b7)
structure Ie2 where
 Mg1:Int
structure Ie3 where
 bs9:Bool
 Lg5:Nat
 (xg1 c8 b9 c9 y5 y6 y7:Int)
 eh2:List (List b7)
structure Ie4 where
 (ld1 lg4:List V3)
 xg2:Int
structure Ie5 where
 bs9:Bool
 Vf7:List V3
 (xg3 xg4 Mg2 c8 b9 c9:Int)
 (Lg6 Mg3:Nat)
 eh0:List (List b7)
 (y5 y6 y7:Int)
structure Ie6 where
 ph:Nat
 Ng3:Bool
 Mg4:Int
structure Ie7 where
 bs9:Bool
 xg3:Int
structure Ie8 where
 ph:Nat
 Vf7:List V3
 xg4:Int
 Lg6:Nat
 eh0:List (List b7)
structure Sm4(v:V3)(n:Int):Prop where
 x:Sm n v.x
 y:Sm n v.y
 z:Sm n v.z
theorem Cc4{n:Int}(hn:0<=n)(k c:Int)(hk:0<k)(hk2:k<=100)(hc:0<=c/\c<=100):∃v,W (W (Int.tmod n k)-c)=v/\-c<=v/\v<k-c:=by
 have h1:=Qmr k hn;have h2:=Qml n hk;refine⟨Int.tmod n k-c,?_,by omega,by omega⟩
 rw[E4 (n:=Int.tmod n k) (by omega) (by omega),E4 (by omega) (by omega)]
structure re5 where
 Mg5:List B3
 bs7:Bool
 ag9:List V3
 (c8 b9 c9:Int)
structure re6 where
 ph:Nat
 v7:Int
 ns9:Nat
 eh1:List (List b7)
structure re7 where
 bs7:Bool
 ag9:List V3
 ns9:Nat
 (lg5 Vf8:List V3)
 (xg5 xg6:Int)
 Mg6:Nat
 Mg7:Int
 eh0:List (List b7)
 (y5 y6 y7:Int)
structure re8 where
 Mg8:Int
structure re9 where
 bs7:Bool
 ns9:Nat
 xg5:Int
 eh0:List (List b7)
structure se0 where
 (ag9 lg5 Vf8:List V3)
 xg6:Int
theorem add_comm(a c:V3):g9 a c=g9 c a:=by
 unfold g9;rw[Qmw a.x,Qmw a.y,Qmw a.z]
structure Mg9(A B:List V3)(y n:V3) where
 V:List V3
 E:List V3
 M:List V3
 f1:ad2 A B=(V,0)
 f2:ad2 B A=(V,0)
 lV:V.length<=48
 lM:M.length<=48
 m:(Od6 V n).1=W ((Od6 A n).1+(Od6 B n).1)
 tA:(Od6 A n).2=true
 tB:(Od6 B n).2=true
 tV:(Od6 V n).2=true
 has:∀x∈A,∀y∈B,mc1 V (g9 x y)=true/\mc2 V (g9 x y)=true
 f3:ad2 A [y]=(M,0)
 f4:Zc3 A=(E,0)
 lE:E.length<=48
 mv:E.map (λv=>g9 v y)=M
theorem wg8{a c k:V3}{p:Pln}(h:Thr a c k p)(ha:inV a=true):Sm 331776 p.b:=by
 rw[<- (Md5 h).1];exact ne4 (lb6 h.ok) ha
theorem Vf2{a c k:V3}(h:(A6 a c k).2=true):inV a=true:=by
 unfold A6 at h
 split at h
 ·rename_i hh;rw[Qmp] at hh;exact hh.1
 ·cases h
theorem jf7(l:List Int):Rd (one r1P) (Da8 l) (λp=>Sm 331776 p.b):=by
 unfold Da8;simp only[i9,i6];obtain⟨v1,j1,e1,a1,b1,c1,d1⟩:=R4 8 l 0 (by omega) (by omega) (by omega) (by omega)
 rw[e1]
 simp only
 obtain⟨v2,j2,e2,a2,b2,c2,d2⟩:=R4 17 l j1 (by omega) (by omega) (by omega) (by omega)
 rw[e2]
 simp only
 obtain⟨x1,x2,x3,j3,e3,_,_,_,c3,d3⟩:=Cb3 8 l j2 (by omega) (by omega) (by omega) (by omega)
 rw[e3]
 simp only
 obtain⟨y1,y2,y3,j4,e4,_,_,_,c4,d4⟩:=Cb3 8 l j3 (by omega) (by omega) (by omega) (by omega)
 rw[e4]
 simp only
 obtain⟨z1,z2,z3,j5,e5,_,_,_,c5,d5⟩:=Cb3 8 l j4 (by omega) (by omega) (by omega) (by omega)
 rw[e5];simp only[Hb6,Ta7,Ye1 _ (show (0:Int)<3 by omega) (by omega),i6]
 simp only[Nat.beq_refl,Qmt,l9];have w2:W (v2-8)=v2-8:=E4 (by omega) (by omega)
 have w1:W (1-W (2*Int.tmod v1 2))=1\/W (1-W (2*Int.tmod v1 2))=-1:=by
  have h:=Qmr 2 a1;have h2:=Qml v1 (show (0:Int)<2 by omega)
  rw[E4 (n:=2*Int.tmod v1 2) (by omega) (by omega),E4 (by omega) (by omega)]
  omega
 rw[w2];generalize W (1-W (2*Int.tmod v1 2))=s at *
 have ax:∀{n:V3},Sm 331776 (⟨n,v2-8⟩:Pln).b:=λ{n}=>⟨by simp only;omega,by simp only;omega⟩
 have r1:Rd (one r1P) (some (.agg [i 0,i s,i 0,i (v2-8)],[])) (λp=>Sm 331776 p.b):=⟨_,⟨⟨0,s,0⟩,v2-8⟩,rfl,rfl,ax⟩
 have r2:Rd (one r1P) (some (.agg [i 0,i 0,i s,i (v2-8)],[])) (λp=>Sm 331776 p.b):=⟨_,⟨⟨0,0,s⟩,v2-8⟩,rfl,rfl,ax⟩
 have r3:Rd (one r1P) (some (.agg [i s,i 0,i 0,i (v2-8)],[])) (λp=>Sm 331776 p.b):=⟨_,⟨⟨s,0,0⟩,v2-8⟩,rfl,rfl,ax⟩
 refine Rd.sl (λ_=>Rd.sl (λh=>?_) λ_=>?_) (λ_=>?_)
 ·exact⟨_,(A6 ⟨x1,x2,x3⟩ ⟨y1,y2,y3⟩ ⟨z1,z2,z3⟩).1,rfl,rfl,wg8 (oa5 h).2 (Vf2 h)⟩
 ·exact Rd.sl (λ_=>r1) λ_=>Rd.sl (λ_=>r2) λ_=>r3
 ·exact Rd.sl (λ_=>r1) λ_=>Rd.sl (λ_=>r2) λ_=>r3
theorem Gf0(l:List Int):Sm 331776 (Pa0 l).b:=(jf7 l).p
def MB(c:List Pln):Prop:=∀p∈c,Sm 331776 p.b
theorem lg0{lo hi:V3}(h1:Sm 20 lo.x/\Sm 20 lo.y/\Sm 20 lo.z)(h2:Sm 20 hi.x/\Sm 20 hi.y/\Sm 20 hi.z):MB (Ec5 lo hi):=by
 obtain⟨⟨a1,a2⟩,⟨a3,a4⟩,a5,a6⟩:=h1;obtain⟨⟨b1,b2⟩,⟨b3,b4⟩,b5,b6⟩:=h2;have w:∀{x:Int},-20<=x->x<=20->W (0-x)=-x:=λh h'=>by rw[E4 (by omega) (by omega)];omega
 intro p hp;unfold Ec5 at hp;rw[w a1 a2,w a3 a4,w a5 a6] at hp;simp only[Qmf,List.not_mem_nil,or_false] at hp
 rcases hp with rfl|rfl|rfl|rfl|rfl|rfl<;>exact⟨by simp only;omega,by simp only;omega⟩
theorem Vf3{l:List V3}(h:Oc0 l=0):MB (F0 l):=λp hp=>by
 obtain⟨h1,h2⟩:=ce1 h;have hF:=(Gb3 h1 p).1 hp;obtain⟨u,w,x,hu,hw,hx,h3,t1,t2,t3⟩:=hF.on;rw[<- t1];exact ne4 (lb6 hF.ok) (Qma.1 h1 u hu)
theorem Gf1(x:List Int):Rd (one (r1L tP)) (Ea0 x) MB:=by
 obtain⟨v1,j1,e1,a1,b1,c1,d1⟩:=R4 4 x 0 (by omega) (by omega) (by omega) (by omega)
 obtain⟨w1,w2,w3,j2,e2,p1,p2,p3,c2,d2⟩:=Cb3 6 x j1 (by omega) (by omega) (by omega) (by omega)
 obtain⟨v3,j3,e3,a3,b3,c3,d3⟩:=R4 6 x j2 (by omega) (by omega) (by omega) (by omega)
 obtain⟨v4,j4,e4,a4,b4,c4,d4⟩:=R4 6 x j3 (by omega) (by omega) (by omega) (by omega)
 obtain⟨v5,j5,e5,a5,b5,c5,d5⟩:=R4 6 x j4 (by omega) (by omega) (by omega) (by omega)
 have hin:inB (if 7<(x.length:Int) then 7 else (x.length:Int)) (x.length+1)=true:=by
  rw[wd7];apply decide_eq_true
  split<;>omega
 have hok:∀n m,okL tI n (λk=>(λk=>tI.row (gL tI x k)) (m+k))=true:=λn m=>nb6 tI (f:=λk=>gL tI x (m+k)) λ_ _=>rfl
 unfold Ea0;simp only[i9,i6,J1,e1,e2,e3,e4,e5,Xe4,Xe5,hin,hok,ub1,me7,Ld4,Nat.beq_refl,Qmt,l9];generalize hL:lsL tI _ _=L;have hg:MB (Ec5 ⟨w1,w2,w3⟩ ⟨W (W (w1+1)+v3),W (W (w2+1)+v4),W (W (w3+1)+v5)⟩):=by
  obtain⟨q1,q2⟩:=p1;obtain⟨q3,q4⟩:=p2;obtain⟨q5,q6⟩:=p3;have i1:W (W (w1+1)+v3)=w1+1+v3:=by rw[E4 (n:=w1+1) (by omega) (by omega),E4 (by omega) (by omega)]
  have i2:W (W (w2+1)+v4)=w2+1+v4:=by rw[E4 (n:=w2+1) (by omega) (by omega),E4 (by omega) (by omega)]
  have i3:W (W (w3+1)+v5)=w3+1+v5:=by rw[E4 (n:=w3+1) (by omega) (by omega),E4 (by omega) (by omega)]
  rw[i1,i2,i3];refine lg0 ⟨⟨?_,?_⟩,⟨?_,?_⟩,?_,?_⟩ ⟨⟨?_,?_⟩,⟨?_,?_⟩,?_,?_⟩<;>simp only<;>omega
 have hB6:(Ec5 ⟨w1,w2,w3⟩ ⟨W (W (w1+1)+v3),W (W (w2+1)+v4),W (W (w3+1)+v5)⟩).length=6:=rfl;generalize hB:Ec5 _ _=B at *
 have hl6:len (bL tP B)=6:=by rw[V2,hB6]
 have ea:app [] (bL tP B)=bL tP B:=rfl;have es:∀q:Pln,slR tP (bL tP (B++[q])) 0 (0+6+1)=B++[q]:=λq=>by
  have:=gb6 tP (B++[q])
  rw[Qmc,hB6] at this;exact this
 have eo:∀q:Pln,okS tP (bL tP (B++[q])) 0 (0+6+1)=true:=λq=>by
  have:=nb7 tP (B++[q])
  rw[Qmc,hB6] at this;exact this
 have hlen:∀q:Pln,(B++[q]).length<=1000000000:=λq=>by rw[Qmc,hB6];exact (by decide:6+1<=1000000000)
 have gF:∀q:Pln,Na8 (B++[q])=true:=λq=>me6 (hlen q)
 have pF:∀q:Pln,db0 (B++[q])=ful (B++[q]):=λq=>Xe9 (hlen q)
 have q1:Nat.ble ((0+6)*32) room=true:=ja4 (by omega)
 have q2:Nat.ble (((0+6)+1)*32) room=true:=ja4 (by omega)
 have q3:Nat.beq (0+6) 6=true:=rfl;have hp:=Ld5 L;have gf:eb6 (D5 L)=true:=me9 _ (by omega)
 simp only[hl6,ea,yc0,es,eo,gF,pF,q1,q2,q3,Bool.and_self,gf,Ee3 (D5 L) (by omega),l9,show Nat.beq 6 0=false from rfl,Wa6]
 have box:Rd (one (r1L tP)) (some (eL tP B,[])) MB:=id5 hg;have fcs:(lc7 (D5 L)).2==0->Rd (one (r1L tP)) (some (eL tP (lc7 (D5 L)).1,[])) MB:=λh=>id5 (by
  unfold lc7 at h ⊢;by_cases h0:Oc0 (D5 L)=0
  ·rw[if_pos h0];exact Vf3 h0
  ·rw[if_neg h0] at h;exact absurd (by simpa using h) h0)
 have hcut : ful (B ++ [Pa0 L]) = true → MB (B ++ [Pa0 L]) := fun _ p h => by
   rcases List.mem_append.1 h with h|h
   ·exact hg p h
   ·rw[List.mem_singleton.1 h];exact Gf0 L
 exact Rd.sl (λ_=>Rd.sl (λhf=>Ld3 (by rw[Qmc,hB6];rfl) rfl (hcut hf)) λ_=>Rd.sl (λ_=>Rd.sl (λh=>fcs h) λ_=>box) λ_=>box) λ_=>Rd.sl (λ_=>Rd.sl (λh=>fcs h) λ_=>box) λ_=>box
theorem qe3(x:List Int):MB (k8 x):=(Gf1 x).p
theorem ee2(x:List Int){e:V3}(he:B12 e){s:Int}(hs:s=1\/s=-1):gc0 (k8 x) e s=((k8 x).map (pq e s),true):=by
 unfold gc0;rw[if_pos];rw[Qmp,Qma];refine⟨(kd7 e).2 he,λp hp=>?_⟩
 have hv:=(Ub8 x).v p hp;obtain⟨b1,b2⟩:=qe3 x p hp;have hr:=kd8 hv he;unfold okq;rw[hv,Qmj,Ta6]
 rcases hs with rfl|rfl<;>exact⟨by omega,by omega⟩
def xb9(e:V3)(k:Nat):V3:=⟨if k % 2>0 then W (0-e.x) else e.x,if k / 2 % 2>0 then W (0-e.y) else e.y,if k / 4>0 then W (0-e.z) else e.z⟩
def ac4(e:V3):List V3:=(List.range 8).map (xb9 e)
theorem Vf4(j:Nat)(hj:j<8):decide (Int.tmod (j:Int) 2>0)=decide (j % 2>0)/\decide (Int.tmod (W (Int.tdiv (j:Int) 2)) 2>0)=decide (j / 2 % 2>0)/\decide (W (Int.tdiv (j:Int) 4)>0)=decide (j / 4>0):=by
 have h:∀k:Nat,Int.tdiv (j:Int) (k:Int)=((j / k:Nat):Int):=λk=>Int.ofNat_tdiv j k |>.symm
 have h2:=h 2;have h4:=h 4;have t:∀m:Nat,Int.tmod (m:Int) 2=((m % 2:Nat):Int):=λm=>(Int.ofNat_tmod m 2).symm
 have e2:Int.tdiv (j:Int) 2=((j / 2:Nat):Int):=h2;have e4:Int.tdiv (j:Int) 4=((j / 4:Nat):Int):=h4;rw[e2,e4,E4 (by omega) (by omega),E4 (by omega) (by omega),t,t]
 refine⟨?_,?_,?_⟩<;>rw[decide_eq_decide]<;>omega
theorem qe4(e:V3):∃t s,lp (Ta8 ⟨e.x,e.y,e.z⟩) ⟨0,0,0,[]⟩=(t,s)/\(t=2/\∃j:Int,s=⟨1,j,8,bL tV (ac4 e)⟩):=by
 refine P5 (step:=Ta8 ⟨e.x,e.y,e.z⟩) (mk:=λj (o:List V3)=>(⟨phV o,(j:Int),o.length,bL tV o⟩:y9)) 8 (λj o=>j<=8/\o=(List.range j).map (xb9 e)) (λt s=>t=2/\∃j:Int,s=⟨1,j,8,bL tV (ac4 e)⟩) (by omega)
  (λj o hj hi=>?_) (λj o hj hi=>?_) 0 [] ⟨by omega,rfl⟩
 ·obtain⟨_,hi⟩:=hi;have hol:o.length=j:=by rw[hi,Qmg,List.length_range]
  have hT:(List.range (j+1)).map (xb9 e)=o++[xb9 e j]:=by rw[List.range_succ,List.map_append,<- hi];rfl
  have hnext : ∀ {s : y9}, s = ⟨1, ((j + 1 : Nat) : Int), o.length + 1, bL tV (o ++ [xb9 e j])⟩ → Nx (.next s) (fun t => t = 2 ∧ ∃ j' : Int, (⟨phV o, (j : Int), o.length, bL tV o⟩ : y9) = ⟨1, j', 8, bL tV (ac4 e)⟩)
    (λs=>∃o',s=(⟨phV o',((j+1:Nat):Int),o'.length,bL tV o'⟩:y9)/\(j+1<=8/\o'=(List.range (j+1)).map (xb9 e))):=λ{s} hs=>.nx ⟨o++[xb9 e j],by rw[hs,Ye7,Qmc];rfl,by omega,hT.symm⟩
  have hn:W ((j:Int)+1)=((j+1:Nat):Int):=m9 hj (by omega)
  obtain⟨d1,d2,d3⟩:=Vf4 j hj;cases o with
  |nil =>
   have hj0:j=0:=by rw[<- hol];rfl
   subst hj0;have e1:ka1 Stp.next Stp.exit Stp.fail ⟨e.x,e.y,e.z⟩ ⟨0,((0:Nat):Int),0,[]⟩=.next ⟨1,((0+1:Nat):Int),1,bL tV [xb9 e 0]⟩:=by
    simp only[ka1,hn,d1,d2,d3];rw[btD (show ((0:Nat):Int)<8 by omega)]
    rfl
   show Nx (ka1 Stp.next Stp.exit Stp.fail ⟨e.x,e.y,e.z⟩ ⟨0,((0:Nat):Int),0,[]⟩) _ _;rw[e1];exact hnext rfl
  |cons q o =>
   have rr:(Nat.beq (q::o).length (len (bL tV (q::o)))&&Nat.ble (((q::o).length+1)*24) room)=true:=wf7 rfl (by omega)
   have e0:bL tV (q::o++[xb9 e j])=app (bL tV (q::o)) [[i (xb9 e j).x,i (xb9 e j).y,i (xb9 e j).z]]:=(wg3 (q::o) (xb9 e j)).symm;have e1:ka2 Stp.next Stp.exit Stp.fail ⟨e.x,e.y,e.z⟩ ⟨phV (q::o),(j:Int),(q::o).length,bL tV (q::o)⟩=.next ⟨1,((j+1:Nat):Int),(q::o).length+1,bL tV (q::o++[xb9 e j])⟩:=by
    simp only[ka2,rr,hn,l9,d1,d2,d3];rw[btD (show (j:Int)<8 by omega),e0]
    generalize bL tV (q::o)=L;generalize (q::o).length=m;unfold xb9;by_cases c1:j % 2>0<;>by_cases c2:j / 2 % 2>0<;>by_cases c3:j / 4>0<;>simp only[c1,c2,c3,if_true,if_false,decide_true,decide_false,l9,Wa6]
   show Nx (ka2 Stp.next Stp.exit Stp.fail _ _) _ _;rw[e1];exact hnext rfl
 ·obtain⟨h8,hi⟩:=hi;have hj8:j=8:=by omega
  subst hj8;have hO:o=ac4 e:=hi;subst hO;exact⟨2,rfl,rfl,_,rfl⟩
theorem ee3(e:V3):∃x,Za7 e=some x/\(one (r1L tV)).rd x=some (ac4 e):=by
 obtain⟨t,s,h,rfl,j,rfl⟩:=qe4 e;unfold Za7;simp only[h];exact⟨_,rfl,hg9 tV 27 (ac4 e)⟩
theorem Gf2(e:V3):tb4 e=ac4 e:=by obtain⟨x,h,k⟩:=ee3 e;unfold tb4;rw[h];exact ua3 _ k
theorem Gf3(e:V3):Za8 e=true:=by obtain⟨x,h,k⟩:=ee3 e;unfold Za8;rw[h];exact Ia0 _ k
noncomputable def La2(c:List Pln)(v:V3):Bool:=!c.any λp=>decide (j7 p.n v>p.b)
theorem bf1(c:List Pln)(v:V3)(hc:c.length<=1000000000):Za9 c v=some (b (La2 c v),[]):=by
 have h:=kb8 (step:=Ca4 ⟨c,(c.length:Int),v.x,v.y,v.z⟩) (mk:=λj=>(⟨(j:Int)⟩:U9)) (c:=λp=>decide (j7 p.n v>p.b)) (u:=1) (fin:=2) tP c hc
  (λj hj=>by
   simp only[Ca4,xa3,Int.toNat_natCast,m9 hj (show c.length<=4611686018427387904 by omega)]
   rw[btD (i8 hj),bt (f9 hj)])
  (by simp only[Ca4,xa3];rw[bfD (n5 (Qme _))]) 0 (Qmi _)
 rw[Qms] at h;unfold Za9 La2;simp only[i9,i6];rw[show (⟨0⟩:U9)=⟨((0:Nat):Int)⟩ from rfl,h]
 cases c.any λp=>decide (j7 p.n v>p.b)<;>rfl
theorem qe5(c:List Pln)(v:V3)(hc:c.length<=1000000000):Ja9 c v=La2 c v:=by unfold Ja9;rw[bf1 c v hc];rfl
theorem qe6(c:List Pln)(v:V3)(hc:c.length<=1000000000):za4 c v=true:=by unfold za4;rw[bf1 c v hc];rfl
theorem Cc5{c:List Pln}(hc:∀p∈c,okp p=true){v:V3}(hv:Sm 1000 v.x/\Sm 1000 v.y/\Sm 1000 v.z):La2 c v=true↔∀p∈c,dot p.n v<=p.b:=by
 have e:∀p∈c,j7 p.n v=dot p.n v:=λp hp=>by
  have hb:=lb6 (hc p hp);obtain⟨⟨a1,a2⟩,⟨a3,a4⟩,a5,a6⟩:=hv;have r1:=mb hb.x1 hb.x2 a1 a2;have r2:=mb hb.y1 hb.y2 a3 a4;have r3:=mb hb.z1 hb.z2 a5 a6;unfold j7 dot;simp only[Va9,pb8];rw[E4 (by omega) (by omega)]
 unfold La2;rw[Bool.not_eq_true',List.any_eq_false];constructor
 ·intro h p hp
  have:=h p hp
  rw[e p hp,decide_eq_true_eq] at this;omega
 ·intro h p hp;rw[e p hp,decide_eq_true_eq]
  have:=h p hp
  omega
noncomputable def Pb2:List (Nat×Sum):=[(15,zc0),(16,Gd8),(18,Jc8),(19,Nc6),(21,lc6),(58,Ed8),(34,Tb2),(65,Jc5),(66,Jc9),(55,vc4),(57,Gc9)]
theorem Ec9:i7 prog G Pb2:=⟨vd1,Be5,Od2,nd8,Jc0,Ae4,jc2,Nd6,Od3,Uc3,Fd0,trivial⟩
structure Q9 where
 bs9:Bool
 (Od9 lg6 ra9:List Pln)
 Lg7:Bool
 xd6:List V3
 (bf5 c8 b9 c9 y5 y6 y7:Int)
structure E7 where
 re2:Bool
 Pd0:Int
noncomputable def yb0(p:Q9)(s:E7):St:=⟨ra 9 (b p.bs9::eL tP p.Od9::.unk::.ptr 0 0 0 0::.ptr 1 0 0 0::eL tP p.lg6::.unk::eL tP p.ra9::.unk::b p.Lg7::b s.re2::ra 103 (eL tV p.xd6::i p.bf5::i s.Pd0::ra 42 [])),[⟨0,3,[[i p.c8,i p.b9,i p.c9]],true,false,0⟩,⟨0,3,[[i p.y5,i p.y6,i p.y7]],true,false,0⟩]⟩
noncomputable def da3{α:Type}(k:E7->α)(e:Nat->α)(z:α)(p:Q9)(s:E7):α:=let t1:=(g9 (⟨p.c8,p.b9,p.c9⟩:V3) (gL tV p.xd6 s.Pd0.toNat));let t2:=(Ja9 (rt tP p.Od9) t1);(sl (decide (s.Pd0<p.bf5)) (sl (inB s.Pd0 (List.length p.xd6)) (sl s.re2 (sl (okE tP p.Od9) (sl (za4 (rt tP p.Od9) t1) (k ⟨t2,W (s.Pd0+1)⟩) z) z) (k ⟨false,W (s.Pd0+1)⟩)) z) (e 1))
noncomputable def H7(p:Q9)(s:E7):Stp E7:=da3 .next .exit .fail p s
noncomputable def Wa2:Lo Q9 E7:=⟨En Pb2,0,ng8,[1,1,1,1,1,1,1,1,1,1,1,0,1,4,4],[9,10,12,13,14,16,18,19,123,124,125],.p,[⟨ru2 9 (sBq::sLq tP::sUq::sPq 0::sPq 1::sLq tP::sUq::sLq tP::sUq::sBq::sBq::ru2 103 (sLq tV::sIq::sIq::ru2 42 [])),[⟨0,3,true,some [kLq 3]⟩,⟨0,3,true,some [kLq 3]⟩],λa H=>(⟨aBq a 9,aLq tP a 10,aLq tP a 14,aLq tP a 16,aBq a 18,aLq tV a 123,aIq a 124,hIq H 0 0 0,hIq H 0 0 1,hIq H 0 0 2,hIq H 1 0 0,hIq H 1 0 1,hIq H 1 0 2⟩,⟨aBq a 19,aIq a 125⟩)⟩],H7,[(some 0,λp s=>upq (yb0 p s) [(126,b (decide (s.Pd0<p.bf5)))])],yb0⟩
theorem zc1:Wa2.Ok:=Lo.ok [] (by kernel_rfl) .nil rfl (.cons (λa H=>by kernel_rfl) .nil) λp s=>(.of @da3 (λF _ _ _ _ _=>by unfold da3;(repeat' apply j6 (f:=F))<;>rfl) (by kernel_rfl))
noncomputable def xa4(x:List Int)(y:B3)(z:B3)(w:B3):Option (b7×List b8):=let t1:=mb3;let t2:=(k8 (rt tI x));let t3:=(tb6 y);let t4:=(db6 (rt tP t2) t3);let t5:=(Ta4 (rt tP t2) t3);let t6:=(Lb9 (rt tP t2) (⟨W ((W (Int.tmod z.b0 25))-12),W ((W (Int.tmod z.b1 25))-12),W ((W (Int.tmod z.b2 25))-12)⟩:V3));let t9:=(tb4 t3);let t12:=(Ja9 (rt tP (rt tP t5.1)) (⟨W ((W (Int.tmod z.b0 25))-12),W ((W (Int.tmod z.b1 25))-12),W ((W (Int.tmod z.b2 25))-12)⟩:V3));let t13:=(wb2 (rt tP (rt tP t2)));let t14:=(rb9 (rt tP (rt tP t2)) (rt tP (rt tP t4.1)));let a1:=(sb0 (rt tP (rt tP t2)) (rt tP (rt tP t4.1)));let a2:=(wb3 (rt tP (rt tP t2)));let a3:=((cnE tP t2)&&((cnE tP t4.1)&&((cnE tP t5.1)&&((cnE tV t9)&&true))));let a4:=(W ((W (Int.tmod w.b0 7))-3));let a5:=(W ((W (Int.tmod w.b1 7))-3));let a6:=(W ((W (Int.tmod w.b2 7))-3));let t7:=(g9 (⟨W ((W (Int.tmod z.b0 25))-12),W ((W (Int.tmod z.b1 25))-12),W ((W (Int.tmod z.b2 25))-12)⟩:V3) (⟨a4,a5,a6⟩:V3));let t8:=(Lb9 (rt tP t4.1) t7);let t11:=(Ja9 (rt tP (rt tP t2)) t7);let t15:=(lp (H7 (⟨t1,rt tP t2,rt tP t4.1,rt tP t5.1,false,rt tV t9,(↑(List.length t9):Int),W ((W (Int.tmod z.b0 25))-12),W ((W (Int.tmod z.b1 25))-12),W ((W (Int.tmod z.b2 25))-12),a4,a5,a6⟩:Q9)) (⟨true,0⟩:E7));let a0:=(decide ((if (W (0-a6))>a6 then (W (0-a6)) else a6)<=t3.z));let t10:=(lp (H7 (⟨t1,rt tP t2,rt tP t4.1,rt tP t5.1,a0,rt tV t9,(↑(List.length t9):Int),W ((W (Int.tmod z.b0 25))-12),W ((W (Int.tmod z.b1 25))-12),W ((W (Int.tmod z.b2 25))-12),a4,a5,a6⟩:Q9)) (⟨true,0⟩:E7));let w0:Option (b7×List b8):=(sl t1 (sl (okE tP (rt tP t5.1)) (sl (za4 (rt tP (rt tP t5.1)) (⟨W ((W (Int.tmod z.b0 25))-12),W ((W (Int.tmod z.b1 25))-12),W ((W (Int.tmod z.b2 25))-12)⟩:V3)) (sl (t12==t10.2.re2) (sl (okE tP (rt tP t2)) (sl a2 (sl (!t13) (some (b true,[])) (sl (okE tP (rt tP t2)) (sl (okE tP (rt tP t4.1)) (sl a1 (some (b t14,[])) none) none) none)) none) none) (some (b false,[]))) none) none) (some (b false,[])));let w1:Option (b7×List b8):=(sl t1 (sl (okE tP (rt tP t5.1)) (sl (za4 (rt tP (rt tP t5.1)) (⟨W ((W (Int.tmod z.b0 25))-12),W ((W (Int.tmod z.b1 25))-12),W ((W (Int.tmod z.b2 25))-12)⟩:V3)) (sl (t12==t15.2.re2) (sl (okE tP (rt tP t2)) (sl a2 (sl (!t13) (some (b true,[])) (sl (okE tP (rt tP t2)) (sl (okE tP (rt tP t4.1)) (sl a1 (some (b t14,[])) none) none) none)) none) none) (some (b false,[]))) none) none) (some (b false,[])));let w2:Option (b7×List b8):=(sl (Za8 t3) (sl a3 (sl (Nat.beq t10.1 1) (sl t10.2.re2 (sl a0 (sl (okE tP (rt tP t2)) (sl (za4 (rt tP (rt tP t2)) t7) (sl (!t11) (some (b false,[])) w0) none) none) w0) w0) none) none) none);let w3:Option (b7×List b8):=(sl (Za8 t3) (sl a3 (sl (Nat.beq t15.1 1) (sl t15.2.re2 w1 w1) none) none) none);(sl mb4 (sl (okE tI x) (sl (Nc0 (rt tI x)) (sl (okE tP t2) (sl (db7 (rt tP t2) t3) (sl (okE tP t2) (sl (Ta5 (rt tP t2) t3) (sl (!t4.2) (some (b false,[])) (sl (!t5.2) (some (b false,[])) (sl (decide ((if (W (0-a4))>a4 then (W (0-a4)) else a4)<=t3.x)) (sl (decide ((if (W (0-a5))>a5 then (W (0-a5)) else a5)<=t3.y)) (sl a0 (sl (okE tP t2) (sl (Mb0 (rt tP t2) (⟨W ((W (Int.tmod z.b0 25))-12),W ((W (Int.tmod z.b1 25))-12),W ((W (Int.tmod z.b2 25))-12)⟩:V3)) (sl t6 (sl (okE tP t4.1) (sl (Mb0 (rt tP t4.1) t7) (sl (!t8) (some (b false,[])) w2) none) none) w2) none) none) w2) w3) w3))) none) none) none) none) none) none) none)
noncomputable def Ma2(x:List Int)(y:B3)(z:B3)(w:B3):Bool:=E9 (one r1B) (xa4 x y z w)
noncomputable def Ma3(x:List Int)(y:B3)(z:B3)(w:B3):Bool:=okO (one r1B) (xa4 x y z w)
noncomputable def ad3:Sum:=ve4 (ea7 tI) (I8 tW) (I8 tW) (I8 tW) (λx y z w=>.guard (Ma3 x y z w) (.ret ((one r1B).enc (Ma2 x y z w),[])))
theorem Oc7:i5 prog G 14 ad3:=yg9 (bd b14 Ec9) (one r1B) (o:=xa4) λx y z w=>za7 (.s .p (.s .p (.s .p (.s .p (.s .p (.s .p (.s .p (.s .p (.s .p (.s .p (.s .p (.s (.s .p (.b (.u Wa2.ls))) .p)))))))))))) [Wa2.pr] (by kernel_rfl) (.cons zc1 .nil) (by kernel_rfl)
theorem bf2{c:List Pln}(hv:∀p∈c,okp p=true)(hl:c.length<=48){v:V3}(hi:inV v=true):has c v=true↔∀p∈c,dot p.n v<=p.b:=by
 have hz:∀p:Pln,rmZ p (ipt v)=p.b-dot p.n v:=λp=>by simp only[rmZ,ipt,dot];omega
 unfold has;rw[show (chk c==0)=true by rw[beq_iff_eq,Xc1];exact⟨hl,hv⟩,hi,Qmj,Qmj]
 rw[show (⟨v.x,v.y,v.z,1⟩:Pt)=ipt v from rfl,Ze4 (λp hp=>lb6 (hv p hp)) (ig8 hi)]
 constructor
 ·intro h p hp;have:=h p hp;rw[hz] at this;omega
 ·intro h p hp;have:=h p hp;rw[hz];omega
theorem He4 (P : Q9) (c : List Pln) (U : List V3) (v : V3) (h1 : P.Od9 = c) (h2 : P.xd6 = U) (h3 : P.bf5 = (U.length : Int)) (h4 : P.c8 = v.x ∧ P.b9 = v.y ∧ P.c9 = v.z) (hc : c.length ≤ 1000000) (hU : U.length ≤ 1000) :
  ∃s,lp (H7 P) ⟨true,0⟩=(1,s)/\s.re2=U.all λu=>La2 c (g9 v u):=by
 obtain⟨t,s,h,rfl,hs⟩:=P5 (step:=H7 P) (mk:=λj (a:Bool)=>(⟨a,(j:Int)⟩:E7)) U.length (λj a=>j<=U.length/\a=(U.take j).all λu=>La2 c (g9 v u)) (λt s=>t=1/\s.re2=U.all λu=>La2 c (g9 v u)) (by omega)
  (λj a hj hi=>by
   obtain⟨_,hi⟩:=hi;have hT:=He0 tV (c:=λu=>La2 c (g9 v u)) hj
   have hn:=m9 hj (show U.length<=4611686018427387904 by omega)
   rw[<- hi] at hT;simp only[H7,da3,h1,h2,h3,h4.1,h4.2.1,h4.2.2,Int.toNat_natCast,i9,J1,hn];rw[btD (i8 hj),bt (f9 hj),show (⟨v.x,v.y,v.z⟩:V3)=v from rfl,qe5 c _ (by omega),qe6 c _ (by omega)]
   cases a with
   |true=>exact .nx ⟨La2 c (g9 v (gL tV U j)),rfl,by omega,by rw[hT];rfl⟩
   |false=>exact .nx ⟨false,rfl,by omega,by rw[hT];rfl⟩)
  (λj a hj hi=>by
   obtain⟨hje,hi⟩:=hi
   have:j=U.length:=by omega
   subst this;rw[Qmo] at hi;refine⟨1,?_,rfl,hi⟩;simp only[H7,da3,h3];rw[bfD (n5 (Qme _))]) 0 true ⟨Qmi _,by simp⟩
 exact⟨s,h,hs⟩
theorem qe7{n w e:Int}(h:-e<=w/\w<=e):n*w<=(n.natAbs:Int)*e:=by
 rcases Int.natAbs_eq n with h'|h'
 ·have h1:0<=n:=by omega
  have:n*w<=n*e:=Qmh h.2 h1
  have e1:(n.natAbs:Int)=n:=by omega
  rw[e1];exact this
 ·have h1:0<=-n:=by omega
  have:-n*-w<=-n*e:=Qmh (by omega) h1
  have e1:(n.natAbs:Int)=-n:=by omega
  rw[Int.neg_mul_neg] at this;rw[e1];exact this
theorem qe8{n w e:V3}(h:(-e.x<=w.x/\w.x<=e.x)/\(-e.y<=w.y/\w.y<=e.y)/\-e.z<=w.z/\w.z<=e.z):dot n w<=rch n e:=by
 have h1:=qe7 (n:=n.x) h.1;have h2:=qe7 (n:=n.y) h.2.1;have h3:=qe7 (n:=n.z) h.2.2;unfold dot rch;omega
structure E3(e:V3):Prop where
 x1:0<=e.x
 x2:e.x<=3
 y1:0<=e.y
 y2:e.y<=3
 z1:0<=e.z
 z2:e.z<=3
theorem bf3{e:V3}(he:E3 e){u:V3}(hu:u∈ac4 e):(-e.x<=u.x/\u.x<=e.x)/\(-e.y<=u.y/\u.y<=e.y)/\-e.z<=u.z/\u.z<=e.z:=by
 obtain⟨h1,h2,h3,h4,h5,h6⟩:=he;unfold ac4 at hu;obtain⟨k,hk,rfl⟩:=Qmb.1 hu;unfold xb9;rw[E4 (by omega) (by omega),E4 (by omega) (by omega),E4 (by omega) (by omega)]
 refine⟨?_,?_,?_⟩<;>simp only<;>split<;>omega
theorem Gf4{e:V3}(he:E3 e)(n:V3):∃u∈ac4 e,dot n u=rch n e:=by
 obtain⟨h1,h2,h3,h4,h5,h6⟩:=he;have key:∀(s1 s2 s3:Bool),(⟨if s1 then -e.x else e.x,if s2 then -e.y else e.y,if s3 then -e.z else e.z⟩:V3)∈ac4 e:=λs1 s2 s3=>by
  refine Qmb.2 ⟨(if s1 then 1 else 0)+2*(if s2 then 1 else 0)+4*(if s3 then 1 else 0),?_,?_⟩
  ·rw[List.mem_range];cases s1<;>cases s2<;>cases s3<;>decide
  ·unfold xb9;rw[E4 (by omega) (by omega),E4 (by omega) (by omega),E4 (by omega) (by omega)]
   cases s1<;>cases s2<;>cases s3<;>simp
 refine⟨_,key (decide (n.x<0)) (decide (n.y<0)) (decide (n.z<0)),?_⟩;have m:∀a f:Int,a*(if decide (a<0)=true then -f else f)=(a.natAbs:Int)*f:=λa f=>by
  by_cases h:a<0
  ·rw[if_pos (decide_eq_true h),show (a.natAbs:Int)=-a by omega,Int.mul_neg,Int.neg_mul]
  ·rw[if_neg (by simpa using h),show (a.natAbs:Int)=a by omega]
 unfold dot rch
 simp only
 rw[m,m,m]
theorem Od7{a e:Int}(h:-3<=a/\a<=3):decide ((if W (0-a)>a then W (0-a) else a)<=e)=decide (-e<=a/\a<=e):=by
 rw[E4 (by omega) (by omega),decide_eq_decide]
 split<;>omega
structure Lg2(c:List Pln)(e v w:V3):Prop where
 hg:∀u,u=(if (decide (-e.x<=w.x/\w.x<=e.x)&&(decide (-e.y<=w.y/\w.y<=e.y)&&decide (-e.z<=w.z/\w.z<=e.z))) then true else false)->u=true->has c v=true->has (c.map (pq e 1)) (g9 v w)=true
 hb:((ac4 e).all λu=>La2 c (g9 v u))=true->decide (-e.x<=w.x/\w.x<=e.x)=true->decide (-e.y<=w.y/\w.y<=e.y)=true->decide (-e.z<=w.z/\w.z<=e.z)=true->La2 c (g9 v w)=true
 hs:La2 (c.map (pq e (-1))) v=(ac4 e).all λu=>La2 c (g9 v u)
theorem lg1(x:List Int){e v w:V3}(he:E3 e)(hv:Sm4 v 12)(hw:Sm4 w 3):Lg2 (k8 x) e v w:=by
 have hG:=Ub8 x;have hM:=qe3 x;have h12:B12 e:=⟨he.x1,by have:=he.x2;omega,he.y1,by have:=he.y2;omega,he.z1,by have:=he.z2;omega⟩
 have okq':∀{s:Int},(s=1\/s=-1)->∀p∈(k8 x).map (pq e s),okp p=true:=λ{s} hs p hp=>by
  obtain⟨q,hq,rfl⟩:=Qmb.1 hp;have hr:=kd8 (hG.v q hq) h12;obtain⟨b1,b2⟩:=hM q hq;show okp ⟨q.n,q.b+s*rch q.n e⟩=true;rw[ag7 (hG.v q hq),Ta6]
  rcases hs with rfl|rfl<;>exact⟨by omega,by omega⟩
 have sm:∀{a:V3} {n:Int},Sm4 a n->n<=1000->Sm 1000 a.x/\Sm 1000 a.y/\Sm 1000 a.z:=λh hn=>⟨h.x.mono hn,h.y.mono hn,h.z.mono hn⟩
 have addw:∀{u:V3},Sm4 u 3->g9 v u=mc4 v u/\(Sm 1000 (mc4 v u).x/\Sm 1000 (mc4 v u).y/\Sm 1000 (mc4 v u).z)/\inV (mc4 v u)=true:=λ{u} hu=>by
  refine⟨Se3 (sm hv (by omega)) (sm hu (by omega)),?_⟩
  obtain⟨⟨a1,a2⟩,⟨a3,a4⟩,a5,a6⟩:=hv;obtain⟨⟨c1,c2⟩,⟨c3,c4⟩,c5,c6⟩:=hu;refine⟨⟨⟨?_,?_⟩,⟨?_,?_⟩,?_,?_⟩,(cb0 _).2 ⟨⟨?_,?_⟩,⟨?_,?_⟩,?_,?_⟩⟩<;>simp only[mc4]<;>omega
 have cor3:∀{u:V3},u∈ac4 e->Sm4 u 3:=λ{u} hu=>by
  obtain⟨⟨m1,m2⟩,⟨m3,m4⟩,m5,m6⟩:=bf3 he hu;obtain⟨q1,q2,q3,q4,q5,q6⟩:=he;exact⟨⟨by omega,by omega⟩,⟨by omega,by omega⟩,⟨by omega,by omega⟩⟩
 have all_iff:((ac4 e).all λu=>La2 (k8 x) (g9 v u))=true↔∀p∈k8 x,dot p.n v+rch p.n e<=p.b:=by
  rw[Qma];constructor
  ·intro h p hp;obtain⟨u,hu,hr⟩:=Gf4 he p.n;obtain⟨k1,k2,k3⟩:=addw (cor3 hu)
   have:=h u hu
   rw[k1,Cc5 hG.v k2] at this
   have:=this p hp
   rw[mc5,hr] at this;exact this
  ·intro h u hu;obtain⟨k1,k2,k3⟩:=addw (cor3 hu);rw[k1,Cc5 hG.v k2];intro p hp;have h1:=h p hp;have h2:=qe8 (n:=p.n) (bf3 he hu);rw[mc5];omega
 obtain⟨w1,w2,w3⟩:=addw hw;have hvI:inV v=true:=(cb0 _).2 ⟨hv.x.mono (by omega),hv.y.mono (by omega),hv.z.mono (by omega)⟩
 refine⟨λu hu ht hh=>?_,λha n1 n2 n3=>?_,?_⟩
 ·subst hu;have hn:(-e.x<=w.x/\w.x<=e.x)/\(-e.y<=w.y/\w.y<=e.y)/\-e.z<=w.z/\w.z<=e.z:=by
   split at ht
   ·rename_i h;simp only[Qmp,decide_eq_true_eq] at h;exact h
   ·cases ht
  rw[w1,bf2 (okq' (.inl rfl)) (by rw[Qmg];have:=hG.l;omega) w3]
  rw[bf2 hG.v (by have:=hG.l;omega) hvI] at hh
  intro p hp;obtain⟨q,hq,rfl⟩:=Qmb.1 hp;have h1:=hh q hq;have h2:=qe8 (n:=q.n) hn;show dot q.n (mc4 v w)<=q.b+1*rch q.n e;rw[mc5];omega
 ·rw[w1,Cc5 hG.v w2];intro p hp;have h1:=all_iff.1 ha p hp;have h2:=qe8 (n:=p.n) ⟨of_decide_eq_true n1,of_decide_eq_true n2,of_decide_eq_true n3⟩;rw[mc5];omega
 ·rw[Bool.eq_iff_iff,all_iff,Cc5 (okq' (.inr rfl)) (sm hv (by omega))]
  constructor
  ·intro h p hp
   have:dot p.n v<=p.b+-1*rch p.n e:=h _ (Qmb.2 ⟨p,hp,rfl⟩)
   omega
  ·intro h p hp;obtain⟨q,hq,rfl⟩:=Qmb.1 hp
   have:=h q hq
   show dot q.n v<=q.b+-1*rch q.n e;omega
theorem Se6(x:List Int){e:V3}(he:E3 e):hf0 (k8 x) ((k8 x).map (pq e 1))=true:=by
 have hG:=Ub8 x;have hM:=qe3 x;have h12:B12 e:=⟨he.x1,by have:=he.x2;omega,he.y1,by have:=he.y2;omega,he.z1,by have:=he.z2;omega⟩
 have hok:∀p∈(k8 x).map (pq e 1),okp p=true:=λp hp=>by
  obtain⟨q,hq,rfl⟩:=Qmb.1 hp;have hr:=kd8 (hG.v q hq) h12;obtain⟨b1,b2⟩:=hM q hq;show okp ⟨q.n,q.b+1*rch q.n e⟩=true;rw[ag7 (hG.v q hq),Ta6];exact⟨by omega,by omega⟩
 unfold hf0;rw[hG.ful,show (chk ((k8 x).map (pq e 1))==0)=true by rw[beq_iff_eq,Xc1];exact⟨by rw[Qmg];have:=hG.l;omega,hok⟩,Qmj,Qmj,Qma]
 intro y hy;have hx:=Of0 y hy;rw[Ze4 (λp hp=>lb6 (hok p hp)) hx]
 rw[hG.pts] at hy;have hcn:=yf4 hG.bds y hy;intro p hp;obtain⟨q,hq,rfl⟩:=Qmb.1 hp;have h1:=hcn.h q (List.mem_append_left _ hq);have h2:0<=rch q.n e*y.pw:=Int.mul_nonneg (kd8 (hG.v q hq) h12).1 (by have:=hx.w1;omega)
 have h3:rmZ (pq e 1 q) y=rmZ q y+rch q.n e*y.pw:=by simp only[rmZ,pq];grind
 omega
theorem Od8(x:List Int)(y z w:B3)(hy:0<=y.b0/\0<=y.b1/\0<=y.b2)(hz:0<=z.b0/\0<=z.b1/\0<=z.b2)(hw:0<=w.b0/\0<=w.b1/\0<=w.b2):xa4 x y z w=some (b true,[]):=by
 have sm4:∀{n:Int},0<=n->∃v,W (Int.tmod n 4)=v/\0<=v/\v<=3:=λ{n} hn=>by
  have h1:=Qmr 4 hn;have h2:=Qml n (show (0:Int)<4 by omega)
  exact⟨Int.tmod n 4,E4 (by omega) (by omega),by omega,by omega⟩
 obtain⟨e0,f0,p0,q0⟩:=sm4 hy.1;obtain⟨e1,f1,p1,q1⟩:=sm4 hy.2.1;obtain⟨e2,f2,p2,q2⟩:=sm4 hy.2.2;obtain⟨v0,g0,l0,u0⟩:=Cc4 hz.1 25 12 (by omega) (by omega) (by omega)
 obtain⟨v1,g1,l1,u1⟩:=Cc4 hz.2.1 25 12 (by omega) (by omega) (by omega)
 obtain⟨v2,g2,l2,u2⟩:=Cc4 hz.2.2 25 12 (by omega) (by omega) (by omega)
 obtain⟨w0,k0,m0,n0⟩:=Cc4 hw.1 7 3 (by omega) (by omega) (by omega)
 obtain⟨w1,k1,m1,n1⟩:=Cc4 hw.2.1 7 3 (by omega) (by omega) (by omega)
 obtain⟨w2,k2,m2,n2⟩:=Cc4 hw.2.2 7 3 (by omega) (by omega) (by omega)
 have he:E3 ⟨e0,e1,e2⟩:=⟨p0,q0,p1,q1,p2,q2⟩;have hv:Sm4 ⟨v0,v1,v2⟩ 12:=⟨⟨by simp only;omega,by simp only;omega⟩,⟨by simp only;omega,by simp only;omega⟩,⟨by simp only;omega,by simp only;omega⟩⟩
 have hwS:Sm4 ⟨w0,w1,w2⟩ 3:=⟨⟨by simp only;omega,by simp only;omega⟩,⟨by simp only;omega,by simp only;omega⟩,⟨by simp only;omega,by simp only;omega⟩⟩
 have hF:=lg1 x he hv hwS;have hlies:=Se6 x he;have hG:=Ub8 x;have hc:(k8 x).length<=1000000:=by have:=hG.l;omega
 have h12:B12 ⟨e0,e1,e2⟩:=⟨p0,by simp only;omega,p1,by simp only;omega,p2,by simp only;omega⟩
 have hg1:=pe9 (k8 x) ⟨e0,e1,e2⟩ hc;have hg2:=qe0 (k8 x) ⟨e0,e1,e2⟩ hc;have hs1:=Od4 (k8 x) ⟨e0,e1,e2⟩ hc;have hs2:=Od5 (k8 x) ⟨e0,e1,e2⟩ hc;rw[ee2 x h12 (.inl rfl)] at hg1;rw[ee2 x h12 (.inr rfl)] at hs1;have hsml:tb6 y=⟨e0,e1,e2⟩:=by unfold tb6;rw[f0,f1,f2]
 have hl1:((k8 x).map (pq ⟨e0,e1,e2⟩ 1)).length<=1000000:=by rw[Qmg];exact hc
 have hl2:((k8 x).map (pq ⟨e0,e1,e2⟩ (-1))).length<=1000000:=by rw[Qmg];exact hc
 have hful:=hG.ful;have hloop:∀t:Bool,∃s,lp (H7 ⟨true,k8 x,(k8 x).map (pq ⟨e0,e1,e2⟩ 1),(k8 x).map (pq ⟨e0,e1,e2⟩ (-1)),t,ac4 ⟨e0,e1,e2⟩,((ac4 ⟨e0,e1,e2⟩).length:Int),v0,v1,v2,w0,w1,w2⟩) ⟨true,0⟩=(1,s)/\s.re2=(ac4 ⟨e0,e1,e2⟩).all λu=>La2 (k8 x) (g9 ⟨v0,v1,v2⟩ u):=λt =>
  He4 _ (k8 x) (ac4 ⟨e0,e1,e2⟩) ⟨v0,v1,v2⟩ rfl rfl rfl ⟨rfl,rfl,rfl⟩ hc (by simp[ac4])
 obtain⟨s0,r0,t0⟩:=hloop false;obtain⟨s1,r1,t1⟩:=hloop true;obtain⟨hgx,hbx,hsx⟩:=hF;unfold xa4;simp only[i9,J1,i6,Se5,Se4,hg8,hsml,hg1,hg2,hs1,hs2,g0,g1,g2,k0,k1,k2,Gf2,Gf3,Od7 (show -3<=w0/\w0<=3 by omega),Od7 (show -3<=w1/\w1<=3 by omega),Od7 (show -3<=w2/\w2<=3 by omega)]
 simp only[Zf5 (show (k8 x).length<=1000000000 by omega),Zf6 (show (k8 x).length<=1000000000 by omega),Zf5 (show ((k8 x).map (pq ⟨e0,e1,e2⟩ 1)).length<=1000000000 by omega),Zf6 (show ((k8 x).map (pq ⟨e0,e1,e2⟩ 1)).length<=1000000000 by omega),vf5 (show (k8 x).length<=1000000000 by omega),vf6 (show (k8 x).length<=1000000000 by omega),xf0 (show (k8 x).length<=1000000000 by omega) (show ((k8 x).map (pq ⟨e0,e1,e2⟩ 1)).length<=1000000000 by omega),xf1 (show (k8 x).length<=1000000000 by omega) (show ((k8 x).map (pq ⟨e0,e1,e2⟩ 1)).length<=1000000000 by omega),qe5 (k8 x) _ (by omega),qe6 (k8 x) _ (by omega),qe5 ((k8 x).map (pq ⟨e0,e1,e2⟩ (-1))) _ (by omega),qe6 ((k8 x).map (pq ⟨e0,e1,e2⟩ (-1))) _ (by omega),hful,hlies,hsx]
 generalize decide (-e0<=w0/\w0<=e0)=nx at *
 generalize decide (-e1<=w1/\w1<=e1)=ny at *
 generalize decide (-e2<=w2/\w2<=e2)=nz at *
 generalize ((ac4 ⟨e0,e1,e2⟩).all λu=>La2 (k8 x) (g9 ⟨v0,v1,v2⟩ u))=al at *
 generalize La2 (k8 x) (g9 ⟨v0,v1,v2⟩ ⟨w0,w1,w2⟩)=bw at *
 generalize has (k8 x) ⟨v0,v1,v2⟩=hh at *
 generalize has ((k8 x).map (pq ⟨e0,e1,e2⟩ 1)) (g9 ⟨v0,v1,v2⟩ ⟨w0,w1,w2⟩)=hg at *
 have hgx':=hgx _ rfl;cases nz
 ·simp only[r0,t0];cases nx<;>cases ny<;>cases al<;>rfl
 ·simp only[r0,r1,t0,t1];cases nx<;>cases ny<;>cases al<;>cases hh<;>simp_all [l9,Wa6]
theorem Gf5(x:List Int)(y z w:B3)(hy:0<=y.b0/\0<=y.b1/\0<=y.b2)(hz:0<=z.b0/\0<=z.b1/\0<=z.b2)(hw:0<=w.b0/\0<=w.b1/\0<=w.b2):Ma2 x y z w=true:=by unfold Ma2;rw[Od8 x y z w hy hz hw];rfl
theorem Gf6(x:List Int)(y z w:B3)(hy:0<=y.b0/\0<=y.b1/\0<=y.b2)(hz:0<=z.b0/\0<=z.b1/\0<=z.b2)(hw:0<=w.b0/\0<=w.b1/\0<=w.b2):Ma3 x y z w=true:=by unfold Ma3;rw[Od8 x y z w hy hz hw];rfl
end Go.Ev.Ce
namespace Go.Ev.Ce
open Go Go.Ev Go.Ev.L Go.ChangeShapes Go.RowKit
theorem kd9(g:Nat->Int)(h:∀c,c<3->0<=g c/\g c<=255):∃a,Rdg (I8 tW) (.agg (Ca3 .u8 3 g)) a/\0<=a.b0/\0<=a.b1/\0<=a.b2 :=
 ⟨⟨g 0,g 1,g 2⟩,⟨rfl,rfl⟩,(h 0 (by omega)).1,(h 1 (by omega)).1,(h 2 (by omega)).1⟩
theorem qe9 {D : Type} {enc : TypeId × Value → D} {P : Program} {w : World} {base : Nat} {spare : Nat → Bool} {held : Bool} {ρ : Rho} {H : List b8} {F : Fz} {t e : TypeId} {d : Nat} {v : Value} {dd : DataW D} {pp : List MemPlace} {bs : Nat} {r : Reach}
  (ht:P.underlying t=some (.array 3 e)) (he:P.underlying e=some (.int .u8)) (hts:P.cellTypes P.depth t=some [e,e,e]) (hf:fa9 P d t=some (Na0 .u8 3)) (hes:P.cellsOf t=3)
  (hok:Value.okWide P w r bs t v) (h:DataW.Trod enc P w base spare held t v dd pp):∃g:Nat->Int,(∀c,c<3->0<=g c/\g c<=255)/\ma1 ρ H F w (.agg (Ca3 .u8 3 g)) v:=by
 obtain⟨g,hv⟩:=Sf9 (ρ:=ρ) (H:=H) (F:=F) (by simp[agT,ht]) hf hes hok h
 refine⟨g,λc hc=>?_,hv⟩
 obtain⟨vs,e0,hl,hr⟩:=La6 (.val hv);subst e0;have hlen:vs.size=3:=by rw[<- hl];simp[Ca3]
 have hc':c<vs.size:=by omega
 have hg:(Ca3 .u8 3 g)[c]?=some (.v (.int .u8 (g c))):=by
  unfold Ca3;rw[List.getElem?_map,List.getElem?_range hc];rfl
 have hx:=ia0 (.val (.cell (hr c _ _ hg (Qmn hc'))));unfold Value.okWide at hok;rw[ht] at hok;obtain⟨cs,e1,hsz,ts,h1,h2,h3⟩:=hok;injection e1 with e1;subst e1;rw[hts] at h1;injection h1 with h1;subst h1;obtain⟨u,hu,hcell⟩:=h3 c _ (Qmn hc');rw[hx] at hcell;have hue:u=e:=by
  have:c=0\/c=1\/c=2:=by omega
  rcases this with rfl|rfl|rfl<;>simpa using hu.symm
 subst hue;simp only[Cell.okWide,Cell.ok,he] at hcell
 have:=hcell.2
 simp only[IntKind.has,IntKind.min,IntKind.max,IntKind.bits,IntKind.signed] at this
 simp at this
 omega
end Go.Ev.Ce
