/- Own work. -/
import Derived.Test.YtgphembaimondaaGreatDoorEvOjE1
set_option linter.all false
noncomputable section
def Qia:=@List.length_take
def Qib:=@List.any_eq_true
def Qic:=@Int.mul_eq_zero
def Qid:=@List.pairwise_cons
def Qie:=@List.drop_zero
def Qif:=@Int.mul_nonneg
def Qig:=@Bool.and_true
def Qih:=@Bool.and_self
def Qii:=@Int.le_of_lt
def Qij:=@List.filter_cons
def Qik:=@List.take_succ_eq_append_getElem
def Qil:=@Int.mul_le_mul_of_nonneg_right
def Qim:=@List.filter_append
def Qin:=@List.take_append_of_le_length
def Qio:=@Int.zero_mul
def Qip:=@Nat.gcd_dvd_left
def Qiq:=@Bool.not_eq_true
def Qir:=@List.findIdx_getElem
def Qis:=@Nat.gcd_dvd_right
def Qit:=@List.findIdx_lt_length_of_exists
def Qiu:=@List.length_filter_le
def Qiv:=@Int.mul_tdiv_cancel'
def Qiw:=@Int.nonneg_of_mul_nonneg_right
def Qix:=@List.length_set
def Qiy:=@Int.mul_le_mul_of_nonneg_left
def Qiz:=@Nat.lt_or_gt_of_ne
def Qiaa:=@Nat.dvd_trans
def Qiab:=@Nat.gcd_zero_left
def Qiac:=@Int.eq_of_mul_eq_mul_left
def Qiad:=@Nat.ble_eq
def Qiae:=@List.not_mem_nil
def Qiaf:=@List.not_all_eq_any_not
def Qiag:=@List.pairwise_mergeSort
def Qiah:=@List.pairwise_singleton
def Qiai:=@List.drop_eq_nil_of_le
def Qiaj:=@List.getElem_set_self
def Qiak:=@List.take_take
namespace Go.Ev.Ce
open Go Go.Ev Go.Ev.L Go.Proofs
def inn(l:PLq)(x:Pt):Bool:=l.all λp=>!decide (rm p x<0)
def eqX(x q:Pt):Bool:=q.px==x.px&&(q.py==x.py&&(q.pz==x.pz&&(q.pw==x.pw&&true)))
def oe0(l:List Pt)(x:Pt):Bool:=l.any (eqX x)
def smb(n x:Int):Bool:=!decide (x < -n)&&!decide (x>n)
theorem Oa1(n x:Int):smb n x=true↔Sm n x:=by unfold smb Sm;simp only[Qbd,Qdb,decide_eq_false_iff_not];omega
theorem Nb9(n:Int)(l:List Int)(hn:0<=n/\n<=1000000000)(hl:l.length<=1000000000):Z5 n l=some (b (l.all (smb n)),[]):=by
 have hW:W (0-n)=-n:=by rw[aa8 (by omega) (by omega)];omega
 have h:=Id3 (step:=P7 ⟨n,l,(l.length:Int)⟩) (mk:=λj=>(⟨(j:Int)⟩:A0)) (c:=λx=>!smb n x) (u:=1) (fin:=2) tI l hl
  (λj hj=>by
   simp only[P7,U4,Int.toNat_natCast,K7 hj (by omega),hW]
   rw[bt (Nb1 hj),bt (o2 hj)];unfold smb;cases decide (gL tI l j < -n)<;>cases decide (gL tI l j>n)<;>rfl)
  (by simp only[P7,U4];rw[bf (mb9 (Qeb _))]) 0 (Qec _)
 rw[Qie] at h;unfold Z5;simp only[r7,p9];rw[show (⟨0⟩:A0)=⟨((0:Nat):Int)⟩ from rfl,h]
 have e:(l.any λx=>!smb n x)=!l.all (smb n):=by rw[Qiaf]
 rw[e];cases l.all (smb n)<;>rfl
theorem vb5(n:Int)(l:List Int)(hn:0<=n/\n<=1000000000)(hl:l.length<=1000000000):R7 n l=l.all (smb n):=by unfold R7;rw[Nb9 n l hn hl];rfl
theorem vb6(n:Int)(l:List Int)(hn:0<=n/\n<=1000000000)(hl:l.length<=1000000000):R8 n l=true:=by unfold R8;rw[Nb9 n l hn hl];rfl
theorem oc6{n:Int}(h:Sm 1000000000000000000 n):ca3 n=(n.natAbs:Int):=by
 unfold ca3;obtain⟨h1,h2⟩:=h;rw[aa8 (by omega) (by omega)]
 split<;>omega
theorem ob1{n:Int}(h:Sm 1000000000000000000 n):la0 n=some (i (n.natAbs:Int),[]):=by
 unfold la0;obtain⟨h1,h2⟩:=h;rw[aa8 (by omega) (by omega)]
 by_cases h:n<0
 ·rw[bt (decide_eq_true h)];congr 3;omega
 ·rw[bf (decide_eq_false h)];congr 3;omega
theorem Wa4{n:Int}(h:Sm 1000000000000000000 n):Z3 n=(n.natAbs:Int):=by unfold Z3;rw[ob1 h];rfl
theorem Wa5{n:Int}(h:Sm 1000000000000000000 n):Z4 n=true:=by unfold Z4;rw[ob1 h];rfl
def g3(v:V3):Int:=(Nat.gcd (Nat.gcd v.x.natAbs v.y.natAbs) v.z.natAbs:Nat)
theorem Zc5(g n:Nat):eu (g:Int) (n:Int)=(Nat.gcd g n:Nat):=by rw[Id6 (by omega) (by omega)];rfl
theorem Rb1(P:I0)(g n:Nat)(hn:n<=1000000000000000000):lp (G4 P) ⟨(g:Int),(n:Int)⟩=(1,⟨(Nat.gcd g n:Nat),0⟩):=by
 have:=yb3 (step:=G4 P) (mk:=λg n=>(⟨g,n⟩:B4)) (λg n h=>by
  have h0:n≠0:=by omega
  simp[G4,Q6,fb9,h,h0]) (λg=>by simp[G4,Q6,fb9]) (g:Int) (n:Int) (by omega) (by omega) (by omega)
 rw[this,Zc5]
theorem Ob0(l:List Int)(hl:l.length<=1000000000)(hb:∀x∈l,Sm 1000000000000000000 x):V4 l=some (i (l.foldl (λg x=>Nat.gcd g x.natAbs) 0:Nat),[]):=by
 have h := od8 (step := M5 ⟨(l.length : Int)⟩) (mk := fun j (a : Nat) => (⟨(a : Int), l, (j : Int)⟩ : r9)) (f := fun g x => Nat.gcd g x.natAbs) (fin := 2) tI l (fun _ _ => True) hl (fun j a hj _ => ⟨by
   have hm:=hb _ (dc9 tI hj);have hne:(gL tI l j==(-9223372036854775808:Int))=false:=by
    have:=hm.1
    rw[beq_eq_false_iff_ne];omega
   have hs:(gL tI l j).natAbs<=1000000000000000000:=by obtain⟨h1,h2⟩:=hm;omega
   simp only[M5,Q7,Int.toNat_natCast,r7,p9,oc6 hm,Rb1 _ _ _ hs,K7 hj (by omega)]
   rw[bt (Nb1 hj),bt (o2 hj),bf hne]
   rfl,trivial⟩) (λa _=>by simp only[M5,Q7];rw[bf (mb9 (Qeb _))]) 0 (Qec _) 0 trivial
 have h:=h.1;rw[Qie] at h;unfold V4;simp only[r7,p9];rw[show (⟨0,l,0⟩:r9)=⟨((0:Nat):Int),l,((0:Nat):Int)⟩ from rfl,h]
 rfl
def okp(p:Pln):Bool:=[p.n.x,p.n.y,p.n.z].all (smb 4608)&&(g3 p.n==1&&[p.b].all (smb 2097152))
theorem Jd3(p:Pln):Bd p↔[p.n.x,p.n.y,p.n.z].all (smb 4608)=true/\[p.b].all (smb 2097152)=true:=by
 simp only[List.all_cons,List.all_nil,Qig,Qbd,Oa1,Sm];exact⟨λh=>⟨⟨⟨h.x1,h.x2⟩,⟨h.y1,h.y2⟩,h.z1,h.z2⟩,h.b1,h.b2⟩,λ⟨⟨⟨a,b⟩,⟨c,d⟩,e,f⟩,g,h⟩=>⟨a,b,c,d,e,f,g,h⟩⟩
theorem xc7{p:Pln}(h:okp p=true):Bd p:=by
 unfold okp at h;rw[Qbd,Qbd] at h;exact (Jd3 p).2 ⟨h.1,h.2.2⟩
theorem sm3{v:V3}(h:[v.x,v.y,v.z].all (smb 4608)=true):Sm 4608 v.x/\Sm 4608 v.y/\Sm 4608 v.z:=by
 simpa only[List.all_cons,List.all_nil,Qig,Qbd,Oa1] using h
theorem oc7(p:Pln):ea2 p=some (b (okp p),[]):=by
 unfold ea2 okp;have l3:[p.n.x,p.n.y,p.n.z].length<=1000000000:=by simp
 have l1:[p.b].length<=1000000000:=by simp
 simp only[vb5 4608 _ (by omega) l3,vb6 4608 _ (by omega) l3,vb5 2097152 _ (by omega) l1,vb6 2097152 _ (by omega) l1]
 cases hw:[p.n.x,p.n.y,p.n.z].all (smb 4608) with
 |false=>rfl
 |true =>
  obtain⟨h1,h2,h3⟩:=sm3 hw;have hd:=Ob0 [p.n.x,p.n.y,p.n.z] l3 (by
   intro x hx;simp only[Qbp,Qiae,or_false] at hx
   rcases hx with rfl|rfl|rfl
   ·exact h1.mono (by omega)
   ·exact h2.mono (by omega)
   ·exact h3.mono (by omega))
  have hg:([p.n.x,p.n.y,p.n.z].foldl (λg x=>Nat.gcd g x.natAbs) 0:Nat)=Nat.gcd (Nat.gcd p.n.x.natAbs p.n.y.natAbs) p.n.z.natAbs:=by
   simp only[List.foldl_cons,List.foldl_nil,Qiab]
  have hp:J4 [p.n.x,p.n.y,p.n.z]=g3 p.n:=by unfold J4;rw[hd,hg];rfl
  have hgd:J5 [p.n.x,p.n.y,p.n.z]=true:=by unfold J5;rw[hd];rfl
  rw[hp,hgd];cases g3 p.n==1<;>rfl
theorem pd3(p:Pln):pa2 p=okp p:=by unfold pa2;rw[oc7 p];rfl
theorem pd4(p:Pln):pa3 p=true:=by unfold pa3;rw[oc7 p];rfl
theorem vb7(P:ca2)(g n:Nat)(hn:n<=1000000000000000000):lp (Q3 P) ⟨(g:Int),(n:Int)⟩=(1,⟨(Nat.gcd g n:Nat),0⟩):=by
 have:=yb3 (step:=Q3 P) (mk:=λg n=>(⟨g,n⟩:K6)) (λg n h=>by
  have h0:n≠0:=by omega
  simp[Q3,ya8,fb9,h,h0]) (λg=>by simp[Q3,ya8,fb9]) (g:Int) (n:Int) (by omega) (by omega) (by omega)
 rw[this,Zc5]
theorem ec1{v:V3}(h1:Sm 1000000000000000000 v.x)(h2:Sm 1000000000000000000 v.y)(h3:Sm 1000000000000000000 v.z) :
  Na2 v=if g3 v=0 then some (.tup [.agg (tV.row ⟨0,0,0⟩),i 0],[]) else some (.tup [.agg (tV.row ⟨W (Int.tdiv v.x (g3 v)),W (Int.tdiv v.y (g3 v)),W (Int.tdiv v.z (g3 v))⟩),i (g3 v)],[]):=by
 have ne:∀{x:Int},Sm 1000000000000000000 x->(x==(-9223372036854775808:Int))=false:=λ{x} h=>by
  have:=h.1
  rw[beq_eq_false_iff_ne];omega
 have bd:∀{x:Int},Sm 1000000000000000000 x->x.natAbs<=1000000000000000000:=λ{x} h=>by obtain⟨h1,h2⟩:=h;omega
 have l1:=vb7 ⟨0,v.x,v.y,v.z,v.x,v.y,v.z⟩ 0 v.x.natAbs (bd h1);rw[Qiab] at l1;have l2:=vb7 ⟨1,v.x,v.y,v.z,v.x,v.y,v.z⟩ v.x.natAbs v.y.natAbs (bd h2);have l3:=vb7 ⟨2,v.x,v.y,v.z,v.x,v.y,v.z⟩ (Nat.gcd v.x.natAbs v.y.natAbs) v.z.natAbs (bd h3);unfold Na2;simp only[Wa4 h1,Wa4 h2,Wa4 h3,Wa5 h1,Wa5 h2,Wa5 h3];rw[show (⟨0,(v.x.natAbs:Int)⟩:K6)=⟨((0:Nat):Int),(v.x.natAbs:Int)⟩ from rfl]
 simp only[l1,l2,l3,ne h1,ne h2,ne h3];rw[show ((Nat.gcd (Nat.gcd v.x.natAbs v.y.natAbs) v.z.natAbs:Nat):Int)=g3 v from rfl]
 by_cases h:g3 v=0
 ·rw[if_pos h,show (g3 v==0)=true from by rw[h];rfl];rfl
 ·rw[if_neg h,show (g3 v==0)=false from by rw[beq_eq_false_iff_ne];exact h];rfl
theorem Ob1{v:V3}(h1:Sm 1000000000000000000 v.x)(h2:Sm 1000000000000000000 v.y)(h3:Sm 1000000000000000000 v.z):(na8 v).2=g3 v:=by
 unfold na8;rw[ec1 h1 h2 h3];split
 ·rename_i h;rw[h];rfl
 ·rfl
theorem Jd4{v:V3}(h1:Sm 1000000000000000000 v.x)(h2:Sm 1000000000000000000 v.y)(h3:Sm 1000000000000000000 v.z)(h:g3 v≠0):na8 v=(⟨W (Int.tdiv v.x (g3 v)),W (Int.tdiv v.y (g3 v)),W (Int.tdiv v.z (g3 v))⟩,g3 v):=by
 unfold na8;rw[ec1 h1 h2 h3,if_neg h];rfl
theorem Zc6{v:V3}(h1:Sm 1000000000000000000 v.x)(h2:Sm 1000000000000000000 v.y)(h3:Sm 1000000000000000000 v.z):Na3 v=true:=by
 unfold Na3;rw[ec1 h1 h2 h3]
 split<;>rfl
theorem Mc6(p:Pln):Da4 p=some (b (okp p),[]):=by
 unfold Da4 okp;cases hw:[p.n.x,p.n.y,p.n.z].all (smb 4608) with
 |false =>
  simp only[List.all_cons,List.all_nil,Qig,smb] at hw;cases h1:decide (p.n.x < -4608)<;>cases h2:decide (p.n.x>4608)<;>cases h3:decide (p.n.y < -4608)<;>cases h4:decide (p.n.y>4608)<;>cases h5:decide (p.n.z < -4608)<;>cases h6:decide (p.n.z>4608)<;>simp only[h1,h2,h3,h4,h5,h6] at hw ⊢<;>first | rfl | cases hw
 |true =>
  obtain⟨h1,h2,h3⟩:=sm3 hw;rw[bf (decide_eq_false (by have:=h1.1;omega)),bf (decide_eq_false (by have:=h1.2;omega)),bf (decide_eq_false (by have:=h2.1;omega)),bf (decide_eq_false (by have:=h2.2;omega)),bf (decide_eq_false (by have:=h3.1;omega)),bf (decide_eq_false (by have:=h3.2;omega))]
  have k1:=h1.mono (m:=1000000000000000000) (by omega)
  have k2:=h2.mono (m:=1000000000000000000) (by omega)
  have k3:=h3.mono (m:=1000000000000000000) (by omega)
  rw[bt (Zc6 k1 k2 k3),Ob1 k1 k2 k3];cases g3 p.n==1 with
  |false=>rfl
  |true =>
   simp only[List.all_cons,List.all_nil,Qig,smb,Bool.true_and];rw[D9];by_cases ha:p.b < -2097152
   ·rw[bf (decide_eq_false (by omega)),show decide (p.b < -2097152)=true from decide_eq_true ha];rfl
   ·rw[bt (decide_eq_true (by omega)),show decide (p.b < -2097152)=false from decide_eq_false ha]
    congr 3;by_cases hc:p.b<=2097152
    ·rw[decide_eq_true hc,decide_eq_false (by omega)];rfl
    ·rw[decide_eq_false hc,decide_eq_true (by omega)];rfl
theorem Zc7(p:Pln):Ua7 p=true:=by unfold Ua7;rw[Mc6 p];rfl
def chk(l:PLq):Int:=if (l.length:Int)>48 then 2 else if l.all okp then 0 else 12
theorem Zc8{l:PLq}:chk l=0↔l.length<=48/\∀p∈l,okp p=true:=by
 unfold chk;by_cases hn:(l.length:Int)>48
 ·rw[if_pos hn];exact⟨λh=>absurd h (by decide),λh=>by omega⟩
 ·rw[if_neg hn];cases h:l.all okp with
  |true=>exact⟨λ_=>⟨by omega,Qcf.1 h⟩,λ_=>rfl⟩
  |false=>exact⟨λh=>absurd h (by decide),λh'=>by rw[Qcf.2 h'.2] at h;cases h⟩
theorem btD{p:Prop}{inst:Decidable p}(h:p){α:Type}(t e:α):sl (@decide p inst) t e=t:=bt (decide_eq_true h) t e
theorem bfD{p:Prop}{inst:Decidable p}(h:¬ p){α:Type}(t e:α):sl (@decide p inst) t e=e:=bf (decide_eq_false h) t e
theorem F8{j n:Nat}(h:j<n):(j:Int)<(n:Int):=Int.ofNat_lt.2 h
theorem N7{j n:Nat}(h:¬ j<n):¬ (j:Int)<(n:Int):=λh'=>h (Int.ofNat_lt.1 h')
def be1(r:PLq)(p q:Pln)(out:List Pt)(s:Pln):List Pt :=
 if (mpt p q s).2&&(!oe0 out (mpt p q s).1&&inn r (mpt p q s).1) then out++[(mpt p q s).1] else out
def oe1(r:PLq)(p q:Pln)(l:PLq)(out:List Pt):List Pt:=l.foldl (be1 r p q) out
def be2(r:PLq)(p:Pln):PLq->List Pt->List Pt
 |[],out=>out
 |q::l,out=>be2 r p l (oe1 r p q l out)
def be3(r:PLq):PLq->List Pt->List Pt
 |[],out=>out
 |p::l,out=>be3 r l (be2 r p l out)
def cor(r:PLq):List Pt:=be3 r r []
def ph(out:List Pt):Nat:=match out with
 |[]=>0
 |_::_=>1
theorem Ec3{α:Type}(t:Ty α)(l:List α)(n k:Nat):gL t (l.drop n) k=gL t l (n+k):=by simp[gL,Qda,Qbj]
theorem Mc7{ρ:Type}(R:RR ρ){x:a7×List a8}{r:ρ}(h:R.rd x=some r):T9 R (some x)=r:=by
 show Option.rec (motive:=λ_=>ρ) R.d (λx=>x) (R.rd x)=r
 rw[h]
theorem Zc9{ρ:Type}(R:RR ρ){x:a7×List a8}{r:ρ}(h:R.rd x=some r):okO R (some x)=true:=by
 show Option.rec (motive:=λ_=>Bool) false (λ_=>true) (R.rd x)=true
 rw[h]
@[reducible] def flK:List (Nat×CK):=[(0,.int .i64),(1,.int .i64),(2,.int .i64),(3,.int .i64)]
theorem Jd5(s:Pln):((Nat.ble 4 (len (tP.row s)))&&(Qa6 [CK.int .i64,CK.int .i64,CK.int .i64,CK.int .i64] (tP.row s)))=true:=rfl
def ws:PLq:=[⟨⟨1,0,0⟩,24⟩,⟨⟨-1,0,0⟩,24⟩,⟨⟨0,1,0⟩,24⟩,⟨⟨0,-1,0⟩,24⟩,⟨⟨0,0,1⟩,24⟩,⟨⟨0,0,-1⟩,24⟩]
def pos(X:List Pt)(p:Pln):Bool:=X.any λx=>decide (rm p x>0)
def oe2(r:PLq):Bool:=r.all (pos (cor r))
structure Okx(x:Pt):Prop where
 w1:0<x.pw
 w2:x.pw<=600000000000
 c1:Sm 300000000000000 x.px
 c2:Sm 300000000000000 x.py
 c3:Sm 300000000000000 x.pz
theorem Sm.neg{n x:Int}(h:Sm n x):Sm n (-x):=⟨by have:=h.2;omega,by have:=h.1;omega⟩
def Nx{σ:Type}(x:Stp σ)(E:Nat->Prop)(N:σ->Prop):Prop:=(∃t,x=.exit t/\E t)\/∃s,x=.next s/\N s
theorem Nx.sl{σ:Type}{c:Bool}{t e:Stp σ}{E:Nat->Prop}{N:σ->Prop}(h1:c=true->Nx t E N)(h2:c=false->Nx e E N):Nx (sl c t e) E N:=by cases c;exact h2 rfl;exact h1 rfl
theorem Nx.ex{σ:Type}{t:Nat}{E:Nat->Prop}{N:σ->Prop}(h:E t):Nx (.exit t) E N:=.inl ⟨t,rfl,h⟩
theorem Nx.nx{σ:Type}{s:σ}{E:Nat->Prop}{N:σ->Prop}(h:N s):Nx (.next s) E N:=.inr ⟨s,rfl,h⟩
theorem ha2{σ τ:Type}{step:σ->Stp σ}{mk:Nat->τ->σ}(n:Nat)(I:Nat->τ->Prop)(E:Nat->σ->Prop)(hn:n<=1000000000)
  (h:∀j a,j<n->I j a->Nx (step (mk j a)) (λt=>E t (mk j a)) (λs=>∃a',s=mk (j+1) a'/\I (j+1) a'))
  (hf:∀j a,n<=j->I j a->∃t,step (mk j a)=.exit t/\E t (mk j a)) (j0:Nat) (a:τ) (hi:I j0 a):∃t s,lp step (mk j0 a)=(t,s)/\E t s:=by
 have key:=tb8 (step:=step) (I:=λm s=>∃j a,m=n-j/\s=mk j a/\I j a) (Q:=E) (λm s ⟨j,a,hm,hs,ha⟩=>by
  subst hs;by_cases hlt:j<n
  ·rcases h j a hlt ha with h1|⟨s',h1,a',h2,h3⟩
   ·exact .inl h1
   ·subst h2;exact .inr ⟨_,n-(j+1),by omega,h1,j+1,a',rfl,rfl,h3⟩
  ·exact .inl (hf j a (by omega) ha)) (n-j0) (mk j0 a) (by omega) ⟨j0,a,rfl,rfl,hi⟩
 exact⟨_,_,rfl,key⟩
def Rd{ρ:Type}(R:RR ρ)(o:ROq)(P:ρ->Prop):Prop:=∃x r,o=some x/\R.rd x=some r/\P r
theorem Rd.p{ρ:Type}{R:RR ρ}{o:ROq}{P:ρ->Prop}(h:Rd R o P):P (T9 R o):=by
 obtain⟨x,r,h1,h2,h3⟩:=h;rw[h1,Mc7 R h2];exact h3
theorem Rd.g{ρ:Type}{R:RR ρ}{o:ROq}{P:ρ->Prop}(h:Rd R o P):okO R o=true:=by
 obtain⟨x,r,h1,h2,h3⟩:=h;rw[h1];exact Zc9 R h2
theorem Rd.sl{ρ:Type}{R:RR ρ}{c:Bool}{t e:ROq}{P:ρ->Prop}(h1:c=true->Rd R t P)(h2:c=false->Rd R e P):Rd R (sl c t e) P:=by cases c;exact h2 rfl;exact h1 rfl
def inV(v:V3):Bool:=smb 24 v.x&&(smb 24 v.y&&smb 24 v.z)
theorem Oa2(v:V3):inV v=true↔Sm 24 v.x/\Sm 24 v.y/\Sm 24 v.z:=by unfold inV;rw[Qbd,Qbd,Oa1,Oa1,Oa1]
theorem ad1(v:V3):mb2 v=some (b (inV v),[]):=by
 unfold mb2 inV smb;cases h1:decide (v.x < -24)<;>cases h2:decide (v.x>24)<;>cases h3:decide (v.y < -24)<;>cases h4:decide (v.y>24)<;>cases h5:decide (v.z < -24)<;>cases h6:decide (v.z>24)<;>rfl
theorem be4(v:V3):Ja0 v=inV v:=by unfold Ja0;rw[ad1];rfl
theorem Ad6(v:V3):Ja1 v=true:=by unfold Ja1;rw[ad1];rfl
def sub(a b:V3):V3:=⟨a.x-b.x,a.y-b.y,a.z-b.z⟩
theorem Ec4{a b:V3}(ha:inV a=true)(hb:inV b=true):xa3 a b=sub a b/\Sm 48 (sub a b).x/\Sm 48 (sub a b).y/\Sm 48 (sub a b).z:=by
 rw[Oa2] at ha hb;obtain⟨⟨a1,a2⟩,⟨a3,a4⟩,a5,a6⟩:=ha;obtain⟨⟨b1,b2⟩,⟨b3,b4⟩,b5,b6⟩:=hb;unfold xa3 sub;rw[aa8 (by omega) (by omega),aa8 (by omega) (by omega),aa8 (by omega) (by omega)]
 exact⟨rfl,⟨by show _<=a.x-b.x;omega,by show a.x-b.x<=_;omega⟩,⟨by show _<=a.y-b.y;omega,by show a.y-b.y<=_;omega⟩,⟨by show _<=a.z-b.z;omega,by show a.z-b.z<=_;omega⟩⟩
theorem Ha5{a b c:V3}(ha:inV a=true)(hb:inV b=true)(hc:inV c=true) :
  Da3 (xa3 b a) (xa3 c a)=c9 (sub b a) (sub c a)/\Sm 4608 (c9 (sub b a) (sub c a)).x/\Sm 4608 (c9 (sub b a) (sub c a)).y/\Sm 4608 (c9 (sub b a) (sub c a)).z:=by
 obtain⟨e1,⟨u1,u2⟩,⟨u3,u4⟩,u5,u6⟩:=Ec4 hb ha;obtain⟨e2,⟨v1,v2⟩,⟨v3,v4⟩,v5,v6⟩:=Ec4 hc ha;rw[e1,e2,pd2];generalize sub b a=p at *
 generalize sub c a=q at *
 have h1:=mb u3 u4 v5 v6;have h2:=mb u5 u6 v3 v4;have h3:=mb u5 u6 v1 v2;have h4:=mb u1 u2 v5 v6;have h5:=mb u1 u2 v3 v4;have h6:=mb u3 u4 v1 v2;have k:Sm 4608 (c9 p q).x/\Sm 4608 (c9 p q).y/\Sm 4608 (c9 p q).z:=by unfold Sm c9;simp only;omega
 obtain⟨k1,k2,k3⟩:=k;rw[vb4 (k1.mono (by omega)),vb4 (k2.mono (by omega)),vb4 (k3.mono (by omega))]
 exact⟨rfl,k1,k2,k3⟩
def C4(a b c:V3):Pln×Bool :=
 if inV a&&(inV b&&inV c) then
  if g3 (c9 (sub b a) (sub c a))=0 then (⟨⟨0,0,0⟩,0⟩,false)
  else (⟨⟨Int.tdiv (c9 (sub b a) (sub c a)).x (g3 (c9 (sub b a) (sub c a))),Int.tdiv (c9 (sub b a) (sub c a)).y (g3 (c9 (sub b a) (sub c a))),Int.tdiv (c9 (sub b a) (sub c a)).z (g3 (c9 (sub b a) (sub c a)))⟩,
   dot ⟨Int.tdiv (c9 (sub b a) (sub c a)).x (g3 (c9 (sub b a) (sub c a))),Int.tdiv (c9 (sub b a) (sub c a)).y (g3 (c9 (sub b a) (sub c a))),Int.tdiv (c9 (sub b a) (sub c a)).z (g3 (c9 (sub b a) (sub c a)))⟩ a⟩,true)
 else (⟨⟨0,0,0⟩,0⟩,false)
theorem Za4(v:V3):0<=g3 v:=by unfold g3;omega
theorem xc8(a c d:V3):pa4 a c d=some (.tup [.agg (tP.row (C4 a c d).1),b (C4 a c d).2],[]):=by
 unfold pa4 C4;simp only[be4,Ad6];cases ha:inV a with
 |false=>rfl
 |true =>
  cases hc:inV c with
  |false=>rfl
  |true =>
   cases hd:inV d with
   |false=>rfl
   |true =>
    obtain⟨e,k1,k2,k3⟩:=Ha5 ha hc hd;rw[e];generalize c9 (sub c a) (sub d a)=n at *
    have m1:=k1.mono (m:=1000000000000000000) (by omega)
    have m2:=k2.mono (m:=1000000000000000000) (by omega)
    have m3:=k3.mono (m:=1000000000000000000) (by omega)
    rw[Zc6 m1 m2 m3,Ob1 m1 m2 m3];by_cases h0:g3 n=0
    ·rw[show (g3 n==0)=true from by rw[h0];rfl]
     simp only[Qih,if_true,h0];rfl
    ·have hp:=Za4 n;have q1:=wa6 (g:=g3 n) k1 (by omega)
     have q2:=wa6 (g:=g3 n) k2 (by omega)
     have q3:=wa6 (g:=g3 n) k3 (by omega)
     rw[show (g3 n==0)=false from by rw[beq_eq_false_iff_ne];exact h0,Jd4 m1 m2 m3 h0]
     simp only[Qih,if_true,h0,if_false];rw[vb4 (q1.mono (by omega)),vb4 (q2.mono (by omega)),vb4 (q3.mono (by omega))]
     have hdot:Za1 ⟨Int.tdiv n.x (g3 n),Int.tdiv n.y (g3 n),Int.tdiv n.z (g3 n)⟩ a=dot ⟨Int.tdiv n.x (g3 n),Int.tdiv n.y (g3 n),Int.tdiv n.z (g3 n)⟩ a:=by
      unfold Za1;simp only[Nb0,dc8];obtain⟨⟨a1,a2⟩,⟨a3,a4⟩,a5,a6⟩:=(Oa2 a).1 ha;have r1:=mb q1.1 q1.2 a1 a2;have r2:=mb q2.1 q2.2 a3 a4;have r3:=mb q3.1 q3.2 a5 a6;rw[aa8 (by omega) (by omega)]
      rfl
     rw[hdot];rfl
theorem Mc8(a b c:V3):Fa9 a b c=true:=by unfold Fa9;rw[xc8];rfl
theorem pd5(p:Pln)(v:V3):Rd (one r1I) (Na7 p v) (λ_=>True):=by
 unfold Na7;simp only[Zc7,Ad6,D9];exact Rd.sl (λ_=>⟨_,_,rfl,rfl,trivial⟩) λ_=>Rd.sl (λ_=>⟨_,_,rfl,rfl,trivial⟩) λ_=>Rd.sl (λ_=>⟨_,_,rfl,rfl,trivial⟩) λ_=>Rd.sl (λ_=>⟨_,_,rfl,rfl,trivial⟩) λ_=>⟨_,_,rfl,rfl,trivial⟩
theorem Jd6(p:Pln)(v:V3):Lb7 p v=true:=(pd5 p v).g
theorem be5(P:la3)(hl:P.j9.length<=1000000000):∃t s,lp (ea4 P) ⟨0⟩=(t,s)/\(t=1\/t=2\/t=3):=by
 obtain⟨l,x1,x2,x3,x4,x5,x6,x7,x8⟩:=P;refine ha2 (step:=ea4 ⟨l,x1,x2,x3,x4,x5,x6,x7,x8⟩) (mk:=λj (_:Unit)=>(⟨(j:Int)⟩:ca4)) l.length (λ_ _=>True) (λt _=>t=1\/t=2\/t=3) hl (λj a hj _=>?_) (λj a hj _=>?_) 0 () trivial
 ·simp only[ea4,za3,Jd6,Int.toNat_natCast,K7 hj (show l.length<=4611686018427387904 from Qad hl (by omega))]
  rw[btD (F8 hj),bt (o2 hj),D9];exact Nx.sl (λ_=>Nx.sl (λ_=>.ex (by simp)) λ_=>.nx ⟨(),rfl,trivial⟩) λ_=>.ex (by simp)
 ·simp only[ea4,za3];rw[bfD (by omega)]
  exact⟨_,rfl,by simp⟩
theorem be6(l:List V3)(hl:l.length<=1000000000)(a c:Nat)(ha:a<l.length)(hc:c<a):∃t s,lp (ea5 ⟨(a:Int),(c:Int)⟩) ⟨l,0⟩=(t,s)/\((t=1\/t=2)/\s.j9=l):=by
 refine ha2 (step:=ea5 ⟨(a:Int),(c:Int)⟩) (mk:=λj (_:Unit)=>(⟨l,(j:Int)⟩:ca5)) c (λ_ _=>True) (λt s=>(t=1\/t=2)/\s.j9=l) (by omega) (λj x hj _=>?_) (λj x hj _=>?_) 0 () trivial
 ·simp only[ea5,za4,Mc8,Int.toNat_natCast,r7,p9,K7 hj (show c<=4611686018427387904 by omega)]
  rw[btD (F8 hj),bt (o2 ha),bt (o2 (show c<l.length by omega)),bt (o2 (show j<l.length by omega)),D9]
  generalize hP:la3.mk _ _ _ _ _ _ _ _ _=P3;obtain⟨t,s,h1,h2⟩:=be5 P3 (by subst hP;exact hl)
  rw[h1]
  rcases h2 with rfl|rfl|rfl
  ·exact .ex (by simp)
  ·exact .nx ⟨(),rfl,trivial⟩
  ·exact .nx ⟨(),rfl,trivial⟩
 ·simp only[ea5,za4];rw[bfD (by omega)]
  exact⟨_,rfl,by simp⟩
theorem be7(l:List V3)(hl:l.length<=1000000000)(a:Nat)(ha:a<l.length):∃t s,lp (ea6 ⟨(a:Int)⟩) ⟨l,0⟩=(t,s)/\((t=1\/t=2)/\s.j9=l):=by
 refine ha2 (step:=ea6 ⟨(a:Int)⟩) (mk:=λj (_:Unit)=>(⟨l,(j:Int)⟩:ca6)) a (λ_ _=>True) (λt s=>(t=1\/t=2)/\s.j9=l) (by omega) (λj x hj _=>?_) (λj x hj _=>?_) 0 () trivial
 ·simp only[ea6,za5,r7,p9,K7 hj (show a<=4611686018427387904 by omega)]
  obtain⟨t,s,h1,h2,h3⟩:=be6 l hl a j ha hj;rw[btD (F8 hj),h1]
  rcases h2 with rfl|rfl
  ·exact .ex (by simp)
  ·exact .nx ⟨(),by rw[h3],trivial⟩
 ·simp only[ea6,za5];rw[bfD (by omega)]
  exact⟨_,rfl,by simp⟩
theorem La6(l:List V3)(hl:l.length<=1000000000):Rd (one r1B) (Lb8 l) (λ_=>True):=by
 have key:∃t s,lp (ea7 ⟨⟩) ⟨l,0⟩=(t,s)/\(t=1\/t=2):=by
  refine ha2 (step:=ea7 ⟨⟩) (mk:=λj (_:Unit)=>(⟨l,(j:Int)⟩:ca7)) l.length (λ_ _=>True) (λt s=>t=1\/t=2) hl (λj x hj _=>?_) (λj x hj _=>?_) 0 () trivial
  ·simp only[ea7,za6,r7,p9,K7 hj (show l.length<=4611686018427387904 by omega)]
   obtain⟨t,s,h1,h2,h3⟩:=be7 l hl j hj;rw[btD (F8 hj),h1]
   rcases h2 with rfl|rfl
   ·exact .ex (by simp)
   ·exact .nx ⟨(),by rw[h3],trivial⟩
  ·simp only[ea7,za6];rw[bfD (by omega)]
   exact⟨_,rfl,by simp⟩
 obtain⟨t,s,h1,h2⟩:=key;unfold Lb8;simp only[r7,p9];rw[h1]
 rcases h2 with rfl|rfl<;>exact⟨_,_,rfl,rfl,trivial⟩
structure Fc(ph:Nat)(out:PLq)(m:Nat):Prop where
 h:(ph=0/\out=[])\/ph=1
 l:out.length<=m
theorem Fc.more{ph m m':Nat}{out:PLq}(h:Fc ph out m)(hm:m<=m'):Fc ph out m':=⟨h.h,Qad h.l hm⟩
theorem vb8(v:V3):Z6 v=inV v/\Z7 v=true:=by
 have h3:[v.x,v.y,v.z].length<=1000000000:=by simp
 have:za2 v=some (b (inV v),[]):=by
  unfold za2 inV;simp only[vb5 24 _ (by omega) h3,vb6 24 _ (by omega) h3,D9]
  simp only[List.all_cons,List.all_nil,Qig]
 unfold Z6 Z7;rw[this];exact⟨rfl,rfl⟩
def has(c:PLq)(v:V3):Bool:=(chk c==0)&&(inV v&&inn c ⟨v.x,v.y,v.z,1⟩)
def apart(a c:PLq):Bool:=!((chk a==0)&&(chk c==0))||!oe2 (a++c++ws)
def onc(X:List Pt)(p:Pln):Nat:=X.countP λx=>rm p x==0
def keep(X:List Pt)(p:Pln):Bool:=!decide ((onc X p:Int)<3)
theorem ob2{α:Type}(c:α->Bool):∀l:List α,(l.take (l.findIdx c)).filter (λx=>!c x)=l.take (l.findIdx c)
 |[]=>rfl
 |x::l=>by
  rw[List.findIdx_cons];cases h:c x with
  |true=>rfl
  |false =>
   simp only[cond_false,List.take_succ_cons,Qij,h,Bool.not_false,if_true];rw[ob2 c l]
theorem xc9{α:Type}(l:List α)(j:Nat)(h:j<l.length):l.take (j+1)=l.take j++[l[j]]:=by rw[Qik h]
theorem Fb2{α:Type}(t:Ty α){l:List α}{j:Nat}(h:j<l.length):l.take (j+1)=l.take j++[gL t l j]:=by rw[xc9 l j h,nb0 t h]
theorem vb9{α:Type}(t:Ty α){l r:List α}{j:Nat}(h:l.drop j=r.drop j):gL t l j=gL t r j:=by
 have h1:=Ec3 t l j 0;have h2:=Ec3 t r j 0;rw[Nat.add_zero] at h1 h2;rw[<- h1,<- h2,h]
theorem ob3{α:Type}{l r:List α}{j:Nat}(h:l.drop j=r.drop j)(k:Nat):l.drop (j+k)=r.drop (j+k):=by rw[<- List.drop_drop,<- List.drop_drop,h]
structure Del(l:PLq)(f:Pln->Bool)(cur:PLq)(m j:Nat):Prop where
 len:cur.length=l.length
 t:cur.take m=(l.take j).filter f
 d:cur.drop j=l.drop j
 le:m<=j
 lm:m<=l.length
theorem pd6(l:PLq)(n:Nat):g8 (bL tP l) n=bL tP (l.drop n):=by unfold bL;rw[o4,g9,g9,List.map_drop]
def eqP(x y:Pln):Bool:=x.n.x==y.n.x&&(x.n.y==y.n.y&&(x.n.z==y.n.z&&(x.b==y.b&&true)))
theorem ob4(x y:Pln):eqP x y=true↔x=y:=by
 unfold eqP;simp only[Qig,Qbd,beq_iff_eq];refine⟨λ⟨h1,h2,h3,h4⟩=>?_,λh=>by subst h;exact⟨rfl,rfl,rfl,rfl⟩⟩
 obtain⟨⟨x1,x2,x3⟩,x4⟩:=x;obtain⟨⟨y1,y2,y3⟩,y4⟩:=y
 simp only at h1 h2 h3 h4
 subst h1 h2 h3 h4;rfl
def ddF:Pln->PLq->PLq
 |_,[]=>[]
 |a,x::l=>if eqP x a then ddF x l else x::ddF x l
def dd:PLq->PLq
 |[]=>[]
 |x::l=>x::ddF x l
structure Cmp(l:PLq)(n:Nat)(cur:PLq)(m j:Nat)(R:PLq):Prop where
 len:cur.length=l.length
 t:cur.take m++ddF (gL tP l (j-1)) ((l.take n).drop j)=R
 d:cur.drop (j-1)=l.drop (j-1)
 le:m+1<=j
theorem ad2(l:PLq)(n:Nat)(hn:n<=l.length):slR tP (bL tP l) 0 n=l.take n:=Jb0 tP (by rw[Qia];omega) λk hk=>by
 rw[Qbh,W7 tP (by omega)]
 congr 1;simp[gL,Qda,Qbe,hk]
theorem ad3(l:PLq)(n:Nat)(hn:n<=l.length):okS tP (bL tP l) 0 n=true:=Ma3 tP (f:=λk=>gL tP l k) λk hk=>by rw[Qbh,W7 tP (by omega)]
end Go.Ev.Ce
namespace Go.Ev.Ce
open Go Go.Ev Go.Ev.L Go.Proofs Go.Sort
theorem Ob2(l:PLq):List.Perm (cb4 l) l:=List.mergeSort_perm l _
theorem Mc9(x y z:Pln)(h1:(!ltOf Fa7 y x)=true)(h2:(!ltOf Fa7 z y)=true):(!ltOf Fa7 z x)=true:=by
 simp only[Qdb,oa1,decide_eq_false_iff_not] at *
 unfold LtP at *
 omega
theorem Nc0(x y:Pln):((!ltOf Fa7 y x)||!ltOf Fa7 x y)=true:=by
 simp only[Qdg,Qdb,oa1,decide_eq_false_iff_not];unfold LtP;omega
theorem ec2(l:PLq):(cb4 l).Pairwise λx y=>(!ltOf Fa7 y x)=true:=Qiag Mc9 Nc0 l
instance:DecidableEq Pln:=λx y=>decidable_of_iff _ (ob4 x y)
def PC:List Pt:=[⟨0,0,0,1⟩,⟨0,0,1,4⟩,⟨0,1,0,3⟩,⟨1,0,0,2⟩]
end Go.Ev.Ce
namespace Go.Ev.Ce
open Go Go.Ev Go.Ev.L Go.Proofs
def ua6(l:PLq):Prop:=l.Pairwise LtP
theorem Wb6{x y z:Pln}(h1:LtP x y)(h2:LtP y z):LtP x z:=by unfold LtP at *;omega
theorem ec3(x:Pln):¬ LtP x x:=by unfold LtP;omega
theorem Ec5(x y:Pln):LtP x y\/x=y\/LtP y x:=by
 by_cases h1:LtP x y
 ·exact .inl h1
 ·by_cases h2:LtP y x
  ·exact .inr (.inr h2)
  ·refine .inr (.inl ?_);unfold LtP at h1 h2;have e1:x.n.x=y.n.x:=by omega
   have e2:x.n.y=y.n.y:=by omega
   have e3:x.n.z=y.n.z:=by omega
   have e4:x.b=y.b:=by omega
   cases x with | mk n b=>cases y with | mk m c=>cases n;cases m;simp_all
theorem Wb7:∀{l r:PLq},ua6 l->ua6 r->(∀p,p∈l↔p∈r)->l=r
 |[],[],_,_,_=>rfl
 |[],b::r,_,_,h=>by have:=(h b).2 Qck;cases this
 |a::l,[],_,_,h=>by have:=(h a).1 Qck;cases this
 |a::l,b::r,hl,hr,h=>by
  obtain⟨hl1,hl2⟩:=Qid.1 hl;obtain⟨hr1,hr2⟩:=Qid.1 hr;have hab:a=b:=by
   rcases Qbp.1 ((h a).1 Qck) with e|h1
   ·exact e
   ·rcases Qbp.1 ((h b).2 Qck) with e|h2
    ·exact e.symm
    ·exact absurd (Wb6 (hr1 a h1) (hl1 b h2)) (ec3 b)
  subst hab;rw[Wb7 hl2 hr2 λp=>?_]
  constructor
  ·intro hp
   rcases Qbp.1 ((h p).1 (Qcn _ hp)) with e|h1
   ·subst e;exact absurd (hl1 p hp) (ec3 p)
   ·exact h1
  ·intro hp
   rcases Qbp.1 ((h p).2 (Qcn _ hp)) with e|h1
   ·subst e;exact absurd (hr1 p hp) (ec3 p)
   ·exact h1
def ec4:PLq->Pln->PLq
 |[],y=>[y]
 |a::l,y=>if Fa7 a y<0 then a::ec4 l y else if eqP a y then a::l else y::a::l
theorem Wa6(y p:Pln):∀x,p∈ec4 x y↔p=y\/p∈x
 |[]=>by simp[ec4]
 |a::l=>by
  unfold ec4;have ih:=Wa6 y p l;split
  ·simp only[Qbp,ih];constructor
   ·rintro (h|h|h)
    ·exact .inr (.inl h)
    ·exact .inl h
    ·exact .inr (.inr h)
   ·rintro (h|h|h)
    ·exact .inr (.inl h)
    ·exact .inl h
    ·exact .inr (.inr h)
  ·split
   ·rename_i h;rw[ob4] at h;subst h;simp only[Qbp];constructor
    ·exact λh=>.inr h
    ·rintro (h|h)
     ·exact .inl h
     ·exact h
   ·simp only[Qbp]
theorem ob5(y:Pln):∀{x},ua6 x->ua6 (ec4 x y)
 |[],_=>Qiah _ _
 |a::l,h=>by
  obtain⟨h1,h2⟩:=Qid.1 h;unfold ec4;split
  ·rename_i hc;rw[dc6] at hc;refine Qid.2 ⟨λp hp=>?_,ob5 y h2⟩
   rcases (Wa6 y p l).1 hp with e|hp
   ·subst e;exact hc
   ·exact h1 p hp
  ·rename_i hc;rw[dc6] at hc;split
   ·exact h
   ·rename_i hne;have hlt:LtP y a:=by
     rcases Ec5 y a with h|h|h
     ·exact h
     ·exact absurd ((ob4 _ _).2 h.symm) hne
     ·exact absurd h hc
    refine Qid.2 ⟨λp hp=>?_,h⟩
    rcases Qbp.1 hp with e|hp
    ·subst e;exact hlt
    ·exact Wb6 hlt (h1 p hp)
theorem Nc1:cb4 []=[]:=Qbk (Za2 [])
end Go.Ev.Ce
namespace Go.Ev.Ce
def rmZ(p:Pln)(x:Pt):Int:=p.b*x.pw-(p.n.x*x.px+p.n.y*x.py+p.n.z*x.pz)
structure Inr(r:List Pln)(x:Pt):Prop where
 w:0<x.pw
 h:∀p∈r,0<=rmZ p x
def da7(p:Pln):Pln:=⟨⟨-p.n.x,-p.n.y,-p.n.z⟩,-p.b⟩
structure Cn(r:List Pln)(x:Pt):Prop extends Inr r x where
 c:∃p q s,p∈r/\q∈r/\s∈r/\mw p q s≠0/\rmZ p x=0/\rmZ q x=0/\rmZ s x=0
def Bdd(r:List Pln):Prop:=∀d:V3,d≠⟨0,0,0⟩->∃p∈r,0<dot p.n d
def go(x:Pt)(q:Pln)(d:V3):Pt:=⟨x.px*dot q.n d+rmZ q x*d.x,x.py*dot q.n d+rmZ q x*d.y,x.pz*dot q.n d+rmZ q x*d.z,x.pw*dot q.n d⟩
theorem Ec6(p q:Pln)(x:Pt)(d:V3):rmZ p (go x q d)=dot q.n d*rmZ p x-rmZ q x*dot p.n d:=by simp only[rmZ,go,dot];grind
theorem pa9{a b c:Int}(hc:0<c)(h:a*c<=b*c):a<=b:=Int.le_of_mul_le_mul_right h hc
theorem first(x:Pt)(d:V3):∀r:List Pln,(∀p∈r,0<=rmZ p x)->(∃p∈r,0<dot p.n d)->∃q∈r,0<dot q.n d/\∀p∈r,0<dot p.n d->rmZ q x*dot p.n d<=rmZ p x*dot q.n d
 |[],_,h=>by obtain⟨p,hp,_⟩:=h;cases hp
 |a::r,hx,h=>by
  by_cases hr:∃p∈r,0<dot p.n d
  ·obtain⟨q,hq,h1,h2⟩:=first x d r (λp hp=>hx p (Qcn _ hp)) hr
   by_cases ha:0<dot a.n d
   ·by_cases hc:rmZ q x*dot a.n d<=rmZ a x*dot q.n d
    ·grind
    ·refine⟨a,Qck,ha,λp hp h3=>?_⟩
     rcases Qbp.1 hp with rfl|hp
     ·exact Int.le_refl _
     ·have h4:=h2 p hp h3;have h5:rmZ a x*dot q.n d<rmZ q x*dot a.n d:=by omega
      have h6:=Qil h4 (Qii ha);have h7:=Int.mul_lt_mul_of_pos_right h5 h3;have e1:rmZ q x*dot p.n d*dot a.n d=rmZ q x*dot a.n d*dot p.n d:=by grind
      have e2:rmZ a x*dot q.n d*dot p.n d=rmZ a x*dot p.n d*dot q.n d:=by grind
      have e3:rmZ p x*dot q.n d*dot a.n d=rmZ p x*dot a.n d*dot q.n d:=by grind
      refine pa9 h1 ?_;omega
   grind
  grind
theorem step{r:List Pln}{x:Pt}(hx:Inr r x)(d:V3)(h:∃p∈r,0<dot p.n d):∃q∈r,0<dot q.n d/\Inr r (go x q d):=by
 obtain⟨q,hq,h1,h2⟩:=first x d r hx.h h;refine⟨q,hq,h1,⟨Int.mul_pos hx.w h1,λp hp=>?_⟩⟩
 rw[Ec6];have h3:=hx.h p hp;have h4:=hx.h q hq;by_cases h5:0<dot p.n d
 ·grind
 ·have h6:=Qif (Qii h1) h3;have h7:rmZ q x*dot p.n d<=0:=Int.mul_nonpos_of_nonneg_of_nonpos h4 (by omega)
  omega
theorem ad4{h q:Pln}{x:Pt}{d:V3}(h1:0<=rmZ q x)(h2:0<=dot h.n d):rmZ h (go x q d)*x.pw<=rmZ h x*(go x q d).pw\/x.pw<=0:=by
 rcases Int.lt_or_le 0 x.pw with hw|hw
 ·left;rw[Ec6]
  have:=Qif h1 h2
  have h3:=Qif this (Qii hw);have e:rmZ h x*(go x q d).pw=dot q.n d*rmZ h x*x.pw:=by unfold go;grind
  grind
 ·exact .inr hw
def neg(d:V3):V3:=⟨-d.x,-d.y,-d.z⟩
theorem Ec7(a d:V3):dot a (neg d)=-dot a d:=by unfold dot neg;grind
theorem ec5{d:V3}(h:d≠⟨0,0,0⟩):neg d≠⟨0,0,0⟩:=λh'=>h (by
 cases d;unfold neg at h';simp only[V3.mk.injEq] at h' ⊢;omega)
theorem turn(h:Pln){d:V3}(hd:d≠⟨0,0,0⟩):∃e,e≠(⟨0,0,0⟩:V3)/\0<=dot h.n e/\∀a,dot a d=0->dot a e=0:=by
 by_cases h1:0<=dot h.n d
 ·grind
 ·exact⟨neg d,ec5 hd,by rw[Ec7];omega,λa h=>by rw[Ec7,h];rfl⟩
theorem oe3{n:V3}(hn:n≠⟨0,0,0⟩):∃d,d≠(⟨0,0,0⟩:V3)/\dot n d=0:=by
 by_cases h:n.x=0/\n.y=0
 ·exact⟨⟨1,0,0⟩,by simp,by unfold dot;simp[h.1]⟩
 ·refine⟨⟨n.y,-n.x,0⟩,λh'=>h ?_,by unfold dot;grind⟩
  simp_all
theorem V3.ext'{a b:V3}(h1:a.x=b.x)(h2:a.y=b.y)(h3:a.z=b.z):a=b:=by cases a;cases b;simp_all
theorem ad5{m n d:V3}(hm:m≠⟨0,0,0⟩)(h1:dot m d=0)(h2:dot n d≠0):c9 m n≠⟨0,0,0⟩:=λh=>by
 unfold c9 at h;simp only[V3.mk.injEq] at h;obtain⟨c1,c2,c3⟩:=h;unfold dot at h1 h2;have e1:m.x*(n.x*d.x+n.y*d.y+n.z*d.z)=0:=by grind
 have e2:m.y*(n.x*d.x+n.y*d.y+n.z*d.z)=0:=by grind
 have e3:m.z*(n.x*d.x+n.y*d.y+n.z*d.z)=0:=by grind
 have k:∀{a:Int},a*(n.x*d.x+n.y*d.y+n.z*d.z)=0->a=0:=λh=>(Qic.1 h).resolve_right h2
 exact hm (V3.ext' (k e1) (k e2) (k e3))
theorem oc8(a b:V3):dot a (c9 a b)=0:=by unfold dot c9;grind
theorem oc9(a b:V3):dot b (c9 a b)=0:=by unfold dot c9;grind
theorem ad6{p q:Pln}{x:Pt}{d:V3}(h:rmZ p x=0)(h':dot p.n d=0):rmZ p (go x q d)=0:=by rw[Ec6,h,h'];simp
theorem ad7(q:Pln)(x:Pt)(d:V3):rmZ q (go x q d)=0:=by rw[Ec6];grind
theorem be8{q:Pln}{d:V3}(h:0<dot q.n d):q.n≠⟨0,0,0⟩:=λh'=>by rw[h'] at h;unfold dot at h;simp at h
theorem Ad7{a b c u v w:Int}(hu:0<u)(hv:0<v)(hw:0<w)(h1:a*v<=b*u)(h2:b*w<=c*v):a*w<=c*u:=by
 have h3:=Qil h1 (Qii hw);have h4:=Qil h2 (Qii hu);have e1:a*v*w=a*w*v:=by grind
 have e2:b*u*w=b*w*u:=by grind
 have e3:c*v*u=c*u*v:=by grind
 exact pa9 hv (by omega)
theorem Jd7{r:List Pln}(hb:Bdd r)(h:Pln){x:Pt}(hx:Inr r x):∃v,Cn r v/\rmZ h v*x.pw<=rmZ h x*v.pw:=by
 obtain⟨d0,n0,p0,_⟩:=turn h (d:=⟨1,0,0⟩) (by simp)
 obtain⟨q1,m1,k1,i1⟩:=step hx d0 (hb d0 n0);have l1:=(ad4 (h:=h) (x:=x) (hx.h q1 m1) p0).resolve_right (by have:=hx.w;omega)
 obtain⟨e1,ne1,he1⟩:=oe3 (be8 k1);obtain⟨d1,n1,p1,z1⟩:=turn h ne1;obtain⟨q2,m2,k2,i2⟩:=step i1 d1 (hb d1 n1);have l2:=(ad4 (h:=h) (x:=go x q1 d0) (i1.h q2 m2) p1).resolve_right (by have:=i1.w;omega)
 have hc:=ad5 (be8 k1) (z1 _ he1) (n:=q2.n) (by omega)
 obtain⟨d2,n2,p2,z2⟩:=turn h hc;obtain⟨q3,m3,k3,i3⟩:=step i2 d2 (hb d2 n2);have l3:=(ad4 (h:=h) (x:=go (go x q1 d0) q2 d1) (i2.h q3 m3) p2).resolve_right (by have:=i2.w;omega)
 have a1:rmZ q1 (go (go x q1 d0) q2 d1)=0:=ad6 (ad7 _ _ _) (z1 _ he1);refine⟨_,⟨i3,q3,q1,q2,m3,m1,m2,λh0=>?_,ad7 _ _ _,ad6 a1 (z2 _ (oc8 _ _)),ad6 (ad7 _ _ _) (z2 _ (oc9 _ _))⟩,?_⟩
 ·have:dot q3.n d2=0:=z2 _ h0
  omega
 ·exact Ad7 i3.w i2.w hx.w l3 (Ad7 i2.w i1.w hx.w l2 l1)
theorem Db1{r:List Pln}(hb:Bdd r){h:Pln}(hv:∀v,Cn r v->0<=rmZ h v){x:Pt}(hx:Inr r x):0<=rmZ h x:=by
 obtain⟨v,h1,h2⟩:=Jd7 hb h hx;have h3:=Qif (hv v h1) (Qii hx.w);exact pa9 h1.w (by rw[Qio];omega)
def oe4(r:List Pln):Prop:=∃x:Pt,0<x.pw/\∀p∈r,0<rmZ p x
structure Eqv(x v:Pt):Prop where
 e1:x.px*v.pw=v.px*x.pw
 e2:x.py*v.pw=v.py*x.pw
 e3:x.pz*v.pw=v.pz*x.pw
theorem Eqv.rm{x v:Pt}(h:Eqv x v)(p:Pln):rmZ p x*v.pw=rmZ p v*x.pw:=by
 obtain⟨e1,e2,e3⟩:=h;unfold rmZ
 grind
theorem Eqv.inr{r:List Pln}{x v:Pt}(h:Eqv x v)(hw:0<x.pw)(hv:Inr r v):Inr r x:=⟨hw,λp hp=>by
 have:=h.rm p
 have h2:=Qif (hv.h p hp) (Qii hw);exact pa9 hv.w (by rw[Qio];omega)⟩
end Go.Ev.Ce
namespace Go.Ev.Ce
open Go Go.Ev Go.Ev.L Go.Proofs
structure Hit(r:PLq)(Q:Pt->Prop)(p q s:Pln):Prop where
 h1:(mpt p q s).2=true
 h2:inn r (mpt p q s).1=true
 h3:Q (mpt p q s).1
def phP(out:PLq):Nat:=match out with
 |[]=>0
 |_::_=>1
def Y9(p:Pln)(v:V3):Int:=if okp p&&inV v then (if dot p.n v-p.b<0 then -1 else if dot p.n v-p.b>0 then 1 else 0) else 0
theorem Jd8{p:Pln}{v:V3}(hp:Bd p)(hv:inV v=true):Sm 331776 (dot p.n v):=by
 obtain⟨⟨a1,a2⟩,⟨a3,a4⟩,a5,a6⟩:=(Oa2 v).1 hv;have r1:=mb hp.x1 hp.x2 a1 a2;have r2:=mb hp.y1 hp.y2 a3 a4;have r3:=mb hp.z1 hp.z2 a5 a6;unfold Sm dot;omega
theorem pc0{p:Pln}{v:V3}(hp:okp p=true)(hv:inV v=true):Y9 p v>0↔dot p.n v>p.b:=by
 unfold Y9;rw[hp,hv];simp only[Qih,if_true];split
 ·omega
 ·split<;>omega
theorem Wb8{p:Pln}{v:V3}(hp:okp p=true)(hv:inV v=true):Y9 p v=0↔dot p.n v=p.b:=by
 unfold Y9;rw[hp,hv];simp only[Qih,if_true];split
 ·omega
 ·split<;>omega
theorem Jd9(v:V3):g3 v∣v.x/\g3 v∣v.y/\g3 v∣v.z:=by
 unfold g3;refine⟨?_,?_,?_⟩<;>rw[<- Int.dvd_natAbs]<;>apply Int.natCast_dvd_natCast.2
 ·exact Qiaa (Qip _ _) (Qip _ _)
 ·exact Qiaa (Qip _ _) (Qis _ _)
 ·exact Qis _ _
theorem Kd0(v:V3)(h:g3 v≠0):g3 ⟨Int.tdiv v.x (g3 v),Int.tdiv v.y (g3 v),Int.tdiv v.z (g3 v)⟩=1:=by
 generalize hg:g3 v=g at *
 have h0:0<=g:=hg ▸ Za4 v;obtain⟨n,rfl⟩:∃n:Nat,g=n:=⟨g.toNat,by omega⟩
 have hn:0<n:=by omega
 have hgn:Nat.gcd (Nat.gcd v.x.natAbs v.y.natAbs) v.z.natAbs=n:=by unfold g3 at hg;omega
 have d1:n∣Nat.gcd v.x.natAbs v.y.natAbs:=hgn ▸ Qip _ _;have d3:n∣v.z.natAbs:=hgn ▸ Qis _ _;have d4:n∣v.x.natAbs:=Qiaa d1 (Qip _ _);have d5:n∣v.y.natAbs:=Qiaa d1 (Qis _ _);unfold g3;simp only[Int.natAbs_tdiv,Int.natAbs_natCast];show ((Nat.gcd (Nat.gcd (v.x.natAbs / n) (v.y.natAbs / n)) (v.z.natAbs / n):Nat):Int)=1;rw[Nat.gcd_div d4 d5,Nat.gcd_div d1 d3,hgn,Nat.div_self hn];rfl
structure Thr(a b c:V3)(p:Pln):Prop where
 ok:okp p=true
 k:∃g:Int,0<g/\g*p.n.x=(c9 (sub b a) (sub c a)).x/\g*p.n.y=(c9 (sub b a) (sub c a)).y/\g*p.n.z=(c9 (sub b a) (sub c a)).z
 o:p.b=dot p.n a
theorem qa0{a b c:V3}(h:(C4 a b c).2=true):(inV a=true/\inV b=true/\inV c=true)/\Thr a b c (C4 a b c).1:=by
 unfold C4 at h ⊢;cases ha:inV a with
 |false=>rw[ha] at h;cases h
 |true =>
  cases hb:inV b with
  |false=>rw[ha,hb] at h;cases h
  |true =>
   cases hc:inV c with
   |false=>rw[ha,hb,hc] at h;cases h
   |true =>
    rw[ha,hb,hc] at h;simp only[Qih,if_true] at h ⊢;obtain⟨_,k1,k2,k3⟩:=Ha5 ha hb hc;generalize hn:c9 (sub b a) (sub c a)=n at *
    by_cases h0:g3 n=0
    ·rw[if_pos h0] at h;cases h
    ·rw[if_neg h0];have hp:=Za4 n;obtain⟨d1,d2,d3⟩:=Jd9 n;have q1:=wa6 (g:=g3 n) k1 (by omega)
     have q2:=wa6 (g:=g3 n) k2 (by omega)
     have q3:=wa6 (g:=g3 n) k3 (by omega)
     refine⟨⟨trivial,trivial,trivial⟩,⟨?_,⟨g3 n,by omega,by rw[hn];exact Qiv d1,by rw[hn];exact Qiv d2,by rw[hn];exact Qiv d3⟩,rfl⟩⟩
     obtain⟨⟨a1,a2⟩,⟨a3,a4⟩,a5,a6⟩:=(Oa2 a).1 ha;have r1:=mb q1.1 q1.2 a1 a2;have r2:=mb q2.1 q2.2 a3 a4;have r3:=mb q3.1 q3.2 a5 a6;unfold okp;rw[Kd0 n h0];simp only[List.all_cons,List.all_nil,Qig,Qbd,Oa1,beq_self_eq_true,true_and,and_true];refine⟨⟨q1,q2,q3⟩,?_⟩;unfold Sm dot
     simp only
     omega
theorem pd7(a b c:V3):Bd (C4 a b c).1:=by
 cases h:(C4 a b c).2 with
 |true=>exact xc7 (qa0 h).2.ok
 |false =>
  have:(C4 a b c).1=⟨⟨0,0,0⟩,0⟩:=by
   unfold C4 at h ⊢;split
   ·rename_i hc;rw[if_pos hc] at h;split
    ·rfl
    ·rename_i h0;rw[if_neg h0] at h;cases h
   ·rfl
  rw[this]
  constructor<;>simp
theorem ob6{p:Pln}(h:okp p=true):okp (da7 p)=true:=by
 unfold okp da7 g3 at *
 simp only[List.all_cons,List.all_nil,Qig,Qbd,Oa1,Int.natAbs_neg] at h ⊢;obtain⟨⟨h1,h2,h3⟩,h4,h5⟩:=h;exact⟨⟨h1.neg,h2.neg,h3.neg⟩,h4,h5.neg⟩
def oe5(l:List V3)(p:Pln):Bool:=l.any λv=>Y9 p v != 0
def nf(l:List V3)(a c k:Nat):Bool:=(C4 (gL tV l a) (gL tV l c) (gL tV l k)).2&&oe5 l (C4 (gL tV l a) (gL tV l c) (gL tV l k)).1
def nf2(l:List V3)(a c:Nat):Bool:=(List.range c).any (nf l a c)
def nf1(l:List V3)(a:Nat):Bool:=(List.range a).any (nf2 l a)
def nf0(l:List V3):Bool:=(List.range l.length).any (nf1 l)
theorem ad8{σ:Type}{step:σ->Stp σ}{mk:Nat->σ}(n:Nat)(c:Nat->Bool)(u fin:Nat)(hn:n<=1000000000)(h:∀j,j<n->step (mk j)=sl (c j) (.exit u) (.next (mk (j+1))))(hf:step (mk n)=.exit fin) :
  ∃j,lp step (mk 0)=(if (List.range n).any c then u else fin,mk j):=by
 have key:=ha2 (step:=step) (mk:=λj (_:Unit)=>mk j) n (λj _=>j<=n/\∀i,i<j->c i=false) (λt s=>t=(if (List.range n).any c then u else fin)/\∃j,s=mk j) hn
  (λj _ hj hi=>by
   rw[h j hj];refine Nx.sl (λhc=>.ex ⟨?_,j,rfl⟩) (λhc=>.nx ⟨(),rfl,by omega,λi hi'=>?_⟩)
   ·rw[if_pos (Qib.2 ⟨j,Qcj.2 hj,hc⟩)]
   ·by_cases e:i=j
    ·rw[e];exact hc
    ·exact hi.2 i (by omega))
  (λj _ hj hi=>by
   have e:j=n:=by omega
   subst e;refine⟨fin,hf,?_,j,rfl⟩;rw[if_neg λhh=>?_]
   obtain⟨i,hi1,hi2⟩:=Qib.1 hh;rw[hi.2 i (Qcj.1 hi1)] at hi2;cases hi2) 0 () ⟨by omega,by omega⟩
 obtain⟨t,s,h1,rfl,j,rfl⟩:=key;exact⟨j,h1⟩
def hold(p:Pln)(l:List V3):Bool:=!l.any λv=>decide (Y9 p v>0)
def pc1(l:List V3)(a c:Nat)(out:PLq)(k:Nat):PLq :=
  if (C4 (gL tV l a) (gL tV l c) (gL tV l k)).2 then
    (if hold (da7 (C4 (gL tV l a) (gL tV l c) (gL tV l k)).1) l then ec4 (if hold (C4 (gL tV l a) (gL tV l c) (gL tV l k)).1 l then ec4 out (C4 (gL tV l a) (gL tV l c) (gL tV l k)).1 else out) (da7 (C4 (gL tV l a) (gL tV l c) (gL tV l k)).1)
     else (if hold (C4 (gL tV l a) (gL tV l c) (gL tV l k)).1 l then ec4 out (C4 (gL tV l a) (gL tV l c) (gL tV l k)).1 else out))
  else out
def F2(l:List V3)(a:Nat)(out:PLq)(c:Nat):PLq:=(List.range c).foldl (pc1 l a c) out
def F1(l:List V3)(out:PLq)(a:Nat):PLq:=(List.range a).foldl (F2 l a) out
def F0(l:List V3):PLq:=(List.range l.length).foldl (F1 l) []
theorem A1{τ:Type}(f:τ->Nat->τ)(a:τ)(n:Nat):(List.range (n+1)).foldl f a=f ((List.range n).foldl f a) n:=by
  rw[List.range_succ,List.foldl_append];rfl
theorem Ob3{f:PLq->Nat->PLq}{m:Nat}(h:∀o k,(f o k).length<=o.length+m)(o:PLq):∀n,((List.range n).foldl f o).length<=o.length+m*n
  |0=>Qac _
  | n+1=>by
    rw[A1];have h1:=h ((List.range n).foldl f o) n;have h2:=Ob3 h o n;rw[Nat.mul_succ];omega
def ob7(l:PLq)(p:Pln):Bool:=l.any λq=>eqP q p
theorem pc2(l:PLq)(p:Pln):ob7 l p=true↔p∈l:=by
 unfold ob7;rw[Qib];exact⟨λ⟨q,h,e⟩=>by rw[ob4] at e;exact e ▸ h,λh=>⟨p,h,(ob4 p p).2 rfl⟩⟩
theorem yc0{p:Pln}(h:okp p=true):g3 p.n=1:=by
 unfold okp at h;simp only[Qbd,beq_iff_eq] at h;exact h.2.1
theorem ad9{p:Pln}(h:okp p=true):p.n≠⟨0,0,0⟩:=λe=>by
 have:=yc0 h
 rw[e] at this
 revert this
 decide
theorem bd0(c:Int)(n:V3):g3 ⟨c*n.x,c*n.y,c*n.z⟩=c.natAbs*g3 n:=by
 unfold g3;simp only[Int.natAbs_mul,Nat.gcd_mul_left];rw[Int.natCast_mul]
theorem bd1{m n:V3}(hm:g3 m=1)(hn:g3 n=1)(h:c9 m n=⟨0,0,0⟩):n=m\/n=neg m:=by
 unfold c9 at h;simp only[V3.mk.injEq] at h;obtain⟨c1,c2,c3⟩:=h;have k:∀{c d:Int},c*m.x=d*n.x->c*m.y=d*n.y->c*m.z=d*n.z->c.natAbs=d.natAbs:=λ{c d} e1 e2 e3=>by
  have a1:=bd0 c m;have a2:=bd0 d n;rw[e1,e2,e3,a2,hm,hn] at a1;omega
 have ax:=k (c:=n.x) (d:=m.x) (by grind) (by grind) (by grind)
 have ay:=k (c:=n.y) (d:=m.y) (by grind) (by grind) (by grind)
 have az:=k (c:=n.z) (d:=m.z) (by grind) (by grind) (by grind)
 have sg:∀{a c:Int},a.natAbs=c.natAbs->a=c\/a=-c:=λh=>by omega
 -- the sign of one component that is not zero is that of all
 have go:∀{s u t v:Int},u≠0->s*v=u*t->s=u->t=v:=λ{s u t v} hu h e=>by
  subst e;exact (Qiac hu h).symm
 have gn:∀{s u t v:Int},u≠0->s*v=u*t->s=-u->t=-v:=λ{s u t v} hu h e=>by
  subst e
  have:u*t=u*(-v):=by rw[<- h];grind
  exact Qiac hu this
 by_cases hx:m.x=0
 ·have hx':n.x=0:=by omega
  by_cases hy:m.y=0
  ·have hy':n.y=0:=by omega
   rcases sg az with e|e
   ·exact .inl (V3.ext' (by omega) (by omega) e)
   ·exact .inr (V3.ext' (by show n.x=-m.x;omega) (by show n.y=-m.y;omega) e)
  ·rcases sg ay with e|e
   ·exact .inl (V3.ext' (by omega) e (go hy (by grind) e))
   ·exact .inr (V3.ext' (by show n.x=-m.x;omega) e (gn hy (by grind) e))
 ·rcases sg ax with e|e
  ·exact .inl (V3.ext' e (go hx (by grind) e) (go hx (by grind) e))
  ·exact .inr (V3.ext' e (gn hx (by grind) e) (gn hx (by grind) e))
structure se6(l:List V3):Prop where
 h:∃a c k v,a∈l/\c∈l/\k∈l/\v∈l/\dot (c9 (sub c a) (sub k a)) (sub v a)≠0
theorem gLm{l:List V3}{j:Nat}(h:j<l.length):gL tV l j∈l:=dc9 tV h
theorem Ka6{p:Pln}{l:List V3}(hp:okp p=true)(hl:l.all inV=true):hold p l=true↔∀v∈l,dot p.n v<=p.b:=by
 unfold hold;rw[Qdb,<- Qiq,Qib];constructor
 ·intro h v hv;have h1:¬ Y9 p v>0:=λh'=>h ⟨v,hv,by simpa using h'⟩
  rw[pc0 hp (Qcf.1 hl v hv)] at h1;omega
 ·rintro h ⟨v,hv,h1⟩;have h1:Y9 p v>0:=by simpa using h1
  rw[pc0 hp (Qcf.1 hl v hv)] at h1
  have:=h v hv
  omega
structure Fct(l:List V3)(p:Pln):Prop where
 ok:okp p=true
 hd:hold p l=true
theorem Ob4(p:Pln)(v:V3):dot (da7 p).n v=-dot p.n v:=by unfold dot da7;grind
theorem Nc2(l:List V3)(a c k:Nat)(out:PLq)(p:Pln):p∈pc1 l a c out k↔p∈out\/((C4 (gL tV l a) (gL tV l c) (gL tV l k)).2=true /\
  ((p=(C4 (gL tV l a) (gL tV l c) (gL tV l k)).1/\hold p l=true)\/(p=da7 (C4 (gL tV l a) (gL tV l c) (gL tV l k)).1/\hold p l=true))):=by
 unfold pc1;generalize C4 (gL tV l a) (gL tV l c) (gL tV l k)=T;cases h2:T.2 with
 |false=>simp
 |true =>
  simp only[if_true];cases h4:hold (da7 T.1) l with
  |false =>
   simp only[Qhc,if_false];cases h3:hold T.1 l with
   |false =>
    simp only[Qhc,if_false];constructor
    ·exact λh=>.inl h
    ·rintro (h|⟨_,⟨rfl,h⟩|⟨rfl,h⟩⟩)
     ·exact h
     ·rw[h3] at h;cases h
     ·rw[h4] at h;cases h
   |true =>
    simp only[if_true,Wa6];constructor
    ·rintro (rfl|h)
     ·exact .inr ⟨trivial,.inl ⟨rfl,h3⟩⟩
     ·exact .inl h
    ·rintro (h|⟨_,⟨rfl,h⟩|⟨rfl,h⟩⟩)
     ·exact .inr h
     ·exact .inl rfl
     ·rw[h4] at h;cases h
  |true =>
   simp only[if_true,Wa6];cases h3:hold T.1 l with
   |false =>
    simp only[Qhc,if_false];constructor
    ·rintro (rfl|h)
     ·exact .inr ⟨trivial,.inr ⟨rfl,h4⟩⟩
     ·exact .inl h
    ·rintro (h|⟨_,⟨rfl,h⟩|⟨rfl,h⟩⟩)
     ·exact .inr h
     ·rw[h3] at h;cases h
     ·exact .inl rfl
   |true =>
    simp only[if_true,Wa6];constructor
    ·rintro (rfl|rfl|h)
     ·exact .inr ⟨trivial,.inr ⟨rfl,h4⟩⟩
     ·exact .inr ⟨trivial,.inl ⟨rfl,h3⟩⟩
     ·exact .inl h
    ·rintro (h|⟨_,⟨rfl,h⟩|⟨rfl,h⟩⟩)
     ·exact .inr (.inr h)
     ·exact .inr (.inl rfl)
     ·exact .inl rfl
theorem Aa9{f:PLq->Nat->PLq}{Q:Nat->Pln->Prop}(h:∀o k p,p∈f o k↔p∈o\/Q k p)(o:PLq)(p:Pln):∀n,p∈(List.range n).foldl f o↔p∈o\/∃k,k<n/\Q k p
 |0=>by simp
 |n+1=>by
  rw[A1,h,Aa9 h o p n];constructor
  ·rintro ((h|⟨k,hk,h⟩)|h)
   ·exact .inl h
   ·exact .inr ⟨k,by omega,h⟩
   ·exact .inr ⟨n,by omega,h⟩
  ·rintro (h|⟨k,hk,h⟩)
   ·exact .inl (.inl h)
   ·by_cases e:k=n
    ·subst e;exact .inr h
    ·exact .inl (.inr ⟨k,by omega,h⟩)
def Fq (l : List V3) (a c k : Nat) (p : Pln) : Prop := (C4 (gL tV l a) (gL tV l c) (gL tV l k)).2 = true ∧
  ((p=(C4 (gL tV l a) (gL tV l c) (gL tV l k)).1/\hold p l=true)\/(p=da7 (C4 (gL tV l a) (gL tV l c) (gL tV l k)).1/\hold p l=true))
theorem Kd1(l:List V3)(a c:Nat)(out:PLq)(p:Pln):p∈F2 l a out c↔p∈out\/∃k,k<c/\Fq l a c k p:=Aa9 (λo k p=>Nc2 l a c k o p) out p c
theorem Kd2(l:List V3)(a:Nat)(out:PLq)(p:Pln):p∈F1 l out a↔p∈out\/∃c,c<a/\∃k,k<c/\Fq l a c k p:=Aa9 (λo c p=>Kd1 l a c o p) out p a
theorem yc1(l:List V3)(p:Pln):p∈F0 l↔∃a,a<l.length/\∃c,c<a/\∃k,k<c/\Fq l a c k p:=by
 have:=Aa9 (λo a p=>Kd2 l a o p) [] p l.length
 simpa [F0] using this
theorem Nc3{l:List V3}{a c:Nat}{out:PLq}{k:Nat}(h:ua6 out):ua6 (pc1 l a c out k):=by
 unfold pc1;split
 ·split
  ·refine ob5 _ ?_;split
   ·exact ob5 _ h
   ·exact h
  ·split
   ·exact ob5 _ h
   ·exact h
 ·exact h
theorem ob8{f:PLq->Nat->PLq}(h:∀o k,ua6 o->ua6 (f o k)){o:PLq}(ho:ua6 o):∀n,ua6 ((List.range n).foldl f o)
 |0=>ho
 |n+1=>by rw[A1];exact h _ _ (ob8 h ho n)
theorem Kd3{l:List V3}{a c:Nat}{out:PLq}(h:ua6 out):ua6 (F2 l a out c):=ob8 (λ_ _ h=>Nc3 h) h c
theorem Kd4{l:List V3}{a:Nat}{out:PLq}(h:ua6 out):ua6 (F1 l out a):=ob8 (λ_ _ h=>Kd3 h) h a
theorem Kd5(l:List V3):ua6 (F0 l):=ob8 (λ_ _ h=>Kd4 h) .nil l.length
theorem Kd6{l:List V3}{p:Pln}(hp:p∈F0 l):Fct l p:=by
 obtain⟨a,ha,c,hc,k,hk,h1,⟨h2,h3⟩|⟨h2,h3⟩⟩:=(yc1 l p).1 hp
 ·exact⟨h2 ▸ (qa0 h1).2.ok,h3⟩
 ·exact⟨h2 ▸ ob6 (qa0 h1).2.ok,h3⟩
structure be9(c:PLq):Prop where
 l:c.length<=47
 v:∀p∈c,okp p=true
 f:oe4 (c++ws)
theorem be9.chk{c:PLq}(h:be9 c):(chk c==0)=true:=by
 rw[beq_iff_eq,Zc8];exact⟨by have:=h.l;omega,h.v⟩
end Go.Ev.Ce
namespace Go.Ev.Ce
def H9(a b:V3):V3:=⟨a.x-b.x,a.y-b.y,a.z-b.z⟩
def N3(u w x:V3):V3:=c9 (H9 w u) (H9 x u)
def Qa5:List V3->V3
 |[]=>⟨0,0,0⟩
 |v::l=>⟨v.x+(Qa5 l).x,v.y+(Qa5 l).y,v.z+(Qa5 l).z⟩
def ob9:List Int->Int
 |[]=>0
 |x::l=>x+ob9 l
theorem pc3(n:V3):∀l:List V3,dot n (Qa5 l)=ob9 (l.map (dot n))
 |[]=>by simp[Qa5,ob9,dot]
 |v::l=>by
  have:=pc3 n l
  simp only[Qbw,ob9,<- this];simp only[Qa5,dot]
  grind
theorem pc4(m s:Int):∀l:List Int,ob9 (l.map λa=>m*a-s)=m*ob9 l-s*l.length
 |[]=>by simp[ob9]
 |a::l=>by
  have:=pc4 m s l
  simp only[Qbw,ob9,this,List.length_cons]
  grind
theorem yb5:∀{l:List Int},(∀a∈l,a<=0)->ob9 l<=0
 |[],_=>by simp[ob9]
 |a::l,h=>by
  have:=yb5 (l:=l) λx hx=>h x (Qcn _ hx)
  have:=h a Qck
  simp only[ob9];omega
theorem wb0:∀{l:List Int},(∀a∈l,a<=0)->ob9 l=0->∀a∈l,a=0
 |[],_,_=>λa ha=>by cases ha
 |a::l,h,h0=>by
  have h1:=yb5 (l:=l) λx hx=>h x (Qcn _ hx)
  have h2:=h a Qck;simp only[ob9] at h0;intro b hb
  rcases Qbp.1 hb with rfl|hb
  ·omega
  ·exact wb0 (l:=l) (λx hx=>h x (Qcn _ hx)) (by omega) b hb
def Sol(l:List V3):Prop:=∃a c k v,a∈l/\c∈l/\k∈l/\v∈l/\dot (N3 a c k) (H9 v a)≠0
theorem Sol.off{l:List V3}(h:Sol l){n:V3}(hn:n≠⟨0,0,0⟩)(b:Int):∃v∈l,dot n v≠b:=by
 obtain⟨a,c,k,v,ha,hc,hk,hv,hd⟩:=h;by_cases h1:dot n a=b
 ·by_cases h2:dot n c=b
  ·by_cases h3:dot n k=b
   ·by_cases h4:dot n v=b
    ·exfalso;unfold N3 at hd;generalize hD:dot (c9 (H9 c a) (H9 k a)) (H9 v a)=D at *
     have q1:dot n (H9 c a)=0:=by unfold dot H9 at *;grind
     have q2:dot n (H9 k a)=0:=by unfold dot H9 at *;grind
     have q3:dot n (H9 v a)=0:=by unfold dot H9 at *;grind
     generalize H9 c a=p at *
     generalize H9 k a=q at *
     generalize H9 v a=r at *
     have i1:D*n.x=(c9 q r).x*dot n p+(c9 r p).x*dot n q+(c9 p q).x*dot n r:=by rw[<- hD];simp only[dot,c9];grind
     have i2:D*n.y=(c9 q r).y*dot n p+(c9 r p).y*dot n q+(c9 p q).y*dot n r:=by rw[<- hD];simp only[dot,c9];grind
     have i3:D*n.z=(c9 q r).z*dot n p+(c9 r p).z*dot n q+(c9 p q).z*dot n r:=by rw[<- hD];simp only[dot,c9];grind
     rw[q1,q2,q3] at i1 i2 i3;have z:∀{x:Int},D*x=0->x=0:=λh=>(Qic.1 h).resolve_left hd
     exact hn (V3.ext' (z (by omega)) (z (by omega)) (z (by omega)))
    ·exact⟨v,hv,h4⟩
   ·exact⟨k,hk,h3⟩
  ·exact⟨c,hc,h2⟩
 ·exact⟨a,ha,h1⟩
theorem Sol.ne{l:List V3}(h:Sol l):∃v,v∈l:=by obtain⟨a,_,_,_,ha,_⟩:=h;exact⟨a,ha⟩
structure Fac(l:List V3)(n:V3)(b:Int):Prop where
 hd:∀v∈l,dot n v<=b
 on:∃u w x,u∈l/\w∈l/\x∈l/\N3 u w x≠⟨0,0,0⟩/\dot n u=b/\dot n w=b/\dot n x=b
def ce0(l:List V3)(c:List Pln):Prop:=∀n b,n≠⟨0,0,0⟩->Fac l n b->∃s t:Int,0<s/\0<t/\∃q∈c,t*q.n.x=s*n.x/\t*q.n.y=s*n.y/\t*q.n.z=s*n.z/\t*q.b=s*b
def pol(m:Int)(S v:V3):Pln:=⟨⟨m*v.x-S.x,m*v.y-S.y,m*v.z-S.z⟩,1⟩
theorem pd8(m:Int)(S v d:V3):dot (pol m S v).n d=m*dot d v-dot d S:=by simp only[dot,pol];grind
theorem pc5(l:List V3)(d:V3):ob9 (l.map λv=>(l.length:Int)*dot d v-dot d (Qa5 l))=0:=by
 have h:=pc4 (l.length:Int) (dot d (Qa5 l)) (l.map (dot d));rw[List.map_map] at h;have e:((λa=>(l.length:Int)*a-dot d (Qa5 l))∘dot d)=λv=>(l.length:Int)*dot d v-dot d (Qa5 l):=rfl
 rw[e] at h;rw[h,<- pc3,List.length_map]
 grind
theorem Nc4{a b:V3}(h:dot a b≠0):b≠⟨0,0,0⟩:=λe=>h (by subst e;simp[dot])
theorem yc2{a b:V3}(h:dot a b≠0):a≠⟨0,0,0⟩:=λe=>h (by subst e;simp[dot])
theorem Ec8{l:List V3}(h:Sol l):0<(l.length:Int):=by
 obtain⟨v,hv⟩:=h.ne
 grind
theorem pd9{l:List V3}(h:Sol l):Bdd (l.map (pol l.length (Qa5 l))):=λd hd=>by
 by_cases hh:∃p∈l.map (pol l.length (Qa5 l)),0<dot p.n d
 ·exact hh
 exfalso;have hm:=Ec8 h;have hall:∀a∈l.map (λv=>(l.length:Int)*dot d v-dot d (Qa5 l)),a<=0:=λa ha=>by
  obtain⟨v,hv,rfl⟩:=Qbz.1 ha;refine Int.not_lt.1 λh'=>hh ⟨pol l.length (Qa5 l) v,Qbz.2 ⟨v,hv,rfl⟩,?_⟩
  rw[pd8];omega
 have hz:=wb0 hall (pc5 l d);obtain⟨a,ha⟩:=h.ne;obtain⟨v,hv,hne⟩:=h.off hd (dot d a);have e1:=hz _ (Qbz.2 ⟨a,ha,rfl⟩);have e2:=hz _ (Qbz.2 ⟨v,hv,rfl⟩);apply hne
 have:(l.length:Int)*(dot d v-dot d a)=0:=by grind
 have:=(Qic.1 this).resolve_left (by omega)
 omega
theorem Nc5{l:List V3}(h4:Sol l){c:List Pln}(hc:ce0 l c){x:Pt}(hx:Inr c x){h:Pln}(hh:∀v∈l,dot h.n v<=h.b):0<=rmZ h x:=by
 have hm:=Ec8 h4;have hr:=pd9 h4;generalize hS:Qa5 l=S at hr;generalize hM:(l.length:Int)=m at hr hm
 -- the linear function on the polar
 have hv:∀y,Cn (l.map (pol m S)) y->0<=rmZ ⟨⟨m*x.px-x.pw*S.x,m*x.py-x.pw*S.y,m*x.pz-x.pw*S.z⟩,x.pw⟩ y:=λy hy=>by
  obtain⟨p1,p2,p3,hp1,hp2,hp3,hw,e1,e2,e3⟩:=hy.c;obtain⟨v1,m1,rfl⟩:=Qbz.1 hp1;obtain⟨v2,m2,rfl⟩:=Qbz.1 hp2;obtain⟨v3,m3,rfl⟩:=Qbz.1 hp3;have rp:∀v,rmZ (pol m S v) y=y.pw-(m*dot ⟨y.px,y.py,y.pz⟩ v-dot ⟨y.px,y.py,y.pz⟩ S):=λv=>by simp only[rmZ,pol,dot];grind
  rw[rp] at e1 e2 e3;have hn3:dot (pol m S v1).n (N3 v1 v2 v3)≠0:=λh0=>hw (by
   have:mw (pol m S v1) (pol m S v2) (pol m S v3)=m*m*dot (pol m S v1).n (N3 v1 v2 v3):=by simp only[mw,pol,dot,N3,c9,H9];grind
   rw[this,h0,Int.mul_zero])
  have hne:N3 v1 v2 v3≠⟨0,0,0⟩:=Nc4 hn3;have hfac:Fac l ⟨m*y.px,m*y.py,m*y.pz⟩ (y.pw+dot ⟨y.px,y.py,y.pz⟩ S):=by
   have ed:∀v,dot ⟨m*y.px,m*y.py,m*y.pz⟩ v=m*dot ⟨y.px,y.py,y.pz⟩ v:=λv=>by simp only[dot];grind
   refine⟨λv hv=>?_,v1,v2,v3,m1,m2,m3,hne,?_,?_,?_⟩
   ·have:=hy.h (pol m S v) (Qbz.2 ⟨v,hv,rfl⟩)
    rw[rp] at this;rw[ed];omega
   ·rw[ed];omega
   ·rw[ed];omega
   ·rw[ed];omega
  have hyn:(⟨m*y.px,m*y.py,m*y.pz⟩:V3)≠⟨0,0,0⟩:=λe=>by
   have k:∀{a:Int},m*a=0->a=0:=λh=>(Qic.1 h).resolve_left (by omega)
   simp only[V3.mk.injEq] at e;have a1:=k e.1;have a2:=k e.2.1;have a3:=k e.2.2;rw[a1,a2,a3] at e1;have hw:=hy.w;simp only[dot] at e1;simp only[Qio,Int.add_zero,Int.mul_zero,Int.sub_zero] at e1;omega
  obtain⟨s,t,hs,ht,q,hq,f1,f2,f3,f4⟩:=hc _ _ hyn hfac;have hxq:=hx.h q hq;have e:t*rmZ q x=s*rmZ ⟨⟨m*x.px-x.pw*S.x,m*x.py-x.pw*S.y,m*x.pz-x.pw*S.z⟩,x.pw⟩ y:=by
   have:t*rmZ q x=(t*q.b)*x.pw-((t*q.n.x)*x.px+(t*q.n.y)*x.py+(t*q.n.z)*x.pz):=by simp only[rmZ];grind
   rw[this,f1,f2,f3,f4];simp only[rmZ,dot];grind
  have h1:=Qif (Qii ht) hxq;rw[e] at h1;exact Qiw h1 hs
 by_cases hn:h.n=⟨0,0,0⟩
 ·obtain⟨v,hv⟩:=h4.ne;have h1:=hh v hv;have e:rmZ h x=h.b*x.pw:=by simp only[rmZ,hn];grind
  rw[e];rw[hn] at h1;simp only[dot,Qio,Int.add_zero] at h1;exact Qif h1 (Qii hx.w)
 ·-- the polar point of h
  have hall:∀a∈l.map (λv=>(l.length:Int)*dot h.n v-dot h.n (Qa5 l)),a<=(l.length:Int)*h.b-dot h.n (Qa5 l):=λa ha=>by
   obtain⟨v,hv,rfl⟩:=Qbz.1 ha
   have:=Qiy (hh v hv) (show 0<=(l.length:Int) by omega)
   omega
  have hpos:0<m*h.b-dot h.n S:=by
   rw[<- hM,<- hS];by_cases h0:0<(l.length:Int)*h.b-dot h.n (Qa5 l)
   ·exact h0
   exfalso;have hz:=wb0 (λa ha=>by have:=hall a ha;omega) (pc5 l h.n)
   obtain⟨v,hv,hne⟩:=h4.off hn h.b;have e1:=hz _ (Qbz.2 ⟨v,hv,rfl⟩);have h2:=hh v hv
   have:(l.length:Int)*dot h.n v<(l.length:Int)*h.b:=Int.mul_lt_mul_of_pos_left (by omega) (by omega)
   omega
  have hy:Inr (l.map (pol m S)) ⟨h.n.x,h.n.y,h.n.z,m*h.b-dot h.n S⟩:=⟨hpos,λp hp=>by
   obtain⟨v,hv,rfl⟩:=Qbz.1 hp;have e:rmZ (pol m S v) ⟨h.n.x,h.n.y,h.n.z,m*h.b-dot h.n S⟩=m*(h.b-dot h.n v):=by simp only[rmZ,pol,dot];grind
   rw[e];exact Qif (by omega) (by have:=hh v hv;omega)⟩
  have h1:=Db1 hr hv hy;have e:rmZ ⟨⟨m*x.px-x.pw*S.x,m*x.py-x.pw*S.y,m*x.pz-x.pw*S.z⟩,x.pw⟩ ⟨h.n.x,h.n.y,h.n.z,m*h.b-dot h.n S⟩=m*rmZ h x:=by simp only[rmZ,dot];grind
  rw[e] at h1;exact Qiw h1 hm
end Go.Ev.Ce
namespace Go.Ev.Ce
open Go Go.Ev Go.Ev.L Go.Proofs
theorem qd0{v:V3}(h:g3 v=0):v=⟨0,0,0⟩:=by
 unfold g3 at h;have h:Nat.gcd (Nat.gcd v.x.natAbs v.y.natAbs) v.z.natAbs=0:=by omega
 rw[Nat.gcd_eq_zero_iff,Nat.gcd_eq_zero_iff] at h;exact V3.ext' (by show v.x=0;omega) (by show v.y=0;omega) (by show v.z=0;omega)
theorem pb0{a c k:V3}(ha:inV a=true)(hc:inV c=true)(hk:inV k=true)(h:N3 a c k≠⟨0,0,0⟩):(C4 a c k).2=true:=by
 unfold C4;rw[ha,hc,hk];simp only[Qih,if_true];rw[if_neg (λh0=>h (qd0 h0):¬ g3 (c9 (sub c a) (sub k a))=0)]
theorem Wb9{a c k:V3}{p:Pln}(h:Thr a c k p):N3 a c k≠⟨0,0,0⟩:=λe=>by
 obtain⟨ok,⟨g,hg,e1,e2,e3⟩,_⟩:=h;have e':c9 (sub c a) (sub k a)=⟨0,0,0⟩:=e;rw[e'] at e1 e2 e3;have z:∀{x:Int},g*x=0->x=0:=λh=>(Qic.1 h).resolve_left (by omega)
 exact ad9 ok (V3.ext' (z e1) (z e2) (z e3))
theorem ec6{a c k:V3}{p:Pln}(h:Thr a c k p):dot p.n a=p.b/\dot p.n c=p.b/\dot p.n k=p.b:=by
 obtain⟨ok,⟨g,hg,e1,e2,e3⟩,o⟩:=h;have z:∀{x y:Int},g*(x-y)=0->x=y:=λh=>by have:=(Qic.1 h).resolve_left (by omega);omega
 refine⟨o.symm,?_,?_⟩
 ·rw[o];apply z
  have:g*(dot p.n c-dot p.n a)=(g*p.n.x)*(c.x-a.x)+(g*p.n.y)*(c.y-a.y)+(g*p.n.z)*(c.z-a.z):=by simp only[dot];grind
  rw[this,e1,e2,e3];simp only[c9,sub];grind
 ·rw[o];apply z
  have:g*(dot p.n k-dot p.n a)=(g*p.n.x)*(k.x-a.x)+(g*p.n.y)*(k.y-a.y)+(g*p.n.z)*(k.z-a.z):=by simp only[dot];grind
  rw[this,e1,e2,e3];simp only[c9,sub];grind
theorem Za5(p:Pln)(v:V3):dot (da7 p).n v=(da7 p).b↔dot p.n v=p.b:=by
 rw[Ob4];show -dot p.n v=-p.b↔_;omega
theorem pc6{a c k:V3}{p q:Pln}(h:Thr a c k q)(hp:okp p=true)(t1:dot p.n a=p.b)(t2:dot p.n c=p.b)(t3:dot p.n k=p.b):p=q\/p=da7 q:=by
 obtain⟨s1,s2,s3⟩:=ec6 h;obtain⟨ok,⟨g,hg,e1,e2,e3⟩,o⟩:=h;have d1:dot p.n (sub c a)=0:=by simp only[dot,sub] at *;grind
 have d2:dot p.n (sub k a)=0:=by simp only[dot,sub] at *;grind
 have hc:c9 q.n p.n=⟨0,0,0⟩:=by
  have z:∀{x:Int},g*x=0->x=0:=λh=>(Qic.1 h).resolve_left (by omega)
  generalize sub c a=u at *
  generalize sub k a=w at *
  refine V3.ext' (z ?_) (z ?_) (z ?_)
  ·have:g*(c9 q.n p.n).x=(g*q.n.y)*p.n.z-(g*q.n.z)*p.n.y:=by simp only[c9];grind
   rw[this,e2,e3]
   have:(c9 u w).y*p.n.z-(c9 u w).z*p.n.y=w.x*dot p.n u-u.x*dot p.n w:=by simp only[c9,dot];grind
   rw[this,d1,d2];simp
  ·have:g*(c9 q.n p.n).y=(g*q.n.z)*p.n.x-(g*q.n.x)*p.n.z:=by simp only[c9];grind
   rw[this,e1,e3]
   have:(c9 u w).z*p.n.x-(c9 u w).x*p.n.z=w.y*dot p.n u-u.y*dot p.n w:=by simp only[c9,dot];grind
   rw[this,d1,d2];simp
  ·have:g*(c9 q.n p.n).z=(g*q.n.x)*p.n.y-(g*q.n.y)*p.n.x:=by simp only[c9];grind
   rw[this,e1,e2]
   have:(c9 u w).x*p.n.y-(c9 u w).y*p.n.x=w.z*dot p.n u-u.z*dot p.n w:=by simp only[c9,dot];grind
   rw[this,d1,d2];simp
 obtain⟨pn,pb⟩:=p;obtain⟨qn,qb⟩:=q
 rcases bd1 (yc0 ok) (yc0 hp) hc with e|e
 ·left
  simp only at e o t1 s1 t2 t3
  subst e;rw[<- t1,s1]
 ·right
  simp only at e o t1 s1 t2 t3
  subst e;rw[<- t1];simp only[dot,neg,da7] at s1 ⊢;simp only[Pln.mk.injEq,true_and]
  grind
structure pc7(l:List V3)(p:Pln):Prop extends Fac l p.n p.b where
 ok:okp p=true
theorem Ob5{l:List V3}{p:Pln}{u w x:V3}(hu:u∈l)(hw:w∈l)(hx:x∈l)(h:Thr u w x p)(hh:∀v∈l,dot (da7 p).n v<=(da7 p).b):pc7 l (da7 p):=by
 obtain⟨s1,s2,s3⟩:=ec6 h;exact⟨⟨hh,u,w,x,hu,hw,hx,Wb9 h,(Za5 p u).2 s1,(Za5 p w).2 s2,(Za5 p x).2 s3⟩,ob6 h.ok⟩
theorem ec7{l:List V3}{p:Pln}{u w x:V3}(hu:u∈l)(hw:w∈l)(hx:x∈l)(h:Thr u w x p)(hh:∀v∈l,dot p.n v<=p.b):pc7 l p:=by
 obtain⟨s1,s2,s3⟩:=ec6 h;exact⟨⟨hh,u,w,x,hu,hw,hx,Wb9 h,s1,s2,s3⟩,h.ok⟩
theorem bd2{u w x:V3}(h:N3 u w x≠⟨0,0,0⟩):N3 w u x≠⟨0,0,0⟩/\N3 u x w≠⟨0,0,0⟩/\N3 x w u≠⟨0,0,0⟩/\N3 w x u≠⟨0,0,0⟩/\N3 x u w≠⟨0,0,0⟩:=by
 have e1:N3 w u x=neg (N3 u w x):=V3.ext' (by simp only[N3,c9,H9,neg];grind) (by simp only[N3,c9,H9,neg];grind) (by simp only[N3,c9,H9,neg];grind)
 have e2:N3 u x w=neg (N3 u w x):=V3.ext' (by simp only[N3,c9,H9,neg];grind) (by simp only[N3,c9,H9,neg];grind) (by simp only[N3,c9,H9,neg];grind)
 have e3:N3 x w u=neg (N3 u w x):=V3.ext' (by simp only[N3,c9,H9,neg];grind) (by simp only[N3,c9,H9,neg];grind) (by simp only[N3,c9,H9,neg];grind)
 have e4:N3 w x u=N3 u w x:=V3.ext' (by simp only[N3,c9,H9];grind) (by simp only[N3,c9,H9];grind) (by simp only[N3,c9,H9];grind)
 have e5:N3 x u w=N3 u w x:=V3.ext' (by simp only[N3,c9,H9];grind) (by simp only[N3,c9,H9];grind) (by simp only[N3,c9,H9];grind)
 rw[e1,e2,e3,e4,e5];exact⟨ec5 h,ec5 h,ec5 h,h,h⟩
theorem ce1{u w x:V3}(h:N3 u w x≠⟨0,0,0⟩):u≠w/\u≠x/\w≠x:=by
 refine⟨λe=>h ?_,λe=>h ?_,λe=>h ?_⟩<;>subst e<;>refine V3.ext' ?_ ?_ ?_<;>simp only[N3,c9,H9]<;>grind
theorem Kd7{l:List V3}{u w x:V3}(hu:u∈l)(hw:w∈l)(hx:x∈l)(h:N3 u w x≠⟨0,0,0⟩) :
  ∃a,a<l.length/\∃c,c<a/\∃k,k<c/\N3 (gL tV l a) (gL tV l c) (gL tV l k)≠⟨0,0,0⟩/\∀f:V3->Prop,f u->f w->f x->f (gL tV l a)/\f (gL tV l c)/\f (gL tV l k):=by
 obtain⟨i,hi,rfl⟩:=Qea.1 hu;obtain⟨j,hj,rfl⟩:=Qea.1 hw;obtain⟨k,hk,rfl⟩:=Qea.1 hx;obtain⟨n1,n2,n3⟩:=ce1 h;obtain⟨s1,s2,s3,s4,s5⟩:=bd2 h;have d1:i≠j:=λe=>n1 (by subst e;rfl)
 have d2:i≠k:=λe=>n2 (by subst e;rfl)
 have d3:j≠k:=λe=>n3 (by subst e;rfl)
 rw[<- nb0 tV hi,<- nb0 tV hj,<- nb0 tV hk] at *
 rcases Qiz d1 with h1|h1<;>rcases Qiz d2 with h2|h2<;>rcases Qiz d3 with h3|h3
 ·exact⟨k,hk,j,h3,i,h1,s3,λf a b c=>⟨c,b,a⟩⟩
 ·exact⟨j,hj,k,h3,i,h2,s4,λf a b c=>⟨b,c,a⟩⟩
 ·omega
 ·exact⟨j,hj,i,h1,k,h2,s1,λf a b c=>⟨b,a,c⟩⟩
 ·exact⟨k,hk,i,h2,j,h1,s5,λf a b c=>⟨c,a,b⟩⟩
 ·omega
 ·exact⟨i,hi,k,h2,j,h3,s2,λf a b c=>⟨a,c,b⟩⟩
 ·exact⟨i,hi,j,h1,k,h3,h,λf a b c=>⟨a,b,c⟩⟩
theorem Ec9{l:List V3}(hl:l.all inV=true)(p:Pln):p∈F0 l↔pc7 l p:=by
 have hin:=Qcf.1 hl;constructor
 ·intro hp;obtain⟨a,ha,c,hc,k,hk,h1,h2⟩:=(yc1 l p).1 hp;have ma:=gLm ha;have mc:=gLm (show c<l.length by omega)
  have mk:=gLm (show k<l.length by omega)
  have ht:=(qa0 h1).2
  rcases h2 with⟨rfl,h3⟩|⟨rfl,h3⟩
  ·exact ec7 ma mc mk ht ((Ka6 ht.ok hl).1 h3)
  ·exact Ob5 ma mc mk ht ((Ka6 (ob6 ht.ok) hl).1 h3)
 ·intro h;obtain⟨u,w,x,hu,hw,hx,h3,t1,t2,t3⟩:=h.on;obtain⟨a,ha,c,hc,k,hk,hn,hall⟩:=Kd7 hu hw hx h3;obtain⟨i1,i2,i3⟩:=hall (λv=>inV v=true) (hin u hu) (hin w hw) (hin x hx)
  obtain⟨e1,e2,e3⟩:=hall (λv=>dot p.n v=p.b) t1 t2 t3
  have h2:=pb0 i1 i2 i3 hn;refine (yc1 l p).2 ⟨a,ha,c,hc,k,hk,h2,?_⟩;have hh:=(Ka6 h.ok hl).2 h.hd
  rcases pc6 (qa0 h2).2 h.ok e1 e2 e3 with e|e
  ·exact .inl ⟨e,hh⟩
  ·exact .inr ⟨e,hh⟩
theorem qd1{n:V3}(h:n≠⟨0,0,0⟩):0<dot n n:=by
 have sq:∀a:Int,0<=a*a:=λa=>by
  by_cases h:0<=a
  ·exact Qif h h
  ·have:=Qif (show 0<=-a by omega) (show 0<=-a by omega)
   rw[Int.neg_mul_neg] at this;exact this
 have z:∀{a:Int},a*a=0->a=0:=λh=>(Qic.1 h).elim id id
 have s1:=sq n.x;have s2:=sq n.y;have s3:=sq n.z;by_cases h0:0<dot n n
 ·exact h0
 ·exfalso;simp only[dot] at h0;exact h (V3.ext' (z (by omega)) (z (by omega)) (z (by omega)))
theorem qd2{l:List V3}(hl:l.all inV=true){c:PLq}(hc:∀p,pc7 l p->p∈c):ce0 l c:=λn b hn hf=>by
 have hin:=Qcf.1 hl;obtain⟨u,w,x,hu,hw,hx,h3,t1,t2,t3⟩:=hf.on;have h2:=pb0 (hin u hu) (hin w hw) (hin x hx) h3;have ht:=(qa0 h2).2;generalize (C4 u w x).1=q at ht;obtain⟨s1,s2,s3⟩:=ec6 ht;have hnn:=qd1 hn;have d1:dot n (H9 w u)=0:=by simp only[dot,H9] at *;grind
 have d2:dot n (H9 x u)=0:=by simp only[dot,H9] at *;grind
 -- the normals are parallel
 have par:dot n n*q.n.x=dot q.n n*n.x/\dot n n*q.n.y=dot q.n n*n.y/\dot n n*q.n.z=dot q.n n*n.z:=by
  obtain⟨ok,⟨g,hg,e1,e2,e3⟩,o⟩:=ht;have z:∀{x y:Int},g*(x-y)=0->x=y:=λh=>by have:=(Qic.1 h).resolve_left (by omega);omega
  have eg:g*dot q.n n=(c9 (H9 w u) (H9 x u)).x*n.x+(c9 (H9 w u) (H9 x u)).y*n.y+(c9 (H9 w u) (H9 x u)).z*n.z:=by
   have:g*dot q.n n=(g*q.n.x)*n.x+(g*q.n.y)*n.y+(g*q.n.z)*n.z:=by simp only[dot];grind
   rw[this,e1,e2,e3];rfl
  have e1:g*q.n.x=(c9 (H9 w u) (H9 x u)).x:=e1;have e2:g*q.n.y=(c9 (H9 w u) (H9 x u)).y:=e2;have e3:g*q.n.z=(c9 (H9 w u) (H9 x u)).z:=e3;generalize H9 w u=p at *
  generalize H9 x u=r at *
  refine⟨z ?_,z ?_,z ?_⟩
  ·have:g*(dot n n*q.n.x-dot q.n n*n.x)=dot n n*(g*q.n.x)-(g*dot q.n n)*n.x:=by grind
   rw[this,e1,eg]
   have:dot n n*(c9 p r).x-((c9 p r).x*n.x+(c9 p r).y*n.y+(c9 p r).z*n.z)*n.x=(n.y*r.z-n.z*r.y)*dot n p-(n.y*p.z-n.z*p.y)*dot n r:=by simp only[dot,c9];grind
   rw[this,d1,d2];simp
  ·have:g*(dot n n*q.n.y-dot q.n n*n.y)=dot n n*(g*q.n.y)-(g*dot q.n n)*n.y:=by grind
   rw[this,e2,eg]
   have:dot n n*(c9 p r).y-((c9 p r).x*n.x+(c9 p r).y*n.y+(c9 p r).z*n.z)*n.y=(n.z*r.x-n.x*r.z)*dot n p-(n.z*p.x-n.x*p.z)*dot n r:=by simp only[dot,c9];grind
   rw[this,d1,d2];simp
  ·have:g*(dot n n*q.n.z-dot q.n n*n.z)=dot n n*(g*q.n.z)-(g*dot q.n n)*n.z:=by grind
   rw[this,e3,eg]
   have:dot n n*(c9 p r).z-((c9 p r).x*n.x+(c9 p r).y*n.y+(c9 p r).z*n.z)*n.z=(n.x*r.y-n.y*r.x)*dot n p-(n.x*p.y-n.y*p.x)*dot n r:=by simp only[dot,c9];grind
   rw[this,d1,d2];simp
 have fin:∀r:Pln,Thr u w x q->(r=q\/r=da7 q)->0<dot r.n n->(dot n n*r.n.x=dot r.n n*n.x/\dot n n*r.n.y=dot r.n n*n.y/\dot n n*r.n.z=dot r.n n*n.z)->∃s t:Int,0<s/\0<t/\∃q∈c,t*q.n.x=s*n.x/\t*q.n.y=s*n.y/\t*q.n.z=s*n.z/\t*q.b=s*b:=λr ht hr hp ⟨p1,p2,p3⟩=>by
  have hru:dot r.n u=r.b:=by
   rcases hr with rfl|rfl
   ·exact s1
   ·exact (Za5 q u).2 s1
  have ed:∀v,dot n n*dot r.n v=dot r.n n*dot n v:=λv=>by
   have:dot n n*dot r.n v=(dot n n*r.n.x)*v.x+(dot n n*r.n.y)*v.y+(dot n n*r.n.z)*v.z:=by
    generalize dot n n=t;simp only[dot];grind
   rw[this,p1,p2,p3];generalize dot r.n n=s;simp only[dot];grind
  have eb:dot n n*r.b=dot r.n n*b:=by rw[<- hru,ed,t1]
  have hd:∀v∈l,dot r.n v<=r.b:=λv hv=>by
   have h1:=Qiy (hf.hd v hv) (Qii hp);rw[<- ed,<- eb] at h1;exact Int.le_of_mul_le_mul_left h1 hnn
  have hF:pc7 l r:=by
   rcases hr with rfl|rfl
   ·exact ec7 hu hw hx ht hd
   ·exact Ob5 hu hw hx ht hd
  exact⟨dot r.n n,dot n n,hp,hnn,r,hc r hF,p1,p2,p3,eb⟩
 by_cases h0:0<dot q.n n
 ·exact fin q ht (.inl rfl) h0 par
 ·refine fin (da7 q) ht (.inr rfl) ?_ ?_
  ·rw[Ob4]
   have:dot q.n n≠0:=λe=>by
    obtain⟨p1,p2,p3⟩:=par;rw[e] at p1 p2 p3;simp only[Qio] at p1 p2 p3;have z:∀{x:Int},dot n n*x=0->x=0:=λh=>(Qic.1 h).resolve_left (by omega)
    exact ad9 ht.ok (V3.ext' (z p1) (z p2) (z p3))
   omega
  ·rw[Ob4];obtain⟨p1,p2,p3⟩:=par;show dot n n*-q.n.x=_/\dot n n*-q.n.y=_/\dot n n*-q.n.z=_;rw[Int.mul_neg,Int.mul_neg,Int.mul_neg,p1,p2,p3,Int.neg_mul,Int.neg_mul,Int.neg_mul];exact⟨rfl,rfl,rfl⟩
end Go.Ev.Ce
namespace Go.Ev.Ce
open Go Go.Ev Go.Ev.L Go.Proofs Go.Sort
def eqV(x y:V3):Bool:=x.x==y.x&&(x.y==y.y&&(x.z==y.z&&true))
theorem ec8(x y:V3):eqV x y=true↔x=y:=by
 unfold eqV;simp only[Qig,Qbd,beq_iff_eq];refine⟨λ⟨h1,h2,h3⟩=>V3.ext' h1 h2 h3,λh=>by subst h;exact⟨rfl,rfl,rfl⟩⟩
theorem ec9{l:List V3}{j:Nat}(h:j<l.length):ldR tV (bL tV l) (0+j)=true:=by rw[Qbh];exact vc2 tV h
theorem Ob6{l:List V3}{j:Nat}(h:j<l.length):rdR tV (bL tV l) (0+j)=gL tV l j:=by rw[Qbh];exact vc1 tV h
theorem pc8(l:List V3)(n:Nat):q9 (bL tV l) n=bL tV (l.take n):=by unfold bL;rw[r4,g9,g9,List.map_take]
theorem Ob7(l:List V3)(n:Nat):g8 (bL tV l) n=bL tV (l.drop n):=by unfold bL;rw[o4,g9,g9,List.map_drop]
theorem pc9(n:Nat):List.replicate n [i 0,i 0,i 0]=bL tV (List.replicate n ⟨0,0,0⟩):=by unfold bL;rw[g9,List.map_replicate];rfl
def dvF:V3->List V3->List V3
 |_,[]=>[]
 |a,x::l=>if eqV x a then dvF x l else x::dvF x l
def ddV:List V3->List V3
 |[]=>[]
 |x::l=>x::dvF x l
structure bd3(l:List V3)(n:Nat)(cur:List V3)(m j:Nat)(R:List V3):Prop where
 len:cur.length=l.length
 t:cur.take m++dvF (gL tV l (j-1)) ((l.take n).drop j)=R
 d:cur.drop (j-1)=l.drop (j-1)
 le:m+1<=j
theorem Rb2(l:List V3)(n o:Nat)(hn:n<=l.length)(hl:l.length<=1000000000)(ho:o<n)(m:Nat)(cur:List V3)(R:List V3)(hd:bd3 l n cur m (o+1) R) :
  ∃t s,lp (l7 ⟨n,0+o,n-o⟩) ⟨(m:Int),((1:Nat):Int),bL tV cur⟩=(t,s)/\(t=1/\∃m' cur' k,s=⟨((m':Nat):Int),k,bL tV cur'⟩/\cur'.length=l.length/\cur'.take m'=R/\m'<=n):=by
 refine ha2 (step:=l7 ⟨n,0+o,n-o⟩) (mk:=λj (x:Nat×List V3)=>(⟨(x.1:Int),(j:Int),bL tV x.2⟩:l0)) (n-o) (λj x=>bd3 l n x.2 x.1 (o+j) R/\1<=j/\x.1<=n) (λt s=>t=1/\∃m' cur' k,s=⟨((m':Nat):Int),k,bL tV cur'⟩/\cur'.length=l.length/\cur'.take m'=R/\m'<=n) (by omega) (λj x hj hx=>?_) (λj x hj hx=>?_) 1 (m,cur) ⟨hd,Qac _,by have:=hd.le;show m<=n;omega⟩
 ·obtain⟨m,cur⟩:=x;obtain⟨⟨h1,h2,h3,h4⟩,hj1,hmn⟩:=hx
  simp only at h1 h2 h3 h4 hmn
  have hoj:o+j<n:=by omega
  have hjc:o+j<cur.length:=by omega
  have hjc':o+(j-1)<cur.length:=by omega
  have hmc:m<cur.length:=by omega
  have hg':gL tV cur (o+(j-1))=gL tV l (o+j-1):=by rw[show o+(j-1)=o+j-1 by omega];exact vb9 tV h3
  have hd1:cur.drop (o+j)=l.drop (o+j):=by have:=ob3 h3 1;rw[show o+j-1+1=o+j by omega] at this;exact this
  have hg:gL tV cur (o+j)=gL tV l (o+j):=vb9 tV hd1;have hWm:W ((m:Int)+1)=((m+1:Nat):Int):=by rw[aa8 (by omega) (by omega)];omega
  have hWj:W ((j:Int)-1)=((j-1:Nat):Int):=by rw[aa8 (by omega) (by omega)];omega
  have hb:Nat.blt m cur.length=true:=by rw[Qch];exact hmc
  have hrow:k8 (bL tV cur) m=tV.row (gL tV cur m):=W7 tV hmc;have sp:∀(v:V3) (x1 x2 x3:Int),Q9 (tV.row v) 0 [i x1,i x2,i x3]=tV.row ⟨x1,x2,x3⟩:=λ_ _ _ _=>rfl
  have rl:∀v:V3,Nat.ble 3 (len (tV.row v))=true:=λ_=>rfl
  simp only[l7,G9,Int.toNat_natCast,Qbh,hWj,vc2 tV hjc,vc2 tV hjc',vc1 tV hjc,vc1 tV hjc',K7 hj (show n-o<=4611686018427387904 by omega),hWm,hg,hg',hrow,Ma4,hb,sp,rl,lc3,o2 (show m<n by omega)]
  rw[btD (F8 hj)];simp only[o2 hj,o2 (show j-1<n-o by omega),D9,Qih]
  rw[show ((gL tV l (o+j)).x==(gL tV l (o+j-1)).x&&((gL tV l (o+j)).y==(gL tV l (o+j-1)).y&&((gL tV l (o+j)).z==(gL tV l (o+j-1)).z&&true)))=eqV (gL tV l (o+j)) (gL tV l (o+j-1)) from rfl]
  have hcons:(l.take n).drop (o+j)=gL tV l (o+j)::(l.take n).drop (o+(j+1)):=by
   rw[Qha (by rw[Qia];omega),List.getElem_take,nb0 tV (by omega)]
   rfl
  rw[hcons] at h2;have hlast:o+(j+1)-1=o+j:=by omega
  unfold dvF at h2;cases he:eqV (gL tV l (o+j)) (gL tV l (o+j-1)) with
  |true =>
   rw[he] at h2;simp only[if_true] at h2;refine .nx ⟨(m,cur),rfl,⟨⟨h1,?_,?_,by show m+1<=o+(j+1);omega⟩,by omega,hmn⟩⟩
   ·rw[hlast];exact h2
   ·rw[hlast];exact hd1
  |false =>
   rw[he] at h2;simp only[Qhc,if_false] at h2;refine .nx ⟨(m+1,cur.set m (gL tV l (o+j))),rfl,⟨⟨by rw[Qix];exact h1,?_,?_,by show m+1+1<=o+(j+1);omega⟩,by omega,by show m+1<=n;omega⟩⟩
   ·rw[hlast];show (cur.set m (gL tV l (o+j))).take (m+1)++_=R;rw[Qik (by rw[Qix];exact hmc),Qiaj,List.take_set_of_le (Qac _),List.append_assoc]
    exact h2
   ·rw[hlast];show (cur.set m (gL tV l (o+j))).drop (o+j)=_;rw[List.drop_set_of_lt (by omega),hd1]
 ·obtain⟨m,cur⟩:=x;obtain⟨⟨h1,h2,h3,h4⟩,hj1,hmn⟩:=hx
  simp only at h1 h2 h3 h4 hmn
  refine⟨1,?_,rfl,m,cur,_,rfl,h1,?_,hmn⟩
  ·simp only[l7,G9];rw[bfD (by omega)]
  ·rw[Qiai (by rw[Qia];omega)] at h2
   unfold dvF at h2;rw[Qbad] at h2;exact h2
theorem qc0(l:List V3)(n:Nat)(hn:n<=l.length)(hl:l.length<=1000000000) :
  ∃m r,C6 ⟨n,bL tV l⟩=⟨1,m,bL tV r⟩/\m<=r.length/\r.take m=ddV (l.take n)/\r.length=l.length:=by
 unfold C6 ba1
 simp only
 by_cases h2:(n:Int)<2
 ·rw[btD h2];refine⟨n,l,rfl,hn,?_,rfl⟩
  have:n=0\/n=1:=by omega
  rcases this with rfl|rfl
  ·rfl
  ·cases l with
   |nil=>rfl
   |cons x l=>rfl
 ·rw[bfD h2];have h1n:1<=n:=by omega
  have hI : ∀ j, j < n → 1 ≤ j → l.take j ++ dvF (gL tV l (j - 1)) ((l.take n).drop j) = ddV (l.take n) →
    (eqV (gL tV l j) (gL tV l (j-1))=true->bd3 l n l j (j+1) (ddV (l.take n)))/\(eqV (gL tV l j) (gL tV l (j-1))=false->l.take (j+1)++dvF (gL tV l (j+1-1)) ((l.take n).drop (j+1))=ddV (l.take n)):=by
   intro j hj hj1 hR;have hcons:(l.take n).drop j=gL tV l j::(l.take n).drop (j+1):=by
    rw[Qha (by rw[Qia];omega),List.getElem_take,nb0 tV (by omega)]
   rw[hcons] at hR;unfold dvF at hR;constructor
   ·intro he;rw[he] at hR;simp only[if_true] at hR;exact⟨rfl,hR,rfl,Qac _⟩
   ·intro he;rw[he] at hR;simp only[Qhc,if_false] at hR;rw[Fb2 tV (show j<l.length by omega),List.append_assoc]
    exact hR
  have inner:∀k,k<n->1<=k->bd3 l n l k (k+1) (ddV (l.take n))->∃m' cur' k',lp (l7 ⟨n,0+k,n-k⟩) ⟨(k:Int),1,bL tV l⟩=(1,⟨((m':Nat):Int),k',bL tV cur'⟩)/\cur'.length=l.length/\cur'.take m'=ddV (l.take n)/\m'<=n:=by
   intro k hk hk1 hc;obtain⟨t,s,e1,rfl,m',cur',k',rfl,e2,e3,e4⟩:=Rb2 l n k hn hl hk k l _ hc;exact⟨m',cur',k',e1,e2,e3,e4⟩
  have key:=ha2 (step:=C5 ⟨n,bL tV l⟩) (mk:=λj (_:Unit)=>(⟨(j:Int)⟩:n5)) n (λj _=>1<=j/\j<=n/\l.take j++dvF (gL tV l (j-1)) ((l.take n).drop j)=ddV (l.take n))
   (λt s=>(t=1/\∃k:Nat,s=⟨(k:Int)⟩/\k<n/\1<=k/\bd3 l n l k (k+1) (ddV (l.take n)))\/(t=2/\l.take n=ddV (l.take n))) (by omega) (λj x hj hx=>?_) (λj x hj hx=>?_) 1 () ⟨Qac _,h1n,by
    cases l with
    |nil=>simp only[List.length_nil] at hn;omega
    |cons x l =>
     cases n with
     |zero=>omega
     |succ n=>rfl⟩
  ·obtain⟨t,s,e1,e2⟩:=key;rw[show (⟨1⟩:n5)=⟨((1:Nat):Int)⟩ from rfl,e1]
   rcases e2 with⟨rfl,k,rfl,hk,hk1,hc⟩|⟨rfl,he⟩
   ·obtain⟨m',cur',k',e2,e3,e4,e5⟩:=inner k hk hk1 hc;simp only[Int.toNat_natCast,e2];simp only[Qbh,Nat.sub_zero];refine⟨m',cur'.take m'++(List.replicate (n-m') ⟨0,0,0⟩++cur'.drop (m'+(n-m'))),?_,?_,?_,?_⟩
    ·rw[pc8,pc9,Ob7,Ta5,Ta5];rfl
    ·rw[Qdf,Qia,e3];omega
    ·rw[Qin (by rw[Qia,e3];omega),Qiak,Nat.min_self,e4]
    ·rw[Qdf,Qdf,Qia,Qbt,Qbr,e3];omega
   ·exact⟨n,l,rfl,hn,he,rfl⟩
  ·obtain⟨hj1,hjn,hR⟩:=hx;obtain⟨i1,i2⟩:=hI j hj hj1 hR;have hWj:W ((j:Int)-1)=((j-1:Nat):Int):=by rw[aa8 (by omega) (by omega)];omega
   have hjl:j<l.length:=by omega
   have hjl':j-1<l.length:=by omega
   simp only[C5,H4,Int.toNat_natCast,hWj,ec9 hjl,ec9 hjl',Ob6 hjl,Ob6 hjl',K7 hj (show n<=4611686018427387904 by omega)]
   rw[btD (F8 hj),bt (o2 hj),bt (o2 (show j-1<n by omega)),bt (o2 (show j<n+1 by omega))]
   simp only[D9];rw[show ((gL tV l j).x==(gL tV l (j-1)).x&&((gL tV l j).y==(gL tV l (j-1)).y&&((gL tV l j).z==(gL tV l (j-1)).z&&true)))=eqV (gL tV l j) (gL tV l (j-1)) from rfl]
   cases he:eqV (gL tV l j) (gL tV l (j-1)) with
   |false=>exact .nx ⟨(),rfl,by omega,by omega,i2 he⟩
   |true =>
    obtain⟨m',cur',k',e2,e3,e4,e5⟩:=inner j hj hj1 (i1 he);rw[e2];simp only[o2 (show m'<n+1 by omega)]
    exact .ex (.inl ⟨rfl,j,rfl,hj,hj1,i1 he⟩)
  ·obtain⟨hj1,hjn,hR⟩:=hx;refine⟨2,?_,.inr ⟨rfl,?_⟩⟩
   ·simp only[C5,H4];rw[bfD (by omega)]
   ·have:j=n:=by omega
    subst this;rw[Qiai (by rw[Qia];omega)] at hR
    unfold dvF at hR;rw[Qbad] at hR;exact hR
def bd4(l:List V3):Prop:=l.Pairwise LtV
theorem Za6{x y z:V3}(h1:LtV x y)(h2:LtV y z):LtV x z:=by unfold LtV at *;omega
theorem pb1(x:V3):¬ LtV x x:=by unfold LtV;omega
theorem Fc0(x y:V3):LtV x y\/x=y\/LtV y x:=by
 by_cases h1:LtV x y
 ·exact .inl h1
 ·by_cases h2:LtV y x
  ·exact .inr (.inr h2)
  ·refine .inr (.inl ?_);unfold LtV at h1 h2;exact V3.ext' (by omega) (by omega) (by omega)
theorem yc3(l:List V3):List.Perm (Pa6 l) l:=List.mergeSort_perm l _
theorem Nc6(x y z:V3)(h1:(!ltOf Ha0 y x)=true)(h2:(!ltOf Ha0 z y)=true):(!ltOf Ha0 z x)=true:=by
 rw[ia9] at *
 simp only[Qdb,decide_eq_false_iff_not] at *
 unfold LtV at *
 omega
theorem Nc7(x y:V3):((!ltOf Ha0 y x)||(!ltOf Ha0 x y))=true:=by
 rw[ia9,ia9];by_cases h:LtV y x
 ·have h2:¬ LtV x y:=λh2=>pb1 x (Za6 h2 h)
  simp[h2]
 ·simp[h]
theorem fc0(l:List V3):(Pa6 l).Pairwise λx y=>(!ltOf Ha0 y x)=true:=Qiag Nc6 Nc7 l
theorem Fc1(p:V3):∀(a:V3) (l:List V3),p∈a::dvF a l↔p∈a::l
 |a,[]=>by simp[dvF]
 |a,x::l=>by
  have ih:=Fc1 p x l;unfold dvF;split
  ·rename_i h;rw[ec8] at h;subst h;rw[ih];simp
  ·simp only[Qbp] at ih ⊢;rw[ih]
theorem Kd8(p:V3):∀l:List V3,p∈ddV l↔p∈l
 |[]=>Iff.rfl
 |x::l=>Fc1 p x l
theorem Fc2:∀(a:V3) (l:List V3),(a::l).Pairwise (λx y=>(!ltOf Ha0 y x)=true)->bd4 (a::dvF a l)
 |a,[],_=>Qiah _ _
 |a,x::l,h=>by
  obtain⟨h1,h2⟩:=Qid.1 h;have ih:=Fc2 x l h2;have hle:=h1 x Qck;rw[ia9] at hle;have hle:¬ LtV x a:=by simpa using hle
  unfold dvF;split
  ·rename_i he;rw[ec8] at he;subst he;exact ih
  ·rename_i hne;have hlt:LtV a x:=by
    rcases Fc0 a x with h|h|h
    ·exact h
    ·exact absurd ((ec8 _ _).2 h.symm) hne
    ·exact absurd h hle
   refine Qid.2 ⟨λp hp=>?_,ih⟩
   rcases Qbp.1 hp with e|hp'
   ·subst e;exact hlt
   ·exact Za6 hlt ((Qid.1 ih).1 p hp')
theorem bd5(l:List V3):bd4 (ddV (Pa6 l)):=by
 have h:=fc0 l;cases hs:Pa6 l with
 |nil=>exact .nil
 |cons a l'=>rw[hs] at h;exact Fc2 a l' h
def dis(l:List V3):List V3:=ddV (Pa6 l)
theorem pb2(l:List V3)(v:V3):v∈dis l↔v∈l:=by unfold dis;rw[Kd8,(yc3 l).mem_iff]
theorem Nc8(l:List V3):(dis l).Nodup:=List.Pairwise.imp (λ{x y} (h:LtV x y) (e:x=y)=>pb1 y (e ▸ h)) (bd5 l)
theorem Fc3(l:List V3):(dis l).length<=l.length:=by
 have:=List.Nodup.length_le_of_subset (Nc8 l) (λv hv=>(pb2 l v).1 hv)
 exact this
theorem Xb0(l:List V3)(n:Nat)(hn:n<=l.length):slR tV (bL tV l) 0 n=l.take n:=Jb0 tV (by rw[Qia];omega) λk hk=>by
 rw[Qbh,W7 tV (by omega)]
 congr 1;simp[gL,Qda,Qbe,hk]
theorem wb1(l:List V3)(n:Nat)(hn:n<=l.length):okS tV (bL tV l) 0 n=true:=Ma3 tV (f:=λk=>gL tV l k) λk hk=>by rw[Qbh,W7 tV (by omega)]
theorem Xb1(a:V3)(l:List V3)(hl:l.length<=1000000):N6 (a,l)=⟨1,(a::l).length,bL tV (a::l)⟩:=by
 have ec:i9 (λk=>tV.row (gL tV (a::l) k)) (List.range (l.length+1))=bL tV (a::l):=Tc1 tV (a::l)
 unfold N6 ia0;simp only[ec,Ma4];have r:Nat.ble ((0+(a::l).length)*24) room=true:=by rw[Qiad];unfold room;simp only[List.length_cons];omega
 rw[r,Qbh];rfl
theorem pb3(a:V3)(l:List V3)(hl:l.length<=1000000):∃m r,C6 ⟨(a::l).length,app (bL tV (Pa6 (slR tV (bL tV (a::l)) 0 (a::l).length))) (g8 (bL tV (a::l)) (a::l).length)⟩=⟨1,m,bL tV r⟩/\m<=r.length/\r.take m=dis (a::l)/\r.length=l.length+1:=by
 have hs:(Pa6 (a::l)).length=(a::l).length:=Wb5 _;rw[vc3,Ob7,Ta5];obtain⟨m,r,k1,k2,k3,k4⟩:=qc0 (Pa6 (a::l)++(a::l).drop (a::l).length) (a::l).length (by rw[Qdf,hs];omega) (by rw[Qdf,hs,Qbr];simp only[List.length_cons];omega)
 refine⟨m,r,k1,k2,?_,by rw[k4,Qdf,hs,Qbr];simp only[List.length_cons];omega⟩
 rw[k3,Qin (by rw[hs];omega),List.take_of_length_le (by rw[hs];omega)]
 rfl
theorem qc1(l:List V3)(hl:l.length<=2000000)(r:List V3):(Bool.and (Nat.ble l.length room) (Bool.and (Nat.ble l.length (len (bL tV (l++r)))) (okS tV (bL tV (l++r)) 0 l.length)))=true:=by
 rw[wb1 _ _ (by rw[Qdf];omega),Ma4,Qbd,Qbd,Qiad,Qiad]
 refine⟨by unfold room;omega,by rw[Qdf];omega,rfl⟩
theorem yb6(a:V3)(l:List V3)(hl:l.length<=1000000):Rd (one (r1L tV)) (V8 (a,l)) (λr=>r=dis (a::l)):=by
 obtain⟨m,r,k1,k2,k3,_⟩:=pb3 a l hl;have hok:okL tV (l.length+1) (λk=>tV.row (gL tV (a::l) k))=true:=Ma3 tV (f:=λk=>gL tV (a::l) k) λ_ _=>rfl
 have hr:=qc1 (a::l) (by simp only[List.length_cons];omega) []
 rw[Qbad] at hr;unfold V8;simp only[Bc8,Bc9,Xb1 a l hl,hok,k1,D9,Nat.beq_refl,hr];refine⟨_,r.take m,rfl,?_,k3⟩;show Bool.rec (motive:=λ_=>Option (List V3)) none (some (slR tV (bL tV r) 0 m)) (Bool.and true (okS tV (bL tV r) 0 m))=_
 rw[Xb0 r m k2,wb1 r m k2];rfl
theorem yc4(a:V3)(l:List V3)(hl:l.length<=1000000):sa9 (a,l)=dis (a::l):=(yb6 a l hl).p
theorem yc5(a:V3)(l:List V3)(hl:l.length<=1000000):ta0 (a,l)=true:=(yb6 a l hl).g
end Go.Ev.Ce
namespace Go.Ev.Ce
open Go Go.Ev Go.Ev.L Go.Proofs
theorem qc2(p:Pln)(v:V3):la5 p v=some (i (Y9 p v),[]):=by
 unfold la5 Y9;simp only[pd3,pd4,(vb8 v).1,(vb8 v).2,Ec0,Ec1,D9];cases hp:okp p with
 |false=>rfl
 |true =>
  cases hv:inV v with
  |false=>rfl
  |true =>
   have hb:=xc7 hp;have hd:=Jd8 hb hv;have e:E9 p.n v=dot p.n v:=by
    unfold E9;simp only[Nb0,dc8];exact vb4 (hd.mono (by omega))
   rw[e];simp only[Bool.not_true,lc2,Qih,if_true,Fa6];by_cases h1:dot p.n v<p.b
   ·rw[if_pos h1,if_pos (by omega)]
   ·rw[if_neg h1];by_cases h2:dot p.n v>p.b
    ·rw[if_pos h2,if_neg (by omega),if_pos (by omega)]
    ·rw[if_neg h2,if_neg (by omega),if_neg (by omega)]
theorem Fb3(p:Pln)(v:V3):U5 p v=Y9 p v:=by unfold U5;rw[qc2];rfl
theorem Fb4(p:Pln)(v:V3):U6 p v=true:=by unfold U6;rw[qc2];rfl
theorem qd3{v:V3}(h1:Sm 1000000000000000000 v.x)(h2:Sm 1000000000000000000 v.y)(h3:Sm 1000000000000000000 v.z):J4 [v.x,v.y,v.z]=g3 v/\J5 [v.x,v.y,v.z]=true:=by
 have hd:=Ob0 [v.x,v.y,v.z] (by simp) (by
  intro x hx;simp only[Qbp,Qiae,or_false] at hx
  rcases hx with rfl|rfl|rfl<;>assumption)
 have hg:([v.x,v.y,v.z].foldl (λg x=>Nat.gcd g x.natAbs) 0:Nat)=Nat.gcd (Nat.gcd v.x.natAbs v.y.natAbs) v.z.natAbs:=by
  simp only[List.foldl_cons,List.foldl_nil,Qiab]
 exact⟨by unfold J4;rw[hd,hg];rfl,by unfold J5;rw[hd];rfl⟩
theorem bd6{v:V3}(h1:Sm 1000000000000000000 v.x)(h2:Sm 1000000000000000000 v.y)(h3:Sm 1000000000000000000 v.z) :
  la4 v=if g3 v=0 then some (.tup [.agg (tV.row ⟨0,0,0⟩),i 0],[]) else some (.tup [.agg (tV.row ⟨W (Int.tdiv v.x (g3 v)),W (Int.tdiv v.y (g3 v)),W (Int.tdiv v.z (g3 v))⟩),i (g3 v)],[]):=by
 obtain⟨e1,e2⟩:=qd3 h1 h2 h3;unfold la4;simp only[e1,e2,D9];by_cases h:g3 v=0
 ·rw[if_pos h,bt (by simpa using h)];rfl
 ·rw[if_neg h,bf (by simpa using h),bf (by simpa using h),bf (by simpa using h),bf (by simpa using h)];rfl
theorem yb7(a c d:V3):V6 a c d=some (.tup [.agg (tP.row (C4 a c d).1),b (C4 a c d).2],[]):=by
 unfold V6 C4;simp only[(vb8 _).1,(vb8 _).2];cases ha:inV a with
 |false=>rfl
 |true =>
  cases hc:inV c with
  |false=>rfl
  |true =>
   cases hd:inV d with
   |false=>rfl
   |true =>
    obtain⟨e,k1,k2,k3⟩:=Ha5 ha hc hd;have e':L0 (Z8 c a) (Z8 d a)=c9 (sub c a) (sub d a):=e;rw[e'];generalize c9 (sub c a) (sub d a)=n at *
    have m1:=k1.mono (m:=1000000000000000000) (by omega)
    have m2:=k2.mono (m:=1000000000000000000) (by omega)
    have m3:=k3.mono (m:=1000000000000000000) (by omega)
    have hpr:=bd6 m1 m2 m3;have gp:va1 n=true:=by unfold va1;rw[hpr];split<;>rfl
    by_cases h0:g3 n=0
    ·have pp:ca9 n=(⟨0,0,0⟩,0):=by unfold ca9;rw[hpr,if_pos h0];rfl
     have hz:E9 ⟨0,0,0⟩ a=0:=by unfold E9;simp only[Qio];rfl
     simp only[gp,pp,hz,Qih,if_true,h0];rfl
    ·have hp:=Za4 n;have q1:=wa6 (g:=g3 n) k1 (by omega)
     have q2:=wa6 (g:=g3 n) k2 (by omega)
     have q3:=wa6 (g:=g3 n) k3 (by omega)
     rw[vb4 (q1.mono (by omega)),vb4 (q2.mono (by omega)),vb4 (q3.mono (by omega))] at hpr
     have pp:ca9 n=(⟨Int.tdiv n.x (g3 n),Int.tdiv n.y (g3 n),Int.tdiv n.z (g3 n)⟩,g3 n):=by unfold ca9;rw[hpr,if_neg h0];rfl
     have hdot:E9 ⟨Int.tdiv n.x (g3 n),Int.tdiv n.y (g3 n),Int.tdiv n.z (g3 n)⟩ a=dot ⟨Int.tdiv n.x (g3 n),Int.tdiv n.y (g3 n),Int.tdiv n.z (g3 n)⟩ a:=by
      unfold E9;simp only[Nb0,dc8];obtain⟨⟨a1,a2⟩,⟨a3,a4⟩,a5,a6⟩:=(Oa2 a).1 ha;have r1:=mb q1.1 q1.2 a1 a2;have r2:=mb q2.1 q2.2 a3 a4;have r3:=mb q3.1 q3.2 a5 a6;rw[aa8 (by omega) (by omega)]
      rfl
     simp only[gp,pp,hdot,Qih,if_true,h0,if_false,show g3 n>0 from by omega,decide_true]
     rfl
theorem Oa3(a b c:V3):v8 a b c=C4 a b c:=by unfold v8;rw[yb7];rfl
theorem gb9(a b c:V3):P1 a b c=true:=by unfold P1;rw[yb7];rfl
theorem bd7(v:V3)(p:Pln):pa5 ⟨v.x,v.y,v.z,p.n.x,p.n.y,p.n.z,p.b⟩=⟨1,Y9 p v != 0⟩:=by
 unfold pa5 Ga3;simp only[Fb3,Fb4,D9]
theorem qd4(l:List V3)(p:Pln)(hl:l.length<=1000000000):I1 ⟨l,p.n.x,p.n.y,p.n.z,p.b⟩=⟨1,if l.any (λv=>Y9 p v != 0) then ((l.findIdx (λv=>Y9 p v != 0):Nat):Int) else -1⟩:=by
 have h:=Ea0 (step:=s9 ⟨l,(l.length:Int),p.n.x,p.n.y,p.n.z,p.b⟩) (mk:=λj=>(⟨(j:Int)⟩:j5)) (c:=λv=>Y9 p v != 0) (u:=1) (fin:=2) tV l hl
  (λj hj=>by
   simp only[s9,C9,Int.toNat_natCast,bd7,K7 hj (by omega)]
   rw[bt (Nb1 hj),bt (o2 hj)]
   rfl)
  (by simp only[s9,C9];rw[bf (mb9 (Qeb _))]) 0 (Qec _)
 rw[Qie] at h;unfold I1 S3;simp only[r7,p9];rw[show (⟨0⟩:j5)=⟨((0:Nat):Int)⟩ from rfl,h]
 split
 ·simp only[Qbh];rfl
 ·rfl
theorem Fc4(l:List V3)(p:Pln)(hl:l.length<=1000000000):l5 ⟨l,p.n.x,p.n.y,p.n.z,p.b⟩=⟨1,l.any λv=>Y9 p v != 0⟩:=by
 unfold l5 M8;simp only[r7,p9,qd4 l p hl];split
 ·rename_i h;rw[h,show decide (((l.findIdx (λv=>Y9 p v != 0):Nat):Int)>=0)=true from decide_eq_true (by omega)];rfl
 ·rename_i h;rw[Qiq] at h;rw[h];rfl
theorem qd5(v:V3)(p:Pln):ga8 ⟨v.x,v.y,v.z,p.n.x,p.n.y,p.n.z,p.b⟩=⟨1,decide (Y9 p v>0)⟩:=by
 unfold ga8 sa6;simp only[Fb3,Fb4,D9]
theorem qd6(l:List V3)(p:Pln)(hl:l.length<=1000000000):I4 ⟨l,p.n.x,p.n.y,p.n.z,p.b⟩=⟨1,if l.any (λv=>decide (Y9 p v>0)) then ((l.findIdx (λv=>decide (Y9 p v>0)):Nat):Int) else -1⟩:=by
 have h:=Ea0 (step:=u7 ⟨l,(l.length:Int),p.n.x,p.n.y,p.n.z,p.b⟩) (mk:=λj=>(⟨(j:Int)⟩:j5)) (c:=λv=>decide (Y9 p v>0)) (u:=1) (fin:=2) tV l hl
  (λj hj=>by
   simp only[u7,D0,Int.toNat_natCast,qd5,K7 hj (by omega)]
   rw[bt (Nb1 hj),bt (o2 hj)]
   rfl)
  (by simp only[u7,D0];rw[bf (mb9 (Qeb _))]) 0 (Qec _)
 rw[Qie] at h;unfold I4 S8;simp only[r7,p9];rw[show (⟨0⟩:j5)=⟨((0:Nat):Int)⟩ from rfl,h]
 split
 ·simp only[Qbh];rfl
 ·rfl
theorem qd7(l:List V3)(p:Pln)(hl:l.length<=1000000000):E1 ⟨l,p.n.x,p.n.y,p.n.z,p.b⟩=⟨1,l.any λv=>decide (Y9 p v>0)⟩:=by
 unfold E1 N1;simp only[r7,p9,qd6 l p hl];split
 ·rename_i h;rw[h,show decide (((l.findIdx (λv=>decide (Y9 p v>0)):Nat):Int)>=0)=true from decide_eq_true (by omega)];rfl
 ·rename_i h;rw[Qiq] at h;rw[h];rfl
def bey(l:List V3)(p:Pln):Bool:=l.any λv=>decide (Y9 p v>0)
theorem Xb2(l:List V3)(p:Pln)(hl:l.length<=1000000000):fa3 l p=some (b (bey l p),[]):=by
 unfold fa3;simp only[r7,p9,qd7 l p hl];rfl
theorem bd8(l:List V3)(p:Pln)(hl:l.length<=1000000000):L4 l p=bey l p:=by unfold L4;rw[Xb2 l p hl];rfl
theorem bd9(l:List V3)(p:Pln)(hl:l.length<=1000000000):L5 l p=true:=by unfold L5;rw[Xb2 l p hl];rfl
theorem Xb3{α:Type}(t:Ty α)(l:List α){j k:Nat}(h:k<j):gL t (l.take j) k=gL t l k:=by
 simp[gL,Qda,Qbe,h]
theorem cd0(l:List V3)(i j:Nat)(hi:i<l.length)(hj:j<i)(hl:l.length<=1000000) :
  lp (E0 ⟨(i:Int),(j:Int),(l.length:Int),(i:Int),(i:Int),(j:Int),(j:Int),l,l⟩) ⟨0⟩ =
   if (l.take j).any (λv=>(C4 v (gL tV l j) (gL tV l i)).2) then (1,⟨((l.take j).findIdx (λv=>(C4 v (gL tV l j) (gL tV l i)).2):Nat)⟩) else (2,⟨(j:Int)⟩):=by
 have hlen:(l.take j).length=j:=by rw[Qia];omega
 have h:=Ea0 (step:=E0 ⟨(i:Int),(j:Int),(l.length:Int),(i:Int),(i:Int),(j:Int),(j:Int),l,l⟩) (mk:=λk=>(⟨(k:Int)⟩:w8)) (c:=λv=>(C4 v (gL tV l j) (gL tV l i)).2) (u:=1) (fin:=2) tV (l.take j) (by omega)
  (λk hk=>by
   rw[hlen] at hk;simp only[E0,ga5,Int.toNat_natCast,Oa3,gb9,Xb3 tV l hk,r7,p9,Fc4 l _ (show l.length<=1000000000 by omega),K7 hk (by omega)]
   rw[btD (F8 hk),bt (o2 (by omega)),bt (o2 (by omega)),bt (o2 hi),D9]
   cases (C4 (gL tV l k) (gL tV l j) (gL tV l i)).2<;>rfl)
  (by rw[hlen];simp only[E0,ga5];rw[bfD (N7 (Qeb _))]) 0 (Qec _)
 rw[Qie,hlen] at h;rw[show (⟨0⟩:w8)=⟨((0:Nat):Int)⟩ from rfl,h]
 split
 ·simp only[Qbh]
 ·rfl
def ixs(n:Nat):List Int:=(List.range n).map λk:Nat=>(k:Int)
theorem wa7(n:Nat):(ixs n).length=n:=by simp[ixs]
theorem Fc5{n k:Nat}(h:k<n):gL tI (ixs n) k=(k:Int):=by
 simp[gL,ixs,Qda,Qbm,List.getElem?_range h]
def sp2(l:List V3)(i:Nat)(m:Int):Bool:=(l.take m.toNat).any λv=>(C4 v (gL tV l m.toNat) (gL tV l i)).2
theorem cd1(l:List V3)(i:Nat)(hi:i<l.length)(hl:l.length<=1000000) :
  lp (H7 ⟨(i:Int),(l.length:Int),(i:Int),(i:Int)⟩) ⟨0,l,l⟩=if (ixs i).any (sp2 l i) then (1,⟨((ixs i).findIdx (sp2 l i):Nat),l,l⟩) else (2,⟨(i:Int),l,l⟩):=by
 have h:=Ea0 (step:=H7 ⟨(i:Int),(l.length:Int),(i:Int),(i:Int)⟩) (mk:=λj=>(⟨(j:Int),l,l⟩:B9)) (c:=sp2 l i) (u:=1) (fin:=2) tI (ixs i) (by rw[wa7];omega)
  (λj hj=>by
   rw[wa7] at hj;simp only[H7,ga6,Int.toNat_natCast,Nat.sub_zero,r7,p9,cd0 l i j hi hj hl,K7 hj (by omega),Fc5 hj]
   rw[btD (F8 hj),bt (o2 (by omega))]
   unfold sp2;simp only[Int.toNat_natCast];cases ((l.take j).any λv=>(C4 v (gL tV l j) (gL tV l i)).2)<;>rfl)
  (by rw[wa7];simp only[H7,ga6];rw[bfD (N7 (Qeb _))]) 0 (Qec _)
 rw[Qie,wa7] at h;rw[show (⟨0,l,l⟩:B9)=⟨((0:Nat):Int),l,l⟩ from rfl,h]
 split
 ·simp only[Qbh]
 ·rfl
def sp1(l:List V3)(m:Int):Bool:=(ixs m.toNat).any (sp2 l m.toNat)
theorem Kd9(l:List V3)(hl:l.length<=1000000) :
  lp (S5 ⟨(l.length:Int)⟩) ⟨0,l,l⟩=if (ixs l.length).any (sp1 l) then (1,⟨((ixs l.length).findIdx (sp1 l):Nat),l,l⟩) else (2,⟨(l.length:Int),l,l⟩):=by
 have h:=Ea0 (step:=S5 ⟨(l.length:Int)⟩) (mk:=λj=>(⟨(j:Int),l,l⟩:G8)) (c:=sp1 l) (u:=1) (fin:=2) tI (ixs l.length) (by rw[wa7];omega)
  (λi hi=>by
   rw[wa7] at hi;simp only[S5,ga7,Int.toNat_natCast,Nat.sub_zero,r7,p9,cd1 l i hi hl,K7 hi (by omega),Fc5 hi]
   rw[btD (F8 hi),bt (o2 (by omega))]
   unfold sp1;simp only[Int.toNat_natCast];cases (ixs i).any (sp2 l i)<;>rfl)
  (by rw[wa7];simp only[S5,ga7];rw[bfD (N7 (Qeb _))]) 0 (Qec _)
 rw[Qie,wa7] at h;rw[show (⟨0,l,l⟩:G8)=⟨((0:Nat):Int),l,l⟩ from rfl,h]
 split
 ·simp only[Qbh]
 ·rfl
theorem fc1{α:Type}{l:List α}{c:α->Bool}(h:l.any c=true):l.findIdx c<l.length:=by
 obtain⟨x,h1,h2⟩:=Qib.1 h;exact Qit ⟨x,h1,h2⟩
theorem Za7{n:Nat}{c:Int->Bool}(h:(ixs n).any c=true):(ixs n).findIdx c<n/\c ((ixs n).findIdx c:Nat)=true:=by
 have hlt:=fc1 h;have h1:=Qir (xs:=ixs n) (p:=c) (w:=hlt);rw[wa7] at hlt;refine⟨hlt,?_⟩;simpa [ixs] using h1
def iF(l:List V3):Nat:=(ixs l.length).findIdx (sp1 l)
def jF(l:List V3):Nat:=(ixs (iF l)).findIdx (sp2 l (iF l))
def kF(l:List V3):Nat:=(l.take (jF l)).findIdx (λv=>(C4 v (gL tV l (jF l)) (gL tV l (iF l))).2)
def plF(l:List V3):Pln:=(C4 (gL tV l (kF l)) (gL tV l (jF l)) (gL tV l (iF l))).1
def db6(l:List V3):Bool:=if (ixs l.length).any (sp1 l) then !(l.any λv=>Y9 (plF l) v != 0) else true
theorem qc3(l:List V3)(hl:l.length<=1000000):qa3 l=some (b (db6 l),[]):=by
 unfold qa3 db6;simp only[r7,p9];rw[Kd9 l hl];by_cases h:(ixs l.length).any (sp1 l)=true
 ·obtain⟨hi,h1⟩:=Za7 h;have h1:(ixs (iF l)).any (sp2 l (iF l))=true:=h1;obtain⟨hj,h2⟩:=Za7 h1;have h2:(l.take (jF l)).any (λv=>(C4 v (gL tV l (jF l)) (gL tV l (iF l))).2)=true:=h2
  rw[if_pos h,if_pos h];simp only[Int.toNat_natCast,Nat.sub_zero];rw[show (ixs l.length).findIdx (sp1 l)=iF l from rfl,cd1 l (iF l) hi hl,if_pos h1]
  simp only[Int.toNat_natCast,Nat.sub_zero];rw[show (ixs (iF l)).findIdx (sp2 l (iF l))=jF l from rfl,cd0 l (iF l) (jF l) hi hj hl,if_pos h2]
  simp only[Int.toNat_natCast,Oa3];rw[show (l.take (jF l)).findIdx (λv=>(C4 v (gL tV l (jF l)) (gL tV l (iF l))).2)=kF l from rfl,show (C4 (gL tV l (kF l)) (gL tV l (jF l)) (gL tV l (iF l))).1=plF l from rfl,Fc4 l _ (by omega)]
  rfl
 ·rw[if_neg h,if_neg h];rfl
theorem qd8(l:List V3)(hl:l.length<=1000000):Da7 l=db6 l:=by unfold Da7;rw[qc3 l hl];rfl
theorem qd9(l:List V3)(hl:l.length<=1000000):Da8 l=true:=by unfold Da8;rw[qc3 l hl];rfl
theorem Xb4(v:V3):aa3 v=some (b (!inV v),[]):=by
 unfold aa3;simp only[(vb8 v).1,(vb8 v).2,D9]
theorem cd2(v:V3):la6 v=!inV v:=by unfold la6;rw[Xb4];rfl
theorem cd3(v:V3):la7 v=true:=by unfold la7;rw[Xb4];rfl
theorem rd0(l:List V3)(hl:l.length<=1000000000):I5 ⟨l⟩=⟨1,if l.any (λv=>!inV v) then ((l.findIdx (λv=>!inV v):Nat):Int) else -1⟩:=by
 have h:=Ea0 (step:=u9 ⟨l,(l.length:Int)⟩) (mk:=λj=>(⟨(j:Int)⟩:j5)) (c:=λv=>!inV v) (u:=1) (fin:=2) tV l hl
  (λj hj=>by
   simp only[u9,D1,Int.toNat_natCast,cd2,cd3,K7 hj (by omega)]
   rw[bt (Nb1 hj),bt (o2 hj),D9])
  (by simp only[u9,D1];rw[bf (mb9 (Qeb _))]) 0 (Qec _)
 rw[Qie] at h;unfold I5 T1;simp only[r7,p9];rw[show (⟨0⟩:j5)=⟨((0:Nat):Int)⟩ from rfl,h]
 split
 ·simp only[Qbh];rfl
 ·rfl
theorem rd1(l:List V3)(hl:l.length<=1000000000):E2 ⟨l⟩=⟨1,l.any λv=>!inV v⟩:=by
 unfold E2 N5;simp only[r7,p9,rd0 l hl];split
 ·rename_i h;rw[h,show decide (((l.findIdx (λv=>!inV v):Nat):Int)>=0)=true from decide_eq_true (by omega)];rfl
 ·rename_i h;rw[Qiq] at h;rw[h];rfl
def qa8(l:List V3):Int:=if (l.length:Int)>48 then 2 else if l.any (λv=>!inV v) then 3 else if db6 l then 11 else 0
theorem Xb5(l:List V3)(hl:l.length<=1000000):la8 l=some (i (qa8 l),[]):=by
 unfold la8 qa8;simp only[r7,p9,Ta4,rd1 l (by omega),qd8 l hl,qd9 l hl]
 by_cases h:(l.length:Int)>48
 ·rw[btD h,if_pos h]
 ·rw[bfD h,if_neg h];cases l.any λv=>!inV v with
  |true=>rfl
  |false=>cases db6 l<;>rfl
theorem pb4(l:List V3)(hl:l.length<=1000000):da0 l=qa8 l:=by unfold da0;rw[Xb5 l hl];rfl
theorem pb5(l:List V3)(hl:l.length<=1000000):da1 l=true:=by unfold da1;rw[Xb5 l hl];rfl
theorem cd4{p:Pln}(h:Bd p):ca8 p=da7 p:=by
 unfold ca8 Z8 da7
 simp only
 have:=h.x1;have:=h.x2;have:=h.y1;have:=h.y2;have:=h.z1;have:=h.z2;have:=h.b1;have:=h.b2
 rw[aa8 (by omega) (by omega),aa8 (by omega) (by omega),aa8 (by omega) (by omega),aa8 (by omega) (by omega)]
 simp only[Int.zero_sub]
def fc2(p:Pln):List a7:=[i p.n.x,i p.n.y,i p.n.z,i p.b,b true]
def Ea6(l:PLq):List (List a7):=l.map fc2
theorem Xb6(x q:Pln):ab1 flK [i x.n.x,i x.n.y,i x.n.z,i x.b] (fc2 q)=eqP q x:=by
 show Bool.and (decide (x.n.x=q.n.x)) (Bool.and (decide (x.n.y=q.n.y)) (Bool.and (decide (x.n.z=q.n.z)) (Bool.and (decide (x.b=q.b)) true)))=_;unfold eqP;have h:∀a c:Int,decide (a=c)=(c==a):=λa c=>by rw[Bool.eq_iff_iff,decide_eq_true_eq,beq_iff_eq];exact eq_comm
 rw[h,h,h,h]
theorem qc4(x:Pln):∀l,Ha7 4 [(0,.int .i64),(1,.int .i64),(2,.int .i64),(3,.int .i64)] [i x.n.x,i x.n.y,i x.n.z,i x.b] (Ea6 l)=ob7 l x
 |[]=>rfl
 |q::l=>by
  have ih:=qc4 x l;unfold Ha7 at ih ⊢;show Option.rec (motive:=λ_=>Bool) false (λr=>toB (hdA (g8 r 4))) (Bool.rec (motive:=λ_=>Option (List a7)) (wb6 flK [i x.n.x,i x.n.y,i x.n.z,i x.b] (Ea6 l)) (some (fc2 q)) (ab1 flK [i x.n.x,i x.n.y,i x.n.z,i x.b] (fc2 q)))=ob7 (q::l) x
  rw[Xb6];unfold ob7 at ih ⊢;rw[List.any_cons];cases eqP q x with
  |true=>rfl
  |false=>exact ih
theorem yc6(x:Pln):∀l,ob7 l x=false->ra4 [(0,.int .i64),(1,.int .i64),(2,.int .i64),(3,.int .i64)] [i x.n.x,i x.n.y,i x.n.z,i x.b] [i x.n.x,i x.n.y,i x.n.z,i x.b,b true] (Ea6 l)=Ea6 (l++[x])
 |[],_=>rfl
 |q::l,h=>by
  unfold ob7 at h;rw[List.any_cons,Bool.or_eq_false_iff] at h;show Bool.rec (motive:=λ_=>List (List a7)) (fc2 q::ra4 flK [i x.n.x,i x.n.y,i x.n.z,i x.b] (fc2 x) (Ea6 l)) (fc2 x::Ea6 l) (ab1 flK [i x.n.x,i x.n.y,i x.n.z,i x.b] (fc2 q))=_
  rw[Xb6,h.1,show ra4 flK [i x.n.x,i x.n.y,i x.n.z,i x.b] (fc2 x) (Ea6 l)=_ from yc6 x l h.2]
  rfl
def hb5(s:PLq)(p:Pln):PLq:=if ob7 s p then s else s++[p]
theorem cd5(s:PLq)(p q:Pln):q∈hb5 s p↔q∈s\/q=p:=by
 unfold hb5;split
 ·rename_i h;rw[pc2] at h;exact⟨.inl,λh'=>h'.elim id λe=>e ▸ h⟩
 ·rw[List.mem_append,List.mem_singleton]
theorem Ob8{s:PLq}{p:Pln}(h:s.Nodup):(hb5 s p).Nodup:=by
 unfold hb5;split
 ·exact h
 ·rename_i hn;rw[pc2] at hn;rw[List.nodup_append];exact⟨h,by simp,λa ha b hb=>by rw[List.mem_singleton.1 hb];intro e;exact hn (e ▸ ha)⟩
theorem qc5(s:PLq)(p:Pln):(hb5 s p).length<=s.length+1:=by
 unfold hb5;split
 ·omega
 ·simp
def fil(l:List V3)(s:PLq):PLq:=s.filter λp=>!bey l p
theorem Fb5(l:List V3)(s:PLq)(p:Pln):fil l (s++[p])=if bey l p then fil l s else fil l s++[p]:=by
 unfold fil;rw[Qim,Qij,List.filter_nil];cases bey l p<;>simp
theorem fc3(l:List V3)(s:PLq):(fil l s).length<=s.length:=Qiu _ _
def db7(l:List V3)(a c:Nat)(s:PLq)(k:Nat):PLq :=
 if (C4 (gL tV l k) (gL tV l c) (gL tV l a)).2 then hb5 (hb5 s (C4 (gL tV l k) (gL tV l c) (gL tV l a)).1) (da7 (C4 (gL tV l k) (gL tV l c) (gL tV l a)).1) else s
def G2(l:List V3)(a:Nat)(s:PLq)(c:Nat):PLq:=(List.range c).foldl (db7 l a c) s
def G1(l:List V3)(s:PLq)(a:Nat):PLq:=(List.range a).foldl (G2 l a) s
def G0(l:List V3):PLq:=(List.range l.length).foldl (G1 l) []
theorem Xb7(l:List V3)(a c:Nat)(s:PLq)(k:Nat):(db7 l a c s k).length<=s.length+2:=by
 unfold db7;split
 ·have h1:=qc5 (hb5 s (C4 (gL tV l k) (gL tV l c) (gL tV l a)).1) (da7 (C4 (gL tV l k) (gL tV l c) (gL tV l a)).1);have h2:=qc5 s (C4 (gL tV l k) (gL tV l c) (gL tV l a)).1;omega
 ·omega
theorem Ld0(l:List V3)(a:Nat)(s:PLq)(c:Nat):(G2 l a s c).length<=s.length+2*c:=Ob3 (Xb7 l a c) s c
theorem yc7(l:List V3)(a:Nat)(s:PLq):∀j,j<=a->a<=48->((List.range j).foldl (G2 l a) s).length<=s.length+96*j
 |0,_,_=>Qac _
 |j+1,h,ha=>by
  rw[A1];have h1:=yc7 l a s j (by omega) ha
  have h2:=Ld0 l a ((List.range j).foldl (G2 l a) s) j;omega
theorem fc4(l:List V3)(hl:l.length<=48):∀j,j<=l.length->((List.range j).foldl (G1 l) []).length<=5000*j
 |0,_=>Qac _
 |j+1,h=>by
  rw[A1];have h1:=fc4 l hl j (by omega)
  have h2:(G1 l ((List.range j).foldl (G1 l) []) j).length<=_:=yc7 l j ((List.range j).foldl (G1 l) []) j (Qac _) (by omega)
  omega
@[reducible] def mkf(l:List V3)(k:Nat)(s:PLq):o8:=⟨phP (fil l s),(k:Int),Ea6 s,(fil l s).length,bL tP (fil l s)⟩
theorem wb2{n:Nat}{l:PLq}(hn:n=l.length)(h:l.length<=1000000000):(Nat.beq n (len (bL tP l))&&Nat.ble ((n+1)*32) room)=true:=by
 subst hn;rw[Ma4,Nat.beq_refl,Bool.true_and];exact od7 (by omega)
theorem Fc6(o:PLq)(x:Pln):phP (o++[x])=1:=by cases o<;>rfl
theorem cd6(l:List V3)(hl:l.length<=48)(a c k:Nat)(ha:a<l.length)(hc:c<a)(hk:k<c)(x1 x2 x3 x4:Int)(s:PLq)(ho:s.length<=900000) :
  F4 ⟨(a:Int),(c:Int),x1,x2,x3,x4,(c:Int),l,l⟩ (mkf l k s)=.next (mkf l (k+1) (db7 l a c s k)):=by
 have hfl:ca8 (C4 (gL tV l k) (gL tV l c) (gL tV l a)).1=da7 (C4 (gL tV l k) (gL tV l c) (gL tV l a)).1:=cd4 (pd7 _ _ _);have hb:∀p,L4 l p=bey l p:=λp=>bd8 l p (by omega)
 have hg:∀p,L5 l p=true:=λp=>bd9 l p (by omega)
 have hn:=K7 hk (show c<=4611686018427387904 by omega)
 have b1:inB (a:Int) l.length=true:=o2 ha;have b2:inB (c:Int) l.length=true:=o2 (by omega)
 have b3:inB (k:Int) l.length=true:=o2 (by omega)
 have hfl2:=fc3 l s;unfold db7;unfold mkf;generalize hT:C4 (gL tV l k) (gL tV l c) (gL tV l a)=T at *
 cases hO:fil l s with
 |nil =>
  show L7 Stp.next Stp.exit Stp.fail _ _=_;simp only[L7,Oa3,gb9,Int.toNat_natCast,r7,Ta4,hT,hfl,hb,hg,hn,b1,b2,b3,qc4];rw[btD (F8 hk)];cases h2:T.2 with
  |false=>simp only[Qhc,if_false,hO];rfl
  |true =>
   simp only[if_true,D9];cases h3:ob7 s T.1 with
   |true =>
    cases h4:ob7 s (da7 T.1) with
    |true=>simp only[hb5,h3,h4,if_true,hO];rfl
    |false =>
     rw[yc6 _ _ h4];cases h5:bey l (da7 T.1)<;>(simp only[hb5,h3,h4,h5,if_true,if_false,Qhc,Fb5,hO];rfl)
   |false =>
    simp only[yc6 _ _ h3,qc4];cases h5:bey l T.1<;>cases h4:ob7 (s++[T.1]) (da7 T.1)<;>(try simp only[yc6 _ _ h4])<;>cases h6:bey l (da7 T.1)<;>(simp only[hb5,h3,h4,h5,h6,if_true,if_false,Qhc,Fb5,hO];rfl)
 |cons q o =>
  have rr:(Nat.beq (q::o).length (len (bL tP (q::o)))&&Nat.ble (((q::o).length+1)*32) room)=true:=wb2 rfl (by rw[<- hO];omega)
  have ap:∀(O:PLq) (p:Pln),app (bL tP O) [[i p.n.x,i p.n.y,i p.n.z,i p.b]]=bL tP (O++[p]):=λO p=>Ta5 tP O [p]
  have rr2:∀p:Pln,(Nat.beq ((q::o).length+1) (len (bL tP (q::o++[p])))&&Nat.ble (((q::o).length+1+1)*32) room)=true:=λp=>wb2 (by simp) (by rw[<- hO,Qdf,List.length_singleton];omega)
  show L8 Stp.next Stp.exit Stp.fail _ _=_;simp only[L8,Oa3,gb9,Int.toNat_natCast,r7,Ta4,hT,hfl,hb,hg,hn,b1,b2,b3,qc4,rr,ap,rr2];rw[btD (F8 hk)];cases h2:T.2 with
  |false=>simp only[Qhc,if_false,hO];rfl
  |true =>
   simp only[if_true,D9];cases h3:ob7 s T.1 with
   |true =>
    cases h4:ob7 s (da7 T.1) with
    |true=>simp only[hb5,h3,h4,if_true,hO];rfl
    |false =>
     rw[yc6 _ _ h4];cases h5:bey l (da7 T.1)<;>(simp only[hb5,h3,h4,h5,if_true,if_false,Qhc,Fb5,hO,Fc6,Qdf,List.length_singleton];rfl)
   |false =>
    simp only[yc6 _ _ h3,qc4];cases h5:bey l T.1<;>cases h4:ob7 (s++[T.1]) (da7 T.1)<;>(try simp only[yc6 _ _ h4])<;>cases h6:bey l (da7 T.1)<;>(simp only[hb5,h3,h4,h5,h6,if_true,if_false,Qhc,Fb5,hO,Fc6,Qdf,List.length_singleton];rfl)
theorem Ld1(l:List V3)(hl:l.length<=48)(a c:Nat)(ha:a<l.length)(hc:c<a)(x1 x2 x3 x4:Int)(s:PLq)(ho:s.length<=800000) :
  ∃j,lp (F4 ⟨(a:Int),(c:Int),x1,x2,x3,x4,(c:Int),l,l⟩) (mkf l 0 s)=(phP (fil l (G2 l a s c))+1,mkf l j (G2 l a s c)):=by
 have key:=ha2 (step:=F4 ⟨(a:Int),(c:Int),x1,x2,x3,x4,(c:Int),l,l⟩) (mk:=mkf l) c (λj o=>j<=c/\o=(List.range j).foldl (db7 l a c) s) (λt r=>t=phP (fil l (G2 l a s c))+1/\∃j:Nat,r=mkf l j (G2 l a s c)) (by omega)
  (λj o hj hi=>by
   obtain⟨_,hi⟩:=hi;have hlen:o.length<=900000:=by
    rw[hi]
    have:=Ob3 (Xb7 l a c) s j
    omega
   rw[cd6 l hl a c j ha hc hj x1 x2 x3 x4 o hlen];exact .nx ⟨_,rfl,by omega,by rw[A1,<- hi]⟩)
  (λj o hj hi=>by
   obtain⟨h1,hi⟩:=hi;have e:j=c:=by omega
   subst e;have hF:o=G2 l a s j:=hi;rw[<- hF];refine⟨_,?_,rfl,j,rfl⟩;unfold mkf;cases hO:fil l o with
   |nil =>
    show L7 Stp.next Stp.exit Stp.fail _ _=_;simp only[L7];rw[bfD (N7 (Qeb _))];rfl
   |cons q o =>
    show L8 Stp.next Stp.exit Stp.fail _ _=_;simp only[L8];rw[bfD (N7 (Qeb _))]
    rfl) 0 s ⟨Qec _,rfl⟩
 obtain⟨t,r,h1,rfl,j,rfl⟩:=key;exact⟨j,h1⟩
@[reducible] def Ob9(l:List V3)(k:Nat)(s:PLq):o3:=⟨phP (fil l s),(k:Int),l,l,Ea6 s,(fil l s).length,bL tP (fil l s)⟩
theorem Ld2(l:List V3)(hl:l.length<=48)(a:Nat)(ha:a<l.length)(x1 x2:Int)(s:PLq)(ho:s.length<=700000) :
  ∃j,lp (J7 ⟨(a:Int),x1,x2,(a:Int)⟩) (Ob9 l 0 s)=(phP (fil l (G1 l s a))+1,Ob9 l j (G1 l s a)):=by
 have key:=ha2 (step:=J7 ⟨(a:Int),x1,x2,(a:Int)⟩) (mk:=Ob9 l) a (λj o=>j<=a/\o=(List.range j).foldl (G2 l a) s) (λt r=>t=phP (fil l (G1 l s a))+1/\∃j:Nat,r=Ob9 l j (G1 l s a)) (by omega)
  (λj o hj hi=>by
   obtain⟨hja,hi⟩:=hi;have hlen:o.length<=800000:=by rw[hi];have:=yc7 l a s j hja (by omega);omega
   have hn:=K7 hj (show a<=4611686018427387904 by omega)
   have bj:inB (j:Int) (l.length+1)=true:=o2 (by omega)
   obtain⟨j',e1⟩:=Ld1 l hl a j ha hj x1 x2 (a:Int) (j:Int) o hlen
   have fin : ∀ {r : o3}, r = Ob9 l (j + 1) (G2 l a o j) → Nx (.next r) (fun t => t = phP (fil l (G1 l s a)) + 1 ∧ ∃ j' : Nat, Ob9 l j o = Ob9 l j' (G1 l s a))
     (λr=>∃o',r=Ob9 l (j+1) o'/\(j+1<=a/\o'=(List.range (j+1)).foldl (G2 l a) s)):=λ{r} hs =>
    .nx ⟨_,hs,by omega,by rw[A1,<- hi]⟩
   clear hi
   generalize hF:G2 l a o j=R at *
   unfold Ob9 at *
   unfold mkf at e1;cases hO:fil l o with
   |nil =>
    rw[hO] at e1 fin;show Nx (L9 Stp.next Stp.exit Stp.fail _ _) _ _;simp only[L9,r7,p9,hn,bj,Int.toNat_natCast,Nat.sub_zero];have e1:lp (F4 ⟨(a:Int),(j:Int),x1,x2,(a:Int),(j:Int),(j:Int),l,l⟩) ⟨0,0,Ea6 o,0,[]⟩=_:=e1;rw[btD (F8 hj),e1];cases hR:fil l R with
    |nil=>exact fin (by rw[hR];rfl)
    |cons q R'=>exact fin (by rw[hR];rfl)
   |cons q o' =>
    rw[hO] at e1 fin;show Nx (M0 Stp.next Stp.exit Stp.fail _ _) _ _;simp only[M0,r7,p9,hn,bj,Int.toNat_natCast,Nat.sub_zero];have e1:lp (F4 ⟨(a:Int),(j:Int),x1,x2,(a:Int),(j:Int),(j:Int),l,l⟩) ⟨1,0,Ea6 o,(q::o').length,bL tP (q::o')⟩=_:=e1;rw[btD (F8 hj),e1];cases hR:fil l R with
    |nil=>exact fin (by rw[hR];rfl)
    |cons q R'=>exact fin (by rw[hR];rfl))
  (λj o hj hi=>by
   obtain⟨h1,hi⟩:=hi;have e:j=a:=by omega
   subst e;have hF:o=G1 l s j:=hi;rw[<- hF];refine⟨_,?_,rfl,j,rfl⟩;unfold Ob9;cases hO:fil l o with
   |nil =>
    show L9 Stp.next Stp.exit Stp.fail _ _=_;simp only[L9];rw[bfD (N7 (Qeb _))];rfl
   |cons q o =>
    show M0 Stp.next Stp.exit Stp.fail _ _=_;simp only[M0];rw[bfD (N7 (Qeb _))]
    rfl) 0 s ⟨Qec _,rfl⟩
 obtain⟨t,r,h1,rfl,j,rfl⟩:=key;exact⟨j,h1⟩
@[reducible] def fc5(l:List V3)(k:Nat)(s:PLq):o9:=⟨phP (fil l s),(k:Int),l,l,Ea6 s,(fil l s).length,bL tP (fil l s)⟩
theorem Ld3(l:List V3)(hl:l.length<=48) :
  ∃j,lp (ha0 ⟨(l.length:Int)⟩) ⟨0,0,l,l,[],0,[]⟩=(phP (fil l (G0 l))+1,fc5 l j (G0 l)):=by
 have key:=ha2 (step:=ha0 ⟨(l.length:Int)⟩) (mk:=fc5 l) l.length (λj o=>j<=l.length/\o=(List.range j).foldl (G1 l) []) (λt r=>t=phP (fil l (G0 l))+1/\∃j:Nat,r=fc5 l j (G0 l)) (by omega)
  (λj o hj hi=>by
   obtain⟨hja,hi⟩:=hi;have hlen:o.length<=700000:=by rw[hi];have:=fc4 l hl j hja;omega
   have hn:=K7 hj (show l.length<=4611686018427387904 by omega)
   have bj:inB (j:Int) (l.length+1)=true:=o2 (by omega)
   obtain⟨j',e1⟩:=Ld2 l hl j hj (l.length:Int) (j:Int) o hlen
   have fin : ∀ {r : o9}, r = fc5 l (j + 1) (G1 l o j) → Nx (.next r) (fun t => t = phP (fil l (G0 l)) + 1 ∧ ∃ j' : Nat, fc5 l j o = fc5 l j' (G0 l))
     (λr=>∃o',r=fc5 l (j+1) o'/\(j+1<=l.length/\o'=(List.range (j+1)).foldl (G1 l) [])):=λ{r} hs =>
    .nx ⟨_,hs,by omega,by rw[A1,<- hi]⟩
   clear hi
   generalize hF:G1 l o j=R at *
   unfold fc5 at *
   unfold Ob9 at e1;cases hO:fil l o with
   |nil =>
    rw[hO] at e1 fin;show Nx (M1 Stp.next Stp.exit Stp.fail _ _) _ _;simp only[M1,r7,p9,hn,bj,Int.toNat_natCast,Nat.sub_zero];have e1:lp (J7 ⟨(j:Int),(l.length:Int),(j:Int),(j:Int)⟩) ⟨0,0,l,l,Ea6 o,0,[]⟩=_:=e1;rw[btD (F8 hj),e1];cases hR:fil l R with
    |nil=>exact fin (by rw[hR];rfl)
    |cons q R'=>exact fin (by rw[hR];rfl)
   |cons q o' =>
    rw[hO] at e1 fin;show Nx (M2 Stp.next Stp.exit Stp.fail _ _) _ _;simp only[M2,r7,p9,hn,bj,Int.toNat_natCast,Nat.sub_zero];have e1:lp (J7 ⟨(j:Int),(l.length:Int),(j:Int),(j:Int)⟩) ⟨1,0,l,l,Ea6 o,(q::o').length,bL tP (q::o')⟩=_:=e1;rw[btD (F8 hj),e1];cases hR:fil l R with
    |nil=>exact fin (by rw[hR];rfl)
    |cons q R'=>exact fin (by rw[hR];rfl))
  (λj o hj hi=>by
   obtain⟨h1,hi⟩:=hi;have e:j=l.length:=by omega
   subst e;have hF:o=G0 l:=hi;rw[<- hF];refine⟨_,?_,rfl,l.length,rfl⟩;unfold fc5;cases hO:fil l o with
   |nil =>
    show M1 Stp.next Stp.exit Stp.fail _ _=_;simp only[M1];rw[bfD (N7 (Qeb _))];rfl
   |cons q o =>
    show M2 Stp.next Stp.exit Stp.fail _ _=_;simp only[M2];rw[bfD (N7 (Qeb _))]
    rfl) 0 [] ⟨Qec _,rfl⟩
 obtain⟨t,r,h1,rfl,j,rfl⟩:=key;exact⟨j,h1⟩
theorem yc8{F:PLq}(h:∀p∈F,okp p=true){k:Nat}(hk:k<F.length):Bd (gL tP F k):=xc7 (h _ (dc9 tP hk))
theorem rd2{n:V3}{r:Pln}(hn:Sm 42467328 n.x/\Sm 42467328 n.y/\Sm 42467328 n.z)(hr:Bd r):E9 n r.n=dot n r.n:=by
 obtain⟨⟨a1,a2⟩,⟨a3,a4⟩,a5,a6⟩:=hn;have r1:=mb a1 a2 hr.x1 hr.x2;have r2:=mb a3 a4 hr.y1 hr.y2;have r3:=mb a5 a6 hr.z1 hr.z2;unfold E9;simp only[Nb0,dc8];rw[aa8 (by omega) (by omega)]
 rfl
theorem rd3(l:PLq)(n:V3)(hn:Sm 42467328 n.x/\Sm 42467328 n.y/\Sm 42467328 n.z)(hF:∀p∈l,okp p=true)(hl:l.length<=1000000000) :
  F7 ⟨l,n.x,n.y,n.z⟩=⟨1,if l.any (λr=>dot n r.n != 0) then ((l.findIdx (λr=>dot n r.n != 0):Nat):Int) else -1⟩:=by
 have h:=Ea0 (step:=r5 ⟨l,(l.length:Int),n.x,n.y,n.z⟩) (mk:=λj=>(⟨(j:Int)⟩:j5)) (c:=λr=>dot n r.n != 0) (u:=1) (fin:=2) tP l hl
  (λj hj=>by
   have e:=rd2 hn (yc8 hF hj);simp only[r5,B5,Int.toNat_natCast,ta4,ta3,e,K7 hj (show l.length<=4611686018427387904 by omega)]
   rw[btD (F8 hj),bt (o2 hj)])
  (by simp only[r5,B5];rw[bfD (N7 (Qeb _))]) 0 (Qec _)
 rw[Qie] at h;unfold F7 O5;simp only[r7,p9];rw[show (⟨0⟩:j5)=⟨((0:Nat):Int)⟩ from rfl,h]
 split
 ·simp only[Qbh];rfl
 ·rfl
theorem rd4(l:PLq)(n:V3)(hn:Sm 42467328 n.x/\Sm 42467328 n.y/\Sm 42467328 n.z)(hF:∀p∈l,okp p=true)(hl:l.length<=1000000000) :
  C3 ⟨l,n.x,n.y,n.z⟩=⟨1,l.any λr=>dot n r.n != 0⟩:=by
 unfold C3 K0;simp only[r7,p9,rd3 l n hn hF hl];split
 ·rename_i h;rw[h,show decide (((l.findIdx (λr=>dot n r.n != 0):Nat):Int)>=0)=true from decide_eq_true (by omega)];rfl
 ·rename_i h;rw[Qiq] at h;rw[h];rfl
def Nc9(l:PLq)(a c:Nat):Bool:=l.any λr=>dot (c9 (gL tP l a).n (gL tP l c).n) r.n != 0
def vtx(l:PLq):Bool:=(List.range l.length).any λa=>(List.range a).any (Nc9 l a)
theorem Oc0{p q:Pln}(hp:Bd p)(hq:Bd q):L0 p.n q.n=c9 p.n q.n/\Sm 42467328 (c9 p.n q.n).x/\Sm 42467328 (c9 p.n q.n).y/\Sm 42467328 (c9 p.n q.n).z:=by
 obtain⟨k1,k2,k3⟩:=Zc4 hp.n hq.n;refine⟨?_,k1,k2,k3⟩;rw[pd1,vb4 (k1.mono (by omega)),vb4 (k2.mono (by omega)),vb4 (k3.mono (by omega))]
theorem yc9(l:PLq)(hF:∀p∈l,okp p=true)(hl:l.length<=1000000)(a:Nat)(ha:a<l.length)(x9 x10:Int) :
  ∃j,lp (M3 ⟨l,l,x9,x10,a,(λk=>(λk=>tP.row (gL tP l k)) (0+k)),(a:Int),(gL tP l a).n.x,(gL tP l a).n.y,(gL tP l a).n.z,(gL tP l a).b⟩) ⟨0⟩=(if (List.range a).any (Nc9 l a) then 1 else 2,⟨((j:Nat):Int)⟩) :=
 ad8 (step:=M3 ⟨l,l,x9,x10,a,(λk=>(λk=>tP.row (gL tP l k)) (0+k)),(a:Int),(gL tP l a).n.x,(gL tP l a).n.y,(gL tP l a).n.z,(gL tP l a).b⟩) (mk:=λj=>(⟨(j:Int)⟩:F5)) a (Nc9 l a) 1 2 (by omega)
  (λj hj=>by
   obtain⟨e,k1,k2,k3⟩:=Oc0 (yc8 hF ha) (yc8 hF (show j<l.length by omega))
   have rr:(⟨toI (hdA (tP.row (gL tP l j))),toI (hdA (tlA (tP.row (gL tP l j)))),toI (hdA (tlA (tlA (tP.row (gL tP l j)))))⟩:V3)=(gL tP l j).n:=rfl;have e':L0 ⟨(gL tP l a).n.x,(gL tP l a).n.y,(gL tP l a).n.z⟩ (gL tP l j).n=c9 (gL tP l a).n (gL tP l j).n:=e;simp only[M3,Y3,Int.toNat_natCast,Qbh,rr,e',Jd5,r7,p9,rd4 l _ ⟨k1,k2,k3⟩ hF (show l.length<=1000000000 by omega),K7 hj (show a<=4611686018427387904 by omega)]
   rw[btD (F8 hj),bt (o2 hj)];unfold Nc9;cases hz:((c9 (gL tP l a).n (gL tP l j).n).x==0&&((c9 (gL tP l a).n (gL tP l j).n).y==0&&((c9 (gL tP l a).n (gL tP l j).n).z==0&&true))) with
   |false=>rfl
   |true =>
    simp only[Qig,Qbd,beq_iff_eq] at hz
    have:(l.any λr=>dot (c9 (gL tP l a).n (gL tP l j).n) r.n != 0)=false:=by
     rw[Qcl];intro r _
     have:dot (c9 (gL tP l a).n (gL tP l j).n) r.n=0:=by unfold dot;rw[hz.1,hz.2.1,hz.2.2];simp only[Qio,Int.add_zero]
     rw[this]
     decide
    rw[this]
    rfl)
  (by simp only[M3,Y3];rw[bfD (N7 (Qeb _))])
theorem Xb8(l:PLq)(hF:∀p∈l,okp p=true)(hl:l.length<=1000000):fa7 l=some (b (vtx l),[]):=by
 obtain⟨j,h⟩:=ad8 (step:=M4 ⟨(l.length:Int)⟩) (mk:=λj=>(⟨l,l,(j:Int)⟩:F6)) l.length (λa=>(List.range a).any (Nc9 l a)) 1 2 (by omega)
  (λj hj=>by
   obtain⟨j',h1⟩:=yc9 l hF hl j hj (l.length:Int) (j:Int);simp only[M4,Y4,r7,p9,Int.toNat_natCast,Nat.sub_zero,K7 hj (show l.length<=4611686018427387904 by omega)]
   rw[btD (F8 hj),bt (o2 hj),bt (o2 (show j<l.length+1 by omega)),h1]
   cases (List.range j).any (Nc9 l j)<;>rfl)
  (by simp only[M4,Y4];rw[bfD (N7 (Qeb _))])
 have h:lp (M4 ⟨(l.length:Int)⟩) ⟨l,l,0⟩=(if vtx l then 1 else 2,⟨l,l,((j:Nat):Int)⟩):=h
 unfold fa7;simp only[r7,p9];rw[h];cases vtx l<;>rfl
theorem qc6(l:PLq)(hF:∀p∈l,okp p=true)(hl:l.length<=1000000):W8 l=vtx l:=by unfold W8;rw[Xb8 l hF hl];rfl
theorem qc7(l:PLq)(hF:∀p∈l,okp p=true)(hl:l.length<=1000000):W9 l=true:=by unfold W9;rw[Xb8 l hF hl];rfl
structure OkF(F:PLq):Prop where
 l:F.length<=1000000
 v:∀p∈F,okp p=true
def own(F:PLq)(v:V3):PLq:=F.filter λp=>Y9 p v==0
def kv(F:PLq)(v:V3):Bool:=vtx (own F v)
theorem Oc1(F:PLq)(v:V3)(hF:F.length<=1000000):∃j,lp (Q8 ⟨F,(F.length:Int),F,v.x,v.y,v.z⟩) ⟨0,0,0,[]⟩=(phP (own F v)+1,⟨phP (own F v),((j:Nat):Int),(own F v).length,bL tP (own F v)⟩):=by
 have key:=ha2 (step:=Q8 ⟨F,(F.length:Int),F,v.x,v.y,v.z⟩) (mk:=λj (o:PLq)=>(⟨phP o,(j:Int),o.length,bL tP o⟩:i6)) F.length (λj o=>j<=F.length/\o=(F.take j).filter λp=>Y9 p v==0) (λt s=>t=phP (own F v)+1/\∃j:Nat,s=⟨phP (own F v),(j:Int),(own F v).length,bL tP (own F v)⟩) (by omega)
  (λj o hj hi=>by
   obtain⟨_,hi⟩:=hi;have hlen:o.length<=1000000:=by
    rw[hi];have h1:=Qiu (λp=>Y9 p v==0) (F.take j)
    have h2:=List.length_take_le j F;omega
   have hn:=K7 hj (show F.length<=4611686018427387904 by omega)
   have hb:=o2 hj;have hT:(F.take (j+1)).filter (λp=>Y9 p v==0)=o++(if (Y9 (gL tP F j) v==0)=true then [gL tP F j] else []):=by
    rw[Fb2 tP hj,Qim,<- hi,Qij,List.filter_nil]
   have hnext : ∀ {s : i6} {o' : PLq}, o' = (F.take (j + 1)).filter (fun p => Y9 p v == 0) → s = ⟨phP o', ((j + 1 : Nat) : Int), o'.length, bL tP o'⟩ → Nx (.next s) (fun t => t = phP (own F v) + 1 ∧ ∃ j' : Nat, (⟨phP o, (j : Int), o.length, bL tP o⟩ : i6) = ⟨phP (own F v), (j' : Int), (own F v).length, bL tP (own F v)⟩)
     (λs=>∃o',s=(⟨phP o',((j+1:Nat):Int),o'.length,bL tP o'⟩:i6)/\(j+1<=F.length/\o'=(F.take (j+1)).filter λp=>Y9 p v==0)):=λ{s o'} ho' hs=>.nx ⟨o',hs,by omega,ho'⟩
   clear hi
   cases o with
   |nil =>
    show Nx (C7 Stp.next Stp.exit Stp.fail _ _) _ _;simp only[C7,Int.toNat_natCast,Fb3,Fb4,hn,hb];rw[btD (F8 hj)];cases hs:Y9 (gL tP F j) v==0 with
    |true=>exact hnext (o':=[gL tP F j]) (by rw[hT,hs];rfl) rfl
    |false=>exact hnext (o':=[]) (by rw[hT,hs];rfl) rfl
   |cons q o =>
    have rr:(Nat.beq (q::o).length (len (bL tP (q::o)))&&Nat.ble (((q::o).length+1)*32) room)=true:=wb2 rfl (by omega)
    have ap:∀(O:PLq) (p:Pln),app (bL tP O) [[i p.n.x,i p.n.y,i p.n.z,i p.b]]=bL tP (O++[p]):=λO p=>Ta5 tP O [p]
    show Nx (C8 Stp.next Stp.exit Stp.fail _ _) _ _;simp only[C8,Int.toNat_natCast,Fb3,Fb4,hn,hb,rr,ap];rw[btD (F8 hj)];cases hs:Y9 (gL tP F j) v==0 with
    |true=>exact hnext (o':=q::o++[gL tP F j]) (by rw[hT,hs];rfl) (by rw[Qdf];rfl)
    |false=>exact hnext (o':=q::o) (by rw[hT,hs,if_neg (by simp),Qbad]) rfl)
  (λj o hj hi=>by
   obtain⟨h1,hi⟩:=hi;have e:j=F.length:=by omega
   subst e;have hO:o=own F v:=by rw[hi,List.take_length];rfl
   rw[<- hO];cases o with
   |nil =>
    refine⟨1,?_,rfl,F.length,rfl⟩;show C7 Stp.next Stp.exit Stp.fail _ _=_;simp only[C7];rw[bfD (N7 (Qeb _))]
   |cons q o =>
    refine⟨2,?_,rfl,F.length,rfl⟩;show C8 Stp.next Stp.exit Stp.fail _ _=_;simp only[C8];rw[bfD (N7 (Qeb _))]) 0 [] ⟨Qec _,by simp⟩
 obtain⟨t,s,h1,rfl,j,rfl⟩:=key;exact⟨j,h1⟩
theorem fc6(v:V3)(F:PLq)(hF:OkF F):G5 ⟨v.x,v.y,v.z,F⟩=⟨1,!kv F v,F⟩:=by
 obtain⟨j,h⟩:=Oc1 F v hF.l;have hv:∀p∈own F v,okp p=true:=λp hp=>hF.v p (Qfi.1 hp).1
 have hl:(own F v).length<=1000000:=Qad (Qiu _ _) hF.l;unfold G5 oa5 kv;simp only[r7,p9];rw[h];cases ho:own F v with
 |nil =>
  have e:W8 []=vtx []:=qc6 [] (λp hp=>by cases hp) (by simp)
  have e':W9 []=true:=qc7 [] (λp hp=>by cases hp) (by simp)
  rw[e,e'];rfl
 |cons q o =>
  rw[ho] at hv hl;simp only[vc3,Tc0,qc6 _ hv hl,qc7 _ hv hl];rfl
theorem Ad8{α:Type}{l:List α}{n:Nat}{c:α->Bool}(h:(l.take n).any c=true):(l.take n).findIdx c<(l.take n).length:=by
 rw[Qib] at h;obtain⟨p,hp,hc⟩:=h;exact Qit ⟨p,hp,hc⟩
theorem rd5(l:List V3)(n:Nat)(X:PLq)(hn:n<=l.length)(hl:l.length<=1000000000)(hX:OkF X):I8 ⟨n,bL tV l,X⟩=⟨1,if (l.take n).any (λp=>!kv X p) then (((l.take n).findIdx (λp=>!kv X p):Nat):Int) else -1,X⟩:=by
 have hlen:(l.take n).length=n:=by rw[Qia];omega
 have h:=Ea0 (step:=v7 ⟨n,(n:Int),bL tV l⟩) (mk:=λj=>(⟨(j:Int),X⟩:j8)) (c:=λp=>!kv X p) (u:=1) (fin:=2) tV (l.take n) (by omega)
  (λj hj=>by
   rw[hlen] at hj;have hj':j<l.length:=by omega
   simp only[v7,D2,Int.toNat_natCast,r7,p9,ec9 hj',Ob6 hj',fc6 _ _ hX,Xb3 tV l hj,K7 hj (show n<=4611686018427387904 by omega)]
   rw[btD (F8 hj),bt (o2 hj)]
   rfl)
  (by rw[hlen];simp only[v7,D2];rw[bfD (N7 (Qeb _))]) 0 (Qec _)
 rw[Qie,hlen] at h;unfold I8 T4;simp only[r7,p9];rw[show (⟨0,X⟩:j8)=⟨((0:Nat):Int),X⟩ from rfl,h]
 cases ha:(l.take n).any λp=>!kv X p with
 |false=>rfl
 |true =>
  have hf:=Ad8 ha;rw[hlen] at hf;simp only[if_true,Qbh,Int.toNat_natCast,Ob6 (show (l.take n).findIdx (λp=>!kv X p)<l.length by omega),fc6 _ _ hX,r7]
  rfl
structure rd6(l:List V3)(n:Nat)(f:V3->Bool)(cur:List V3)(m j:Nat):Prop where
 len:cur.length=l.length
 t:cur.take m=(l.take j).filter f
 d:cur.drop j=l.drop j
 le:m<=j
 lm:m<=n
theorem fc7(l:List V3)(n:Nat)(hnl:n<=l.length)(X:PLq)(hl:l.length<=1000000000)(hX:OkF X)(m j:Nat)(cur:List V3)(hd:rd6 l n (kv X) cur m j)(hjn:j<=n) :
  ∃t s,lp (p4 ⟨n⟩) ⟨(m:Int),(j:Int),bL tV cur,X⟩=(t,s)/\(t=1/\∃m' cur',s=⟨((m':Nat):Int),((n:Nat):Int),bL tV cur',X⟩/\rd6 l n (kv X) cur' m' n):=by
 refine ha2 (step:=p4 ⟨n⟩) (mk:=λj (x:Nat×List V3)=>(⟨(x.1:Int),(j:Int),bL tV x.2,X⟩:m8)) n (λj x=>rd6 l n (kv X) x.2 x.1 j/\j<=n) (λt s=>t=1/\∃m' cur',s=⟨((m':Nat):Int),((n:Nat):Int),bL tV cur',X⟩/\rd6 l n (kv X) cur' m' n) (by omega) (λj x hj hx=>?_) (λj x hj hx=>?_) j (m,cur) ⟨hd,hjn⟩
 ·obtain⟨m,cur⟩:=x;obtain⟨⟨h1,h2,h3,h4,h5⟩,_⟩:=hx
  simp only at h1 h2 h3 h4 h5
  have hjc:j<cur.length:=by omega
  have hmc:m<cur.length:=by omega
  have hg:gL tV cur j=gL tV l j:=vb9 tV h3;have hWm:W ((m:Int)+1)=((m+1:Nat):Int):=by rw[aa8 (by omega) (by omega)];omega
  have hb:Nat.blt m cur.length=true:=by rw[Qch];exact hmc
  have hrow:k8 (bL tV cur) m=tV.row (gL tV cur m):=W7 tV hmc;have sp:∀(v:V3) (x1 x2 x3:Int),Q9 (tV.row v) 0 [i x1,i x2,i x3]=tV.row ⟨x1,x2,x3⟩:=λ_ _ _ _=>rfl
  have rl:∀v:V3,Nat.ble (0+3) (len (tV.row v))=true:=λ_=>rfl
  simp only[p4,D3,Int.toNat_natCast,r7,p9,ec9 hjc,Ob6 hjc,fc6 _ _ hX,K7 hj (show n<=4611686018427387904 by omega),hWm]
  rw[btD (F8 hj),bt (o2 hj)];simp only[Qbh,hrow,Ma4,hb,sp,lc3,o2 (show m<n by omega),hg]
  have ht:=Fb2 tV (show j<l.length by omega)
  have hd1:cur.drop (j+1)=l.drop (j+1):=ob3 h3 1;cases hk:kv X (gL tV l j) with
  |true =>
   refine .nx ⟨(m+1,cur.set m (gL tV l j)),rfl,⟨by rw[Qix];exact h1,?_,?_,by omega,by show m+1<=n;omega⟩,by omega⟩
   ·show (cur.set m (gL tV l j)).take (m+1)=_;rw[ht,Qim,Qik (by rw[Qix];exact hmc),Qiaj,List.take_set_of_le (Qac _),h2,Qij,hk,if_pos rfl,List.filter_nil]
   ·show (cur.set m (gL tV l j)).drop (j+1)=_;rw[List.drop_set_of_lt (by omega),hd1]
  |false =>
   refine .nx ⟨(m,cur),rfl,⟨h1,?_,hd1,by omega,h5⟩,by omega⟩
   show cur.take m=_;rw[ht,Qim,h2,Qij,hk,if_neg (by simp),List.filter_nil,Qbad]
 ·obtain⟨m,cur⟩:=x;obtain⟨hx,hjn⟩:=hx;have e:j=n:=by omega
  subst e;refine⟨1,?_,rfl,m,cur,rfl,hx⟩;simp only[p4,D3];rw[bfD (by omega)]
theorem zc0(l:List V3)(n:Nat)(hnl:n<=l.length)(X:PLq)(hl:l.length<=1000000000)(hX:OkF X) :
  ∃m r,I9 ⟨n,bL tV l,X⟩=⟨1,m,bL tV r,X⟩/\m<=r.length/\r.take m=(l.take n).filter (kv X):=by
 have hlen:(l.take n).length=n:=by rw[Qia];omega
 unfold I9 T7;simp only[r7,p9,rd5 l n X hnl hl hX];cases ha:(l.take n).any λp=>!kv X p with
 |false =>
  refine⟨n,l,rfl,hnl,?_⟩
  symm
  rw[List.filter_eq_self];intro p hp
  have:=Qcl.1 ha p hp
  simpa using this
 |true =>
  have hf:=Ad8 ha;have hk:kv X (gL tV (l.take n) ((l.take n).findIdx λp=>!kv X p))=false:=by
   have:=Qir (xs:=l.take n) (p:=λp=>!kv X p) (w:=hf)
   rw[nb0 tV hf];simpa using this
  have ht:=ob2 (λp=>!kv X p) (l.take n)
  simp only[Bool.not_not] at ht;generalize hF:(l.take n).findIdx (λp=>!kv X p)=F at *
  rw[hlen] at hf;rw[Xb3 tV l hf] at hk;rw[Qiak,Nat.min_eq_left (by omega)] at ht
  have hW:W ((F:Int)+1)=((F+1:Nat):Int):=K7 hf (by omega)
  have hne:((F:Int)==-1)=false:=by rw[beq_eq_false_iff_ne];omega
  obtain⟨t,s,e1,rfl,m,cur,e2,e3⟩:=fc7 l n hnl X hl hX F (F+1) l ⟨rfl,by rw[Fb2 tV (show F<l.length by omega),Qim,ht,Qij,hk,if_neg (by simp),List.filter_nil,Qbad],rfl,by omega,by omega⟩ (by omega)
  have hm:m<=n:=e3.lm;have hin:inB (m:Int) (n+1)=true:=o2 (by omega)
  simp only[if_true,hW,hne,e1,e2,Int.toNat_natCast,hin,Qbh,Nat.sub_zero];refine⟨m,cur.take m++(List.replicate (n-m) ⟨0,0,0⟩++cur.drop (m+(n-m))),?_,?_,?_⟩
  ·rw[pc8,pc9,Ob7,Ta5,Ta5];rfl
  ·rw[Qdf,Qdf,Qia,Qbt,e3.len];omega
  ·rw[Qin (by rw[Qia,e3.len];omega),Qiak,Nat.min_self,e3.t]
def ce2(F:PLq)(l:List V3):List V3:=(dis l).filter (kv F)
theorem fc8(a:V3)(l:List V3)(hl:l.length<=1000000):∃m r,da2 (a,l)=⟨1,m,bL tV r⟩/\m<=r.length/\r.take m=dis (a::l)/\r.length<=1000000000:=by
 obtain⟨m,r,k1,k2,k3,k4⟩:=pb3 a l hl;have hok:okL tV (l.length+1) (λk=>tV.row (gL tV (a::l) k))=true:=Ma3 tV (f:=λk=>gL tV (a::l) k) λ_ _=>rfl
 have hr:=qc1 (a::l) (by simp only[List.length_cons];omega) []
 rw[Qbad] at hr;unfold da2 oa8;simp only[Bc8,Bc9,Xb1 a l hl,hok,k1,D9,Nat.beq_refl,hr];exact⟨m,r,rfl,k2,k3,by omega⟩
end Go.Ev.Ce
namespace Go.Ev.Ce
open Go Go.Ev Go.Ev.L Go.Proofs Go.Sort
theorem Oc2(l:List V3)(a c k:Nat)(s:PLq)(p:Pln):p∈db7 l a c s k↔p∈s\/((C4 (gL tV l k) (gL tV l c) (gL tV l a)).2=true/\(p=(C4 (gL tV l k) (gL tV l c) (gL tV l a)).1\/p=da7 (C4 (gL tV l k) (gL tV l c) (gL tV l a)).1)):=by
 unfold db7;generalize C4 (gL tV l k) (gL tV l c) (gL tV l a)=T;cases h2:T.2 with
 |false=>simp
 |true=>simp only[if_true,cd5,true_and,or_assoc]
theorem Ld4(l:List V3)(p:Pln):p∈G0 l↔∃a,a<l.length/\∃c,c<a/\∃k,k<c/\((C4 (gL tV l k) (gL tV l c) (gL tV l a)).2=true/\(p=(C4 (gL tV l k) (gL tV l c) (gL tV l a)).1\/p=da7 (C4 (gL tV l k) (gL tV l c) (gL tV l a)).1)):=by
 have h:p∈G0 l↔p∈[]\/_:=Aa9 (λo a p=>Aa9 (λo c p=>Aa9 (λo k p=>Oc2 l a c k o p) o p c) o p a) [] p l.length
 rw[h];simp only[Qiae,false_or]
theorem fc9{f:PLq->Nat->PLq}(h:∀o k,o.Nodup->(f o k).Nodup){o:PLq}(ho:o.Nodup):∀n,((List.range n).foldl f o).Nodup
 |0=>ho
 |n+1=>by rw[A1];exact h _ _ (fc9 h ho n)
theorem cd7(l:List V3):(G0 l).Nodup:=fc9 (λo a ho=>fc9 (λo c ho=>fc9 (λo k ho=>by
 show (db7 l a c o k).Nodup;unfold db7;split
 ·exact Ob8 (Ob8 ho)
 ·exact ho) ho c) ho a) List.nodup_nil l.length
theorem rd7{l:List V3}(hl:l.all inV=true)(p:Pln):p∈fil l (G0 l)↔pc7 l p:=by
 have hin:=Qcf.1 hl;have hb:(!bey l p)=hold p l:=rfl;unfold fil;rw[Qfi,Ld4,hb];constructor
 ·rintro⟨⟨a,ha,c,hc,k,hk,h1,h2⟩,h3⟩;have ma:=gLm ha;have mc:=gLm (show c<l.length by omega)
  have mk:=gLm (show k<l.length by omega)
  have ht:=(qa0 h1).2
  rcases h2 with rfl|rfl
  ·exact ec7 mk mc ma ht ((Ka6 ht.ok hl).1 h3)
  ·exact Ob5 mk mc ma ht ((Ka6 (ob6 ht.ok) hl).1 h3)
 ·intro h;obtain⟨u,w,x,hu,hw,hx,h3,t1,t2,t3⟩:=h.on;obtain⟨a,ha,c,hc,k,hk,hn,hall⟩:=Kd7 hu hw hx h3;obtain⟨i1,i2,i3⟩:=hall (λv=>inV v=true) (hin u hu) (hin w hw) (hin x hx)
  obtain⟨e1,e2,e3⟩:=hall (λv=>dot p.n v=p.b) t1 t2 t3
  have h2:=pb0 i3 i2 i1 (bd2 hn).2.2.1;exact⟨⟨a,ha,c,hc,k,hk,h2,pc6 (qa0 h2).2 h.ok e3 e2 e1⟩,(Ka6 h.ok hl).2 h.hd⟩
theorem Xb9{l r:List V3}(h:∀v,v∈r↔v∈l){p:Pln}(hp:pc7 l p):pc7 r p:=by
 obtain⟨⟨hd,u,w,x,hu,hw,hx,e⟩,ok⟩:=hp;exact⟨⟨λv hv=>hd v ((h v).1 hv),u,w,x,(h u).2 hu,(h w).2 hw,(h x).2 hx,e⟩,ok⟩
theorem zc1{l:PLq}(h:l.Nodup):ua6 (cb4 l):=by
 have h1:=ec2 l;have h2:(cb4 l).Nodup:=(Ob2 l).nodup_iff.2 h;have h3:=h1.and h2;refine h3.imp λ{x y} ⟨k1,k2⟩=>?_
 rw[oa1] at k1;have k1:¬ LtP y x:=by simpa using k1
 rcases Ec5 x y with h|h|h
 ·exact h
 ·exact absurd h k2
 ·exact absurd h k1
theorem rd8{l:List V3}(hl:l.all inV=true):(dis l).all inV=true:=Qcf.2 λv hv=>Qcf.1 hl v ((pb2 l v).1 hv)
theorem qc8{l:List V3}(hl:l.all inV=true):cb4 (fil (dis l) (G0 (dis l)))=F0 l:=by
 refine Wb7 (zc1 ((cd7 (dis l)).filter _)) (Kd5 l) λp=>?_
 rw[(Ob2 _).mem_iff,rd7 (rd8 hl),Ec9 hl];exact⟨Xb9 λv=>(pb2 l v).symm,Xb9 (pb2 l)⟩
theorem ce3{l:List V3}(hl:l.all inV=true)(h4:Sol l):F0 l≠[]:=λe=>by
 have h:=Nc5 h4 (qd2 hl (c:=[]) λp hp=>by rw[<- Ec9 hl,e] at hp;exact hp) (x:=⟨100,0,0,1⟩) ⟨by show (0:Int)<1;omega,λp hp=>by cases hp⟩ (h:=⟨⟨1,0,0⟩,24⟩) λv hv=>by
  obtain⟨⟨a1,a2⟩,_,_⟩:=(Oa2 v).1 (Qcf.1 hl v hv);simp only[dot];omega
 simp only[rmZ] at h;omega
theorem Oc3{l:List V3}(h48:l.length<=48)(hl:l.all inV=true)(h4:Sol l):qa8 l=0:=by
 have hin:=Qcf.1 hl;unfold qa8;rw[if_neg (by omega),if_neg (by rw[<- Qiaf,hl];simp)]
 have h1:(ixs l.length).any (sp1 l)=true:=by
  obtain⟨a,c,k,v,ha,hc,hk,hv,hd⟩:=h4;obtain⟨i',hi,j',hj,k',hk',hn,hall⟩:=Kd7 ha hc hk (yc2 hd);obtain⟨i1,i2,i3⟩:=hall (λv=>inV v=true) (hin _ ha) (hin _ hc) (hin _ hk)
  have ht:=pb0 i3 i2 i1 (bd2 hn).2.2.1;have mem:∀{n m:Nat},m<n->((m:Nat):Int)∈ixs n:=λ{n m} h=>Qbz.2 ⟨m,Qcj.2 h,rfl⟩
  refine Qib.2 ⟨_,mem hi,?_⟩;unfold sp1;rw[Int.toNat_natCast];refine Qib.2 ⟨_,mem hj,?_⟩;unfold sp2;rw[Int.toNat_natCast];refine Qib.2 ⟨gL tV l k',?_,ht⟩;rw[<- Xb3 tV l hk'];exact dc9 tV (by rw[Qia];omega)
 have h2:db6 l=false:=by
  unfold db6;rw[if_pos h1];obtain⟨hi,k1⟩:=Za7 h1;have k1:(ixs (iF l)).any (sp2 l (iF l))=true:=k1;obtain⟨hj,k2⟩:=Za7 k1;have k2:(l.take (jF l)).any (λv=>(C4 v (gL tV l (jF l)) (gL tV l (iF l))).2)=true:=k2
  have hj:jF l<iF l:=hj;have hi:iF l<l.length:=hi;have hk:=fc1 k2;have hk2:=Qir (xs:=l.take (jF l)) (p:=λv=>(C4 v (gL tV l (jF l)) (gL tV l (iF l))).2) (w:=hk)
  rw[<- nb0 tV hk,Xb3 tV l (by rw[Qia] at hk;omega)] at hk2
  have hok:okp (plF l)=true:=(qa0 hk2).2.ok;obtain⟨v,hv,hne⟩:=h4.off (ad9 hok) (plF l).b;rw[Bool.not_eq_false',Qib];refine⟨v,hv,?_⟩
  have:Y9 (plF l) v≠0:=λe=>hne ((Wb8 hok (hin v hv)).1 e)
  simpa using this
 rw[h2];rfl
theorem rd9(l r:PLq)(n:Nat)(hn:n=l.length):(two (r1L tP) r1I).rd (.tup [.sl 0 0 n 0,i 0],[⟨66,4,bL tP (l++r),true,false,0⟩])=some (l,0):=by
 subst hn;have h:(r1L tP).rd [⟨66,4,bL tP (l++r),true,false,0⟩] (.sl 0 0 l.length 0)=some l:=by
  show Bool.rec (motive:=λ_=>Option PLq) none (some (slR tP (bL tP (l++r)) 0 l.length)) (Bool.and true (okS tP (bL tP (l++r)) 0 l.length))=_
  rw[ad2 _ _ (by rw[Qdf];omega),ad3 _ _ (by rw[Qdf];omega),List.take_left']
  ·rfl
  ·rfl
 simp only[two,h];rfl
theorem Oc4(a:V3)(l:List V3)(h48:(a::l).length<=48)(hl:(a::l).all inV=true)(h4:Sol (a::l)):Rd (two (r1L tP) r1I) (U9 (a,l)) (λr=>r=(F0 (a::l),0)):=by
 have hc:=Oc3 h48 hl h4;have hdl:=Fc3 (a::l);have hll:l.length<=1000000:=by simp only[List.length_cons] at h48;omega
 obtain⟨j,e⟩:=Ld3 (dis (a::l)) (by omega)
 have hf:=qc8 hl;have hne:fil (dis (a::l)) (G0 (dis (a::l)))≠[]:=λe=>by
  rw[e] at hf;have h0:cb4 []=[]:=Nc1;rw[h0] at hf;exact ce3 hl h4 hf.symm
 have hok:okL tV (l.length+1) (λk=>tV.row (gL tV (a::l) k))=true:=Ma3 tV (f:=λk=>gL tV (a::l) k) λ_ _=>rfl
 have hlen:(fil (dis (a::l)) (G0 (dis (a::l)))).length<=1000000:=by
  have h1:=fc3 (dis (a::l)) (G0 (dis (a::l)));have h2:(G0 (dis (a::l))).length<=_:=fc4 (dis (a::l)) (by omega) _ (Qac _)
  omega
 unfold U9;simp only[r7,Ta4,p9,Bc8,Bc9,hok,pb5 (a::l) (by omega),pb4 (a::l) (by omega),hc,yc4 a l hll,yc5 a l hll,e]
 generalize fil (dis (a::l)) (G0 (dis (a::l)))=O at *
 cases O with
 |nil=>exact absurd rfl hne
 |cons q o =>
  have hr:(Bool.and (Nat.ble (q::o).length room) (Bool.and (Nat.ble (q::o).length (len (bL tP (q::o)))) (okS tP (bL tP (q::o)) 0 (q::o).length)))=true:=by
   rw[Tc0,Ma4,Qbd,Qbd,Qiad,Qiad];refine⟨by unfold room;omega,Qac _,rfl⟩
  simp only[phP,hr,vc3,pd6,Ta5,hf];exact⟨_,(F0 (a::l),0),rfl,rd9 _ _ _ (by rw[<- hf,Za2]),rfl⟩
end Go.Ev.Ce
namespace Go.Ev.Ce
open Go Go.Ev Go.Ev.L Go.Proofs
structure B8(v:V3):Prop where
 x:Sm 8 v.x
 y:Sm 8 v.y
 z:Sm 8 v.z
structure Mp(l:List V3):Prop where
 l4:4<=l.length
 l8:l.length<=8
 bd:∀v∈l,Sm 11 v.x/\Sm 11 v.y/\Sm 11 v.z
 nf:nf0 l=true
theorem Mp.inV{l:List V3}(h:Mp l):l.all inV=true:=Qcf.2 λv hv=>by
 obtain⟨h1,h2,h3⟩:=h.bd v hv;exact (Oa2 v).2 ⟨h1.mono (by omega),h2.mono (by omega),h3.mono (by omega)⟩
theorem Za8{l:List V3}(h:qa8 l=0):l.length<=48/\l.all inV=true/\Sol l:=by
 unfold qa8 at h
 split at h
 ·cases h
 rename_i h48
 split at h
 ·cases h
 rename_i hin
 split at h
 ·cases h
 rename_i hf;have hl:l.all inV=true:=by
  rw[Qcf];intro v hv;cases hi:inV v with
  |true=>rfl
  |false=>exact absurd (Qib.2 ⟨v,hv,by rw[hi];rfl⟩) hin
 have hin2:=Qcf.1 hl;refine⟨by omega,hl,?_⟩
 have hf:db6 l=false:=Bool.eq_false_iff.2 hf;unfold db6 at hf
 split at hf
 ·rename_i h1;obtain⟨hi,k1⟩:=Za7 h1;have k1:(ixs (iF l)).any (sp2 l (iF l))=true:=k1;obtain⟨hj,k2⟩:=Za7 k1;have k2:(l.take (jF l)).any (λv=>(C4 v (gL tV l (jF l)) (gL tV l (iF l))).2)=true:=k2
  have hj:jF l<iF l:=hj;have hi:iF l<l.length:=hi;have hk:=fc1 k2;have hk2:=Qir (xs:=l.take (jF l)) (p:=λv=>(C4 v (gL tV l (jF l)) (gL tV l (iF l))).2) (w:=hk)
  rw[Qia] at hk;rw[<- nb0 tV (by rw[Qia];exact hk),Xb3 tV l (by omega)] at hk2
  have ht:=(qa0 hk2).2;rw[Bool.not_eq_false',Qib] at hf;obtain⟨v,hv,hne⟩:=hf;have hne:Y9 (plF l) v≠0:=bne_iff_ne.1 hne;have ht:Thr (gL tV l (kF l)) (gL tV l (jF l)) (gL tV l (iF l)) (plF l):=ht;have hkl:kF l<l.length:=by
   have:kF l<min (jF l) l.length:=hk
   omega
  have hoff:dot (plF l).n v≠(plF l).b:=λe=>hne ((Wb8 ht.ok (hin2 v hv)).2 e)
  refine⟨_,_,_,v,gLm hkl,gLm (show jF l<l.length by omega),gLm hi,hv,λh0=>hoff ?_⟩
  obtain⟨ok,⟨g,hg,e1,e2,e3⟩,o⟩:=ht;have e:g*(dot (plF l).n v-(plF l).b)=dot (N3 (gL tV l (kF l)) (gL tV l (jF l)) (gL tV l (iF l))) (H9 v (gL tV l (kF l))):=by
   have e1:g*(plF l).n.x=(N3 (gL tV l (kF l)) (gL tV l (jF l)) (gL tV l (iF l))).x:=e1;have e2:g*(plF l).n.y=(N3 (gL tV l (kF l)) (gL tV l (jF l)) (gL tV l (iF l))).y:=e2;have e3:g*(plF l).n.z=(N3 (gL tV l (kF l)) (gL tV l (jF l)) (gL tV l (iF l))).z:=e3;rw[o];simp only[dot];rw[<- e1,<- e2,<- e3];simp only[H9]
   grind
  rw[h0] at e
  have:=(Qic.1 e).resolve_left (by omega)
  omega
 ·cases hf
def O8(l:List V3):PLq×Int:=if qa8 l=0 then (F0 l,0) else ([],qa8 l)
def Rb3(l:List V3):List V3×Int:=if qa8 l=0 then (ce2 (F0 l) l,0) else ([],qa8 l)
theorem cd8{l:List V3}(h48:l.length<=48)(hl:l.all inV=true):(F0 l).length<=1000000:=by
 have h1:=fc3 (dis l) (G0 (dis l));have hd:=Fc3 l;have h2:(G0 (dis l)).length<=_:=fc4 (dis l) (by omega) _ (Qac _)
 rw[<- qc8 hl,Za2];omega
theorem Oa4(a:V3)(l:List V3)(hl:l.length<=900000):Rd (two (r1L tP) r1I) (U9 (a,l)) (λr=>r=O8 (a::l)):=by
 by_cases h:qa8 (a::l)=0
 ·obtain⟨h1,h2,h3⟩:=Za8 h;unfold O8;rw[if_pos h];exact Oc4 a l h1 h2 h3
 ·have hll:(a::l).length<=1000000:=by simp only[List.length_cons];omega
  have hne:(qa8 (a::l) != 0)=true:=bne_iff_ne.2 h;unfold O8 U9;rw[if_neg h];simp only[r7,Ta4,p9,pb5 (a::l) hll,pb4 (a::l) hll,hne,D9];exact⟨_,([],qa8 (a::l)),rfl,rfl,rfl⟩
theorem pb6:qa8 []=11:=by
 unfold qa8 db6;rfl
def Rb4(l:List V3):PLq×Int:=O8 l
def db8(l:List V3):Bool:=decide (1<=l.length/\l.length<=900000)
def Rb5:Sum:=G7 (da6 tV) λl=>.guard (db8 l) (.ret ((two (r1L tP) r1I).enc (Rb4 l),[]))
theorem Pb0:c8 prog G 70 Rb5:=by
 refine Zc3 (Za3 cb7 λa r hr=>?_) (Za3 Va9 λa r hr=>?_) (Za3 Wa0 λa r hr=>?_)
 ·obtain⟨p,c⟩:=a;obtain⟨hg,hr⟩:=DT.run_guard_some hr;have hl:c.length<=900000:=by
   have:=(of_decide_eq_true hg).2
   simp only[List.length_cons] at this;omega
  have hp:wa3 (p,c)=O8 (p::c):=(Oa4 p c hl).p;have hq:wa4 (p,c)=true:=(Oa4 p c hl).g;rw[hp,hq];exact hr
 ·obtain⟨hg,hr⟩:=DT.run_guard_some hr;exact absurd (of_decide_eq_true hg).1 (by simp)
 ·obtain⟨hg,hr⟩:=DT.run_guard_some hr;exact absurd (of_decide_eq_true hg).1 (by simp)
theorem pb7(a:V3)(l:List V3)(hl:l.length<=900000):Rd (two (r1L tV) r1I) (ba7 (a,l)) (λr=>r=Rb3 (a::l)):=by
 have hok:okL tV (l.length+1) (λk=>tV.row (gL tV (a::l) k))=true:=Ma3 tV (f:=λk=>gL tV (a::l) k) λ_ _=>rfl
 have hp:wa3 (a,l)=O8 (a::l):=(Oa4 a l hl).p;have hq:wa4 (a,l)=true:=(Oa4 a l hl).g;unfold Rb3;unfold ba7;simp only[r7,Ta4,p9,Bc8,Bc9,hok,hp,hq,D9];unfold O8;by_cases h:qa8 (a::l)=0
 ·obtain⟨h1,h2,h3⟩:=Za8 h;have hF:OkF (F0 (a::l)):=⟨cd8 h1 h2,λp hp=>(Kd6 hp).ok⟩
  obtain⟨m,r,e1,e2,e3,e4⟩:=fc8 a l (by omega)
  obtain⟨m',r',k1,k2,k3⟩:=zc0 r m e2 (F0 (a::l)) e4 hF;rw[if_pos h,if_pos h];simp only[e1,k1];refine⟨_,(r'.take m',0),rfl,?_,by rw[k3,e3];rfl⟩
  have h:(r1L tV).rd [⟨23,3,bL tV r',true,false,0⟩] (.sl 0 0 m' 0)=some (r'.take m'):=by
   show Bool.rec (motive:=λ_=>Option (List V3)) none (some (slR tV (bL tV r') 0 m')) (Bool.and true (okS tV (bL tV r') 0 m'))=_
   rw[Xb0 _ _ k2,wb1 _ _ k2];rfl
  simp only[two,h];rfl
 ·have hne:(qa8 (a::l) != 0)=true:=bne_iff_ne.2 h;rw[if_neg h,if_neg h];simp only[hne,D9];exact⟨_,([],qa8 (a::l)),rfl,rfl,rfl⟩
def Db2(l:List V3):List V3×Int:=Rb3 l
def Pa9(l:List V3):Bool:=decide (1<=l.length/\l.length<=900000)
def Db3:Sum:=G7 (da6 tV) λl=>.guard (Pa9 l) (.ret ((two (r1L tV) r1I).enc (Db2 l),[]))
theorem wb3:c8 prog G 69 Db3:=by
 refine Zc3 (Za3 Cb0 λa r hr=>?_) (Za3 ub7 λa r hr=>?_) (Za3 ub9 λa r hr=>?_)
 ·obtain⟨p,c⟩:=a;obtain⟨hg,hr⟩:=DT.run_guard_some hr;have hl:c.length<=900000:=by
   have:=(of_decide_eq_true hg).2
   simp only[List.length_cons] at this;omega
  have hp:Va7 (p,c)=Rb3 (p::c):=(pb7 p c hl).p;have hq:Va8 (p,c)=true:=(pb7 p c hl).g;rw[hp,hq];exact hr
 ·obtain⟨hg,hr⟩:=DT.run_guard_some hr;exact absurd (of_decide_eq_true hg).1 (by simp)
 ·obtain⟨hg,hr⟩:=DT.run_guard_some hr;exact absurd (of_decide_eq_true hg).1 (by simp)
set_option maxRecDepth 100000
def qa9(x:Int)(y:Int):ROq:=let y0:=(.tup [i 0,i 3],[]);(sl (decide (x<0)) (some y0) (sl (decide (x>1073741824)) (some y0) (sl (decide (y<1)) (some y0) (sl (decide (y>1048576)) (some y0) (sl ((W (6*y))==0) none (some (.tup [i (W (Int.tdiv (W ((W (x+(W (6*y))))-1)) (W (6*y)))),i 0],[])))))))
def ja4(x:Int)(y:Int):Int×Int:=T9 (two r1I r1I) (qa9 x y)
def ja5(x:Int)(y:Int):Bool:=okO (two r1I r1I) (qa9 x y)
def yb8:Sum:=va0 cI cI (λx y=>.guard (ja5 x y) (.ret ((two r1I r1I).enc (ja4 x y),[])))
theorem gc0:c8 prog G 8 yb8:=Lb3 (bd b8 Ab3) (two r1I r1I) (o:=qa9)
structure id9 where
 (is1 is2 is3 f7 d9 f9 wd1 ie7 ie8:Int)
structure jd0 where
 se7:Int
def rch(n e:V3):Int:=(n.x.natAbs:Int)*e.x+(n.y.natAbs:Int)*e.y+(n.z.natAbs:Int)*e.z
def pq(e:V3)(s:Int)(p:Pln):Pln:=⟨p.n,p.b+s*rch p.n e⟩
def okq(e:V3)(s:Int)(p:Pln):Bool:=okp p&&smb 2097152 (p.b+s*rch p.n e)
structure B12(e:V3):Prop where
 x1:0<=e.x
 x2:e.x<=12
 y1:0<=e.y
 y2:e.y<=12
 z1:0<=e.z
 z2:e.z<=12
def sd0(x y:Int):Bool:=(decide (0<=x)&&decide (x<=1073741824))&&(decide (1<=y)&&decide (y<=1048576))
def Oc5(x y:Int):Int×Int:=if sd0 x y=true then ((x+6*y-1) / (6*y),0) else (0,3)
theorem Pb1{x y:Int}:sd0 x y=true↔(0<=x/\x<=1073741824)/\1<=y/\y<=1048576:=by unfold sd0;simp only[Qbd,decide_eq_true_eq]
theorem Ld5{x d:Int}(hx:0<=x):Int.tdiv x d=x / d:=Int.tdiv_eq_ediv_of_nonneg hx
theorem cd9(x y:Int):qa9 x y=some (.tup [i (Oc5 x y).1,i (Oc5 x y).2],[]):=by
 unfold qa9 Oc5;by_cases h:sd0 x y=true
 ·obtain⟨⟨a1,a2⟩,b1,b2⟩:=Pb1.1 h;rw[if_pos h,bfD (by omega),bfD (by omega),bfD (by omega),bfD (by omega),aa8 (n:=6*y) (by omega) (by omega),bf (beq_eq_false_iff_ne.2 (by omega)),aa8 (n:=x+6*y) (by omega) (by omega),aa8 (n:=x+6*y-1) (by omega) (by omega),Ld5 (by omega)]
  have h0:0<=(x+6*y-1) / (6*y):=Int.ediv_nonneg (by omega) (by omega)
  have h1:(x+6*y-1) / (6*y)<=x+6*y-1:=Int.ediv_le_self _ (by omega)
  rw[aa8 (by omega) (by omega)]
 ·rw[if_neg h];rw[Pb1] at h;by_cases h1:x<0
  ·rw[btD h1]
  rw[bfD h1];by_cases h2:x>1073741824
  ·rw[btD h2]
  rw[bfD h2];by_cases h3:y<1
  ·rw[btD h3]
  rw[bfD h3];by_cases h4:y>1048576
  ·rw[btD h4]
  exact absurd ⟨⟨by omega,by omega⟩,by omega,by omega⟩ h
theorem Ld6(x y:Int):ja4 x y=Oc5 x y:=by unfold ja4;rw[cd9];rfl
theorem Ld7(x y:Int):ja5 x y=true:=by unfold ja5;rw[cd9];rfl
end Go.Ev.Ce
