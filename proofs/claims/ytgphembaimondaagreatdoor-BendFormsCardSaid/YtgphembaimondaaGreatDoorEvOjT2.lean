/- Own work. -/
import Derived.Test.YtgphembaimondaaGreatDoorEvOjE1
set_option linter.all false
noncomputable section
def Qia:=@List.length_take
def Qib:=@List.any_eq_true
def Qic:=@Int.mul_eq_zero
def Qid:=@List.pairwise_cons
def Qie:=@List.drop_zero
def Qif:=@Int.mul_nonneg
def Qig:=@Bool.and_true
def Qih:=@Bool.and_self
def Qii:=@Int.le_of_lt
def Qij:=@List.filter_cons
def Qik:=@List.take_succ_eq_append_getElem
def Qil:=@Int.mul_le_mul_of_nonneg_right
def Qim:=@List.filter_append
def Qin:=@List.take_append_of_le_length
def Qio:=@Int.zero_mul
def Qip:=@Nat.gcd_dvd_left
def Qiq:=@Bool.not_eq_true
def Qir:=@List.findIdx_getElem
def Qis:=@Nat.gcd_dvd_right
def Qit:=@List.findIdx_lt_length_of_exists
def Qiu:=@List.length_filter_le
def Qiv:=@Int.mul_tdiv_cancel'
def Qiw:=@Int.nonneg_of_mul_nonneg_right
def Qix:=@List.length_set
def Qiy:=@Int.mul_le_mul_of_nonneg_left
def Qiz:=@Nat.lt_or_gt_of_ne
def Qiaa:=@Nat.dvd_trans
def Qiab:=@Nat.gcd_zero_left
def Qiac:=@Int.eq_of_mul_eq_mul_left
def Qiad:=@Nat.ble_eq
def Qiae:=@List.not_mem_nil
def Qiaf:=@List.not_all_eq_any_not
def Qiag:=@List.pairwise_mergeSort
def Qiah:=@List.pairwise_singleton
def Qiai:=@List.drop_eq_nil_of_le
def Qiaj:=@List.getElem_set_self
def Qiak:=@List.take_take
namespace Go.Ev.Ce
open Go Go.Ev Go.Ev.L Go.Proofs
def inn(l:PLq)(x:Pt):Bool:=l.all λp=>!decide (rm p x<0)
def eqX(x q:Pt):Bool:=q.px==x.px&&(q.py==x.py&&(q.pz==x.pz&&(q.pw==x.pw&&true)))
def Be3(l:List Pt)(x:Pt):Bool:=l.any (eqX x)
def smb(n x:Int):Bool:=!decide (x < -n)&&!decide (x>n)
theorem Ta6(n x:Int):smb n x=true↔Sm n x:=by unfold smb Sm;simp only[Qbd,Qdb,decide_eq_false_iff_not];omega
theorem Vb7(n:Int)(l:List Int)(hn:0<=n/\n<=1000000000)(hl:l.length<=1000000000):ba7 n l=some (b (l.all (smb n)),[]):=by
 have hW:W (0-n)=-n:=by rw[fa7 (by omega) (by omega)];omega
 have h:=Vd1 (step:=R5 ⟨n,l,(l.length:Int)⟩) (mk:=λj=>(⟨(j:Int)⟩:A6)) (c:=λx=>!smb n x) (u:=1) (fin:=2) tI l hl
  (λj hj=>by
   simp only[R5,V9,Int.toNat_natCast,K5 hj (by omega),hW]
   rw[bt (Ub9 hj),bt (o5 hj)];unfold smb;cases decide (gL tI l j < -n)<;>cases decide (gL tI l j>n)<;>rfl)
  (by simp only[R5,V9];rw[bf (tb2 (Qed _))]) 0 (Qee _)
 rw[Qie] at h;unfold ba7;simp only[v7,r4];rw[show (⟨0⟩:A6)=⟨((0:Nat):Int)⟩ from rfl,h]
 have e:(l.any λx=>!smb n x)=!l.all (smb n):=by rw[Qiaf]
 rw[e];cases l.all (smb n)<;>rfl
theorem Cb1(n:Int)(l:List Int)(hn:0<=n/\n<=1000000000)(hl:l.length<=1000000000):T5 n l=l.all (smb n):=by unfold T5;rw[Vb7 n l hn hl];rfl
theorem Cb2(n:Int)(l:List Int)(hn:0<=n/\n<=1000000000)(hl:l.length<=1000000000):T6 n l=true:=by unfold T6;rw[Vb7 n l hn hl];rfl
theorem zc1{n:Int}(h:Sm 1000000000000000000 n):ea8 n=(n.natAbs:Int):=by
 unfold ea8;obtain⟨h1,h2⟩:=h;rw[fa7 (by omega) (by omega)]
 split<;>omega
theorem ub4{n:Int}(h:Sm 1000000000000000000 n):oa0 n=some (i (n.natAbs:Int),[]):=by
 unfold oa0;obtain⟨h1,h2⟩:=h;rw[fa7 (by omega) (by omega)]
 by_cases h:n<0
 ·rw[bt (decide_eq_true h)];congr 3;omega
 ·rw[bf (decide_eq_false h)];congr 3;omega
theorem cb3{n:Int}(h:Sm 1000000000000000000 n):ba5 n=(n.natAbs:Int):=by unfold ba5;rw[ub4 h];rfl
theorem cb4{n:Int}(h:Sm 1000000000000000000 n):ba6 n=true:=by unfold ba6;rw[ub4 h];rfl
def g3(v:V3):Int:=(Nat.gcd (Nat.gcd v.x.natAbs v.y.natAbs) v.z.natAbs:Nat)
theorem md1(g n:Nat):eu (g:Int) (n:Int)=(Nat.gcd g n:Nat):=by rw[Vd4 (by omega) (by omega)];rfl
theorem Zb5(P:J1)(g n:Nat)(hn:n<=1000000000000000000):lp (H8 P) ⟨(g:Int),(n:Int)⟩=(1,⟨(Nat.gcd g n:Nat),0⟩):=by
 have:=Fb2 (step:=H8 P) (mk:=λg n=>(⟨g,n⟩:C1)) (λg n h=>by
  have h0:n≠0:=by omega
  simp[H8,S5,mb7,h,h0]) (λg=>by simp[H8,S5,mb7]) (g:Int) (n:Int) (by omega) (by omega) (by omega)
 rw[this,md1]
theorem Vb8(l:List Int)(hl:l.length<=1000000000)(hb:∀x∈l,Sm 1000000000000000000 x):X5 l=some (i (l.foldl (λg x=>Nat.gcd g x.natAbs) 0:Nat),[]):=by
 have h := Bd2 (step := N5 ⟨(l.length : Int)⟩) (mk := fun j (a : Nat) => (⟨(a : Int), l, (j : Int)⟩ : w4)) (f := fun g x => Nat.gcd g x.natAbs) (fin := 2) tI l (fun _ _ => True) hl (fun j a hj _ => ⟨by
   have hm:=hb _ (nc4 tI hj);have hne:(gL tI l j==(-9223372036854775808:Int))=false:=by
    have:=hm.1
    rw[beq_eq_false_iff_ne];omega
   have hs:(gL tI l j).natAbs<=1000000000000000000:=by obtain⟨h1,h2⟩:=hm;omega
   simp only[N5,S6,Int.toNat_natCast,v7,r4,zc1 hm,Zb5 _ _ _ hs,K5 hj (by omega)]
   rw[bt (Ub9 hj),bt (o5 hj),bf hne]
   rfl,trivial⟩) (λa _=>by simp only[N5,S6];rw[bf (tb2 (Qed _))]) 0 (Qee _) 0 trivial
 have h:=h.1;rw[Qie] at h;unfold X5;simp only[v7,r4];rw[show (⟨0,l,0⟩:w4)=⟨((0:Nat):Int),l,((0:Nat):Int)⟩ from rfl,h]
 rfl
def okp(p:Pln):Bool:=[p.n.x,p.n.y,p.n.z].all (smb 4608)&&(g3 p.n==1&&[p.b].all (smb 2097152))
theorem Wd1(p:Pln):Bd p↔[p.n.x,p.n.y,p.n.z].all (smb 4608)=true/\[p.b].all (smb 2097152)=true:=by
 simp only[List.all_cons,List.all_nil,Qig,Qbd,Ta6,Sm];exact⟨λh=>⟨⟨⟨h.x1,h.x2⟩,⟨h.y1,h.y2⟩,h.z1,h.z2⟩,h.b1,h.b2⟩,λ⟨⟨⟨a,b⟩,⟨c,d⟩,e,f⟩,g,h⟩=>⟨a,b,c,d,e,f,g,h⟩⟩
theorem Jc1{p:Pln}(h:okp p=true):Bd p:=by
 unfold okp at h;rw[Qbd,Qbd] at h;exact (Wd1 p).2 ⟨h.1,h.2.2⟩
theorem sm3{v:V3}(h:[v.x,v.y,v.z].all (smb 4608)=true):Sm 4608 v.x/\Sm 4608 v.y/\Sm 4608 v.z:=by
 simpa only[List.all_cons,List.all_nil,Qig,Qbd,Ta6] using h
theorem zc2(p:Pln):ha2 p=some (b (okp p),[]):=by
 unfold ha2 okp;have l3:[p.n.x,p.n.y,p.n.z].length<=1000000000:=by simp
 have l1:[p.b].length<=1000000000:=by simp
 simp only[Cb1 4608 _ (by omega) l3,Cb2 4608 _ (by omega) l3,Cb1 2097152 _ (by omega) l1,Cb2 2097152 _ (by omega) l1]
 cases hw:[p.n.x,p.n.y,p.n.z].all (smb 4608) with
 |false=>rfl
 |true =>
  obtain⟨h1,h2,h3⟩:=sm3 hw;have hd:=Vb8 [p.n.x,p.n.y,p.n.z] l3 (by
   intro x hx;simp only[Qbp,Qiae,or_false] at hx
   rcases hx with rfl|rfl|rfl
   ·exact h1.mono (by omega)
   ·exact h2.mono (by omega)
   ·exact h3.mono (by omega))
  have hg:([p.n.x,p.n.y,p.n.z].foldl (λg x=>Nat.gcd g x.natAbs) 0:Nat)=Nat.gcd (Nat.gcd p.n.x.natAbs p.n.y.natAbs) p.n.z.natAbs:=by
   simp only[List.foldl_cons,List.foldl_nil,Qiab]
  have hp:K2 [p.n.x,p.n.y,p.n.z]=g3 p.n:=by unfold K2;rw[hd,hg];rfl
  have hgd:K3 [p.n.x,p.n.y,p.n.z]=true:=by unfold K3;rw[hd];rfl
  rw[hp,hgd];cases g3 p.n==1<;>rfl
theorem Bd7(p:Pln):sa6 p=okp p:=by unfold sa6;rw[zc2 p];rfl
theorem Bd8(p:Pln):sa7 p=true:=by unfold sa7;rw[zc2 p];rfl
theorem Cb3(P:ea6)(g n:Nat)(hn:n<=1000000000000000000):lp (S1 P) ⟨(g:Int),(n:Int)⟩=(1,⟨(Nat.gcd g n:Nat),0⟩):=by
 have:=Fb2 (step:=S1 P) (mk:=λg n=>(⟨g,n⟩:L4)) (λg n h=>by
  have h0:n≠0:=by omega
  simp[S1,Da1,mb7,h,h0]) (λg=>by simp[S1,Da1,mb7]) (g:Int) (n:Int) (by omega) (by omega) (by omega)
 rw[this,md1]
theorem nc7{v:V3}(h1:Sm 1000000000000000000 v.x)(h2:Sm 1000000000000000000 v.y)(h3:Sm 1000000000000000000 v.z) :
  Sa7 v=if g3 v=0 then some (.tup [.agg (tV.row ⟨0,0,0⟩),i 0],[]) else some (.tup [.agg (tV.row ⟨W (Int.tdiv v.x (g3 v)),W (Int.tdiv v.y (g3 v)),W (Int.tdiv v.z (g3 v))⟩),i (g3 v)],[]):=by
 have ne:∀{x:Int},Sm 1000000000000000000 x->(x==(-9223372036854775808:Int))=false:=λ{x} h=>by
  have:=h.1
  rw[beq_eq_false_iff_ne];omega
 have bd:∀{x:Int},Sm 1000000000000000000 x->x.natAbs<=1000000000000000000:=λ{x} h=>by obtain⟨h1,h2⟩:=h;omega
 have l1:=Cb3 ⟨0,v.x,v.y,v.z,v.x,v.y,v.z⟩ 0 v.x.natAbs (bd h1);rw[Qiab] at l1;have l2:=Cb3 ⟨1,v.x,v.y,v.z,v.x,v.y,v.z⟩ v.x.natAbs v.y.natAbs (bd h2);have l3:=Cb3 ⟨2,v.x,v.y,v.z,v.x,v.y,v.z⟩ (Nat.gcd v.x.natAbs v.y.natAbs) v.z.natAbs (bd h3);unfold Sa7;simp only[cb3 h1,cb3 h2,cb3 h3,cb4 h1,cb4 h2,cb4 h3];rw[show (⟨0,(v.x.natAbs:Int)⟩:L4)=⟨((0:Nat):Int),(v.x.natAbs:Int)⟩ from rfl]
 simp only[l1,l2,l3,ne h1,ne h2,ne h3];rw[show ((Nat.gcd (Nat.gcd v.x.natAbs v.y.natAbs) v.z.natAbs:Nat):Int)=g3 v from rfl]
 by_cases h:g3 v=0
 ·rw[if_pos h,show (g3 v==0)=true from by rw[h];rfl];rfl
 ·rw[if_neg h,show (g3 v==0)=false from by rw[beq_eq_false_iff_ne];exact h];rfl
theorem Vb9{v:V3}(h1:Sm 1000000000000000000 v.x)(h2:Sm 1000000000000000000 v.y)(h3:Sm 1000000000000000000 v.z):(ra2 v).2=g3 v:=by
 unfold ra2;rw[nc7 h1 h2 h3];split
 ·rename_i h;rw[h];rfl
 ·rfl
theorem Wd2{v:V3}(h1:Sm 1000000000000000000 v.x)(h2:Sm 1000000000000000000 v.y)(h3:Sm 1000000000000000000 v.z)(h:g3 v≠0):ra2 v=(⟨W (Int.tdiv v.x (g3 v)),W (Int.tdiv v.y (g3 v)),W (Int.tdiv v.z (g3 v))⟩,g3 v):=by
 unfold ra2;rw[nc7 h1 h2 h3,if_neg h];rfl
theorem md2{v:V3}(h1:Sm 1000000000000000000 v.x)(h2:Sm 1000000000000000000 v.y)(h3:Sm 1000000000000000000 v.z):Sa8 v=true:=by
 unfold Sa8;rw[nc7 h1 h2 h3]
 split<;>rfl
theorem Yc5(p:Pln):Ia0 p=some (b (okp p),[]):=by
 unfold Ia0 okp;cases hw:[p.n.x,p.n.y,p.n.z].all (smb 4608) with
 |false =>
  simp only[List.all_cons,List.all_nil,Qig,smb] at hw;cases h1:decide (p.n.x < -4608)<;>cases h2:decide (p.n.x>4608)<;>cases h3:decide (p.n.y < -4608)<;>cases h4:decide (p.n.y>4608)<;>cases h5:decide (p.n.z < -4608)<;>cases h6:decide (p.n.z>4608)<;>simp only[h1,h2,h3,h4,h5,h6] at hw ⊢<;>first | rfl | cases hw
 |true =>
  obtain⟨h1,h2,h3⟩:=sm3 hw;rw[bf (decide_eq_false (by have:=h1.1;omega)),bf (decide_eq_false (by have:=h1.2;omega)),bf (decide_eq_false (by have:=h2.1;omega)),bf (decide_eq_false (by have:=h2.2;omega)),bf (decide_eq_false (by have:=h3.1;omega)),bf (decide_eq_false (by have:=h3.2;omega))]
  have k1:=h1.mono (m:=1000000000000000000) (by omega)
  have k2:=h2.mono (m:=1000000000000000000) (by omega)
  have k3:=h3.mono (m:=1000000000000000000) (by omega)
  rw[bt (md2 k1 k2 k3),Vb9 k1 k2 k3];cases g3 p.n==1 with
  |false=>rfl
  |true =>
   simp only[List.all_cons,List.all_nil,Qig,smb,Bool.true_and];rw[s6];by_cases ha:p.b < -2097152
   ·rw[bf (decide_eq_false (by omega)),show decide (p.b < -2097152)=true from decide_eq_true ha];rfl
   ·rw[bt (decide_eq_true (by omega)),show decide (p.b < -2097152)=false from decide_eq_false ha]
    congr 3;by_cases hc:p.b<=2097152
    ·rw[decide_eq_true hc,decide_eq_false (by omega)];rfl
    ·rw[decide_eq_false hc,decide_eq_true (by omega)];rfl
theorem md3(p:Pln):ab5 p=true:=by unfold ab5;rw[Yc5 p];rfl
def chk(l:PLq):Int:=if (l.length:Int)>48 then 2 else if l.all okp then 0 else 12
theorem md4{l:PLq}:chk l=0↔l.length<=48/\∀p∈l,okp p=true:=by
 unfold chk;by_cases hn:(l.length:Int)>48
 ·rw[if_pos hn];exact⟨λh=>absurd h (by decide),λh=>by omega⟩
 ·rw[if_neg hn];cases h:l.all okp with
  |true=>exact⟨λ_=>⟨by omega,Qcf.1 h⟩,λ_=>rfl⟩
  |false=>exact⟨λh=>absurd h (by decide),λh'=>by rw[Qcf.2 h'.2] at h;cases h⟩
theorem btD{p:Prop}{inst:Decidable p}(h:p){α:Type}(t e:α):sl (@decide p inst) t e=t:=bt (decide_eq_true h) t e
theorem bfD{p:Prop}{inst:Decidable p}(h:¬ p){α:Type}(t e:α):sl (@decide p inst) t e=e:=bf (decide_eq_false h) t e
theorem H5{j n:Nat}(h:j<n):(j:Int)<(n:Int):=Int.ofNat_lt.2 h
theorem O6{j n:Nat}(h:¬ j<n):¬ (j:Int)<(n:Int):=λh'=>h (Int.ofNat_lt.1 h')
def pe2(r:PLq)(p q:Pln)(out:List Pt)(s:Pln):List Pt :=
 if (mpt p q s).2&&(!Be3 out (mpt p q s).1&&inn r (mpt p q s).1) then out++[(mpt p q s).1] else out
def Be4(r:PLq)(p q:Pln)(l:PLq)(out:List Pt):List Pt:=l.foldl (pe2 r p q) out
def pe3(r:PLq)(p:Pln):PLq->List Pt->List Pt
 |[],out=>out
 |q::l,out=>pe3 r p l (Be4 r p q l out)
def pe4(r:PLq):PLq->List Pt->List Pt
 |[],out=>out
 |p::l,out=>pe4 r l (pe3 r p l out)
def cor(r:PLq):List Pt:=pe4 r r []
def ph(out:List Pt):Nat:=match out with
 |[]=>0
 |_::_=>1
theorem Pc7{α:Type}(t:Ty α)(l:List α)(n k:Nat):gL t (l.drop n) k=gL t l (n+k):=by simp[gL,Qda,Qbj]
theorem Yc6{ρ:Type}(R:RR ρ){x:a7×List a8}{r:ρ}(h:R.rd x=some r):N4 R (some x)=r:=by
 show Option.rec (motive:=λ_=>ρ) R.d (λx=>x) (R.rd x)=r
 rw[h]
theorem md5{ρ:Type}(R:RR ρ){x:a7×List a8}{r:ρ}(h:R.rd x=some r):okO R (some x)=true:=by
 show Option.rec (motive:=λ_=>Bool) false (λ_=>true) (R.rd x)=true
 rw[h]
@[reducible] noncomputable def flK:List (Nat×CK):=[(0,.int .i64),(1,.int .i64),(2,.int .i64),(3,.int .i64)]
theorem Wd3(s:Pln):((Nat.ble 4 (len (tP.row s)))&&(Ga5 [CK.int .i64,CK.int .i64,CK.int .i64,CK.int .i64] (tP.row s)))=true:=rfl
def ws:PLq:=[⟨⟨1,0,0⟩,24⟩,⟨⟨-1,0,0⟩,24⟩,⟨⟨0,1,0⟩,24⟩,⟨⟨0,-1,0⟩,24⟩,⟨⟨0,0,1⟩,24⟩,⟨⟨0,0,-1⟩,24⟩]
def pos(X:List Pt)(p:Pln):Bool:=X.any λx=>decide (rm p x>0)
def Be5(r:PLq):Bool:=r.all (pos (cor r))
structure Okx(x:Pt):Prop where
 w1:0<x.pw
 w2:x.pw<=600000000000
 c1:Sm 300000000000000 x.px
 c2:Sm 300000000000000 x.py
 c3:Sm 300000000000000 x.pz
theorem md6{x y:Int}(hy:0<y):Int.tmod x y+y*Int.tdiv x y=x/\-y<Int.tmod x y/\Int.tmod x y<y:=by
 refine⟨Int.tmod_add_mul_tdiv x y,?_,Int.tmod_lt_of_pos x hy⟩
 have:=Int.lt_tmod_of_pos x hy
 omega
theorem Wd4(x:Int){y:Int}(hy:0<y)(hy2:y<=4000000000000000000):Oa1 x y=some (i (x % y),[]):=by
 have hz:(y==0)=false:=by rw[beq_eq_false_iff_ne];omega
 obtain⟨h1,h2,h3⟩:=md6 (x:=x) hy;unfold Oa1;rw[bfD (by omega),bf hz,bf hz,fa7 (by omega) (by omega),Int.tmod_eq_emod_of_nonneg (by omega)]
 congr 3;rw[Int.add_emod_right]
 conv=>rhs;rw[<- h1]
 rw[Int.add_mul_emod_self_left]
theorem zc3(x:Int){y:Int}(hy:0<y)(hy2:y<=4000000000000000000):T3 x y=true:=by unfold T3;rw[Wd4 x hy hy2];rfl
theorem Sm.neg{n x:Int}(h:Sm n x):Sm n (-x):=⟨by have:=h.2;omega,by have:=h.1;omega⟩
def Nx{σ:Type}(x:Stp σ)(E:Nat->Prop)(N:σ->Prop):Prop:=(∃t,x=.exit t/\E t)\/∃s,x=.next s/\N s
theorem Nx.sl{σ:Type}{c:Bool}{t e:Stp σ}{E:Nat->Prop}{N:σ->Prop}(h1:c=true->Nx t E N)(h2:c=false->Nx e E N):Nx (sl c t e) E N:=by cases c;exact h2 rfl;exact h1 rfl
theorem Nx.ex{σ:Type}{t:Nat}{E:Nat->Prop}{N:σ->Prop}(h:E t):Nx (.exit t) E N:=.inl ⟨t,rfl,h⟩
theorem Nx.nx{σ:Type}{s:σ}{E:Nat->Prop}{N:σ->Prop}(h:N s):Nx (.next s) E N:=.inr ⟨s,rfl,h⟩
theorem ka4{σ τ:Type}{step:σ->Stp σ}{mk:Nat->τ->σ}(n:Nat)(I:Nat->τ->Prop)(E:Nat->σ->Prop)(hn:n<=1000000000)
  (h:∀j a,j<n->I j a->Nx (step (mk j a)) (λt=>E t (mk j a)) (λs=>∃a',s=mk (j+1) a'/\I (j+1) a'))
  (hf:∀j a,n<=j->I j a->∃t,step (mk j a)=.exit t/\E t (mk j a)) (j0:Nat) (a:τ) (hi:I j0 a):∃t s,lp step (mk j0 a)=(t,s)/\E t s:=by
 have key:=Ab4 (step:=step) (I:=λm s=>∃j a,m=n-j/\s=mk j a/\I j a) (Q:=E) (λm s ⟨j,a,hm,hs,ha⟩=>by
  subst hs;by_cases hlt:j<n
  ·rcases h j a hlt ha with h1|⟨s',h1,a',h2,h3⟩
   ·exact .inl h1
   ·subst h2;exact .inr ⟨_,n-(j+1),by omega,h1,j+1,a',rfl,rfl,h3⟩
  ·exact .inl (hf j a (by omega) ha)) (n-j0) (mk j0 a) (by omega) ⟨j0,a,rfl,rfl,hi⟩
 exact⟨_,_,rfl,key⟩
def Rd{ρ:Type}(R:RR ρ)(o:ROq)(P:ρ->Prop):Prop:=∃x r,o=some x/\R.rd x=some r/\P r
theorem Rd.p{ρ:Type}{R:RR ρ}{o:ROq}{P:ρ->Prop}(h:Rd R o P):P (N4 R o):=by
 obtain⟨x,r,h1,h2,h3⟩:=h;rw[h1,Yc6 R h2];exact h3
theorem Rd.g{ρ:Type}{R:RR ρ}{o:ROq}{P:ρ->Prop}(h:Rd R o P):okO R o=true:=by
 obtain⟨x,r,h1,h2,h3⟩:=h;rw[h1];exact md5 R h2
theorem Rd.sl{ρ:Type}{R:RR ρ}{c:Bool}{t e:ROq}{P:ρ->Prop}(h1:c=true->Rd R t P)(h2:c=false->Rd R e P):Rd R (sl c t e) P:=by cases c;exact h2 rfl;exact h1 rfl
def inV(v:V3):Bool:=smb 24 v.x&&(smb 24 v.y&&smb 24 v.z)
theorem Ta7(v:V3):inV v=true↔Sm 24 v.x/\Sm 24 v.y/\Sm 24 v.z:=by unfold inV;rw[Qbd,Qbd,Ta6,Ta6,Ta6]
theorem md7(v:V3):sb5 v=some (b (inV v),[]):=by
 unfold sb5 inV smb;cases h1:decide (v.x < -24)<;>cases h2:decide (v.x>24)<;>cases h3:decide (v.y < -24)<;>cases h4:decide (v.y>24)<;>cases h5:decide (v.z < -24)<;>cases h6:decide (v.z>24)<;>rfl
theorem pe5(v:V3):Oa4 v=inV v:=by unfold Oa4;rw[md7];rfl
theorem Nd2(v:V3):Oa5 v=true:=by unfold Oa5;rw[md7];rfl
def sub(a b:V3):V3:=⟨a.x-b.x,a.y-b.y,a.z-b.z⟩
theorem Pc8{a b:V3}(ha:inV a=true)(hb:inV b=true):Ba7 a b=sub a b/\Sm 48 (sub a b).x/\Sm 48 (sub a b).y/\Sm 48 (sub a b).z:=by
 rw[Ta7] at ha hb;obtain⟨⟨a1,a2⟩,⟨a3,a4⟩,a5,a6⟩:=ha;obtain⟨⟨b1,b2⟩,⟨b3,b4⟩,b5,b6⟩:=hb;unfold Ba7 sub;rw[fa7 (by omega) (by omega),fa7 (by omega) (by omega),fa7 (by omega) (by omega)]
 exact⟨rfl,⟨by show _<=a.x-b.x;omega,by show a.x-b.x<=_;omega⟩,⟨by show _<=a.y-b.y;omega,by show a.y-b.y<=_;omega⟩,⟨by show _<=a.z-b.z;omega,by show a.z-b.z<=_;omega⟩⟩
theorem Ma5{a b c:V3}(ha:inV a=true)(hb:inV b=true)(hc:inV c=true) :
  Ha9 (Ba7 b a) (Ba7 c a)=d7 (sub b a) (sub c a)/\Sm 4608 (d7 (sub b a) (sub c a)).x/\Sm 4608 (d7 (sub b a) (sub c a)).y/\Sm 4608 (d7 (sub b a) (sub c a)).z:=by
 obtain⟨e1,⟨u1,u2⟩,⟨u3,u4⟩,u5,u6⟩:=Pc8 hb ha;obtain⟨e2,⟨v1,v2⟩,⟨v3,v4⟩,v5,v6⟩:=Pc8 hc ha;rw[e1,e2,Bd6];generalize sub b a=p at *
 generalize sub c a=q at *
 have h1:=mb u3 u4 v5 v6;have h2:=mb u5 u6 v3 v4;have h3:=mb u5 u6 v1 v2;have h4:=mb u1 u2 v5 v6;have h5:=mb u1 u2 v3 v4;have h6:=mb u3 u4 v1 v2;have k:Sm 4608 (d7 p q).x/\Sm 4608 (d7 p q).y/\Sm 4608 (d7 p q).z:=by unfold Sm d7;simp only;omega
 obtain⟨k1,k2,k3⟩:=k;rw[Cb0 (k1.mono (by omega)),Cb0 (k2.mono (by omega)),Cb0 (k3.mono (by omega))]
 exact⟨rfl,k1,k2,k3⟩
def D0(a b c:V3):Pln×Bool :=
 if inV a&&(inV b&&inV c) then
  if g3 (d7 (sub b a) (sub c a))=0 then (⟨⟨0,0,0⟩,0⟩,false)
  else (⟨⟨Int.tdiv (d7 (sub b a) (sub c a)).x (g3 (d7 (sub b a) (sub c a))),Int.tdiv (d7 (sub b a) (sub c a)).y (g3 (d7 (sub b a) (sub c a))),Int.tdiv (d7 (sub b a) (sub c a)).z (g3 (d7 (sub b a) (sub c a)))⟩,
   dot ⟨Int.tdiv (d7 (sub b a) (sub c a)).x (g3 (d7 (sub b a) (sub c a))),Int.tdiv (d7 (sub b a) (sub c a)).y (g3 (d7 (sub b a) (sub c a))),Int.tdiv (d7 (sub b a) (sub c a)).z (g3 (d7 (sub b a) (sub c a)))⟩ a⟩,true)
 else (⟨⟨0,0,0⟩,0⟩,false)
theorem fb6(v:V3):0<=g3 v:=by unfold g3;omega
theorem Jc2(a c d:V3):sa8 a c d=some (.tup [.agg (tP.row (D0 a c d).1),b (D0 a c d).2],[]):=by
 unfold sa8 D0;simp only[pe5,Nd2];cases ha:inV a with
 |false=>rfl
 |true =>
  cases hc:inV c with
  |false=>rfl
  |true =>
   cases hd:inV d with
   |false=>rfl
   |true =>
    obtain⟨e,k1,k2,k3⟩:=Ma5 ha hc hd;rw[e];generalize d7 (sub c a) (sub d a)=n at *
    have m1:=k1.mono (m:=1000000000000000000) (by omega)
    have m2:=k2.mono (m:=1000000000000000000) (by omega)
    have m3:=k3.mono (m:=1000000000000000000) (by omega)
    rw[md2 m1 m2 m3,Vb9 m1 m2 m3];by_cases h0:g3 n=0
    ·rw[show (g3 n==0)=true from by rw[h0];rfl]
     simp only[Qih,if_true,h0];rfl
    ·have hp:=fb6 n;have q1:=Aa8 (g:=g3 n) k1 (by omega)
     have q2:=Aa8 (g:=g3 n) k2 (by omega)
     have q3:=Aa8 (g:=g3 n) k3 (by omega)
     rw[show (g3 n==0)=false from by rw[beq_eq_false_iff_ne];exact h0,Wd2 m1 m2 m3 h0]
     simp only[Qih,if_true,h0,if_false];rw[Cb0 (q1.mono (by omega)),Cb0 (q2.mono (by omega)),Cb0 (q3.mono (by omega))]
     have hdot:fb3 ⟨Int.tdiv n.x (g3 n),Int.tdiv n.y (g3 n),Int.tdiv n.z (g3 n)⟩ a=dot ⟨Int.tdiv n.x (g3 n),Int.tdiv n.y (g3 n),Int.tdiv n.z (g3 n)⟩ a:=by
      unfold fb3;simp only[Ub8,nc3];obtain⟨⟨a1,a2⟩,⟨a3,a4⟩,a5,a6⟩:=(Ta7 a).1 ha;have r1:=mb q1.1 q1.2 a1 a2;have r2:=mb q2.1 q2.2 a3 a4;have r3:=mb q3.1 q3.2 a5 a6;rw[fa7 (by omega) (by omega)]
      rfl
     rw[hdot];rfl
theorem Yc7(a b c:V3):Ka9 a b c=true:=by unfold Ka9;rw[Jc2];rfl
theorem Bd9(p:Pln)(v:V3):Rd (one r1I) (Ta2 p v) (λ_=>True):=by
 unfold Ta2;simp only[md3,Nd2,s6];exact Rd.sl (λ_=>⟨_,_,rfl,rfl,trivial⟩) λ_=>Rd.sl (λ_=>⟨_,_,rfl,rfl,trivial⟩) λ_=>Rd.sl (λ_=>⟨_,_,rfl,rfl,trivial⟩) λ_=>Rd.sl (λ_=>⟨_,_,rfl,rfl,trivial⟩) λ_=>⟨_,_,rfl,rfl,trivial⟩
theorem Wd5(p:Pln)(v:V3):Tb5 p v=true:=(Bd9 p v).g
theorem pe6(P:oa3)(hl:P.l6.length<=1000000000):∃t s,lp (ha4 P) ⟨0⟩=(t,s)/\(t=1\/t=2\/t=3):=by
 obtain⟨l,x1,x2,x3,x4,x5,x6,x7,x8⟩:=P;refine ka4 (step:=ha4 ⟨l,x1,x2,x3,x4,x5,x6,x7,x8⟩) (mk:=λj (_:Unit)=>(⟨(j:Int)⟩:ea9)) l.length (λ_ _=>True) (λt _=>t=1\/t=2\/t=3) hl (λj a hj _=>?_) (λj a hj _=>?_) 0 () trivial
 ·simp only[ha4,Da6,Wd5,Int.toNat_natCast,K5 hj (show l.length<=4611686018427387904 from Qad hl (by omega))]
  rw[btD (H5 hj),bt (o5 hj),s6];exact Nx.sl (λ_=>Nx.sl (λ_=>.ex (by simp)) λ_=>.nx ⟨(),rfl,trivial⟩) λ_=>.ex (by simp)
 ·simp only[ha4,Da6];rw[bfD (by omega)]
  exact⟨_,rfl,by simp⟩
theorem pe7(l:List V3)(hl:l.length<=1000000000)(a c:Nat)(ha:a<l.length)(hc:c<a):∃t s,lp (ha5 ⟨(a:Int),(c:Int)⟩) ⟨l,0⟩=(t,s)/\((t=1\/t=2)/\s.l6=l):=by
 refine ka4 (step:=ha5 ⟨(a:Int),(c:Int)⟩) (mk:=λj (_:Unit)=>(⟨l,(j:Int)⟩:fa0)) c (λ_ _=>True) (λt s=>(t=1\/t=2)/\s.l6=l) (by omega) (λj x hj _=>?_) (λj x hj _=>?_) 0 () trivial
 ·simp only[ha5,Da7,Yc7,Int.toNat_natCast,v7,r4,K5 hj (show c<=4611686018427387904 by omega)]
  rw[btD (H5 hj),bt (o5 ha),bt (o5 (show c<l.length by omega)),bt (o5 (show j<l.length by omega)),s6]
  generalize hP:oa3.mk _ _ _ _ _ _ _ _ _=P3;obtain⟨t,s,h1,h2⟩:=pe6 P3 (by subst hP;exact hl)
  rw[h1]
  rcases h2 with rfl|rfl|rfl
  ·exact .ex (by simp)
  ·exact .nx ⟨(),rfl,trivial⟩
  ·exact .nx ⟨(),rfl,trivial⟩
 ·simp only[ha5,Da7];rw[bfD (by omega)]
  exact⟨_,rfl,by simp⟩
theorem pe8(l:List V3)(hl:l.length<=1000000000)(a:Nat)(ha:a<l.length):∃t s,lp (ha6 ⟨(a:Int)⟩) ⟨l,0⟩=(t,s)/\((t=1\/t=2)/\s.l6=l):=by
 refine ka4 (step:=ha6 ⟨(a:Int)⟩) (mk:=λj (_:Unit)=>(⟨l,(j:Int)⟩:fa1)) a (λ_ _=>True) (λt s=>(t=1\/t=2)/\s.l6=l) (by omega) (λj x hj _=>?_) (λj x hj _=>?_) 0 () trivial
 ·simp only[ha6,Da8,v7,r4,K5 hj (show a<=4611686018427387904 by omega)]
  obtain⟨t,s,h1,h2,h3⟩:=pe7 l hl a j ha hj;rw[btD (H5 hj),h1]
  rcases h2 with rfl|rfl
  ·exact .ex (by simp)
  ·exact .nx ⟨(),by rw[h3],trivial⟩
 ·simp only[ha6,Da8];rw[bfD (by omega)]
  exact⟨_,rfl,by simp⟩
theorem Ra1(l:List V3)(hl:l.length<=1000000000):Rd (one r1B) (Tb6 l) (λ_=>True):=by
 have key:∃t s,lp (ha7 ⟨⟩) ⟨l,0⟩=(t,s)/\(t=1\/t=2):=by
  refine ka4 (step:=ha7 ⟨⟩) (mk:=λj (_:Unit)=>(⟨l,(j:Int)⟩:fa2)) l.length (λ_ _=>True) (λt s=>t=1\/t=2) hl (λj x hj _=>?_) (λj x hj _=>?_) 0 () trivial
  ·simp only[ha7,Da9,v7,r4,K5 hj (show l.length<=4611686018427387904 by omega)]
   obtain⟨t,s,h1,h2,h3⟩:=pe8 l hl j hj;rw[btD (H5 hj),h1]
   rcases h2 with rfl|rfl
   ·exact .ex (by simp)
   ·exact .nx ⟨(),by rw[h3],trivial⟩
  ·simp only[ha7,Da9];rw[bfD (by omega)]
   exact⟨_,rfl,by simp⟩
 obtain⟨t,s,h1,h2⟩:=key;unfold Tb6;simp only[v7,r4];rw[h1]
 rcases h2 with rfl|rfl<;>exact⟨_,_,rfl,rfl,trivial⟩
structure Fc(ph:Nat)(out:PLq)(m:Nat):Prop where
 h:(ph=0/\out=[])\/ph=1
 l:out.length<=m
theorem Fc.more{ph m m':Nat}{out:PLq}(h:Fc ph out m)(hm:m<=m'):Fc ph out m':=⟨h.h,Qad h.l hm⟩
theorem Cb4(v:V3):ba8 v=inV v/\ba9 v=true:=by
 have h3:[v.x,v.y,v.z].length<=1000000000:=by simp
 have:Da5 v=some (b (inV v),[]):=by
  unfold Da5 inV;simp only[Cb1 24 _ (by omega) h3,Cb2 24 _ (by omega) h3,s6]
  simp only[List.all_cons,List.all_nil,Qig]
 unfold ba8 ba9;rw[this];exact⟨rfl,rfl⟩
def has(c:PLq)(v:V3):Bool:=(chk c==0)&&(inV v&&inn c ⟨v.x,v.y,v.z,1⟩)
def apart(a c:PLq):Bool:=!((chk a==0)&&(chk c==0))||!Be5 (a++c++ws)
def onc(X:List Pt)(p:Pln):Nat:=X.countP λx=>rm p x==0
def keep(X:List Pt)(p:Pln):Bool:=!decide ((onc X p:Int)<3)
theorem ub5{α:Type}(c:α->Bool):∀l:List α,(l.take (l.findIdx c)).filter (λx=>!c x)=l.take (l.findIdx c)
 |[]=>rfl
 |x::l=>by
  rw[List.findIdx_cons];cases h:c x with
  |true=>rfl
  |false =>
   simp only[cond_false,List.take_succ_cons,Qij,h,Bool.not_false,if_true];rw[ub5 c l]
theorem Jc3{α:Type}(l:List α)(j:Nat)(h:j<l.length):l.take (j+1)=l.take j++[l[j]]:=by rw[Qik h]
theorem Mb6{α:Type}(t:Ty α){l:List α}{j:Nat}(h:j<l.length):l.take (j+1)=l.take j++[gL t l j]:=by rw[Jc3 l j h,tb3 t h]
theorem Cb5{α:Type}(t:Ty α){l r:List α}{j:Nat}(h:l.drop j=r.drop j):gL t l j=gL t r j:=by
 have h1:=Pc7 t l j 0;have h2:=Pc7 t r j 0;rw[Nat.add_zero] at h1 h2;rw[<- h1,<- h2,h]
theorem ub6{α:Type}{l r:List α}{j:Nat}(h:l.drop j=r.drop j)(k:Nat):l.drop (j+k)=r.drop (j+k):=by rw[<- List.drop_drop,<- List.drop_drop,h]
structure Del(l:PLq)(f:Pln->Bool)(cur:PLq)(m j:Nat):Prop where
 len:cur.length=l.length
 t:cur.take m=(l.take j).filter f
 d:cur.drop j=l.drop j
 le:m<=j
 lm:m<=l.length
theorem Cd0(l:PLq)(n:Nat):i5 (bL tP l) n=bL tP (l.drop n):=by unfold bL;rw[o8,i8,i8,List.map_drop]
def eqP(x y:Pln):Bool:=x.n.x==y.n.x&&(x.n.y==y.n.y&&(x.n.z==y.n.z&&(x.b==y.b&&true)))
theorem ub7(x y:Pln):eqP x y=true↔x=y:=by
 unfold eqP;simp only[Qig,Qbd,beq_iff_eq];refine⟨λ⟨h1,h2,h3,h4⟩=>?_,λh=>by subst h;exact⟨rfl,rfl,rfl,rfl⟩⟩
 obtain⟨⟨x1,x2,x3⟩,x4⟩:=x;obtain⟨⟨y1,y2,y3⟩,y4⟩:=y
 simp only at h1 h2 h3 h4
 subst h1 h2 h3 h4;rfl
def ddF:Pln->PLq->PLq
 |_,[]=>[]
 |a,x::l=>if eqP x a then ddF x l else x::ddF x l
def dd:PLq->PLq
 |[]=>[]
 |x::l=>x::ddF x l
structure Cmp(l:PLq)(n:Nat)(cur:PLq)(m j:Nat)(R:PLq):Prop where
 len:cur.length=l.length
 t:cur.take m++ddF (gL tP l (j-1)) ((l.take n).drop j)=R
 d:cur.drop (j-1)=l.drop (j-1)
 le:m+1<=j
theorem md8(l:PLq)(n:Nat)(hn:n<=l.length):slR tP (bL tP l) 0 n=l.take n:=Qb9 tP (by rw[Qia];omega) λk hk=>by
 rw[Qbh,Y6 tP (by omega)]
 congr 1;simp[gL,Qda,Qbe,hk]
theorem md9(l:PLq)(n:Nat)(hn:n<=l.length):okS tP (bL tP l) 0 n=true:=Ra8 tP (f:=λk=>gL tP l k) λk hk=>by rw[Qbh,Y6 tP (by omega)]
end Go.Ev.Ce
namespace Go.Ev.Ce
open Go Go.Ev Go.Ev.L Go.Proofs Go.Sort
theorem Wb0(l:PLq):List.Perm (jb1 l) l:=List.mergeSort_perm l _
theorem Yc8(x y z:Pln)(h1:(!ltOf Ka7 y x)=true)(h2:(!ltOf Ka7 z y)=true):(!ltOf Ka7 z x)=true:=by
 simp only[Qdb,ra5,decide_eq_false_iff_not] at *
 unfold LtP at *
 omega
theorem Yc9(x y:Pln):((!ltOf Ka7 y x)||!ltOf Ka7 x y)=true:=by
 simp only[Qdf,Qdb,ra5,decide_eq_false_iff_not];unfold LtP;omega
theorem nc8(l:PLq):(jb1 l).Pairwise λx y=>(!ltOf Ka7 y x)=true:=Qiag Yc8 Yc9 l
instance:DecidableEq Pln:=λx y=>decidable_of_iff _ (ub7 x y)
def PC:List Pt:=[⟨0,0,0,1⟩,⟨0,0,1,4⟩,⟨0,1,0,3⟩,⟨1,0,0,2⟩]
end Go.Ev.Ce
namespace Go.Ev.Ce
open Go Go.Ev Go.Ev.L Go.Proofs
def ya9(l:PLq):Prop:=l.Pairwise LtP
theorem gc1{x y z:Pln}(h1:LtP x y)(h2:LtP y z):LtP x z:=by unfold LtP at *;omega
theorem nc9(x:Pln):¬ LtP x x:=by unfold LtP;omega
theorem Pc9(x y:Pln):LtP x y\/x=y\/LtP y x:=by
 by_cases h1:LtP x y
 ·exact .inl h1
 ·by_cases h2:LtP y x
  ·exact .inr (.inr h2)
  ·refine .inr (.inl ?_);unfold LtP at h1 h2;have e1:x.n.x=y.n.x:=by omega
   have e2:x.n.y=y.n.y:=by omega
   have e3:x.n.z=y.n.z:=by omega
   have e4:x.b=y.b:=by omega
   cases x with | mk n b=>cases y with | mk m c=>cases n;cases m;simp_all
theorem gc2:∀{l r:PLq},ya9 l->ya9 r->(∀p,p∈l↔p∈r)->l=r
 |[],[],_,_,_=>rfl
 |[],b::r,_,_,h=>by have:=(h b).2 Qck;cases this
 |a::l,[],_,_,h=>by have:=(h a).1 Qck;cases this
 |a::l,b::r,hl,hr,h=>by
  obtain⟨hl1,hl2⟩:=Qid.1 hl;obtain⟨hr1,hr2⟩:=Qid.1 hr;have hab:a=b:=by
   rcases Qbp.1 ((h a).1 Qck) with e|h1
   ·exact e
   ·rcases Qbp.1 ((h b).2 Qck) with e|h2
    ·exact e.symm
    ·exact absurd (gc1 (hr1 a h1) (hl1 b h2)) (nc9 b)
  subst hab;rw[gc2 hl2 hr2 λp=>?_]
  constructor
  ·intro hp
   rcases Qbp.1 ((h p).1 (Qcn _ hp)) with e|h1
   ·subst e;exact absurd (hl1 p hp) (nc9 p)
   ·exact h1
  ·intro hp
   rcases Qbp.1 ((h p).2 (Qcn _ hp)) with e|h1
   ·subst e;exact absurd (hr1 p hp) (nc9 p)
   ·exact h1
def oc0:PLq->Pln->PLq
 |[],y=>[y]
 |a::l,y=>if Ka7 a y<0 then a::oc0 l y else if eqP a y then a::l else y::a::l
theorem cb5(y p:Pln):∀x,p∈oc0 x y↔p=y\/p∈x
 |[]=>by simp[oc0]
 |a::l=>by
  unfold oc0;have ih:=cb5 y p l;split
  ·simp only[Qbp,ih];constructor
   ·rintro (h|h|h)
    ·exact .inr (.inl h)
    ·exact .inl h
    ·exact .inr (.inr h)
   ·rintro (h|h|h)
    ·exact .inr (.inl h)
    ·exact .inl h
    ·exact .inr (.inr h)
  ·split
   ·rename_i h;rw[ub7] at h;subst h;simp only[Qbp];constructor
    ·exact λh=>.inr h
    ·rintro (h|h)
     ·exact .inl h
     ·exact h
   ·simp only[Qbp]
theorem ub8(y:Pln):∀{x},ya9 x->ya9 (oc0 x y)
 |[],_=>Qiah _ _
 |a::l,h=>by
  obtain⟨h1,h2⟩:=Qid.1 h;unfold oc0;split
  ·rename_i hc;rw[nc1] at hc;refine Qid.2 ⟨λp hp=>?_,ub8 y h2⟩
   rcases (cb5 y p l).1 hp with e|hp
   ·subst e;exact hc
   ·exact h1 p hp
  ·rename_i hc;rw[nc1] at hc;split
   ·exact h
   ·rename_i hne;have hlt:LtP y a:=by
     rcases Pc9 y a with h|h|h
     ·exact h
     ·exact absurd ((ub7 _ _).2 h.symm) hne
     ·exact absurd h hc
    refine Qid.2 ⟨λp hp=>?_,h⟩
    rcases Qbp.1 hp with e|hp
    ·subst e;exact hlt
    ·exact gc1 hlt (h1 p hp)
theorem Zc0:jb1 []=[]:=Qbk (fb4 [])
end Go.Ev.Ce
namespace Go.Ev.Ce
def rmZ(p:Pln)(x:Pt):Int:=p.b*x.pw-(p.n.x*x.px+p.n.y*x.py+p.n.z*x.pz)
structure Inr(r:List Pln)(x:Pt):Prop where
 w:0<x.pw
 h:∀p∈r,0<=rmZ p x
def ga3(p:Pln):Pln:=⟨⟨-p.n.x,-p.n.y,-p.n.z⟩,-p.b⟩
structure Cn(r:List Pln)(x:Pt):Prop extends Inr r x where
 c:∃p q s,p∈r/\q∈r/\s∈r/\mw p q s≠0/\rmZ p x=0/\rmZ q x=0/\rmZ s x=0
def Bdd(r:List Pln):Prop:=∀d:V3,d≠⟨0,0,0⟩->∃p∈r,0<dot p.n d
def go(x:Pt)(q:Pln)(d:V3):Pt:=⟨x.px*dot q.n d+rmZ q x*d.x,x.py*dot q.n d+rmZ q x*d.y,x.pz*dot q.n d+rmZ q x*d.z,x.pw*dot q.n d⟩
theorem Qc0(p q:Pln)(x:Pt)(d:V3):rmZ p (go x q d)=dot q.n d*rmZ p x-rmZ q x*dot p.n d:=by simp only[rmZ,go,dot];grind
theorem ta3{a b c:Int}(hc:0<c)(h:a*c<=b*c):a<=b:=Int.le_of_mul_le_mul_right h hc
theorem first(x:Pt)(d:V3):∀r:List Pln,(∀p∈r,0<=rmZ p x)->(∃p∈r,0<dot p.n d)->∃q∈r,0<dot q.n d/\∀p∈r,0<dot p.n d->rmZ q x*dot p.n d<=rmZ p x*dot q.n d
 |[],_,h=>by obtain⟨p,hp,_⟩:=h;cases hp
 |a::r,hx,h=>by
  by_cases hr:∃p∈r,0<dot p.n d
  ·obtain⟨q,hq,h1,h2⟩:=first x d r (λp hp=>hx p (Qcn _ hp)) hr
   by_cases ha:0<dot a.n d
   ·by_cases hc:rmZ q x*dot a.n d<=rmZ a x*dot q.n d
    ·grind
    ·refine⟨a,Qck,ha,λp hp h3=>?_⟩
     rcases Qbp.1 hp with rfl|hp
     ·exact Int.le_refl _
     ·have h4:=h2 p hp h3;have h5:rmZ a x*dot q.n d<rmZ q x*dot a.n d:=by omega
      have h6:=Qil h4 (Qii ha);have h7:=Int.mul_lt_mul_of_pos_right h5 h3;have e1:rmZ q x*dot p.n d*dot a.n d=rmZ q x*dot a.n d*dot p.n d:=by grind
      have e2:rmZ a x*dot q.n d*dot p.n d=rmZ a x*dot p.n d*dot q.n d:=by grind
      have e3:rmZ p x*dot q.n d*dot a.n d=rmZ p x*dot a.n d*dot q.n d:=by grind
      refine ta3 h1 ?_;omega
   grind
  grind
theorem step{r:List Pln}{x:Pt}(hx:Inr r x)(d:V3)(h:∃p∈r,0<dot p.n d):∃q∈r,0<dot q.n d/\Inr r (go x q d):=by
 obtain⟨q,hq,h1,h2⟩:=first x d r hx.h h;refine⟨q,hq,h1,⟨Int.mul_pos hx.w h1,λp hp=>?_⟩⟩
 rw[Qc0];have h3:=hx.h p hp;have h4:=hx.h q hq;by_cases h5:0<dot p.n d
 ·grind
 ·have h6:=Qif (Qii h1) h3;have h7:rmZ q x*dot p.n d<=0:=Int.mul_nonpos_of_nonneg_of_nonpos h4 (by omega)
  omega
theorem nd0{h q:Pln}{x:Pt}{d:V3}(h1:0<=rmZ q x)(h2:0<=dot h.n d):rmZ h (go x q d)*x.pw<=rmZ h x*(go x q d).pw\/x.pw<=0:=by
 rcases Int.lt_or_le 0 x.pw with hw|hw
 ·left;rw[Qc0]
  have:=Qif h1 h2
  have h3:=Qif this (Qii hw);have e:rmZ h x*(go x q d).pw=dot q.n d*rmZ h x*x.pw:=by unfold go;grind
  grind
 ·exact .inr hw
def neg(d:V3):V3:=⟨-d.x,-d.y,-d.z⟩
theorem Qc1(a d:V3):dot a (neg d)=-dot a d:=by unfold dot neg;grind
theorem oc1{d:V3}(h:d≠⟨0,0,0⟩):neg d≠⟨0,0,0⟩:=λh'=>h (by
 cases d;unfold neg at h';simp only[V3.mk.injEq] at h' ⊢;omega)
theorem turn(h:Pln){d:V3}(hd:d≠⟨0,0,0⟩):∃e,e≠(⟨0,0,0⟩:V3)/\0<=dot h.n e/\∀a,dot a d=0->dot a e=0:=by
 by_cases h1:0<=dot h.n d
 ·grind
 ·exact⟨neg d,oc1 hd,by rw[Qc1];omega,λa h=>by rw[Qc1,h];rfl⟩
theorem Be6{n:V3}(hn:n≠⟨0,0,0⟩):∃d,d≠(⟨0,0,0⟩:V3)/\dot n d=0:=by
 by_cases h:n.x=0/\n.y=0
 ·exact⟨⟨1,0,0⟩,by simp,by unfold dot;simp[h.1]⟩
 ·refine⟨⟨n.y,-n.x,0⟩,λh'=>h ?_,by unfold dot;grind⟩
  simp_all
theorem V3.ext'{a b:V3}(h1:a.x=b.x)(h2:a.y=b.y)(h3:a.z=b.z):a=b:=by cases a;cases b;simp_all
theorem nd1{m n d:V3}(hm:m≠⟨0,0,0⟩)(h1:dot m d=0)(h2:dot n d≠0):d7 m n≠⟨0,0,0⟩:=λh=>by
 unfold d7 at h;simp only[V3.mk.injEq] at h;obtain⟨c1,c2,c3⟩:=h;unfold dot at h1 h2;have e1:m.x*(n.x*d.x+n.y*d.y+n.z*d.z)=0:=by grind
 have e2:m.y*(n.x*d.x+n.y*d.y+n.z*d.z)=0:=by grind
 have e3:m.z*(n.x*d.x+n.y*d.y+n.z*d.z)=0:=by grind
 have k:∀{a:Int},a*(n.x*d.x+n.y*d.y+n.z*d.z)=0->a=0:=λh=>(Qic.1 h).resolve_right h2
 exact hm (V3.ext' (k e1) (k e2) (k e3))
theorem zc4(a b:V3):dot a (d7 a b)=0:=by unfold dot d7;grind
theorem zc5(a b:V3):dot b (d7 a b)=0:=by unfold dot d7;grind
theorem nd2{p q:Pln}{x:Pt}{d:V3}(h:rmZ p x=0)(h':dot p.n d=0):rmZ p (go x q d)=0:=by rw[Qc0,h,h'];simp
theorem nd3(q:Pln)(x:Pt)(d:V3):rmZ q (go x q d)=0:=by rw[Qc0];grind
theorem pe9{q:Pln}{d:V3}(h:0<dot q.n d):q.n≠⟨0,0,0⟩:=λh'=>by rw[h'] at h;unfold dot at h;simp at h
theorem Nd3{a b c u v w:Int}(hu:0<u)(hv:0<v)(hw:0<w)(h1:a*v<=b*u)(h2:b*w<=c*v):a*w<=c*u:=by
 have h3:=Qil h1 (Qii hw);have h4:=Qil h2 (Qii hu);have e1:a*v*w=a*w*v:=by grind
 have e2:b*u*w=b*w*u:=by grind
 have e3:c*v*u=c*u*v:=by grind
 exact ta3 hv (by omega)
theorem Wd6{r:List Pln}(hb:Bdd r)(h:Pln){x:Pt}(hx:Inr r x):∃v,Cn r v/\rmZ h v*x.pw<=rmZ h x*v.pw:=by
 obtain⟨d0,n0,p0,_⟩:=turn h (d:=⟨1,0,0⟩) (by simp)
 obtain⟨q1,m1,k1,i1⟩:=step hx d0 (hb d0 n0);have l1:=(nd0 (h:=h) (x:=x) (hx.h q1 m1) p0).resolve_right (by have:=hx.w;omega)
 obtain⟨e1,ne1,he1⟩:=Be6 (pe9 k1);obtain⟨d1,n1,p1,z1⟩:=turn h ne1;obtain⟨q2,m2,k2,i2⟩:=step i1 d1 (hb d1 n1);have l2:=(nd0 (h:=h) (x:=go x q1 d0) (i1.h q2 m2) p1).resolve_right (by have:=i1.w;omega)
 have hc:=nd1 (pe9 k1) (z1 _ he1) (n:=q2.n) (by omega)
 obtain⟨d2,n2,p2,z2⟩:=turn h hc;obtain⟨q3,m3,k3,i3⟩:=step i2 d2 (hb d2 n2);have l3:=(nd0 (h:=h) (x:=go (go x q1 d0) q2 d1) (i2.h q3 m3) p2).resolve_right (by have:=i2.w;omega)
 have a1:rmZ q1 (go (go x q1 d0) q2 d1)=0:=nd2 (nd3 _ _ _) (z1 _ he1);refine⟨_,⟨i3,q3,q1,q2,m3,m1,m2,λh0=>?_,nd3 _ _ _,nd2 a1 (z2 _ (zc4 _ _)),nd2 (nd3 _ _ _) (z2 _ (zc5 _ _))⟩,?_⟩
 ·have:dot q3.n d2=0:=z2 _ h0
  omega
 ·exact Nd3 i3.w i2.w hx.w l3 (Nd3 i2.w i1.w hx.w l2 l1)
theorem Kb3{r:List Pln}(hb:Bdd r){h:Pln}(hv:∀v,Cn r v->0<=rmZ h v){x:Pt}(hx:Inr r x):0<=rmZ h x:=by
 obtain⟨v,h1,h2⟩:=Wd6 hb h hx;have h3:=Qif (hv v h1) (Qii hx.w);exact ta3 h1.w (by rw[Qio];omega)
def Be7(r:List Pln):Prop:=∃x:Pt,0<x.pw/\∀p∈r,0<rmZ p x
structure Eqv(x v:Pt):Prop where
 e1:x.px*v.pw=v.px*x.pw
 e2:x.py*v.pw=v.py*x.pw
 e3:x.pz*v.pw=v.pz*x.pw
theorem Eqv.rm{x v:Pt}(h:Eqv x v)(p:Pln):rmZ p x*v.pw=rmZ p v*x.pw:=by
 obtain⟨e1,e2,e3⟩:=h;unfold rmZ
 grind
theorem Eqv.inr{r:List Pln}{x v:Pt}(h:Eqv x v)(hw:0<x.pw)(hv:Inr r v):Inr r x:=⟨hw,λp hp=>by
 have:=h.rm p
 have h2:=Qif (hv.h p hp) (Qii hw);exact ta3 hv.w (by rw[Qio];omega)⟩
end Go.Ev.Ce
namespace Go.Ev.Ce
open Go Go.Ev Go.Ev.L Go.Proofs
structure Hit(r:PLq)(Q:Pt->Prop)(p q s:Pln):Prop where
 h1:(mpt p q s).2=true
 h2:inn r (mpt p q s).1=true
 h3:Q (mpt p q s).1
def phP(out:PLq):Nat:=match out with
 |[]=>0
 |_::_=>1
def ba1(p:Pln)(v:V3):Int:=if okp p&&inV v then (if dot p.n v-p.b<0 then -1 else if dot p.n v-p.b>0 then 1 else 0) else 0
theorem Wd7{p:Pln}{v:V3}(hp:Bd p)(hv:inV v=true):Sm 331776 (dot p.n v):=by
 obtain⟨⟨a1,a2⟩,⟨a3,a4⟩,a5,a6⟩:=(Ta7 v).1 hv;have r1:=mb hp.x1 hp.x2 a1 a2;have r2:=mb hp.y1 hp.y2 a3 a4;have r3:=mb hp.z1 hp.z2 a5 a6;unfold Sm dot;omega
theorem zc6{p:Pln}{v:V3}(hp:okp p=true)(hv:inV v=true):ba1 p v>0↔dot p.n v>p.b:=by
 unfold ba1;rw[hp,hv];simp only[Qih,if_true];split
 ·omega
 ·split<;>omega
theorem gc3{p:Pln}{v:V3}(hp:okp p=true)(hv:inV v=true):ba1 p v=0↔dot p.n v=p.b:=by
 unfold ba1;rw[hp,hv];simp only[Qih,if_true];split
 ·omega
 ·split<;>omega
theorem Wd8(v:V3):g3 v∣v.x/\g3 v∣v.y/\g3 v∣v.z:=by
 unfold g3;refine⟨?_,?_,?_⟩<;>rw[<- Int.dvd_natAbs]<;>apply Int.natCast_dvd_natCast.2
 ·exact Qiaa (Qip _ _) (Qip _ _)
 ·exact Qiaa (Qip _ _) (Qis _ _)
 ·exact Qis _ _
theorem Wd9(v:V3)(h:g3 v≠0):g3 ⟨Int.tdiv v.x (g3 v),Int.tdiv v.y (g3 v),Int.tdiv v.z (g3 v)⟩=1:=by
 generalize hg:g3 v=g at *
 have h0:0<=g:=hg ▸ fb6 v;obtain⟨n,rfl⟩:∃n:Nat,g=n:=⟨g.toNat,by omega⟩
 have hn:0<n:=by omega
 have hgn:Nat.gcd (Nat.gcd v.x.natAbs v.y.natAbs) v.z.natAbs=n:=by unfold g3 at hg;omega
 have d1:n∣Nat.gcd v.x.natAbs v.y.natAbs:=hgn ▸ Qip _ _;have d3:n∣v.z.natAbs:=hgn ▸ Qis _ _;have d4:n∣v.x.natAbs:=Qiaa d1 (Qip _ _);have d5:n∣v.y.natAbs:=Qiaa d1 (Qis _ _);unfold g3;simp only[Int.natAbs_tdiv,Int.natAbs_natCast];show ((Nat.gcd (Nat.gcd (v.x.natAbs / n) (v.y.natAbs / n)) (v.z.natAbs / n):Nat):Int)=1;rw[Nat.gcd_div d4 d5,Nat.gcd_div d1 d3,hgn,Nat.div_self hn];rfl
structure Thr(a b c:V3)(p:Pln):Prop where
 ok:okp p=true
 k:∃g:Int,0<g/\g*p.n.x=(d7 (sub b a) (sub c a)).x/\g*p.n.y=(d7 (sub b a) (sub c a)).y/\g*p.n.z=(d7 (sub b a) (sub c a)).z
 o:p.b=dot p.n a
theorem ta4{a b c:V3}(h:(D0 a b c).2=true):(inV a=true/\inV b=true/\inV c=true)/\Thr a b c (D0 a b c).1:=by
 unfold D0 at h ⊢;cases ha:inV a with
 |false=>rw[ha] at h;cases h
 |true =>
  cases hb:inV b with
  |false=>rw[ha,hb] at h;cases h
  |true =>
   cases hc:inV c with
   |false=>rw[ha,hb,hc] at h;cases h
   |true =>
    rw[ha,hb,hc] at h;simp only[Qih,if_true] at h ⊢;obtain⟨_,k1,k2,k3⟩:=Ma5 ha hb hc;generalize hn:d7 (sub b a) (sub c a)=n at *
    by_cases h0:g3 n=0
    ·rw[if_pos h0] at h;cases h
    ·rw[if_neg h0];have hp:=fb6 n;obtain⟨d1,d2,d3⟩:=Wd8 n;have q1:=Aa8 (g:=g3 n) k1 (by omega)
     have q2:=Aa8 (g:=g3 n) k2 (by omega)
     have q3:=Aa8 (g:=g3 n) k3 (by omega)
     refine⟨⟨trivial,trivial,trivial⟩,⟨?_,⟨g3 n,by omega,by rw[hn];exact Qiv d1,by rw[hn];exact Qiv d2,by rw[hn];exact Qiv d3⟩,rfl⟩⟩
     obtain⟨⟨a1,a2⟩,⟨a3,a4⟩,a5,a6⟩:=(Ta7 a).1 ha;have r1:=mb q1.1 q1.2 a1 a2;have r2:=mb q2.1 q2.2 a3 a4;have r3:=mb q3.1 q3.2 a5 a6;unfold okp;rw[Wd9 n h0];simp only[List.all_cons,List.all_nil,Qig,Qbd,Ta6,beq_self_eq_true,true_and,and_true];refine⟨⟨q1,q2,q3⟩,?_⟩;unfold Sm dot
     simp only
     omega
theorem Cd1(a b c:V3):Bd (D0 a b c).1:=by
 cases h:(D0 a b c).2 with
 |true=>exact Jc1 (ta4 h).2.ok
 |false =>
  have:(D0 a b c).1=⟨⟨0,0,0⟩,0⟩:=by
   unfold D0 at h ⊢;split
   ·rename_i hc;rw[if_pos hc] at h;split
    ·rfl
    ·rename_i h0;rw[if_neg h0] at h;cases h
   ·rfl
  rw[this]
  constructor<;>simp
theorem ub9{p:Pln}(h:okp p=true):okp (ga3 p)=true:=by
 unfold okp ga3 g3 at *
 simp only[List.all_cons,List.all_nil,Qig,Qbd,Ta6,Int.natAbs_neg] at h ⊢;obtain⟨⟨h1,h2,h3⟩,h4,h5⟩:=h;exact⟨⟨h1.neg,h2.neg,h3.neg⟩,h4,h5.neg⟩
def Be8(l:List V3)(p:Pln):Bool:=l.any λv=>ba1 p v != 0
def nf(l:List V3)(a c k:Nat):Bool:=(D0 (gL tV l a) (gL tV l c) (gL tV l k)).2&&Be8 l (D0 (gL tV l a) (gL tV l c) (gL tV l k)).1
def nf2(l:List V3)(a c:Nat):Bool:=(List.range c).any (nf l a c)
def nf1(l:List V3)(a:Nat):Bool:=(List.range a).any (nf2 l a)
def nf0(l:List V3):Bool:=(List.range l.length).any (nf1 l)
theorem oc2{σ:Type}{step:σ->Stp σ}{mk:Nat->σ}(n:Nat)(c:Nat->Bool)(u fin:Nat)(hn:n<=1000000000)(h:∀j,j<n->step (mk j)=sl (c j) (.exit u) (.next (mk (j+1))))(hf:step (mk n)=.exit fin) :
  ∃j,lp step (mk 0)=(if (List.range n).any c then u else fin,mk j):=by
 have key:=ka4 (step:=step) (mk:=λj (_:Unit)=>mk j) n (λj _=>j<=n/\∀i,i<j->c i=false) (λt s=>t=(if (List.range n).any c then u else fin)/\∃j,s=mk j) hn
  (λj _ hj hi=>by
   rw[h j hj];refine Nx.sl (λhc=>.ex ⟨?_,j,rfl⟩) (λhc=>.nx ⟨(),rfl,by omega,λi hi'=>?_⟩)
   ·rw[if_pos (Qib.2 ⟨j,Qcj.2 hj,hc⟩)]
   ·by_cases e:i=j
    ·rw[e];exact hc
    ·exact hi.2 i (by omega))
  (λj _ hj hi=>by
   have e:j=n:=by omega
   subst e;refine⟨fin,hf,?_,j,rfl⟩;rw[if_neg λhh=>?_]
   obtain⟨i,hi1,hi2⟩:=Qib.1 hh;rw[hi.2 i (Qcj.1 hi1)] at hi2;cases hi2) 0 () ⟨by omega,by omega⟩
 obtain⟨t,s,h1,rfl,j,rfl⟩:=key;exact⟨j,h1⟩
def hold(p:Pln)(l:List V3):Bool:=!l.any λv=>decide (ba1 p v>0)
def zc7(l:List V3)(a c:Nat)(out:PLq)(k:Nat):PLq :=
  if (D0 (gL tV l a) (gL tV l c) (gL tV l k)).2 then
    (if hold (ga3 (D0 (gL tV l a) (gL tV l c) (gL tV l k)).1) l then oc0 (if hold (D0 (gL tV l a) (gL tV l c) (gL tV l k)).1 l then oc0 out (D0 (gL tV l a) (gL tV l c) (gL tV l k)).1 else out) (ga3 (D0 (gL tV l a) (gL tV l c) (gL tV l k)).1)
     else (if hold (D0 (gL tV l a) (gL tV l c) (gL tV l k)).1 l then oc0 out (D0 (gL tV l a) (gL tV l c) (gL tV l k)).1 else out))
  else out
def F2(l:List V3)(a:Nat)(out:PLq)(c:Nat):PLq:=(List.range c).foldl (zc7 l a c) out
def F1(l:List V3)(out:PLq)(a:Nat):PLq:=(List.range a).foldl (F2 l a) out
def F0(l:List V3):PLq:=(List.range l.length).foldl (F1 l) []
theorem A7{τ:Type}(f:τ->Nat->τ)(a:τ)(n:Nat):(List.range (n+1)).foldl f a=f ((List.range n).foldl f a) n:=by
  rw[List.range_succ,List.foldl_append];rfl
theorem Wb1{f:PLq->Nat->PLq}{m:Nat}(h:∀o k,(f o k).length<=o.length+m)(o:PLq):∀n,((List.range n).foldl f o).length<=o.length+m*n
  |0=>Qac _
  | n+1=>by
    rw[A7];have h1:=h ((List.range n).foldl f o) n;have h2:=Wb1 h o n;rw[Nat.mul_succ];omega
def vb0(l:PLq)(p:Pln):Bool:=l.any λq=>eqP q p
theorem zc8(l:PLq)(p:Pln):vb0 l p=true↔p∈l:=by
 unfold vb0;rw[Qib];exact⟨λ⟨q,h,e⟩=>by rw[ub7] at e;exact e ▸ h,λh=>⟨p,h,(ub7 p p).2 rfl⟩⟩
theorem Jc4{p:Pln}(h:okp p=true):g3 p.n=1:=by
 unfold okp at h;simp only[Qbd,beq_iff_eq] at h;exact h.2.1
theorem nd4{p:Pln}(h:okp p=true):p.n≠⟨0,0,0⟩:=λe=>by
 have:=Jc4 h
 rw[e] at this
 revert this
 decide
theorem nd5(c:Int)(n:V3):g3 ⟨c*n.x,c*n.y,c*n.z⟩=c.natAbs*g3 n:=by
 unfold g3;simp only[Int.natAbs_mul,Nat.gcd_mul_left];rw[Int.natCast_mul]
theorem nd6{m n:V3}(hm:g3 m=1)(hn:g3 n=1)(h:d7 m n=⟨0,0,0⟩):n=m\/n=neg m:=by
 unfold d7 at h;simp only[V3.mk.injEq] at h;obtain⟨c1,c2,c3⟩:=h;have k:∀{c d:Int},c*m.x=d*n.x->c*m.y=d*n.y->c*m.z=d*n.z->c.natAbs=d.natAbs:=λ{c d} e1 e2 e3=>by
  have a1:=nd5 c m;have a2:=nd5 d n;rw[e1,e2,e3,a2,hm,hn] at a1;omega
 have ax:=k (c:=n.x) (d:=m.x) (by grind) (by grind) (by grind)
 have ay:=k (c:=n.y) (d:=m.y) (by grind) (by grind) (by grind)
 have az:=k (c:=n.z) (d:=m.z) (by grind) (by grind) (by grind)
 have sg:∀{a c:Int},a.natAbs=c.natAbs->a=c\/a=-c:=λh=>by omega
 -- the sign of one component that is not zero is that of all
 have go:∀{s u t v:Int},u≠0->s*v=u*t->s=u->t=v:=λ{s u t v} hu h e=>by
  subst e;exact (Qiac hu h).symm
 have gn:∀{s u t v:Int},u≠0->s*v=u*t->s=-u->t=-v:=λ{s u t v} hu h e=>by
  subst e
  have:u*t=u*(-v):=by rw[<- h];grind
  exact Qiac hu this
 by_cases hx:m.x=0
 ·have hx':n.x=0:=by omega
  by_cases hy:m.y=0
  ·have hy':n.y=0:=by omega
   rcases sg az with e|e
   ·exact .inl (V3.ext' (by omega) (by omega) e)
   ·exact .inr (V3.ext' (by show n.x=-m.x;omega) (by show n.y=-m.y;omega) e)
  ·rcases sg ay with e|e
   ·exact .inl (V3.ext' (by omega) e (go hy (by grind) e))
   ·exact .inr (V3.ext' (by show n.x=-m.x;omega) e (gn hy (by grind) e))
 ·rcases sg ax with e|e
  ·exact .inl (V3.ext' e (go hx (by grind) e) (go hx (by grind) e))
  ·exact .inr (V3.ext' e (gn hx (by grind) e) (gn hx (by grind) e))
structure Fe8(l:List V3):Prop where
 h:∃a c k v,a∈l/\c∈l/\k∈l/\v∈l/\dot (d7 (sub c a) (sub k a)) (sub v a)≠0
theorem gLm{l:List V3}{j:Nat}(h:j<l.length):gL tV l j∈l:=nc4 tV h
theorem Qa0{p:Pln}{l:List V3}(hp:okp p=true)(hl:l.all inV=true):hold p l=true↔∀v∈l,dot p.n v<=p.b:=by
 unfold hold;rw[Qdb,<- Qiq,Qib];constructor
 ·intro h v hv;have h1:¬ ba1 p v>0:=λh'=>h ⟨v,hv,by simpa using h'⟩
  rw[zc6 hp (Qcf.1 hl v hv)] at h1;omega
 ·rintro h ⟨v,hv,h1⟩;have h1:ba1 p v>0:=by simpa using h1
  rw[zc6 hp (Qcf.1 hl v hv)] at h1
  have:=h v hv
  omega
structure Fct(l:List V3)(p:Pln):Prop where
 ok:okp p=true
 hd:hold p l=true
theorem Wb2(p:Pln)(v:V3):dot (ga3 p).n v=-dot p.n v:=by unfold dot ga3;grind
theorem Zc1(l:List V3)(a c k:Nat)(out:PLq)(p:Pln):p∈zc7 l a c out k↔p∈out\/((D0 (gL tV l a) (gL tV l c) (gL tV l k)).2=true /\
  ((p=(D0 (gL tV l a) (gL tV l c) (gL tV l k)).1/\hold p l=true)\/(p=ga3 (D0 (gL tV l a) (gL tV l c) (gL tV l k)).1/\hold p l=true))):=by
 unfold zc7;generalize D0 (gL tV l a) (gL tV l c) (gL tV l k)=T;cases h2:T.2 with
 |false=>simp
 |true =>
  simp only[if_true];cases h4:hold (ga3 T.1) l with
  |false =>
   simp only[Qhc,if_false];cases h3:hold T.1 l with
   |false =>
    simp only[Qhc,if_false];constructor
    ·exact λh=>.inl h
    ·rintro (h|⟨_,⟨rfl,h⟩|⟨rfl,h⟩⟩)
     ·exact h
     ·rw[h3] at h;cases h
     ·rw[h4] at h;cases h
   |true =>
    simp only[if_true,cb5];constructor
    ·rintro (rfl|h)
     ·exact .inr ⟨trivial,.inl ⟨rfl,h3⟩⟩
     ·exact .inl h
    ·rintro (h|⟨_,⟨rfl,h⟩|⟨rfl,h⟩⟩)
     ·exact .inr h
     ·exact .inl rfl
     ·rw[h4] at h;cases h
  |true =>
   simp only[if_true,cb5];cases h3:hold T.1 l with
   |false =>
    simp only[Qhc,if_false];constructor
    ·rintro (rfl|h)
     ·exact .inr ⟨trivial,.inr ⟨rfl,h4⟩⟩
     ·exact .inl h
    ·rintro (h|⟨_,⟨rfl,h⟩|⟨rfl,h⟩⟩)
     ·exact .inr h
     ·rw[h3] at h;cases h
     ·exact .inl rfl
   |true =>
    simp only[if_true,cb5];constructor
    ·rintro (rfl|rfl|h)
     ·exact .inr ⟨trivial,.inr ⟨rfl,h4⟩⟩
     ·exact .inr ⟨trivial,.inl ⟨rfl,h3⟩⟩
     ·exact .inl h
    ·rintro (h|⟨_,⟨rfl,h⟩|⟨rfl,h⟩⟩)
     ·exact .inr (.inr h)
     ·exact .inr (.inl rfl)
     ·exact .inl rfl
theorem Fa2{f:PLq->Nat->PLq}{Q:Nat->Pln->Prop}(h:∀o k p,p∈f o k↔p∈o\/Q k p)(o:PLq)(p:Pln):∀n,p∈(List.range n).foldl f o↔p∈o\/∃k,k<n/\Q k p
 |0=>by simp
 |n+1=>by
  rw[A7,h,Fa2 h o p n];constructor
  ·rintro ((h|⟨k,hk,h⟩)|h)
   ·exact .inl h
   ·exact .inr ⟨k,by omega,h⟩
   ·exact .inr ⟨n,by omega,h⟩
  ·rintro (h|⟨k,hk,h⟩)
   ·exact .inl (.inl h)
   ·by_cases e:k=n
    ·subst e;exact .inr h
    ·exact .inl (.inr ⟨k,by omega,h⟩)
def Fq (l : List V3) (a c k : Nat) (p : Pln) : Prop := (D0 (gL tV l a) (gL tV l c) (gL tV l k)).2 = true ∧
  ((p=(D0 (gL tV l a) (gL tV l c) (gL tV l k)).1/\hold p l=true)\/(p=ga3 (D0 (gL tV l a) (gL tV l c) (gL tV l k)).1/\hold p l=true))
theorem Xd0(l:List V3)(a c:Nat)(out:PLq)(p:Pln):p∈F2 l a out c↔p∈out\/∃k,k<c/\Fq l a c k p:=Fa2 (λo k p=>Zc1 l a c k o p) out p c
theorem Xd1(l:List V3)(a:Nat)(out:PLq)(p:Pln):p∈F1 l out a↔p∈out\/∃c,c<a/\∃k,k<c/\Fq l a c k p:=Fa2 (λo c p=>Xd0 l a c o p) out p a
theorem Jc5(l:List V3)(p:Pln):p∈F0 l↔∃a,a<l.length/\∃c,c<a/\∃k,k<c/\Fq l a c k p:=by
 have:=Fa2 (λo a p=>Xd1 l a o p) [] p l.length
 simpa [F0] using this
theorem Zc2{l:List V3}{a c:Nat}{out:PLq}{k:Nat}(h:ya9 out):ya9 (zc7 l a c out k):=by
 unfold zc7;split
 ·split
  ·refine ub8 _ ?_;split
   ·exact ub8 _ h
   ·exact h
  ·split
   ·exact ub8 _ h
   ·exact h
 ·exact h
theorem vb1{f:PLq->Nat->PLq}(h:∀o k,ya9 o->ya9 (f o k)){o:PLq}(ho:ya9 o):∀n,ya9 ((List.range n).foldl f o)
 |0=>ho
 |n+1=>by rw[A7];exact h _ _ (vb1 h ho n)
theorem Xd2{l:List V3}{a c:Nat}{out:PLq}(h:ya9 out):ya9 (F2 l a out c):=vb1 (λ_ _ h=>Zc2 h) h c
theorem Xd3{l:List V3}{a:Nat}{out:PLq}(h:ya9 out):ya9 (F1 l out a):=vb1 (λ_ _ h=>Xd2 h) h a
theorem Xd4(l:List V3):ya9 (F0 l):=vb1 (λ_ _ h=>Xd3 h) .nil l.length
theorem Xd5{l:List V3}{p:Pln}(hp:p∈F0 l):Fct l p:=by
 obtain⟨a,ha,c,hc,k,hk,h1,⟨h2,h3⟩|⟨h2,h3⟩⟩:=(Jc5 l p).1 hp
 ·exact⟨h2 ▸ (ta4 h1).2.ok,h3⟩
 ·exact⟨h2 ▸ ub9 (ta4 h1).2.ok,h3⟩
structure qe0(c:PLq):Prop where
 l:c.length<=47
 v:∀p∈c,okp p=true
 f:Be7 (c++ws)
theorem qe0.chk{c:PLq}(h:qe0 c):(chk c==0)=true:=by
 rw[beq_iff_eq,md4];exact⟨by have:=h.l;omega,h.v⟩
end Go.Ev.Ce
namespace Go.Ev.Ce
def J0(a b:V3):V3:=⟨a.x-b.x,a.y-b.y,a.z-b.z⟩
def N3(u w x:V3):V3:=d7 (J0 w u) (J0 x u)
def Wa4:List V3->V3
 |[]=>⟨0,0,0⟩
 |v::l=>⟨v.x+(Wa4 l).x,v.y+(Wa4 l).y,v.z+(Wa4 l).z⟩
def vb2:List Int->Int
 |[]=>0
 |x::l=>x+vb2 l
theorem zc9(n:V3):∀l:List V3,dot n (Wa4 l)=vb2 (l.map (dot n))
 |[]=>by simp[Wa4,vb2,dot]
 |v::l=>by
  have:=zc9 n l
  simp only[Qbw,vb2,<- this];simp only[Wa4,dot]
  grind
theorem Ac0(m s:Int):∀l:List Int,vb2 (l.map λa=>m*a-s)=m*vb2 l-s*l.length
 |[]=>by simp[vb2]
 |a::l=>by
  have:=Ac0 m s l
  simp only[Qbw,vb2,this,List.length_cons]
  grind
theorem Fb5:∀{l:List Int},(∀a∈l,a<=0)->vb2 l<=0
 |[],_=>by simp[vb2]
 |a::l,h=>by
  have:=Fb5 (l:=l) λx hx=>h x (Qcn _ hx)
  have:=h a Qck
  simp only[vb2];omega
theorem Cb6:∀{l:List Int},(∀a∈l,a<=0)->vb2 l=0->∀a∈l,a=0
 |[],_,_=>λa ha=>by cases ha
 |a::l,h,h0=>by
  have h1:=Fb5 (l:=l) λx hx=>h x (Qcn _ hx)
  have h2:=h a Qck;simp only[vb2] at h0;intro b hb
  rcases Qbp.1 hb with rfl|hb
  ·omega
  ·exact Cb6 (l:=l) (λx hx=>h x (Qcn _ hx)) (by omega) b hb
def Sol(l:List V3):Prop:=∃a c k v,a∈l/\c∈l/\k∈l/\v∈l/\dot (N3 a c k) (J0 v a)≠0
theorem Sol.off{l:List V3}(h:Sol l){n:V3}(hn:n≠⟨0,0,0⟩)(b:Int):∃v∈l,dot n v≠b:=by
 obtain⟨a,c,k,v,ha,hc,hk,hv,hd⟩:=h;by_cases h1:dot n a=b
 ·by_cases h2:dot n c=b
  ·by_cases h3:dot n k=b
   ·by_cases h4:dot n v=b
    ·exfalso;unfold N3 at hd;generalize hD:dot (d7 (J0 c a) (J0 k a)) (J0 v a)=D at *
     have q1:dot n (J0 c a)=0:=by unfold dot J0 at *;grind
     have q2:dot n (J0 k a)=0:=by unfold dot J0 at *;grind
     have q3:dot n (J0 v a)=0:=by unfold dot J0 at *;grind
     generalize J0 c a=p at *
     generalize J0 k a=q at *
     generalize J0 v a=r at *
     have i1:D*n.x=(d7 q r).x*dot n p+(d7 r p).x*dot n q+(d7 p q).x*dot n r:=by rw[<- hD];simp only[dot,d7];grind
     have i2:D*n.y=(d7 q r).y*dot n p+(d7 r p).y*dot n q+(d7 p q).y*dot n r:=by rw[<- hD];simp only[dot,d7];grind
     have i3:D*n.z=(d7 q r).z*dot n p+(d7 r p).z*dot n q+(d7 p q).z*dot n r:=by rw[<- hD];simp only[dot,d7];grind
     rw[q1,q2,q3] at i1 i2 i3;have z:∀{x:Int},D*x=0->x=0:=λh=>(Qic.1 h).resolve_left hd
     exact hn (V3.ext' (z (by omega)) (z (by omega)) (z (by omega)))
    ·exact⟨v,hv,h4⟩
   ·exact⟨k,hk,h3⟩
  ·exact⟨c,hc,h2⟩
 ·exact⟨a,ha,h1⟩
theorem Sol.ne{l:List V3}(h:Sol l):∃v,v∈l:=by obtain⟨a,_,_,_,ha,_⟩:=h;exact⟨a,ha⟩
structure Fac(l:List V3)(n:V3)(b:Int):Prop where
 hd:∀v∈l,dot n v<=b
 on:∃u w x,u∈l/\w∈l/\x∈l/\N3 u w x≠⟨0,0,0⟩/\dot n u=b/\dot n w=b/\dot n x=b
def qe1(l:List V3)(c:List Pln):Prop:=∀n b,n≠⟨0,0,0⟩->Fac l n b->∃s t:Int,0<s/\0<t/\∃q∈c,t*q.n.x=s*n.x/\t*q.n.y=s*n.y/\t*q.n.z=s*n.z/\t*q.b=s*b
def pol(m:Int)(S v:V3):Pln:=⟨⟨m*v.x-S.x,m*v.y-S.y,m*v.z-S.z⟩,1⟩
theorem Cd2(m:Int)(S v d:V3):dot (pol m S v).n d=m*dot d v-dot d S:=by simp only[dot,pol];grind
theorem Ac1(l:List V3)(d:V3):vb2 (l.map λv=>(l.length:Int)*dot d v-dot d (Wa4 l))=0:=by
 have h:=Ac0 (l.length:Int) (dot d (Wa4 l)) (l.map (dot d));rw[List.map_map] at h;have e:((λa=>(l.length:Int)*a-dot d (Wa4 l))∘dot d)=λv=>(l.length:Int)*dot d v-dot d (Wa4 l):=rfl
 rw[e] at h;rw[h,<- zc9,List.length_map]
 grind
theorem Zc3{a b:V3}(h:dot a b≠0):b≠⟨0,0,0⟩:=λe=>h (by subst e;simp[dot])
theorem Jc6{a b:V3}(h:dot a b≠0):a≠⟨0,0,0⟩:=λe=>h (by subst e;simp[dot])
theorem Qc2{l:List V3}(h:Sol l):0<(l.length:Int):=by
 obtain⟨v,hv⟩:=h.ne
 grind
theorem Cd3{l:List V3}(h:Sol l):Bdd (l.map (pol l.length (Wa4 l))):=λd hd=>by
 by_cases hh:∃p∈l.map (pol l.length (Wa4 l)),0<dot p.n d
 ·exact hh
 exfalso;have hm:=Qc2 h;have hall:∀a∈l.map (λv=>(l.length:Int)*dot d v-dot d (Wa4 l)),a<=0:=λa ha=>by
  obtain⟨v,hv,rfl⟩:=Qbz.1 ha;refine Int.not_lt.1 λh'=>hh ⟨pol l.length (Wa4 l) v,Qbz.2 ⟨v,hv,rfl⟩,?_⟩
  rw[Cd2];omega
 have hz:=Cb6 hall (Ac1 l d);obtain⟨a,ha⟩:=h.ne;obtain⟨v,hv,hne⟩:=h.off hd (dot d a);have e1:=hz _ (Qbz.2 ⟨a,ha,rfl⟩);have e2:=hz _ (Qbz.2 ⟨v,hv,rfl⟩);apply hne
 have:(l.length:Int)*(dot d v-dot d a)=0:=by grind
 have:=(Qic.1 this).resolve_left (by omega)
 omega
theorem Zc4{l:List V3}(h4:Sol l){c:List Pln}(hc:qe1 l c){x:Pt}(hx:Inr c x){h:Pln}(hh:∀v∈l,dot h.n v<=h.b):0<=rmZ h x:=by
 have hm:=Qc2 h4;have hr:=Cd3 h4;generalize hS:Wa4 l=S at hr;generalize hM:(l.length:Int)=m at hr hm
 -- the linear function on the polar
 have hv:∀y,Cn (l.map (pol m S)) y->0<=rmZ ⟨⟨m*x.px-x.pw*S.x,m*x.py-x.pw*S.y,m*x.pz-x.pw*S.z⟩,x.pw⟩ y:=λy hy=>by
  obtain⟨p1,p2,p3,hp1,hp2,hp3,hw,e1,e2,e3⟩:=hy.c;obtain⟨v1,m1,rfl⟩:=Qbz.1 hp1;obtain⟨v2,m2,rfl⟩:=Qbz.1 hp2;obtain⟨v3,m3,rfl⟩:=Qbz.1 hp3;have rp:∀v,rmZ (pol m S v) y=y.pw-(m*dot ⟨y.px,y.py,y.pz⟩ v-dot ⟨y.px,y.py,y.pz⟩ S):=λv=>by simp only[rmZ,pol,dot];grind
  rw[rp] at e1 e2 e3;have hn3:dot (pol m S v1).n (N3 v1 v2 v3)≠0:=λh0=>hw (by
   have:mw (pol m S v1) (pol m S v2) (pol m S v3)=m*m*dot (pol m S v1).n (N3 v1 v2 v3):=by simp only[mw,pol,dot,N3,d7,J0];grind
   rw[this,h0,Int.mul_zero])
  have hne:N3 v1 v2 v3≠⟨0,0,0⟩:=Zc3 hn3;have hfac:Fac l ⟨m*y.px,m*y.py,m*y.pz⟩ (y.pw+dot ⟨y.px,y.py,y.pz⟩ S):=by
   have ed:∀v,dot ⟨m*y.px,m*y.py,m*y.pz⟩ v=m*dot ⟨y.px,y.py,y.pz⟩ v:=λv=>by simp only[dot];grind
   refine⟨λv hv=>?_,v1,v2,v3,m1,m2,m3,hne,?_,?_,?_⟩
   ·have:=hy.h (pol m S v) (Qbz.2 ⟨v,hv,rfl⟩)
    rw[rp] at this;rw[ed];omega
   ·rw[ed];omega
   ·rw[ed];omega
   ·rw[ed];omega
  have hyn:(⟨m*y.px,m*y.py,m*y.pz⟩:V3)≠⟨0,0,0⟩:=λe=>by
   have k:∀{a:Int},m*a=0->a=0:=λh=>(Qic.1 h).resolve_left (by omega)
   simp only[V3.mk.injEq] at e;have a1:=k e.1;have a2:=k e.2.1;have a3:=k e.2.2;rw[a1,a2,a3] at e1;have hw:=hy.w;simp only[dot] at e1;simp only[Qio,Int.add_zero,Int.mul_zero,Int.sub_zero] at e1;omega
  obtain⟨s,t,hs,ht,q,hq,f1,f2,f3,f4⟩:=hc _ _ hyn hfac;have hxq:=hx.h q hq;have e:t*rmZ q x=s*rmZ ⟨⟨m*x.px-x.pw*S.x,m*x.py-x.pw*S.y,m*x.pz-x.pw*S.z⟩,x.pw⟩ y:=by
   have:t*rmZ q x=(t*q.b)*x.pw-((t*q.n.x)*x.px+(t*q.n.y)*x.py+(t*q.n.z)*x.pz):=by simp only[rmZ];grind
   rw[this,f1,f2,f3,f4];simp only[rmZ,dot];grind
  have h1:=Qif (Qii ht) hxq;rw[e] at h1;exact Qiw h1 hs
 by_cases hn:h.n=⟨0,0,0⟩
 ·obtain⟨v,hv⟩:=h4.ne;have h1:=hh v hv;have e:rmZ h x=h.b*x.pw:=by simp only[rmZ,hn];grind
  rw[e];rw[hn] at h1;simp only[dot,Qio,Int.add_zero] at h1;exact Qif h1 (Qii hx.w)
 ·-- the polar point of h
  have hall:∀a∈l.map (λv=>(l.length:Int)*dot h.n v-dot h.n (Wa4 l)),a<=(l.length:Int)*h.b-dot h.n (Wa4 l):=λa ha=>by
   obtain⟨v,hv,rfl⟩:=Qbz.1 ha
   have:=Qiy (hh v hv) (show 0<=(l.length:Int) by omega)
   omega
  have hpos:0<m*h.b-dot h.n S:=by
   rw[<- hM,<- hS];by_cases h0:0<(l.length:Int)*h.b-dot h.n (Wa4 l)
   ·exact h0
   exfalso;have hz:=Cb6 (λa ha=>by have:=hall a ha;omega) (Ac1 l h.n)
   obtain⟨v,hv,hne⟩:=h4.off hn h.b;have e1:=hz _ (Qbz.2 ⟨v,hv,rfl⟩);have h2:=hh v hv
   have:(l.length:Int)*dot h.n v<(l.length:Int)*h.b:=Int.mul_lt_mul_of_pos_left (by omega) (by omega)
   omega
  have hy:Inr (l.map (pol m S)) ⟨h.n.x,h.n.y,h.n.z,m*h.b-dot h.n S⟩:=⟨hpos,λp hp=>by
   obtain⟨v,hv,rfl⟩:=Qbz.1 hp;have e:rmZ (pol m S v) ⟨h.n.x,h.n.y,h.n.z,m*h.b-dot h.n S⟩=m*(h.b-dot h.n v):=by simp only[rmZ,pol,dot];grind
   rw[e];exact Qif (by omega) (by have:=hh v hv;omega)⟩
  have h1:=Kb3 hr hv hy;have e:rmZ ⟨⟨m*x.px-x.pw*S.x,m*x.py-x.pw*S.y,m*x.pz-x.pw*S.z⟩,x.pw⟩ ⟨h.n.x,h.n.y,h.n.z,m*h.b-dot h.n S⟩=m*rmZ h x:=by simp only[rmZ,dot];grind
  rw[e] at h1;exact Qiw h1 hm
end Go.Ev.Ce
namespace Go.Ev.Ce
open Go Go.Ev Go.Ev.L Go.Proofs
theorem Cd4{v:V3}(h:g3 v=0):v=⟨0,0,0⟩:=by
 unfold g3 at h;have h:Nat.gcd (Nat.gcd v.x.natAbs v.y.natAbs) v.z.natAbs=0:=by omega
 rw[Nat.gcd_eq_zero_iff,Nat.gcd_eq_zero_iff] at h;exact V3.ext' (by show v.x=0;omega) (by show v.y=0;omega) (by show v.z=0;omega)
theorem vb3{a c k:V3}(ha:inV a=true)(hc:inV c=true)(hk:inV k=true)(h:N3 a c k≠⟨0,0,0⟩):(D0 a c k).2=true:=by
 unfold D0;rw[ha,hc,hk];simp only[Qih,if_true];rw[if_neg (λh0=>h (Cd4 h0):¬ g3 (d7 (sub c a) (sub k a))=0)]
theorem gc4{a c k:V3}{p:Pln}(h:Thr a c k p):N3 a c k≠⟨0,0,0⟩:=λe=>by
 obtain⟨ok,⟨g,hg,e1,e2,e3⟩,_⟩:=h;have e':d7 (sub c a) (sub k a)=⟨0,0,0⟩:=e;rw[e'] at e1 e2 e3;have z:∀{x:Int},g*x=0->x=0:=λh=>(Qic.1 h).resolve_left (by omega)
 exact nd4 ok (V3.ext' (z e1) (z e2) (z e3))
theorem oc3{a c k:V3}{p:Pln}(h:Thr a c k p):dot p.n a=p.b/\dot p.n c=p.b/\dot p.n k=p.b:=by
 obtain⟨ok,⟨g,hg,e1,e2,e3⟩,o⟩:=h;have z:∀{x y:Int},g*(x-y)=0->x=y:=λh=>by have:=(Qic.1 h).resolve_left (by omega);omega
 refine⟨o.symm,?_,?_⟩
 ·rw[o];apply z
  have:g*(dot p.n c-dot p.n a)=(g*p.n.x)*(c.x-a.x)+(g*p.n.y)*(c.y-a.y)+(g*p.n.z)*(c.z-a.z):=by simp only[dot];grind
  rw[this,e1,e2,e3];simp only[d7,sub];grind
 ·rw[o];apply z
  have:g*(dot p.n k-dot p.n a)=(g*p.n.x)*(k.x-a.x)+(g*p.n.y)*(k.y-a.y)+(g*p.n.z)*(k.z-a.z):=by simp only[dot];grind
  rw[this,e1,e2,e3];simp only[d7,sub];grind
theorem fb7(p:Pln)(v:V3):dot (ga3 p).n v=(ga3 p).b↔dot p.n v=p.b:=by
 rw[Wb2];show -dot p.n v=-p.b↔_;omega
theorem Ac2{a c k:V3}{p q:Pln}(h:Thr a c k q)(hp:okp p=true)(t1:dot p.n a=p.b)(t2:dot p.n c=p.b)(t3:dot p.n k=p.b):p=q\/p=ga3 q:=by
 obtain⟨s1,s2,s3⟩:=oc3 h;obtain⟨ok,⟨g,hg,e1,e2,e3⟩,o⟩:=h;have d1:dot p.n (sub c a)=0:=by simp only[dot,sub] at *;grind
 have d2:dot p.n (sub k a)=0:=by simp only[dot,sub] at *;grind
 have hc:d7 q.n p.n=⟨0,0,0⟩:=by
  have z:∀{x:Int},g*x=0->x=0:=λh=>(Qic.1 h).resolve_left (by omega)
  generalize sub c a=u at *
  generalize sub k a=w at *
  refine V3.ext' (z ?_) (z ?_) (z ?_)
  ·have:g*(d7 q.n p.n).x=(g*q.n.y)*p.n.z-(g*q.n.z)*p.n.y:=by simp only[d7];grind
   rw[this,e2,e3]
   have:(d7 u w).y*p.n.z-(d7 u w).z*p.n.y=w.x*dot p.n u-u.x*dot p.n w:=by simp only[d7,dot];grind
   rw[this,d1,d2];simp
  ·have:g*(d7 q.n p.n).y=(g*q.n.z)*p.n.x-(g*q.n.x)*p.n.z:=by simp only[d7];grind
   rw[this,e1,e3]
   have:(d7 u w).z*p.n.x-(d7 u w).x*p.n.z=w.y*dot p.n u-u.y*dot p.n w:=by simp only[d7,dot];grind
   rw[this,d1,d2];simp
  ·have:g*(d7 q.n p.n).z=(g*q.n.x)*p.n.y-(g*q.n.y)*p.n.x:=by simp only[d7];grind
   rw[this,e1,e2]
   have:(d7 u w).x*p.n.y-(d7 u w).y*p.n.x=w.z*dot p.n u-u.z*dot p.n w:=by simp only[d7,dot];grind
   rw[this,d1,d2];simp
 obtain⟨pn,pb⟩:=p;obtain⟨qn,qb⟩:=q
 rcases nd6 (Jc4 ok) (Jc4 hp) hc with e|e
 ·left
  simp only at e o t1 s1 t2 t3
  subst e;rw[<- t1,s1]
 ·right
  simp only at e o t1 s1 t2 t3
  subst e;rw[<- t1];simp only[dot,neg,ga3] at s1 ⊢;simp only[Pln.mk.injEq,true_and]
  grind
structure Ac3(l:List V3)(p:Pln):Prop extends Fac l p.n p.b where
 ok:okp p=true
theorem Wb3{l:List V3}{p:Pln}{u w x:V3}(hu:u∈l)(hw:w∈l)(hx:x∈l)(h:Thr u w x p)(hh:∀v∈l,dot (ga3 p).n v<=(ga3 p).b):Ac3 l (ga3 p):=by
 obtain⟨s1,s2,s3⟩:=oc3 h;exact⟨⟨hh,u,w,x,hu,hw,hx,gc4 h,(fb7 p u).2 s1,(fb7 p w).2 s2,(fb7 p x).2 s3⟩,ub9 h.ok⟩
theorem oc4{l:List V3}{p:Pln}{u w x:V3}(hu:u∈l)(hw:w∈l)(hx:x∈l)(h:Thr u w x p)(hh:∀v∈l,dot p.n v<=p.b):Ac3 l p:=by
 obtain⟨s1,s2,s3⟩:=oc3 h;exact⟨⟨hh,u,w,x,hu,hw,hx,gc4 h,s1,s2,s3⟩,h.ok⟩
theorem nd7{u w x:V3}(h:N3 u w x≠⟨0,0,0⟩):N3 w u x≠⟨0,0,0⟩/\N3 u x w≠⟨0,0,0⟩/\N3 x w u≠⟨0,0,0⟩/\N3 w x u≠⟨0,0,0⟩/\N3 x u w≠⟨0,0,0⟩:=by
 have e1:N3 w u x=neg (N3 u w x):=V3.ext' (by simp only[N3,d7,J0,neg];grind) (by simp only[N3,d7,J0,neg];grind) (by simp only[N3,d7,J0,neg];grind)
 have e2:N3 u x w=neg (N3 u w x):=V3.ext' (by simp only[N3,d7,J0,neg];grind) (by simp only[N3,d7,J0,neg];grind) (by simp only[N3,d7,J0,neg];grind)
 have e3:N3 x w u=neg (N3 u w x):=V3.ext' (by simp only[N3,d7,J0,neg];grind) (by simp only[N3,d7,J0,neg];grind) (by simp only[N3,d7,J0,neg];grind)
 have e4:N3 w x u=N3 u w x:=V3.ext' (by simp only[N3,d7,J0];grind) (by simp only[N3,d7,J0];grind) (by simp only[N3,d7,J0];grind)
 have e5:N3 x u w=N3 u w x:=V3.ext' (by simp only[N3,d7,J0];grind) (by simp only[N3,d7,J0];grind) (by simp only[N3,d7,J0];grind)
 rw[e1,e2,e3,e4,e5];exact⟨oc1 h,oc1 h,oc1 h,h,h⟩
theorem qe2{u w x:V3}(h:N3 u w x≠⟨0,0,0⟩):u≠w/\u≠x/\w≠x:=by
 refine⟨λe=>h ?_,λe=>h ?_,λe=>h ?_⟩<;>subst e<;>refine V3.ext' ?_ ?_ ?_<;>simp only[N3,d7,J0]<;>grind
theorem Xd6{l:List V3}{u w x:V3}(hu:u∈l)(hw:w∈l)(hx:x∈l)(h:N3 u w x≠⟨0,0,0⟩) :
  ∃a,a<l.length/\∃c,c<a/\∃k,k<c/\N3 (gL tV l a) (gL tV l c) (gL tV l k)≠⟨0,0,0⟩/\∀f:V3->Prop,f u->f w->f x->f (gL tV l a)/\f (gL tV l c)/\f (gL tV l k):=by
 obtain⟨i,hi,rfl⟩:=Qec.1 hu;obtain⟨j,hj,rfl⟩:=Qec.1 hw;obtain⟨k,hk,rfl⟩:=Qec.1 hx;obtain⟨n1,n2,n3⟩:=qe2 h;obtain⟨s1,s2,s3,s4,s5⟩:=nd7 h;have d1:i≠j:=λe=>n1 (by subst e;rfl)
 have d2:i≠k:=λe=>n2 (by subst e;rfl)
 have d3:j≠k:=λe=>n3 (by subst e;rfl)
 rw[<- tb3 tV hi,<- tb3 tV hj,<- tb3 tV hk] at *
 rcases Qiz d1 with h1|h1<;>rcases Qiz d2 with h2|h2<;>rcases Qiz d3 with h3|h3
 ·exact⟨k,hk,j,h3,i,h1,s3,λf a b c=>⟨c,b,a⟩⟩
 ·exact⟨j,hj,k,h3,i,h2,s4,λf a b c=>⟨b,c,a⟩⟩
 ·omega
 ·exact⟨j,hj,i,h1,k,h2,s1,λf a b c=>⟨b,a,c⟩⟩
 ·exact⟨k,hk,i,h2,j,h1,s5,λf a b c=>⟨c,a,b⟩⟩
 ·omega
 ·exact⟨i,hi,k,h2,j,h3,s2,λf a b c=>⟨a,c,b⟩⟩
 ·exact⟨i,hi,j,h1,k,h3,h,λf a b c=>⟨a,b,c⟩⟩
theorem Qc3{l:List V3}(hl:l.all inV=true)(p:Pln):p∈F0 l↔Ac3 l p:=by
 have hin:=Qcf.1 hl;constructor
 ·intro hp;obtain⟨a,ha,c,hc,k,hk,h1,h2⟩:=(Jc5 l p).1 hp;have ma:=gLm ha;have mc:=gLm (show c<l.length by omega)
  have mk:=gLm (show k<l.length by omega)
  have ht:=(ta4 h1).2
  rcases h2 with⟨rfl,h3⟩|⟨rfl,h3⟩
  ·exact oc4 ma mc mk ht ((Qa0 ht.ok hl).1 h3)
  ·exact Wb3 ma mc mk ht ((Qa0 (ub9 ht.ok) hl).1 h3)
 ·intro h;obtain⟨u,w,x,hu,hw,hx,h3,t1,t2,t3⟩:=h.on;obtain⟨a,ha,c,hc,k,hk,hn,hall⟩:=Xd6 hu hw hx h3;obtain⟨i1,i2,i3⟩:=hall (λv=>inV v=true) (hin u hu) (hin w hw) (hin x hx)
  obtain⟨e1,e2,e3⟩:=hall (λv=>dot p.n v=p.b) t1 t2 t3
  have h2:=vb3 i1 i2 i3 hn;refine (Jc5 l p).2 ⟨a,ha,c,hc,k,hk,h2,?_⟩;have hh:=(Qa0 h.ok hl).2 h.hd
  rcases Ac2 (ta4 h2).2 h.ok e1 e2 e3 with e|e
  ·exact .inl ⟨e,hh⟩
  ·exact .inr ⟨e,hh⟩
theorem Cd5{n:V3}(h:n≠⟨0,0,0⟩):0<dot n n:=by
 have sq:∀a:Int,0<=a*a:=λa=>by
  by_cases h:0<=a
  ·exact Qif h h
  ·have:=Qif (show 0<=-a by omega) (show 0<=-a by omega)
   rw[Int.neg_mul_neg] at this;exact this
 have z:∀{a:Int},a*a=0->a=0:=λh=>(Qic.1 h).elim id id
 have s1:=sq n.x;have s2:=sq n.y;have s3:=sq n.z;by_cases h0:0<dot n n
 ·exact h0
 ·exfalso;simp only[dot] at h0;exact h (V3.ext' (z (by omega)) (z (by omega)) (z (by omega)))
theorem Cd6{l:List V3}(hl:l.all inV=true){c:PLq}(hc:∀p,Ac3 l p->p∈c):qe1 l c:=λn b hn hf=>by
 have hin:=Qcf.1 hl;obtain⟨u,w,x,hu,hw,hx,h3,t1,t2,t3⟩:=hf.on;have h2:=vb3 (hin u hu) (hin w hw) (hin x hx) h3;have ht:=(ta4 h2).2;generalize (D0 u w x).1=q at ht;obtain⟨s1,s2,s3⟩:=oc3 ht;have hnn:=Cd5 hn;have d1:dot n (J0 w u)=0:=by simp only[dot,J0] at *;grind
 have d2:dot n (J0 x u)=0:=by simp only[dot,J0] at *;grind
 -- the normals are parallel
 have par:dot n n*q.n.x=dot q.n n*n.x/\dot n n*q.n.y=dot q.n n*n.y/\dot n n*q.n.z=dot q.n n*n.z:=by
  obtain⟨ok,⟨g,hg,e1,e2,e3⟩,o⟩:=ht;have z:∀{x y:Int},g*(x-y)=0->x=y:=λh=>by have:=(Qic.1 h).resolve_left (by omega);omega
  have eg:g*dot q.n n=(d7 (J0 w u) (J0 x u)).x*n.x+(d7 (J0 w u) (J0 x u)).y*n.y+(d7 (J0 w u) (J0 x u)).z*n.z:=by
   have:g*dot q.n n=(g*q.n.x)*n.x+(g*q.n.y)*n.y+(g*q.n.z)*n.z:=by simp only[dot];grind
   rw[this,e1,e2,e3];rfl
  have e1:g*q.n.x=(d7 (J0 w u) (J0 x u)).x:=e1;have e2:g*q.n.y=(d7 (J0 w u) (J0 x u)).y:=e2;have e3:g*q.n.z=(d7 (J0 w u) (J0 x u)).z:=e3;generalize J0 w u=p at *
  generalize J0 x u=r at *
  refine⟨z ?_,z ?_,z ?_⟩
  ·have:g*(dot n n*q.n.x-dot q.n n*n.x)=dot n n*(g*q.n.x)-(g*dot q.n n)*n.x:=by grind
   rw[this,e1,eg]
   have:dot n n*(d7 p r).x-((d7 p r).x*n.x+(d7 p r).y*n.y+(d7 p r).z*n.z)*n.x=(n.y*r.z-n.z*r.y)*dot n p-(n.y*p.z-n.z*p.y)*dot n r:=by simp only[dot,d7];grind
   rw[this,d1,d2];simp
  ·have:g*(dot n n*q.n.y-dot q.n n*n.y)=dot n n*(g*q.n.y)-(g*dot q.n n)*n.y:=by grind
   rw[this,e2,eg]
   have:dot n n*(d7 p r).y-((d7 p r).x*n.x+(d7 p r).y*n.y+(d7 p r).z*n.z)*n.y=(n.z*r.x-n.x*r.z)*dot n p-(n.z*p.x-n.x*p.z)*dot n r:=by simp only[dot,d7];grind
   rw[this,d1,d2];simp
  ·have:g*(dot n n*q.n.z-dot q.n n*n.z)=dot n n*(g*q.n.z)-(g*dot q.n n)*n.z:=by grind
   rw[this,e3,eg]
   have:dot n n*(d7 p r).z-((d7 p r).x*n.x+(d7 p r).y*n.y+(d7 p r).z*n.z)*n.z=(n.x*r.y-n.y*r.x)*dot n p-(n.x*p.y-n.y*p.x)*dot n r:=by simp only[dot,d7];grind
   rw[this,d1,d2];simp
 have fin:∀r:Pln,Thr u w x q->(r=q\/r=ga3 q)->0<dot r.n n->(dot n n*r.n.x=dot r.n n*n.x/\dot n n*r.n.y=dot r.n n*n.y/\dot n n*r.n.z=dot r.n n*n.z)->∃s t:Int,0<s/\0<t/\∃q∈c,t*q.n.x=s*n.x/\t*q.n.y=s*n.y/\t*q.n.z=s*n.z/\t*q.b=s*b:=λr ht hr hp ⟨p1,p2,p3⟩=>by
  have hru:dot r.n u=r.b:=by
   rcases hr with rfl|rfl
   ·exact s1
   ·exact (fb7 q u).2 s1
  have ed:∀v,dot n n*dot r.n v=dot r.n n*dot n v:=λv=>by
   have:dot n n*dot r.n v=(dot n n*r.n.x)*v.x+(dot n n*r.n.y)*v.y+(dot n n*r.n.z)*v.z:=by
    generalize dot n n=t;simp only[dot];grind
   rw[this,p1,p2,p3];generalize dot r.n n=s;simp only[dot];grind
  have eb:dot n n*r.b=dot r.n n*b:=by rw[<- hru,ed,t1]
  have hd:∀v∈l,dot r.n v<=r.b:=λv hv=>by
   have h1:=Qiy (hf.hd v hv) (Qii hp);rw[<- ed,<- eb] at h1;exact Int.le_of_mul_le_mul_left h1 hnn
  have hF:Ac3 l r:=by
   rcases hr with rfl|rfl
   ·exact oc4 hu hw hx ht hd
   ·exact Wb3 hu hw hx ht hd
  exact⟨dot r.n n,dot n n,hp,hnn,r,hc r hF,p1,p2,p3,eb⟩
 by_cases h0:0<dot q.n n
 ·exact fin q ht (.inl rfl) h0 par
 ·refine fin (ga3 q) ht (.inr rfl) ?_ ?_
  ·rw[Wb2]
   have:dot q.n n≠0:=λe=>by
    obtain⟨p1,p2,p3⟩:=par;rw[e] at p1 p2 p3;simp only[Qio] at p1 p2 p3;have z:∀{x:Int},dot n n*x=0->x=0:=λh=>(Qic.1 h).resolve_left (by omega)
    exact nd4 ht.ok (V3.ext' (z p1) (z p2) (z p3))
   omega
  ·rw[Wb2];obtain⟨p1,p2,p3⟩:=par;show dot n n*-q.n.x=_/\dot n n*-q.n.y=_/\dot n n*-q.n.z=_;rw[Int.mul_neg,Int.mul_neg,Int.mul_neg,p1,p2,p3,Int.neg_mul,Int.neg_mul,Int.neg_mul];exact⟨rfl,rfl,rfl⟩
end Go.Ev.Ce
namespace Go.Ev.Ce
open Go Go.Ev Go.Ev.L Go.Proofs Go.Sort
def eqV(x y:V3):Bool:=x.x==y.x&&(x.y==y.y&&(x.z==y.z&&true))
theorem oc5(x y:V3):eqV x y=true↔x=y:=by
 unfold eqV;simp only[Qig,Qbd,beq_iff_eq];refine⟨λ⟨h1,h2,h3⟩=>V3.ext' h1 h2 h3,λh=>by subst h;exact⟨rfl,rfl,rfl⟩⟩
theorem oc6{l:List V3}{j:Nat}(h:j<l.length):ldR tV (bL tV l) (0+j)=true:=by rw[Qbh];exact Gc5 tV h
theorem Wb4{l:List V3}{j:Nat}(h:j<l.length):rdR tV (bL tV l) (0+j)=gL tV l j:=by rw[Qbh];exact Gc4 tV h
theorem Ac4(l:List V3)(n:Nat):r7 (bL tV l) n=bL tV (l.take n):=by unfold bL;rw[r8,i8,i8,List.map_take]
theorem Wb5(l:List V3)(n:Nat):i5 (bL tV l) n=bL tV (l.drop n):=by unfold bL;rw[o8,i8,i8,List.map_drop]
theorem Ac5(n:Nat):List.replicate n [i 0,i 0,i 0]=bL tV (List.replicate n ⟨0,0,0⟩):=by unfold bL;rw[i8,List.map_replicate];rfl
def dvF:V3->List V3->List V3
 |_,[]=>[]
 |a,x::l=>if eqV x a then dvF x l else x::dvF x l
def ddV:List V3->List V3
 |[]=>[]
 |x::l=>x::dvF x l
structure nd8(l:List V3)(n:Nat)(cur:List V3)(m j:Nat)(R:List V3):Prop where
 len:cur.length=l.length
 t:cur.take m++dvF (gL tV l (j-1)) ((l.take n).drop j)=R
 d:cur.drop (j-1)=l.drop (j-1)
 le:m+1<=j
theorem Zb6(l:List V3)(n o:Nat)(hn:n<=l.length)(hl:l.length<=1000000000)(ho:o<n)(m:Nat)(cur:List V3)(R:List V3)(hd:nd8 l n cur m (o+1) R) :
  ∃t s,lp (m9 ⟨n,0+o,n-o⟩) ⟨(m:Int),((1:Nat):Int),bL tV cur⟩=(t,s)/\(t=1/\∃m' cur' k,s=⟨((m':Nat):Int),k,bL tV cur'⟩/\cur'.length=l.length/\cur'.take m'=R/\m'<=n):=by
 refine ka4 (step:=m9 ⟨n,0+o,n-o⟩) (mk:=λj (x:Nat×List V3)=>(⟨(x.1:Int),(j:Int),bL tV x.2⟩:l9)) (n-o) (λj x=>nd8 l n x.2 x.1 (o+j) R/\1<=j/\x.1<=n) (λt s=>t=1/\∃m' cur' k,s=⟨((m':Nat):Int),k,bL tV cur'⟩/\cur'.length=l.length/\cur'.take m'=R/\m'<=n) (by omega) (λj x hj hx=>?_) (λj x hj hx=>?_) 1 (m,cur) ⟨hd,Qac _,by have:=hd.le;show m<=n;omega⟩
 ·obtain⟨m,cur⟩:=x;obtain⟨⟨h1,h2,h3,h4⟩,hj1,hmn⟩:=hx
  simp only at h1 h2 h3 h4 hmn
  have hoj:o+j<n:=by omega
  have hjc:o+j<cur.length:=by omega
  have hjc':o+(j-1)<cur.length:=by omega
  have hmc:m<cur.length:=by omega
  have hg':gL tV cur (o+(j-1))=gL tV l (o+j-1):=by rw[show o+(j-1)=o+j-1 by omega];exact Cb5 tV h3
  have hd1:cur.drop (o+j)=l.drop (o+j):=by have:=ub6 h3 1;rw[show o+j-1+1=o+j by omega] at this;exact this
  have hg:gL tV cur (o+j)=gL tV l (o+j):=Cb5 tV hd1;have hWm:W ((m:Int)+1)=((m+1:Nat):Int):=by rw[fa7 (by omega) (by omega)];omega
  have hWj:W ((j:Int)-1)=((j-1:Nat):Int):=by rw[fa7 (by omega) (by omega)];omega
  have hb:Nat.blt m cur.length=true:=by rw[Qch];exact hmc
  have hrow:j8 (bL tV cur) m=tV.row (gL tV cur m):=Y6 tV hmc;have sp:∀(v:V3) (x1 x2 x3:Int),S8 (tV.row v) 0 [i x1,i x2,i x3]=tV.row ⟨x1,x2,x3⟩:=λ_ _ _ _=>rfl
  have rl:∀v:V3,Nat.ble 3 (len (tV.row v))=true:=λ_=>rfl
  simp only[m9,I4,Int.toNat_natCast,Qbh,hWj,Gc5 tV hjc,Gc5 tV hjc',Gc4 tV hjc,Gc4 tV hjc',K5 hj (show n-o<=4611686018427387904 by omega),hWm,hg,hg',hrow,Ra9,hb,sp,rl,vc7,o5 (show m<n by omega)]
  rw[btD (H5 hj)];simp only[o5 hj,o5 (show j-1<n-o by omega),s6,Qih]
  rw[show ((gL tV l (o+j)).x==(gL tV l (o+j-1)).x&&((gL tV l (o+j)).y==(gL tV l (o+j-1)).y&&((gL tV l (o+j)).z==(gL tV l (o+j-1)).z&&true)))=eqV (gL tV l (o+j)) (gL tV l (o+j-1)) from rfl]
  have hcons:(l.take n).drop (o+j)=gL tV l (o+j)::(l.take n).drop (o+(j+1)):=by
   rw[Qha (by rw[Qia];omega),List.getElem_take,tb3 tV (by omega)]
   rfl
  rw[hcons] at h2;have hlast:o+(j+1)-1=o+j:=by omega
  unfold dvF at h2;cases he:eqV (gL tV l (o+j)) (gL tV l (o+j-1)) with
  |true =>
   rw[he] at h2;simp only[if_true] at h2;refine .nx ⟨(m,cur),rfl,⟨⟨h1,?_,?_,by show m+1<=o+(j+1);omega⟩,by omega,hmn⟩⟩
   ·rw[hlast];exact h2
   ·rw[hlast];exact hd1
  |false =>
   rw[he] at h2;simp only[Qhc,if_false] at h2;refine .nx ⟨(m+1,cur.set m (gL tV l (o+j))),rfl,⟨⟨by rw[Qix];exact h1,?_,?_,by show m+1+1<=o+(j+1);omega⟩,by omega,by show m+1<=n;omega⟩⟩
   ·rw[hlast];show (cur.set m (gL tV l (o+j))).take (m+1)++_=R;rw[Qik (by rw[Qix];exact hmc),Qiaj,List.take_set_of_le (Qac _),List.append_assoc]
    exact h2
   ·rw[hlast];show (cur.set m (gL tV l (o+j))).drop (o+j)=_;rw[List.drop_set_of_lt (by omega),hd1]
 ·obtain⟨m,cur⟩:=x;obtain⟨⟨h1,h2,h3,h4⟩,hj1,hmn⟩:=hx
  simp only at h1 h2 h3 h4 hmn
  refine⟨1,?_,rfl,m,cur,_,rfl,h1,?_,hmn⟩
  ·simp only[m9,I4];rw[bfD (by omega)]
  ·rw[Qiai (by rw[Qia];omega)] at h2
   unfold dvF at h2;rw[Qbad] at h2;exact h2
theorem Ac6(l:List V3)(n:Nat)(hn:n<=l.length)(hl:l.length<=1000000000) :
  ∃m r,D2 ⟨n,bL tV l⟩=⟨1,m,bL tV r⟩/\m<=r.length/\r.take m=ddV (l.take n)/\r.length=l.length:=by
 unfold D2 da2
 simp only
 by_cases h2:(n:Int)<2
 ·rw[btD h2];refine⟨n,l,rfl,hn,?_,rfl⟩
  have:n=0\/n=1:=by omega
  rcases this with rfl|rfl
  ·rfl
  ·cases l with
   |nil=>rfl
   |cons x l=>rfl
 ·rw[bfD h2];have h1n:1<=n:=by omega
  have hI : ∀ j, j < n → 1 ≤ j → l.take j ++ dvF (gL tV l (j - 1)) ((l.take n).drop j) = ddV (l.take n) →
    (eqV (gL tV l j) (gL tV l (j-1))=true->nd8 l n l j (j+1) (ddV (l.take n)))/\(eqV (gL tV l j) (gL tV l (j-1))=false->l.take (j+1)++dvF (gL tV l (j+1-1)) ((l.take n).drop (j+1))=ddV (l.take n)):=by
   intro j hj hj1 hR;have hcons:(l.take n).drop j=gL tV l j::(l.take n).drop (j+1):=by
    rw[Qha (by rw[Qia];omega),List.getElem_take,tb3 tV (by omega)]
   rw[hcons] at hR;unfold dvF at hR;constructor
   ·intro he;rw[he] at hR;simp only[if_true] at hR;exact⟨rfl,hR,rfl,Qac _⟩
   ·intro he;rw[he] at hR;simp only[Qhc,if_false] at hR;rw[Mb6 tV (show j<l.length by omega),List.append_assoc]
    exact hR
  have inner:∀k,k<n->1<=k->nd8 l n l k (k+1) (ddV (l.take n))->∃m' cur' k',lp (m9 ⟨n,0+k,n-k⟩) ⟨(k:Int),1,bL tV l⟩=(1,⟨((m':Nat):Int),k',bL tV cur'⟩)/\cur'.length=l.length/\cur'.take m'=ddV (l.take n)/\m'<=n:=by
   intro k hk hk1 hc;obtain⟨t,s,e1,rfl,m',cur',k',rfl,e2,e3,e4⟩:=Zb6 l n k hn hl hk k l _ hc;exact⟨m',cur',k',e1,e2,e3,e4⟩
  have key:=ka4 (step:=D1 ⟨n,bL tV l⟩) (mk:=λj (_:Unit)=>(⟨(j:Int)⟩:ud2)) n (λj _=>1<=j/\j<=n/\l.take j++dvF (gL tV l (j-1)) ((l.take n).drop j)=ddV (l.take n))
   (λt s=>(t=1/\∃k:Nat,s=⟨(k:Int)⟩/\k<n/\1<=k/\nd8 l n l k (k+1) (ddV (l.take n)))\/(t=2/\l.take n=ddV (l.take n))) (by omega) (λj x hj hx=>?_) (λj x hj hx=>?_) 1 () ⟨Qac _,h1n,by
    cases l with
    |nil=>simp only[List.length_nil] at hn;omega
    |cons x l =>
     cases n with
     |zero=>omega
     |succ n=>rfl⟩
  ·obtain⟨t,s,e1,e2⟩:=key;rw[show (⟨1⟩:ud2)=⟨((1:Nat):Int)⟩ from rfl,e1]
   rcases e2 with⟨rfl,k,rfl,hk,hk1,hc⟩|⟨rfl,he⟩
   ·obtain⟨m',cur',k',e2,e3,e4,e5⟩:=inner k hk hk1 hc;simp only[Int.toNat_natCast,e2];simp only[Qbh,Nat.sub_zero];refine⟨m',cur'.take m'++(List.replicate (n-m') ⟨0,0,0⟩++cur'.drop (m'+(n-m'))),?_,?_,?_,?_⟩
    ·rw[Ac4,Ac5,Wb5,Za3,Za3];rfl
    ·rw[Qea,Qia,e3];omega
    ·rw[Qin (by rw[Qia,e3];omega),Qiak,Nat.min_self,e4]
    ·rw[Qea,Qea,Qia,Qbt,Qbr,e3];omega
   ·exact⟨n,l,rfl,hn,he,rfl⟩
  ·obtain⟨hj1,hjn,hR⟩:=hx;obtain⟨i1,i2⟩:=hI j hj hj1 hR;have hWj:W ((j:Int)-1)=((j-1:Nat):Int):=by rw[fa7 (by omega) (by omega)];omega
   have hjl:j<l.length:=by omega
   have hjl':j-1<l.length:=by omega
   simp only[D1,I5,Int.toNat_natCast,hWj,oc6 hjl,oc6 hjl',Wb4 hjl,Wb4 hjl',K5 hj (show n<=4611686018427387904 by omega)]
   rw[btD (H5 hj),bt (o5 hj),bt (o5 (show j-1<n by omega)),bt (o5 (show j<n+1 by omega))]
   simp only[s6];rw[show ((gL tV l j).x==(gL tV l (j-1)).x&&((gL tV l j).y==(gL tV l (j-1)).y&&((gL tV l j).z==(gL tV l (j-1)).z&&true)))=eqV (gL tV l j) (gL tV l (j-1)) from rfl]
   cases he:eqV (gL tV l j) (gL tV l (j-1)) with
   |false=>exact .nx ⟨(),rfl,by omega,by omega,i2 he⟩
   |true =>
    obtain⟨m',cur',k',e2,e3,e4,e5⟩:=inner j hj hj1 (i1 he);rw[e2];simp only[o5 (show m'<n+1 by omega)]
    exact .ex (.inl ⟨rfl,j,rfl,hj,hj1,i1 he⟩)
  ·obtain⟨hj1,hjn,hR⟩:=hx;refine⟨2,?_,.inr ⟨rfl,?_⟩⟩
   ·simp only[D1,I5];rw[bfD (by omega)]
   ·have:j=n:=by omega
    subst this;rw[Qiai (by rw[Qia];omega)] at hR
    unfold dvF at hR;rw[Qbad] at hR;exact hR
def nd9(l:List V3):Prop:=l.Pairwise LtV
theorem fb8{x y z:V3}(h1:LtV x y)(h2:LtV y z):LtV x z:=by unfold LtV at *;omega
theorem vb4(x:V3):¬ LtV x x:=by unfold LtV;omega
theorem Qc4(x y:V3):LtV x y\/x=y\/LtV y x:=by
 by_cases h1:LtV x y
 ·exact .inl h1
 ·by_cases h2:LtV y x
  ·exact .inr (.inr h2)
  ·refine .inr (.inl ?_);unfold LtV at h1 h2;exact V3.ext' (by omega) (by omega) (by omega)
theorem Jc7(l:List V3):List.Perm (Va4 l) l:=List.mergeSort_perm l _
theorem Zc5(x y z:V3)(h1:(!ltOf Ma0 y x)=true)(h2:(!ltOf Ma0 z y)=true):(!ltOf Ma0 z x)=true:=by
 rw[ma1] at *
 simp only[Qdb,decide_eq_false_iff_not] at *
 unfold LtV at *
 omega
theorem Zc6(x y:V3):((!ltOf Ma0 y x)||(!ltOf Ma0 x y))=true:=by
 rw[ma1,ma1];by_cases h:LtV y x
 ·have h2:¬ LtV x y:=λh2=>vb4 x (fb8 h2 h)
  simp[h2]
 ·simp[h]
theorem oc7(l:List V3):(Va4 l).Pairwise λx y=>(!ltOf Ma0 y x)=true:=Qiag Zc5 Zc6 l
theorem Qc5(p:V3):∀(a:V3) (l:List V3),p∈a::dvF a l↔p∈a::l
 |a,[]=>by simp[dvF]
 |a,x::l=>by
  have ih:=Qc5 p x l;unfold dvF;split
  ·rename_i h;rw[oc5] at h;subst h;rw[ih];simp
  ·simp only[Qbp] at ih ⊢;rw[ih]
theorem Xd7(p:V3):∀l:List V3,p∈ddV l↔p∈l
 |[]=>Iff.rfl
 |x::l=>Qc5 p x l
theorem Qc6:∀(a:V3) (l:List V3),(a::l).Pairwise (λx y=>(!ltOf Ma0 y x)=true)->nd9 (a::dvF a l)
 |a,[],_=>Qiah _ _
 |a,x::l,h=>by
  obtain⟨h1,h2⟩:=Qid.1 h;have ih:=Qc6 x l h2;have hle:=h1 x Qck;rw[ma1] at hle;have hle:¬ LtV x a:=by simpa using hle
  unfold dvF;split
  ·rename_i he;rw[oc5] at he;subst he;exact ih
  ·rename_i hne;have hlt:LtV a x:=by
    rcases Qc4 a x with h|h|h
    ·exact h
    ·exact absurd ((oc5 _ _).2 h.symm) hne
    ·exact absurd h hle
   refine Qid.2 ⟨λp hp=>?_,ih⟩
   rcases Qbp.1 hp with e|hp'
   ·subst e;exact hlt
   ·exact fb8 hlt ((Qid.1 ih).1 p hp')
theorem od0(l:List V3):nd9 (ddV (Va4 l)):=by
 have h:=oc7 l;cases hs:Va4 l with
 |nil=>exact .nil
 |cons a l'=>rw[hs] at h;exact Qc6 a l' h
def dis(l:List V3):List V3:=ddV (Va4 l)
theorem vb5(l:List V3)(v:V3):v∈dis l↔v∈l:=by unfold dis;rw[Xd7,(Jc7 l).mem_iff]
theorem Zc7(l:List V3):(dis l).Nodup:=List.Pairwise.imp (λ{x y} (h:LtV x y) (e:x=y)=>vb4 y (e ▸ h)) (od0 l)
theorem Qc7(l:List V3):(dis l).length<=l.length:=by
 have:=List.Nodup.length_le_of_subset (Zc7 l) (λv hv=>(vb5 l v).1 hv)
 exact this
theorem gc5(l:List V3)(n:Nat)(hn:n<=l.length):slR tV (bL tV l) 0 n=l.take n:=Qb9 tV (by rw[Qia];omega) λk hk=>by
 rw[Qbh,Y6 tV (by omega)]
 congr 1;simp[gL,Qda,Qbe,hk]
theorem Cb7(l:List V3)(n:Nat)(hn:n<=l.length):okS tV (bL tV l) 0 n=true:=Ra8 tV (f:=λk=>gL tV l k) λk hk=>by rw[Qbh,Y6 tV (by omega)]
theorem gc6(a:V3)(l:List V3)(hl:l.length<=1000000):O5 (a,l)=⟨1,(a::l).length,bL tV (a::l)⟩:=by
 have ec:j9 (λk=>tV.row (gL tV (a::l) k)) (List.range (l.length+1))=bL tV (a::l):=fd1 tV (a::l)
 unfold O5 la2;simp only[ec,Ra9];have r:Nat.ble ((0+(a::l).length)*24) room=true:=by rw[Qiad];unfold room;simp only[List.length_cons];omega
 rw[r,Qbh];rfl
theorem vb6(a:V3)(l:List V3)(hl:l.length<=1000000):∃m r,D2 ⟨(a::l).length,app (bL tV (Va4 (slR tV (bL tV (a::l)) 0 (a::l).length))) (i5 (bL tV (a::l)) (a::l).length)⟩=⟨1,m,bL tV r⟩/\m<=r.length/\r.take m=dis (a::l)/\r.length=l.length+1:=by
 have hs:(Va4 (a::l)).length=(a::l).length:=gc0 _;rw[Gc6,Wb5,Za3];obtain⟨m,r,k1,k2,k3,k4⟩:=Ac6 (Va4 (a::l)++(a::l).drop (a::l).length) (a::l).length (by rw[Qea,hs];omega) (by rw[Qea,hs,Qbr];simp only[List.length_cons];omega)
 refine⟨m,r,k1,k2,?_,by rw[k4,Qea,hs,Qbr];simp only[List.length_cons];omega⟩
 rw[k3,Qin (by rw[hs];omega),List.take_of_length_le (by rw[hs];omega)]
 rfl
theorem Ac7(l:List V3)(hl:l.length<=2000000)(r:List V3):(Bool.and (Nat.ble l.length room) (Bool.and (Nat.ble l.length (len (bL tV (l++r)))) (okS tV (bL tV (l++r)) 0 l.length)))=true:=by
 rw[Cb7 _ _ (by rw[Qea];omega),Ra9,Qbd,Qbd,Qiad,Qiad]
 refine⟨by unfold room;omega,by rw[Qea];omega,rfl⟩
theorem Fb6(a:V3)(l:List V3)(hl:l.length<=1000000):Rd (one (r1L tV)) (X9 (a,l)) (λr=>r=dis (a::l)):=by
 obtain⟨m,r,k1,k2,k3,_⟩:=vb6 a l hl;have hok:okL tV (l.length+1) (λk=>tV.row (gL tV (a::l) k))=true:=Ra8 tV (f:=λk=>gL tV (a::l) k) λ_ _=>rfl
 have hr:=Ac7 (a::l) (by simp only[List.length_cons];omega) []
 rw[Qbad] at hr;unfold X9;simp only[Nc2,Nc3,gc6 a l hl,hok,k1,s6,Nat.beq_refl,hr];refine⟨_,r.take m,rfl,?_,k3⟩;show Bool.rec (motive:=λ_=>Option (List V3)) none (some (slR tV (bL tV r) 0 m)) (Bool.and true (okS tV (bL tV r) 0 m))=_
 rw[gc5 r m k2,Cb7 r m k2];rfl
theorem Jc8(a:V3)(l:List V3)(hl:l.length<=1000000):xa1 (a,l)=dis (a::l):=(Fb6 a l hl).p
theorem Jc9(a:V3)(l:List V3)(hl:l.length<=1000000):xa2 (a,l)=true:=(Fb6 a l hl).g
end Go.Ev.Ce
namespace Go.Ev.Ce
open Go Go.Ev Go.Ev.L Go.Proofs
theorem Ac8(p:Pln)(v:V3):oa5 p v=some (i (ba1 p v),[]):=by
 unfold oa5 ba1;simp only[Bd7,Bd8,(Cb4 v).1,(Cb4 v).2,Pc4,Pc5,s6];cases hp:okp p with
 |false=>rfl
 |true =>
  cases hv:inV v with
  |false=>rfl
  |true =>
   have hb:=Jc1 hp;have hd:=Wd7 hb hv;have e:G5 p.n v=dot p.n v:=by
    unfold G5;simp only[Ub8,nc3];exact Cb0 (hd.mono (by omega))
   rw[e];simp only[Bool.not_true,Qb8,Qih,if_true,Ka6];by_cases h1:dot p.n v<p.b
   ·rw[if_pos h1,if_pos (by omega)]
   ·rw[if_neg h1];by_cases h2:dot p.n v>p.b
    ·rw[if_pos h2,if_neg (by omega),if_pos (by omega)]
    ·rw[if_neg h2,if_neg (by omega),if_neg (by omega)]
theorem Mb7(p:Pln)(v:V3):W0 p v=ba1 p v:=by unfold W0;rw[Ac8];rfl
theorem Mb8(p:Pln)(v:V3):W4 p v=true:=by unfold W4;rw[Ac8];rfl
theorem Cd7{v:V3}(h1:Sm 1000000000000000000 v.x)(h2:Sm 1000000000000000000 v.y)(h3:Sm 1000000000000000000 v.z):K2 [v.x,v.y,v.z]=g3 v/\K3 [v.x,v.y,v.z]=true:=by
 have hd:=Vb8 [v.x,v.y,v.z] (by simp) (by
  intro x hx;simp only[Qbp,Qiae,or_false] at hx
  rcases hx with rfl|rfl|rfl<;>assumption)
 have hg:([v.x,v.y,v.z].foldl (λg x=>Nat.gcd g x.natAbs) 0:Nat)=Nat.gcd (Nat.gcd v.x.natAbs v.y.natAbs) v.z.natAbs:=by
  simp only[List.foldl_cons,List.foldl_nil,Qiab]
 exact⟨by unfold K2;rw[hd,hg];rfl,by unfold K3;rw[hd];rfl⟩
theorem od1{v:V3}(h1:Sm 1000000000000000000 v.x)(h2:Sm 1000000000000000000 v.y)(h3:Sm 1000000000000000000 v.z) :
  oa4 v=if g3 v=0 then some (.tup [.agg (tV.row ⟨0,0,0⟩),i 0],[]) else some (.tup [.agg (tV.row ⟨W (Int.tdiv v.x (g3 v)),W (Int.tdiv v.y (g3 v)),W (Int.tdiv v.z (g3 v))⟩),i (g3 v)],[]):=by
 obtain⟨e1,e2⟩:=Cd7 h1 h2 h3;unfold oa4;simp only[e1,e2,s6];by_cases h:g3 v=0
 ·rw[if_pos h,bt (by simpa using h)];rfl
 ·rw[if_neg h,bf (by simpa using h),bf (by simpa using h),bf (by simpa using h),bf (by simpa using h)];rfl
theorem Fb7(a c d:V3):X7 a c d=some (.tup [.agg (tP.row (D0 a c d).1),b (D0 a c d).2],[]):=by
 unfold X7 D0;simp only[(Cb4 _).1,(Cb4 _).2];cases ha:inV a with
 |false=>rfl
 |true =>
  cases hc:inV c with
  |false=>rfl
  |true =>
   cases hd:inV d with
   |false=>rfl
   |true =>
    obtain⟨e,k1,k2,k3⟩:=Ma5 ha hc hd;have e':L8 (ca0 c a) (ca0 d a)=d7 (sub c a) (sub d a):=e;rw[e'];generalize d7 (sub c a) (sub d a)=n at *
    have m1:=k1.mono (m:=1000000000000000000) (by omega)
    have m2:=k2.mono (m:=1000000000000000000) (by omega)
    have m3:=k3.mono (m:=1000000000000000000) (by omega)
    have hpr:=od1 m1 m2 m3;have gp:za3 n=true:=by unfold za3;rw[hpr];split<;>rfl
    by_cases h0:g3 n=0
    ·have pp:fa4 n=(⟨0,0,0⟩,0):=by unfold fa4;rw[hpr,if_pos h0];rfl
     have hz:G5 ⟨0,0,0⟩ a=0:=by unfold G5;simp only[Qio];rfl
     simp only[gp,pp,hz,Qih,if_true,h0];rfl
    ·have hp:=fb6 n;have q1:=Aa8 (g:=g3 n) k1 (by omega)
     have q2:=Aa8 (g:=g3 n) k2 (by omega)
     have q3:=Aa8 (g:=g3 n) k3 (by omega)
     rw[Cb0 (q1.mono (by omega)),Cb0 (q2.mono (by omega)),Cb0 (q3.mono (by omega))] at hpr
     have pp:fa4 n=(⟨Int.tdiv n.x (g3 n),Int.tdiv n.y (g3 n),Int.tdiv n.z (g3 n)⟩,g3 n):=by unfold fa4;rw[hpr,if_neg h0];rfl
     have hdot:G5 ⟨Int.tdiv n.x (g3 n),Int.tdiv n.y (g3 n),Int.tdiv n.z (g3 n)⟩ a=dot ⟨Int.tdiv n.x (g3 n),Int.tdiv n.y (g3 n),Int.tdiv n.z (g3 n)⟩ a:=by
      unfold G5;simp only[Ub8,nc3];obtain⟨⟨a1,a2⟩,⟨a3,a4⟩,a5,a6⟩:=(Ta7 a).1 ha;have r1:=mb q1.1 q1.2 a1 a2;have r2:=mb q2.1 q2.2 a3 a4;have r3:=mb q3.1 q3.2 a5 a6;rw[fa7 (by omega) (by omega)]
      rfl
     simp only[gp,pp,hdot,Qih,if_true,h0,if_false,show g3 n>0 from by omega,decide_true]
     rfl
theorem Ta8(a b c:V3):A0 a b c=D0 a b c:=by unfold A0;rw[Fb7];rfl
theorem nb7(a b c:V3):Q5 a b c=true:=by unfold Q5;rw[Fb7];rfl
theorem od2(v:V3)(p:Pln):sa9 ⟨v.x,v.y,v.z,p.n.x,p.n.y,p.n.z,p.b⟩=⟨1,ba1 p v != 0⟩:=by
 unfold sa9 La3;simp only[Mb7,Mb8,s6]
theorem Cd8(l:List V3)(p:Pln)(hl:l.length<=1000000000):J2 ⟨l,p.n.x,p.n.y,p.n.z,p.b⟩=⟨1,if l.any (λv=>ba1 p v != 0) then ((l.findIdx (λv=>ba1 p v != 0):Nat):Int) else -1⟩:=by
 have h:=Ia6 (step:=w9 ⟨l,(l.length:Int),p.n.x,p.n.y,p.n.z,p.b⟩) (mk:=λj=>(⟨(j:Int)⟩:k8)) (c:=λv=>ba1 p v != 0) (u:=1) (fin:=2) tV l hl
  (λj hj=>by
   simp only[w9,D5,Int.toNat_natCast,od2,K5 hj (by omega)]
   rw[bt (Ub9 hj),bt (o5 hj)]
   rfl)
  (by simp only[w9,D5];rw[bf (tb2 (Qed _))]) 0 (Qee _)
 rw[Qie] at h;unfold J2 T9;simp only[v7,r4];rw[show (⟨0⟩:k8)=⟨((0:Nat):Int)⟩ from rfl,h]
 split
 ·simp only[Qbh];rfl
 ·rfl
theorem Qc8(l:List V3)(p:Pln)(hl:l.length<=1000000000):m0 ⟨l,p.n.x,p.n.y,p.n.z,p.b⟩=⟨1,l.any λv=>ba1 p v != 0⟩:=by
 unfold m0 N8;simp only[v7,r4,Cd8 l p hl];split
 ·rename_i h;rw[h,show decide (((l.findIdx (λv=>ba1 p v != 0):Nat):Int)>=0)=true from decide_eq_true (by omega)];rfl
 ·rename_i h;rw[Qiq] at h;rw[h];rfl
theorem Cd9(v:V3)(p:Pln):ka1 ⟨v.x,v.y,v.z,p.n.x,p.n.y,p.n.z,p.b⟩=⟨1,decide (ba1 p v>0)⟩:=by
 unfold ka1 wa8;simp only[Mb7,Mb8,s6]
theorem Dd0(l:List V3)(p:Pln)(hl:l.length<=1000000000):J3 ⟨l,p.n.x,p.n.y,p.n.z,p.b⟩=⟨1,if l.any (λv=>decide (ba1 p v>0)) then ((l.findIdx (λv=>decide (ba1 p v>0)):Nat):Int) else -1⟩:=by
 have h:=Ia6 (step:=z6 ⟨l,(l.length:Int),p.n.x,p.n.y,p.n.z,p.b⟩) (mk:=λj=>(⟨(j:Int)⟩:k8)) (c:=λv=>decide (ba1 p v>0)) (u:=1) (fin:=2) tV l hl
  (λj hj=>by
   simp only[z6,D6,Int.toNat_natCast,Cd9,K5 hj (by omega)]
   rw[bt (Ub9 hj),bt (o5 hj)]
   rfl)
  (by simp only[z6,D6];rw[bf (tb2 (Qed _))]) 0 (Qee _)
 rw[Qie] at h;unfold J3 U4;simp only[v7,r4];rw[show (⟨0⟩:k8)=⟨((0:Nat):Int)⟩ from rfl,h]
 split
 ·simp only[Qbh];rfl
 ·rfl
theorem Dd1(l:List V3)(p:Pln)(hl:l.length<=1000000000):E6 ⟨l,p.n.x,p.n.y,p.n.z,p.b⟩=⟨1,l.any λv=>decide (ba1 p v>0)⟩:=by
 unfold E6 O1;simp only[v7,r4,Dd0 l p hl];split
 ·rename_i h;rw[h,show decide (((l.findIdx (λv=>decide (ba1 p v>0)):Nat):Int)>=0)=true from decide_eq_true (by omega)];rfl
 ·rename_i h;rw[Qiq] at h;rw[h];rfl
def bey(l:List V3)(p:Pln):Bool:=l.any λv=>decide (ba1 p v>0)
theorem gc7(l:List V3)(p:Pln)(hl:l.length<=1000000000):ia3 l p=some (b (bey l p),[]):=by
 unfold ia3;simp only[v7,r4,Dd1 l p hl];rfl
theorem od3(l:List V3)(p:Pln)(hl:l.length<=1000000000):M2 l p=bey l p:=by unfold M2;rw[gc7 l p hl];rfl
theorem od4(l:List V3)(p:Pln)(hl:l.length<=1000000000):M3 l p=true:=by unfold M3;rw[gc7 l p hl];rfl
theorem gc8{α:Type}(t:Ty α)(l:List α){j k:Nat}(h:k<j):gL t (l.take j) k=gL t l k:=by
 simp[gL,Qda,Qbe,h]
theorem od5(l:List V3)(i j:Nat)(hi:i<l.length)(hj:j<i)(hl:l.length<=1000000) :
  lp (E5 ⟨(i:Int),(j:Int),(l.length:Int),(i:Int),(i:Int),(j:Int),(j:Int),l,l⟩) ⟨0⟩ =
   if (l.take j).any (λv=>(D0 v (gL tV l j) (gL tV l i)).2) then (1,⟨((l.take j).findIdx (λv=>(D0 v (gL tV l j) (gL tV l i)).2):Nat)⟩) else (2,⟨(j:Int)⟩):=by
 have hlen:(l.take j).length=j:=by rw[Qia];omega
 have h:=Ia6 (step:=E5 ⟨(i:Int),(j:Int),(l.length:Int),(i:Int),(i:Int),(j:Int),(j:Int),l,l⟩) (mk:=λk=>(⟨(k:Int)⟩:A1)) (c:=λv=>(D0 v (gL tV l j) (gL tV l i)).2) (u:=1) (fin:=2) tV (l.take j) (by omega)
  (λk hk=>by
   rw[hlen] at hk;simp only[E5,ja8,Int.toNat_natCast,Ta8,nb7,gc8 tV l hk,v7,r4,Qc8 l _ (show l.length<=1000000000 by omega),K5 hk (by omega)]
   rw[btD (H5 hk),bt (o5 (by omega)),bt (o5 (by omega)),bt (o5 hi),s6]
   cases (D0 (gL tV l k) (gL tV l j) (gL tV l i)).2<;>rfl)
  (by rw[hlen];simp only[E5,ja8];rw[bfD (O6 (Qed _))]) 0 (Qee _)
 rw[Qie,hlen] at h;rw[show (⟨0⟩:A1)=⟨((0:Nat):Int)⟩ from rfl,h]
 split
 ·simp only[Qbh]
 ·rfl
def ixs(n:Nat):List Int:=(List.range n).map λk:Nat=>(k:Int)
theorem Aa9(n:Nat):(ixs n).length=n:=by simp[ixs]
theorem Qc9{n k:Nat}(h:k<n):gL tI (ixs n) k=(k:Int):=by
 simp[gL,ixs,Qda,Qbm,List.getElem?_range h]
def sp2(l:List V3)(i:Nat)(m:Int):Bool:=(l.take m.toNat).any λv=>(D0 v (gL tV l m.toNat) (gL tV l i)).2
theorem od6(l:List V3)(i:Nat)(hi:i<l.length)(hl:l.length<=1000000) :
  lp (I8 ⟨(i:Int),(l.length:Int),(i:Int),(i:Int)⟩) ⟨0,l,l⟩=if (ixs i).any (sp2 l i) then (1,⟨((ixs i).findIdx (sp2 l i):Nat),l,l⟩) else (2,⟨(i:Int),l,l⟩):=by
 have h:=Ia6 (step:=I8 ⟨(i:Int),(l.length:Int),(i:Int),(i:Int)⟩) (mk:=λj=>(⟨(j:Int),l,l⟩:C6)) (c:=sp2 l i) (u:=1) (fin:=2) tI (ixs i) (by rw[Aa9];omega)
  (λj hj=>by
   rw[Aa9] at hj;simp only[I8,ja9,Int.toNat_natCast,Nat.sub_zero,v7,r4,od5 l i j hi hj hl,K5 hj (by omega),Qc9 hj]
   rw[btD (H5 hj),bt (o5 (by omega))]
   unfold sp2;simp only[Int.toNat_natCast];cases ((l.take j).any λv=>(D0 v (gL tV l j) (gL tV l i)).2)<;>rfl)
  (by rw[Aa9];simp only[I8,ja9];rw[bfD (O6 (Qed _))]) 0 (Qee _)
 rw[Qie,Aa9] at h;rw[show (⟨0,l,l⟩:C6)=⟨((0:Nat):Int),l,l⟩ from rfl,h]
 split
 ·simp only[Qbh]
 ·rfl
def sp1(l:List V3)(m:Int):Bool:=(ixs m.toNat).any (sp2 l m.toNat)
theorem Xd8(l:List V3)(hl:l.length<=1000000) :
  lp (U1 ⟨(l.length:Int)⟩) ⟨0,l,l⟩=if (ixs l.length).any (sp1 l) then (1,⟨((ixs l.length).findIdx (sp1 l):Nat),l,l⟩) else (2,⟨(l.length:Int),l,l⟩):=by
 have h:=Ia6 (step:=U1 ⟨(l.length:Int)⟩) (mk:=λj=>(⟨(j:Int),l,l⟩:I1)) (c:=sp1 l) (u:=1) (fin:=2) tI (ixs l.length) (by rw[Aa9];omega)
  (λi hi=>by
   rw[Aa9] at hi;simp only[U1,ka0,Int.toNat_natCast,Nat.sub_zero,v7,r4,od6 l i hi hl,K5 hi (by omega),Qc9 hi]
   rw[btD (H5 hi),bt (o5 (by omega))]
   unfold sp1;simp only[Int.toNat_natCast];cases (ixs i).any (sp2 l i)<;>rfl)
  (by rw[Aa9];simp only[U1,ka0];rw[bfD (O6 (Qed _))]) 0 (Qee _)
 rw[Qie,Aa9] at h;rw[show (⟨0,l,l⟩:I1)=⟨((0:Nat):Int),l,l⟩ from rfl,h]
 split
 ·simp only[Qbh]
 ·rfl
theorem oc8{α:Type}{l:List α}{c:α->Bool}(h:l.any c=true):l.findIdx c<l.length:=by
 obtain⟨x,h1,h2⟩:=Qib.1 h;exact Qit ⟨x,h1,h2⟩
theorem fb9{n:Nat}{c:Int->Bool}(h:(ixs n).any c=true):(ixs n).findIdx c<n/\c ((ixs n).findIdx c:Nat)=true:=by
 have hlt:=oc8 h;have h1:=Qir (xs:=ixs n) (p:=c) (w:=hlt);rw[Aa9] at hlt;refine⟨hlt,?_⟩;simpa [ixs] using h1
def iF(l:List V3):Nat:=(ixs l.length).findIdx (sp1 l)
def jF(l:List V3):Nat:=(ixs (iF l)).findIdx (sp2 l (iF l))
def kF(l:List V3):Nat:=(l.take (jF l)).findIdx (λv=>(D0 v (gL tV l (jF l)) (gL tV l (iF l))).2)
def plF(l:List V3):Pln:=(D0 (gL tV l (kF l)) (gL tV l (jF l)) (gL tV l (iF l))).1
def kb3(l:List V3):Bool:=if (ixs l.length).any (sp1 l) then !(l.any λv=>ba1 (plF l) v != 0) else true
theorem Ac9(l:List V3)(hl:l.length<=1000000):ta8 l=some (b (kb3 l),[]):=by
 unfold ta8 kb3;simp only[v7,r4];rw[Xd8 l hl];by_cases h:(ixs l.length).any (sp1 l)=true
 ·obtain⟨hi,h1⟩:=fb9 h;have h1:(ixs (iF l)).any (sp2 l (iF l))=true:=h1;obtain⟨hj,h2⟩:=fb9 h1;have h2:(l.take (jF l)).any (λv=>(D0 v (gL tV l (jF l)) (gL tV l (iF l))).2)=true:=h2
  rw[if_pos h,if_pos h];simp only[Int.toNat_natCast,Nat.sub_zero];rw[show (ixs l.length).findIdx (sp1 l)=iF l from rfl,od6 l (iF l) hi hl,if_pos h1]
  simp only[Int.toNat_natCast,Nat.sub_zero];rw[show (ixs (iF l)).findIdx (sp2 l (iF l))=jF l from rfl,od5 l (iF l) (jF l) hi hj hl,if_pos h2]
  simp only[Int.toNat_natCast,Ta8];rw[show (l.take (jF l)).findIdx (λv=>(D0 v (gL tV l (jF l)) (gL tV l (iF l))).2)=kF l from rfl,show (D0 (gL tV l (kF l)) (gL tV l (jF l)) (gL tV l (iF l))).1=plF l from rfl,Qc8 l _ (by omega)]
  rfl
 ·rw[if_neg h,if_neg h];rfl
theorem Dd2(l:List V3)(hl:l.length<=1000000):Ia3 l=kb3 l:=by unfold Ia3;rw[Ac9 l hl];rfl
theorem Dd3(l:List V3)(hl:l.length<=1000000):Ia4 l=true:=by unfold Ia4;rw[Ac9 l hl];rfl
theorem gc9(v:V3):ca5 v=some (b (!inV v),[]):=by
 unfold ca5;simp only[(Cb4 v).1,(Cb4 v).2,s6]
theorem od7(v:V3):oa6 v=!inV v:=by unfold oa6;rw[gc9];rfl
theorem od8(v:V3):oa7 v=true:=by unfold oa7;rw[gc9];rfl
theorem Dd4(l:List V3)(hl:l.length<=1000000000):J4 ⟨l⟩=⟨1,if l.any (λv=>!inV v) then ((l.findIdx (λv=>!inV v):Nat):Int) else -1⟩:=by
 have h:=Ia6 (step:=z7 ⟨l,(l.length:Int)⟩) (mk:=λj=>(⟨(j:Int)⟩:k8)) (c:=λv=>!inV v) (u:=1) (fin:=2) tV l hl
  (λj hj=>by
   simp only[z7,D7,Int.toNat_natCast,od7,od8,K5 hj (by omega)]
   rw[bt (Ub9 hj),bt (o5 hj),s6])
  (by simp only[z7,D7];rw[bf (tb2 (Qed _))]) 0 (Qee _)
 rw[Qie] at h;unfold J4 U7;simp only[v7,r4];rw[show (⟨0⟩:k8)=⟨((0:Nat):Int)⟩ from rfl,h]
 split
 ·simp only[Qbh];rfl
 ·rfl
theorem Dd5(l:List V3)(hl:l.length<=1000000000):E7 ⟨l⟩=⟨1,l.any λv=>!inV v⟩:=by
 unfold E7 O4;simp only[v7,r4,Dd4 l hl];split
 ·rename_i h;rw[h,show decide (((l.findIdx (λv=>!inV v):Nat):Int)>=0)=true from decide_eq_true (by omega)];rfl
 ·rename_i h;rw[Qiq] at h;rw[h];rfl
def ua6(l:List V3):Int:=if (l.length:Int)>48 then 2 else if l.any (λv=>!inV v) then 3 else if kb3 l then 11 else 0
theorem hc3(l:List V3)(hl:l.length<=1000000):oa8 l=some (i (ua6 l),[]):=by
 unfold oa8 ua6;simp only[v7,r4,Za2,Dd5 l (by omega),Dd2 l hl,Dd3 l hl]
 by_cases h:(l.length:Int)>48
 ·rw[btD h,if_pos h]
 ·rw[bfD h,if_neg h];cases l.any λv=>!inV v with
  |true=>rfl
  |false=>cases kb3 l<;>rfl
theorem vb7(l:List V3)(hl:l.length<=1000000):fa5 l=ua6 l:=by unfold fa5;rw[hc3 l hl];rfl
theorem vb8(l:List V3)(hl:l.length<=1000000):fa6 l=true:=by unfold fa6;rw[hc3 l hl];rfl
theorem od9{p:Pln}(h:Bd p):fa3 p=ga3 p:=by
 unfold fa3 ca0 ga3
 simp only
 have:=h.x1;have:=h.x2;have:=h.y1;have:=h.y2;have:=h.z1;have:=h.z2;have:=h.b1;have:=h.b2
 rw[fa7 (by omega) (by omega),fa7 (by omega) (by omega),fa7 (by omega) (by omega),fa7 (by omega) (by omega)]
 simp only[Int.zero_sub]
def oc9(p:Pln):List a7:=[i p.n.x,i p.n.y,i p.n.z,i p.b,b true]
def Ja2(l:PLq):List (List a7):=l.map oc9
theorem hc5(x q:Pln):gb4 flK [i x.n.x,i x.n.y,i x.n.z,i x.b] (oc9 q)=eqP q x:=by
 show Bool.and (decide (x.n.x=q.n.x)) (Bool.and (decide (x.n.y=q.n.y)) (Bool.and (decide (x.n.z=q.n.z)) (Bool.and (decide (x.b=q.b)) true)))=_;unfold eqP;have h:∀a c:Int,decide (a=c)=(c==a):=λa c=>by rw[Bool.eq_iff_iff,decide_eq_true_eq,beq_iff_eq];exact eq_comm
 rw[h,h,h,h]
theorem Bc0(x:Pln):∀l,Ma8 4 [(0,.int .i64),(1,.int .i64),(2,.int .i64),(3,.int .i64)] [i x.n.x,i x.n.y,i x.n.z,i x.b] (Ja2 l)=vb0 l x
 |[]=>rfl
 |q::l=>by
  have ih:=Bc0 x l;unfold Ma8 at ih ⊢;show Option.rec (motive:=λ_=>Bool) false (λr=>toB (hdA (i5 r 4))) (Bool.rec (motive:=λ_=>Option (List a7)) (Db4 flK [i x.n.x,i x.n.y,i x.n.z,i x.b] (Ja2 l)) (some (oc9 q)) (gb4 flK [i x.n.x,i x.n.y,i x.n.z,i x.b] (oc9 q)))=vb0 (q::l) x
  rw[hc5];unfold vb0 at ih ⊢;rw[List.any_cons];cases eqP q x with
  |true=>rfl
  |false=>exact ih
theorem Kc0(x:Pln):∀l,vb0 l x=false->va6 [(0,.int .i64),(1,.int .i64),(2,.int .i64),(3,.int .i64)] [i x.n.x,i x.n.y,i x.n.z,i x.b] [i x.n.x,i x.n.y,i x.n.z,i x.b,b true] (Ja2 l)=Ja2 (l++[x])
 |[],_=>rfl
 |q::l,h=>by
  unfold vb0 at h;rw[List.any_cons,Bool.or_eq_false_iff] at h;show Bool.rec (motive:=λ_=>List (List a7)) (oc9 q::va6 flK [i x.n.x,i x.n.y,i x.n.z,i x.b] (oc9 x) (Ja2 l)) (oc9 x::Ja2 l) (gb4 flK [i x.n.x,i x.n.y,i x.n.z,i x.b] (oc9 q))=_
  rw[hc5,h.1,show va6 flK [i x.n.x,i x.n.y,i x.n.z,i x.b] (oc9 x) (Ja2 l)=_ from Kc0 x l h.2]
  rfl
def nb8(s:PLq)(p:Pln):PLq:=if vb0 s p then s else s++[p]
theorem pd0(s:PLq)(p q:Pln):q∈nb8 s p↔q∈s\/q=p:=by
 unfold nb8;split
 ·rename_i h;rw[zc8] at h;exact⟨.inl,λh'=>h'.elim id λe=>e ▸ h⟩
 ·rw[List.mem_append,List.mem_singleton]
theorem Wb6{s:PLq}{p:Pln}(h:s.Nodup):(nb8 s p).Nodup:=by
 unfold nb8;split
 ·exact h
 ·rename_i hn;rw[zc8] at hn;rw[List.nodup_append];exact⟨h,by simp,λa ha b hb=>by rw[List.mem_singleton.1 hb];intro e;exact hn (e ▸ ha)⟩
theorem Bc1(s:PLq)(p:Pln):(nb8 s p).length<=s.length+1:=by
 unfold nb8;split
 ·omega
 ·simp
def fil(l:List V3)(s:PLq):PLq:=s.filter λp=>!bey l p
theorem Mb9(l:List V3)(s:PLq)(p:Pln):fil l (s++[p])=if bey l p then fil l s else fil l s++[p]:=by
 unfold fil;rw[Qim,Qij,List.filter_nil];cases bey l p<;>simp
theorem pc0(l:List V3)(s:PLq):(fil l s).length<=s.length:=Qiu _ _
def kb4(l:List V3)(a c:Nat)(s:PLq)(k:Nat):PLq :=
 if (D0 (gL tV l k) (gL tV l c) (gL tV l a)).2 then nb8 (nb8 s (D0 (gL tV l k) (gL tV l c) (gL tV l a)).1) (ga3 (D0 (gL tV l k) (gL tV l c) (gL tV l a)).1) else s
def G2(l:List V3)(a:Nat)(s:PLq)(c:Nat):PLq:=(List.range c).foldl (kb4 l a c) s
def G1(l:List V3)(s:PLq)(a:Nat):PLq:=(List.range a).foldl (G2 l a) s
def G0(l:List V3):PLq:=(List.range l.length).foldl (G1 l) []
theorem hc6(l:List V3)(a c:Nat)(s:PLq)(k:Nat):(kb4 l a c s k).length<=s.length+2:=by
 unfold kb4;split
 ·have h1:=Bc1 (nb8 s (D0 (gL tV l k) (gL tV l c) (gL tV l a)).1) (ga3 (D0 (gL tV l k) (gL tV l c) (gL tV l a)).1);have h2:=Bc1 s (D0 (gL tV l k) (gL tV l c) (gL tV l a)).1;omega
 ·omega
theorem Xd9(l:List V3)(a:Nat)(s:PLq)(c:Nat):(G2 l a s c).length<=s.length+2*c:=Wb1 (hc6 l a c) s c
theorem Kc1(l:List V3)(a:Nat)(s:PLq):∀j,j<=a->a<=48->((List.range j).foldl (G2 l a) s).length<=s.length+96*j
 |0,_,_=>Qac _
 |j+1,h,ha=>by
  rw[A7];have h1:=Kc1 l a s j (by omega) ha
  have h2:=Xd9 l a ((List.range j).foldl (G2 l a) s) j;omega
theorem pc1(l:List V3)(hl:l.length<=48):∀j,j<=l.length->((List.range j).foldl (G1 l) []).length<=5000*j
 |0,_=>Qac _
 |j+1,h=>by
  rw[A7];have h1:=pc1 l hl j (by omega)
  have h2:(G1 l ((List.range j).foldl (G1 l) []) j).length<=_:=Kc1 l j ((List.range j).foldl (G1 l) []) j (Qac _) (by omega)
  omega
@[reducible] noncomputable def mkf(l:List V3)(k:Nat)(s:PLq):p6:=⟨phP (fil l s),(k:Int),Ja2 s,(fil l s).length,bL tP (fil l s)⟩
theorem Cb8{n:Nat}{l:PLq}(hn:n=l.length)(h:l.length<=1000000000):(Nat.beq n (len (bL tP l))&&Nat.ble ((n+1)*32) room)=true:=by
 subst hn;rw[Ra9,Nat.beq_refl,Bool.true_and];exact Bd1 (by omega)
theorem Rc0(o:PLq)(x:Pln):phP (o++[x])=1:=by cases o<;>rfl
theorem pd1(l:List V3)(hl:l.length<=48)(a c k:Nat)(ha:a<l.length)(hc:c<a)(hk:k<c)(x1 x2 x3 x4:Int)(s:PLq)(ho:s.length<=900000) :
  G6 ⟨(a:Int),(c:Int),x1,x2,x3,x4,(c:Int),l,l⟩ (mkf l k s)=.next (mkf l (k+1) (kb4 l a c s k)):=by
 have hfl:fa3 (D0 (gL tV l k) (gL tV l c) (gL tV l a)).1=ga3 (D0 (gL tV l k) (gL tV l c) (gL tV l a)).1:=od9 (Cd1 _ _ _);have hb:∀p,M2 l p=bey l p:=λp=>od3 l p (by omega)
 have hg:∀p,M3 l p=true:=λp=>od4 l p (by omega)
 have hn:=K5 hk (show c<=4611686018427387904 by omega)
 have b1:inB (a:Int) l.length=true:=o5 ha;have b2:inB (c:Int) l.length=true:=o5 (by omega)
 have b3:inB (k:Int) l.length=true:=o5 (by omega)
 have hfl2:=pc0 l s;unfold kb4;unfold mkf;generalize hT:D0 (gL tV l k) (gL tV l c) (gL tV l a)=T at *
 cases hO:fil l s with
 |nil =>
  show M5 Stp.next Stp.exit Stp.fail _ _=_;simp only[M5,Ta8,nb7,Int.toNat_natCast,v7,Za2,hT,hfl,hb,hg,hn,b1,b2,b3,Bc0];rw[btD (H5 hk)];cases h2:T.2 with
  |false=>simp only[Qhc,if_false,hO];rfl
  |true =>
   simp only[if_true,s6];cases h3:vb0 s T.1 with
   |true =>
    cases h4:vb0 s (ga3 T.1) with
    |true=>simp only[nb8,h3,h4,if_true,hO];rfl
    |false =>
     rw[Kc0 _ _ h4];cases h5:bey l (ga3 T.1)<;>(simp only[nb8,h3,h4,h5,if_true,if_false,Qhc,Mb9,hO];rfl)
   |false =>
    simp only[Kc0 _ _ h3,Bc0];cases h5:bey l T.1<;>cases h4:vb0 (s++[T.1]) (ga3 T.1)<;>(try simp only[Kc0 _ _ h4])<;>cases h6:bey l (ga3 T.1)<;>(simp only[nb8,h3,h4,h5,h6,if_true,if_false,Qhc,Mb9,hO];rfl)
 |cons q o =>
  have rr:(Nat.beq (q::o).length (len (bL tP (q::o)))&&Nat.ble (((q::o).length+1)*32) room)=true:=Cb8 rfl (by rw[<- hO];omega)
  have ap:∀(O:PLq) (p:Pln),app (bL tP O) [[i p.n.x,i p.n.y,i p.n.z,i p.b]]=bL tP (O++[p]):=λO p=>Za3 tP O [p]
  have rr2:∀p:Pln,(Nat.beq ((q::o).length+1) (len (bL tP (q::o++[p])))&&Nat.ble (((q::o).length+1+1)*32) room)=true:=λp=>Cb8 (by simp) (by rw[<- hO,Qea,List.length_singleton];omega)
  show M6 Stp.next Stp.exit Stp.fail _ _=_;simp only[M6,Ta8,nb7,Int.toNat_natCast,v7,Za2,hT,hfl,hb,hg,hn,b1,b2,b3,Bc0,rr,ap,rr2];rw[btD (H5 hk)];cases h2:T.2 with
  |false=>simp only[Qhc,if_false,hO];rfl
  |true =>
   simp only[if_true,s6];cases h3:vb0 s T.1 with
   |true =>
    cases h4:vb0 s (ga3 T.1) with
    |true=>simp only[nb8,h3,h4,if_true,hO];rfl
    |false =>
     rw[Kc0 _ _ h4];cases h5:bey l (ga3 T.1)<;>(simp only[nb8,h3,h4,h5,if_true,if_false,Qhc,Mb9,hO,Rc0,Qea,List.length_singleton];rfl)
   |false =>
    simp only[Kc0 _ _ h3,Bc0];cases h5:bey l T.1<;>cases h4:vb0 (s++[T.1]) (ga3 T.1)<;>(try simp only[Kc0 _ _ h4])<;>cases h6:bey l (ga3 T.1)<;>(simp only[nb8,h3,h4,h5,h6,if_true,if_false,Qhc,Mb9,hO,Rc0,Qea,List.length_singleton];rfl)
theorem Yd0(l:List V3)(hl:l.length<=48)(a c:Nat)(ha:a<l.length)(hc:c<a)(x1 x2 x3 x4:Int)(s:PLq)(ho:s.length<=800000) :
  ∃j,lp (G6 ⟨(a:Int),(c:Int),x1,x2,x3,x4,(c:Int),l,l⟩) (mkf l 0 s)=(phP (fil l (G2 l a s c))+1,mkf l j (G2 l a s c)):=by
 have key:=ka4 (step:=G6 ⟨(a:Int),(c:Int),x1,x2,x3,x4,(c:Int),l,l⟩) (mk:=mkf l) c (λj o=>j<=c/\o=(List.range j).foldl (kb4 l a c) s) (λt r=>t=phP (fil l (G2 l a s c))+1/\∃j:Nat,r=mkf l j (G2 l a s c)) (by omega)
  (λj o hj hi=>by
   obtain⟨_,hi⟩:=hi;have hlen:o.length<=900000:=by
    rw[hi]
    have:=Wb1 (hc6 l a c) s j
    omega
   rw[pd1 l hl a c j ha hc hj x1 x2 x3 x4 o hlen];exact .nx ⟨_,rfl,by omega,by rw[A7,<- hi]⟩)
  (λj o hj hi=>by
   obtain⟨h1,hi⟩:=hi;have e:j=c:=by omega
   subst e;have hF:o=G2 l a s j:=hi;rw[<- hF];refine⟨_,?_,rfl,j,rfl⟩;unfold mkf;cases hO:fil l o with
   |nil =>
    show M5 Stp.next Stp.exit Stp.fail _ _=_;simp only[M5];rw[bfD (O6 (Qed _))];rfl
   |cons q o =>
    show M6 Stp.next Stp.exit Stp.fail _ _=_;simp only[M6];rw[bfD (O6 (Qed _))]
    rfl) 0 s ⟨Qee _,rfl⟩
 obtain⟨t,r,h1,rfl,j,rfl⟩:=key;exact⟨j,h1⟩
@[reducible] noncomputable def Wb7(l:List V3)(k:Nat)(s:PLq):o7:=⟨phP (fil l s),(k:Int),l,l,Ja2 s,(fil l s).length,bL tP (fil l s)⟩
theorem Yd1(l:List V3)(hl:l.length<=48)(a:Nat)(ha:a<l.length)(x1 x2:Int)(s:PLq)(ho:s.length<=700000) :
  ∃j,lp (K6 ⟨(a:Int),x1,x2,(a:Int)⟩) (Wb7 l 0 s)=(phP (fil l (G1 l s a))+1,Wb7 l j (G1 l s a)):=by
 have key:=ka4 (step:=K6 ⟨(a:Int),x1,x2,(a:Int)⟩) (mk:=Wb7 l) a (λj o=>j<=a/\o=(List.range j).foldl (G2 l a) s) (λt r=>t=phP (fil l (G1 l s a))+1/\∃j:Nat,r=Wb7 l j (G1 l s a)) (by omega)
  (λj o hj hi=>by
   obtain⟨hja,hi⟩:=hi;have hlen:o.length<=800000:=by rw[hi];have:=Kc1 l a s j hja (by omega);omega
   have hn:=K5 hj (show a<=4611686018427387904 by omega)
   have bj:inB (j:Int) (l.length+1)=true:=o5 (by omega)
   obtain⟨j',e1⟩:=Yd0 l hl a j ha hj x1 x2 (a:Int) (j:Int) o hlen
   have fin : ∀ {r : o7}, r = Wb7 l (j + 1) (G2 l a o j) → Nx (.next r) (fun t => t = phP (fil l (G1 l s a)) + 1 ∧ ∃ j' : Nat, Wb7 l j o = Wb7 l j' (G1 l s a))
     (λr=>∃o',r=Wb7 l (j+1) o'/\(j+1<=a/\o'=(List.range (j+1)).foldl (G2 l a) s)):=λ{r} hs =>
    .nx ⟨_,hs,by omega,by rw[A7,<- hi]⟩
   clear hi
   generalize hF:G2 l a o j=R at *
   unfold Wb7 at *
   unfold mkf at e1;cases hO:fil l o with
   |nil =>
    rw[hO] at e1 fin;show Nx (M7 Stp.next Stp.exit Stp.fail _ _) _ _;simp only[M7,v7,r4,hn,bj,Int.toNat_natCast,Nat.sub_zero];have e1:lp (G6 ⟨(a:Int),(j:Int),x1,x2,(a:Int),(j:Int),(j:Int),l,l⟩) ⟨0,0,Ja2 o,0,[]⟩=_:=e1;rw[btD (H5 hj),e1];cases hR:fil l R with
    |nil=>exact fin (by rw[hR];rfl)
    |cons q R'=>exact fin (by rw[hR];rfl)
   |cons q o' =>
    rw[hO] at e1 fin;show Nx (M8 Stp.next Stp.exit Stp.fail _ _) _ _;simp only[M8,v7,r4,hn,bj,Int.toNat_natCast,Nat.sub_zero];have e1:lp (G6 ⟨(a:Int),(j:Int),x1,x2,(a:Int),(j:Int),(j:Int),l,l⟩) ⟨1,0,Ja2 o,(q::o').length,bL tP (q::o')⟩=_:=e1;rw[btD (H5 hj),e1];cases hR:fil l R with
    |nil=>exact fin (by rw[hR];rfl)
    |cons q R'=>exact fin (by rw[hR];rfl))
  (λj o hj hi=>by
   obtain⟨h1,hi⟩:=hi;have e:j=a:=by omega
   subst e;have hF:o=G1 l s j:=hi;rw[<- hF];refine⟨_,?_,rfl,j,rfl⟩;unfold Wb7;cases hO:fil l o with
   |nil =>
    show M7 Stp.next Stp.exit Stp.fail _ _=_;simp only[M7];rw[bfD (O6 (Qed _))];rfl
   |cons q o =>
    show M8 Stp.next Stp.exit Stp.fail _ _=_;simp only[M8];rw[bfD (O6 (Qed _))]
    rfl) 0 s ⟨Qee _,rfl⟩
 obtain⟨t,r,h1,rfl,j,rfl⟩:=key;exact⟨j,h1⟩
@[reducible] noncomputable def pc2(l:List V3)(k:Nat)(s:PLq):p7:=⟨phP (fil l s),(k:Int),l,l,Ja2 s,(fil l s).length,bL tP (fil l s)⟩
theorem Yd2(l:List V3)(hl:l.length<=48) :
  ∃j,lp (ka3 ⟨(l.length:Int)⟩) ⟨0,0,l,l,[],0,[]⟩=(phP (fil l (G0 l))+1,pc2 l j (G0 l)):=by
 have key:=ka4 (step:=ka3 ⟨(l.length:Int)⟩) (mk:=pc2 l) l.length (λj o=>j<=l.length/\o=(List.range j).foldl (G1 l) []) (λt r=>t=phP (fil l (G0 l))+1/\∃j:Nat,r=pc2 l j (G0 l)) (by omega)
  (λj o hj hi=>by
   obtain⟨hja,hi⟩:=hi;have hlen:o.length<=700000:=by rw[hi];have:=pc1 l hl j hja;omega
   have hn:=K5 hj (show l.length<=4611686018427387904 by omega)
   have bj:inB (j:Int) (l.length+1)=true:=o5 (by omega)
   obtain⟨j',e1⟩:=Yd1 l hl j hj (l.length:Int) (j:Int) o hlen
   have fin : ∀ {r : p7}, r = pc2 l (j + 1) (G1 l o j) → Nx (.next r) (fun t => t = phP (fil l (G0 l)) + 1 ∧ ∃ j' : Nat, pc2 l j o = pc2 l j' (G0 l))
     (λr=>∃o',r=pc2 l (j+1) o'/\(j+1<=l.length/\o'=(List.range (j+1)).foldl (G1 l) [])):=λ{r} hs =>
    .nx ⟨_,hs,by omega,by rw[A7,<- hi]⟩
   clear hi
   generalize hF:G1 l o j=R at *
   unfold pc2 at *
   unfold Wb7 at e1;cases hO:fil l o with
   |nil =>
    rw[hO] at e1 fin;show Nx (M9 Stp.next Stp.exit Stp.fail _ _) _ _;simp only[M9,v7,r4,hn,bj,Int.toNat_natCast,Nat.sub_zero];have e1:lp (K6 ⟨(j:Int),(l.length:Int),(j:Int),(j:Int)⟩) ⟨0,0,l,l,Ja2 o,0,[]⟩=_:=e1;rw[btD (H5 hj),e1];cases hR:fil l R with
    |nil=>exact fin (by rw[hR];rfl)
    |cons q R'=>exact fin (by rw[hR];rfl)
   |cons q o' =>
    rw[hO] at e1 fin;show Nx (N0 Stp.next Stp.exit Stp.fail _ _) _ _;simp only[N0,v7,r4,hn,bj,Int.toNat_natCast,Nat.sub_zero];have e1:lp (K6 ⟨(j:Int),(l.length:Int),(j:Int),(j:Int)⟩) ⟨1,0,l,l,Ja2 o,(q::o').length,bL tP (q::o')⟩=_:=e1;rw[btD (H5 hj),e1];cases hR:fil l R with
    |nil=>exact fin (by rw[hR];rfl)
    |cons q R'=>exact fin (by rw[hR];rfl))
  (λj o hj hi=>by
   obtain⟨h1,hi⟩:=hi;have e:j=l.length:=by omega
   subst e;have hF:o=G0 l:=hi;rw[<- hF];refine⟨_,?_,rfl,l.length,rfl⟩;unfold pc2;cases hO:fil l o with
   |nil =>
    show M9 Stp.next Stp.exit Stp.fail _ _=_;simp only[M9];rw[bfD (O6 (Qed _))];rfl
   |cons q o =>
    show N0 Stp.next Stp.exit Stp.fail _ _=_;simp only[N0];rw[bfD (O6 (Qed _))]
    rfl) 0 [] ⟨Qee _,rfl⟩
 obtain⟨t,r,h1,rfl,j,rfl⟩:=key;exact⟨j,h1⟩
theorem Kc2{F:PLq}(h:∀p∈F,okp p=true){k:Nat}(hk:k<F.length):Bd (gL tP F k):=Jc1 (h _ (nc4 tP hk))
theorem Dd6{n:V3}{r:Pln}(hn:Sm 42467328 n.x/\Sm 42467328 n.y/\Sm 42467328 n.z)(hr:Bd r):G5 n r.n=dot n r.n:=by
 obtain⟨⟨a1,a2⟩,⟨a3,a4⟩,a5,a6⟩:=hn;have r1:=mb a1 a2 hr.x1 hr.x2;have r2:=mb a3 a4 hr.y1 hr.y2;have r3:=mb a5 a6 hr.z1 hr.z2;unfold G5;simp only[Ub8,nc3];rw[fa7 (by omega) (by omega)]
 rfl
theorem Dd7(l:PLq)(n:V3)(hn:Sm 42467328 n.x/\Sm 42467328 n.y/\Sm 42467328 n.z)(hF:∀p∈l,okp p=true)(hl:l.length<=1000000000) :
  H4 ⟨l,n.x,n.y,n.z⟩=⟨1,if l.any (λr=>dot n r.n != 0) then ((l.findIdx (λr=>dot n r.n != 0):Nat):Int) else -1⟩:=by
 have h:=Ia6 (step:=r9 ⟨l,(l.length:Int),n.x,n.y,n.z⟩) (mk:=λj=>(⟨(j:Int)⟩:k8)) (c:=λr=>dot n r.n != 0) (u:=1) (fin:=2) tP l hl
  (λj hj=>by
   have e:=Dd6 hn (Kc2 hF hj);simp only[r9,C3,Int.toNat_natCast,xa6,xa5,e,K5 hj (show l.length<=4611686018427387904 by omega)]
   rw[btD (H5 hj),bt (o5 hj)])
  (by simp only[r9,C3];rw[bfD (O6 (Qed _))]) 0 (Qee _)
 rw[Qie] at h;unfold H4 P8;simp only[v7,r4];rw[show (⟨0⟩:k8)=⟨((0:Nat):Int)⟩ from rfl,h]
 split
 ·simp only[Qbh];rfl
 ·rfl
theorem Dd8(l:PLq)(n:V3)(hn:Sm 42467328 n.x/\Sm 42467328 n.y/\Sm 42467328 n.z)(hF:∀p∈l,okp p=true)(hl:l.length<=1000000000) :
  C9 ⟨l,n.x,n.y,n.z⟩=⟨1,l.any λr=>dot n r.n != 0⟩:=by
 unfold C9 K9;simp only[v7,r4,Dd7 l n hn hF hl];split
 ·rename_i h;rw[h,show decide (((l.findIdx (λr=>dot n r.n != 0):Nat):Int)>=0)=true from decide_eq_true (by omega)];rfl
 ·rename_i h;rw[Qiq] at h;rw[h];rfl
def Zc8(l:PLq)(a c:Nat):Bool:=l.any λr=>dot (d7 (gL tP l a).n (gL tP l c).n) r.n != 0
def vtx(l:PLq):Bool:=(List.range l.length).any λa=>(List.range a).any (Zc8 l a)
theorem Zc9{p q:Pln}(hp:Bd p)(hq:Bd q):L8 p.n q.n=d7 p.n q.n/\Sm 42467328 (d7 p.n q.n).x/\Sm 42467328 (d7 p.n q.n).y/\Sm 42467328 (d7 p.n q.n).z:=by
 obtain⟨k1,k2,k3⟩:=md0 hp.n hq.n;refine⟨?_,k1,k2,k3⟩;rw[Bd5,Cb0 (k1.mono (by omega)),Cb0 (k2.mono (by omega)),Cb0 (k3.mono (by omega))]
theorem Kc3(l:PLq)(hF:∀p∈l,okp p=true)(hl:l.length<=1000000)(a:Nat)(ha:a<l.length)(x9 x10:Int) :
  ∃j,lp (N1 ⟨l,l,x9,x10,a,(λk=>(λk=>tP.row (gL tP l k)) (0+k)),(a:Int),(gL tP l a).n.x,(gL tP l a).n.y,(gL tP l a).n.z,(gL tP l a).b⟩) ⟨0⟩=(if (List.range a).any (Zc8 l a) then 1 else 2,⟨((j:Nat):Int)⟩) :=
 oc2 (step:=N1 ⟨l,l,x9,x10,a,(λk=>(λk=>tP.row (gL tP l k)) (0+k)),(a:Int),(gL tP l a).n.x,(gL tP l a).n.y,(gL tP l a).n.z,(gL tP l a).b⟩) (mk:=λj=>(⟨(j:Int)⟩:G7)) a (Zc8 l a) 1 2 (by omega)
  (λj hj=>by
   obtain⟨e,k1,k2,k3⟩:=Zc9 (Kc2 hF ha) (Kc2 hF (show j<l.length by omega))
   have rr:(⟨toI (hdA (tP.row (gL tP l j))),toI (hdA (tlA (tP.row (gL tP l j)))),toI (hdA (tlA (tlA (tP.row (gL tP l j)))))⟩:V3)=(gL tP l j).n:=rfl;have e':L8 ⟨(gL tP l a).n.x,(gL tP l a).n.y,(gL tP l a).n.z⟩ (gL tP l j).n=d7 (gL tP l a).n (gL tP l j).n:=e;simp only[N1,aa5,Int.toNat_natCast,Qbh,rr,e',Wd3,v7,r4,Dd8 l _ ⟨k1,k2,k3⟩ hF (show l.length<=1000000000 by omega),K5 hj (show a<=4611686018427387904 by omega)]
   rw[btD (H5 hj),bt (o5 hj)];unfold Zc8;cases hz:((d7 (gL tP l a).n (gL tP l j).n).x==0&&((d7 (gL tP l a).n (gL tP l j).n).y==0&&((d7 (gL tP l a).n (gL tP l j).n).z==0&&true))) with
   |false=>rfl
   |true =>
    simp only[Qig,Qbd,beq_iff_eq] at hz
    have:(l.any λr=>dot (d7 (gL tP l a).n (gL tP l j).n) r.n != 0)=false:=by
     rw[Qcl];intro r _
     have:dot (d7 (gL tP l a).n (gL tP l j).n) r.n=0:=by unfold dot;rw[hz.1,hz.2.1,hz.2.2];simp only[Qio,Int.add_zero]
     rw[this]
     decide
    rw[this]
    rfl)
  (by simp only[N1,aa5];rw[bfD (O6 (Qed _))])
theorem hc7(l:PLq)(hF:∀p∈l,okp p=true)(hl:l.length<=1000000):ia7 l=some (b (vtx l),[]):=by
 obtain⟨j,h⟩:=oc2 (step:=N2 ⟨(l.length:Int)⟩) (mk:=λj=>(⟨l,l,(j:Int)⟩:G8)) l.length (λa=>(List.range a).any (Zc8 l a)) 1 2 (by omega)
  (λj hj=>by
   obtain⟨j',h1⟩:=Kc3 l hF hl j hj (l.length:Int) (j:Int);simp only[N2,aa6,v7,r4,Int.toNat_natCast,Nat.sub_zero,K5 hj (show l.length<=4611686018427387904 by omega)]
   rw[btD (H5 hj),bt (o5 hj),bt (o5 (show j<l.length+1 by omega)),h1]
   cases (List.range j).any (Zc8 l j)<;>rfl)
  (by simp only[N2,aa6];rw[bfD (O6 (Qed _))])
 have h:lp (N2 ⟨(l.length:Int)⟩) ⟨l,l,0⟩=(if vtx l then 1 else 2,⟨l,l,((j:Nat):Int)⟩):=h
 unfold ia7;simp only[v7,r4];rw[h];cases vtx l<;>rfl
theorem Bc2(l:PLq)(hF:∀p∈l,okp p=true)(hl:l.length<=1000000):Y7 l=vtx l:=by unfold Y7;rw[hc7 l hF hl];rfl
theorem Bc3(l:PLq)(hF:∀p∈l,okp p=true)(hl:l.length<=1000000):Y8 l=true:=by unfold Y8;rw[hc7 l hF hl];rfl
structure OkF(F:PLq):Prop where
 l:F.length<=1000000
 v:∀p∈F,okp p=true
def own(F:PLq)(v:V3):PLq:=F.filter λp=>ba1 p v==0
def kv(F:PLq)(v:V3):Bool:=vtx (own F v)
theorem ad1(F:PLq)(v:V3)(hF:F.length<=1000000):∃j,lp (S7 ⟨F,(F.length:Int),F,v.x,v.y,v.z⟩) ⟨0,0,0,[]⟩=(phP (own F v)+1,⟨phP (own F v),((j:Nat):Int),(own F v).length,bL tP (own F v)⟩):=by
 have key:=ka4 (step:=S7 ⟨F,(F.length:Int),F,v.x,v.y,v.z⟩) (mk:=λj (o:PLq)=>(⟨phP o,(j:Int),o.length,bL tP o⟩:j5)) F.length (λj o=>j<=F.length/\o=(F.take j).filter λp=>ba1 p v==0) (λt s=>t=phP (own F v)+1/\∃j:Nat,s=⟨phP (own F v),(j:Int),(own F v).length,bL tP (own F v)⟩) (by omega)
  (λj o hj hi=>by
   obtain⟨_,hi⟩:=hi;have hlen:o.length<=1000000:=by
    rw[hi];have h1:=Qiu (λp=>ba1 p v==0) (F.take j)
    have h2:=List.length_take_le j F;omega
   have hn:=K5 hj (show F.length<=4611686018427387904 by omega)
   have hb:=o5 hj;have hT:(F.take (j+1)).filter (λp=>ba1 p v==0)=o++(if (ba1 (gL tP F j) v==0)=true then [gL tP F j] else []):=by
    rw[Mb6 tP hj,Qim,<- hi,Qij,List.filter_nil]
   have hnext : ∀ {s : j5} {o' : PLq}, o' = (F.take (j + 1)).filter (fun p => ba1 p v == 0) → s = ⟨phP o', ((j + 1 : Nat) : Int), o'.length, bL tP o'⟩ → Nx (.next s) (fun t => t = phP (own F v) + 1 ∧ ∃ j' : Nat, (⟨phP o, (j : Int), o.length, bL tP o⟩ : j5) = ⟨phP (own F v), (j' : Int), (own F v).length, bL tP (own F v)⟩)
     (λs=>∃o',s=(⟨phP o',((j+1:Nat):Int),o'.length,bL tP o'⟩:j5)/\(j+1<=F.length/\o'=(F.take (j+1)).filter λp=>ba1 p v==0)):=λ{s o'} ho' hs=>.nx ⟨o',hs,by omega,ho'⟩
   clear hi
   cases o with
   |nil =>
    show Nx (D3 Stp.next Stp.exit Stp.fail _ _) _ _;simp only[D3,Int.toNat_natCast,Mb7,Mb8,hn,hb];rw[btD (H5 hj)];cases hs:ba1 (gL tP F j) v==0 with
    |true=>exact hnext (o':=[gL tP F j]) (by rw[hT,hs];rfl) rfl
    |false=>exact hnext (o':=[]) (by rw[hT,hs];rfl) rfl
   |cons q o =>
    have rr:(Nat.beq (q::o).length (len (bL tP (q::o)))&&Nat.ble (((q::o).length+1)*32) room)=true:=Cb8 rfl (by omega)
    have ap:∀(O:PLq) (p:Pln),app (bL tP O) [[i p.n.x,i p.n.y,i p.n.z,i p.b]]=bL tP (O++[p]):=λO p=>Za3 tP O [p]
    show Nx (D4 Stp.next Stp.exit Stp.fail _ _) _ _;simp only[D4,Int.toNat_natCast,Mb7,Mb8,hn,hb,rr,ap];rw[btD (H5 hj)];cases hs:ba1 (gL tP F j) v==0 with
    |true=>exact hnext (o':=q::o++[gL tP F j]) (by rw[hT,hs];rfl) (by rw[Qea];rfl)
    |false=>exact hnext (o':=q::o) (by rw[hT,hs,if_neg (by simp),Qbad]) rfl)
  (λj o hj hi=>by
   obtain⟨h1,hi⟩:=hi;have e:j=F.length:=by omega
   subst e;have hO:o=own F v:=by rw[hi,List.take_length];rfl
   rw[<- hO];cases o with
   |nil =>
    refine⟨1,?_,rfl,F.length,rfl⟩;show D3 Stp.next Stp.exit Stp.fail _ _=_;simp only[D3];rw[bfD (O6 (Qed _))]
   |cons q o =>
    refine⟨2,?_,rfl,F.length,rfl⟩;show D4 Stp.next Stp.exit Stp.fail _ _=_;simp only[D4];rw[bfD (O6 (Qed _))]) 0 [] ⟨Qee _,by simp⟩
 obtain⟨t,s,h1,rfl,j,rfl⟩:=key;exact⟨j,h1⟩
theorem pc3(v:V3)(F:PLq)(hF:OkF F):H9 ⟨v.x,v.y,v.z,F⟩=⟨1,!kv F v,F⟩:=by
 obtain⟨j,h⟩:=ad1 F v hF.l;have hv:∀p∈own F v,okp p=true:=λp hp=>hF.v p (Qfh.1 hp).1
 have hl:(own F v).length<=1000000:=Qad (Qiu _ _) hF.l;unfold H9 ra9 kv;simp only[v7,r4];rw[h];cases ho:own F v with
 |nil =>
  have e:Y7 []=vtx []:=Bc2 [] (λp hp=>by cases hp) (by simp)
  have e':Y8 []=true:=Bc3 [] (λp hp=>by cases hp) (by simp)
  rw[e,e'];rfl
 |cons q o =>
  rw[ho] at hv hl;simp only[Gc6,fd0,Bc2 _ hv hl,Bc3 _ hv hl];rfl
theorem Nd4{α:Type}{l:List α}{n:Nat}{c:α->Bool}(h:(l.take n).any c=true):(l.take n).findIdx c<(l.take n).length:=by
 rw[Qib] at h;obtain⟨p,hp,hc⟩:=h;exact Qit ⟨p,hp,hc⟩
theorem Dd9(l:List V3)(n:Nat)(X:PLq)(hn:n<=l.length)(hl:l.length<=1000000000)(hX:OkF X):J7 ⟨n,bL tV l,X⟩=⟨1,if (l.take n).any (λp=>!kv X p) then (((l.take n).findIdx (λp=>!kv X p):Nat):Int) else -1,X⟩:=by
 have hlen:(l.take n).length=n:=by rw[Qia];omega
 have h:=Ia6 (step:=z8 ⟨n,(n:Int),bL tV l⟩) (mk:=λj=>(⟨(j:Int),X⟩:l5)) (c:=λp=>!kv X p) (u:=1) (fin:=2) tV (l.take n) (by omega)
  (λj hj=>by
   rw[hlen] at hj;have hj':j<l.length:=by omega
   simp only[z8,D8,Int.toNat_natCast,v7,r4,oc6 hj',Wb4 hj',pc3 _ _ hX,gc8 tV l hj,K5 hj (show n<=4611686018427387904 by omega)]
   rw[btD (H5 hj),bt (o5 hj)]
   rfl)
  (by rw[hlen];simp only[z8,D8];rw[bfD (O6 (Qed _))]) 0 (Qee _)
 rw[Qie,hlen] at h;unfold J7 V0;simp only[v7,r4];rw[show (⟨0,X⟩:l5)=⟨((0:Nat):Int),X⟩ from rfl,h]
 cases ha:(l.take n).any λp=>!kv X p with
 |false=>rfl
 |true =>
  have hf:=Nd4 ha;rw[hlen] at hf;simp only[if_true,Qbh,Int.toNat_natCast,Wb4 (show (l.take n).findIdx (λp=>!kv X p)<l.length by omega),pc3 _ _ hX,v7]
  rfl
structure Ed0(l:List V3)(n:Nat)(f:V3->Bool)(cur:List V3)(m j:Nat):Prop where
 len:cur.length=l.length
 t:cur.take m=(l.take j).filter f
 d:cur.drop j=l.drop j
 le:m<=j
 lm:m<=n
theorem pc4(l:List V3)(n:Nat)(hnl:n<=l.length)(X:PLq)(hl:l.length<=1000000000)(hX:OkF X)(m j:Nat)(cur:List V3)(hd:Ed0 l n (kv X) cur m j)(hjn:j<=n) :
  ∃t s,lp (p8 ⟨n⟩) ⟨(m:Int),(j:Int),bL tV cur,X⟩=(t,s)/\(t=1/\∃m' cur',s=⟨((m':Nat):Int),((n:Nat):Int),bL tV cur',X⟩/\Ed0 l n (kv X) cur' m' n):=by
 refine ka4 (step:=p8 ⟨n⟩) (mk:=λj (x:Nat×List V3)=>(⟨(x.1:Int),(j:Int),bL tV x.2,X⟩:n7)) n (λj x=>Ed0 l n (kv X) x.2 x.1 j/\j<=n) (λt s=>t=1/\∃m' cur',s=⟨((m':Nat):Int),((n:Nat):Int),bL tV cur',X⟩/\Ed0 l n (kv X) cur' m' n) (by omega) (λj x hj hx=>?_) (λj x hj hx=>?_) j (m,cur) ⟨hd,hjn⟩
 ·obtain⟨m,cur⟩:=x;obtain⟨⟨h1,h2,h3,h4,h5⟩,_⟩:=hx
  simp only at h1 h2 h3 h4 h5
  have hjc:j<cur.length:=by omega
  have hmc:m<cur.length:=by omega
  have hg:gL tV cur j=gL tV l j:=Cb5 tV h3;have hWm:W ((m:Int)+1)=((m+1:Nat):Int):=by rw[fa7 (by omega) (by omega)];omega
  have hb:Nat.blt m cur.length=true:=by rw[Qch];exact hmc
  have hrow:j8 (bL tV cur) m=tV.row (gL tV cur m):=Y6 tV hmc;have sp:∀(v:V3) (x1 x2 x3:Int),S8 (tV.row v) 0 [i x1,i x2,i x3]=tV.row ⟨x1,x2,x3⟩:=λ_ _ _ _=>rfl
  have rl:∀v:V3,Nat.ble (0+3) (len (tV.row v))=true:=λ_=>rfl
  simp only[p8,D9,Int.toNat_natCast,v7,r4,oc6 hjc,Wb4 hjc,pc3 _ _ hX,K5 hj (show n<=4611686018427387904 by omega),hWm]
  rw[btD (H5 hj),bt (o5 hj)];simp only[Qbh,hrow,Ra9,hb,sp,vc7,o5 (show m<n by omega),hg]
  have ht:=Mb6 tV (show j<l.length by omega)
  have hd1:cur.drop (j+1)=l.drop (j+1):=ub6 h3 1;cases hk:kv X (gL tV l j) with
  |true =>
   refine .nx ⟨(m+1,cur.set m (gL tV l j)),rfl,⟨by rw[Qix];exact h1,?_,?_,by omega,by show m+1<=n;omega⟩,by omega⟩
   ·show (cur.set m (gL tV l j)).take (m+1)=_;rw[ht,Qim,Qik (by rw[Qix];exact hmc),Qiaj,List.take_set_of_le (Qac _),h2,Qij,hk,if_pos rfl,List.filter_nil]
   ·show (cur.set m (gL tV l j)).drop (j+1)=_;rw[List.drop_set_of_lt (by omega),hd1]
  |false =>
   refine .nx ⟨(m,cur),rfl,⟨h1,?_,hd1,by omega,h5⟩,by omega⟩
   show cur.take m=_;rw[ht,Qim,h2,Qij,hk,if_neg (by simp),List.filter_nil,Qbad]
 ·obtain⟨m,cur⟩:=x;obtain⟨hx,hjn⟩:=hx;have e:j=n:=by omega
  subst e;refine⟨1,?_,rfl,m,cur,rfl,hx⟩;simp only[p8,D9];rw[bfD (by omega)]
theorem Kc4(l:List V3)(n:Nat)(hnl:n<=l.length)(X:PLq)(hl:l.length<=1000000000)(hX:OkF X) :
  ∃m r,J8 ⟨n,bL tV l,X⟩=⟨1,m,bL tV r,X⟩/\m<=r.length/\r.take m=(l.take n).filter (kv X):=by
 have hlen:(l.take n).length=n:=by rw[Qia];omega
 unfold J8 V4;simp only[v7,r4,Dd9 l n X hnl hl hX];cases ha:(l.take n).any λp=>!kv X p with
 |false =>
  refine⟨n,l,rfl,hnl,?_⟩
  symm
  rw[List.filter_eq_self];intro p hp
  have:=Qcl.1 ha p hp
  simpa using this
 |true =>
  have hf:=Nd4 ha;have hk:kv X (gL tV (l.take n) ((l.take n).findIdx λp=>!kv X p))=false:=by
   have:=Qir (xs:=l.take n) (p:=λp=>!kv X p) (w:=hf)
   rw[tb3 tV hf];simpa using this
  have ht:=ub5 (λp=>!kv X p) (l.take n)
  simp only[Bool.not_not] at ht;generalize hF:(l.take n).findIdx (λp=>!kv X p)=F at *
  rw[hlen] at hf;rw[gc8 tV l hf] at hk;rw[Qiak,Nat.min_eq_left (by omega)] at ht
  have hW:W ((F:Int)+1)=((F+1:Nat):Int):=K5 hf (by omega)
  have hne:((F:Int)==-1)=false:=by rw[beq_eq_false_iff_ne];omega
  obtain⟨t,s,e1,rfl,m,cur,e2,e3⟩:=pc4 l n hnl X hl hX F (F+1) l ⟨rfl,by rw[Mb6 tV (show F<l.length by omega),Qim,ht,Qij,hk,if_neg (by simp),List.filter_nil,Qbad],rfl,by omega,by omega⟩ (by omega)
  have hm:m<=n:=e3.lm;have hin:inB (m:Int) (n+1)=true:=o5 (by omega)
  simp only[if_true,hW,hne,e1,e2,Int.toNat_natCast,hin,Qbh,Nat.sub_zero];refine⟨m,cur.take m++(List.replicate (n-m) ⟨0,0,0⟩++cur.drop (m+(n-m))),?_,?_,?_⟩
  ·rw[Ac4,Ac5,Wb5,Za3,Za3];rfl
  ·rw[Qea,Qea,Qia,Qbt,e3.len];omega
  ·rw[Qin (by rw[Qia,e3.len];omega),Qiak,Nat.min_self,e3.t]
def qe3(F:PLq)(l:List V3):List V3:=(dis l).filter (kv F)
theorem pc5(a:V3)(l:List V3)(hl:l.length<=1000000):∃m r,fa8 (a,l)=⟨1,m,bL tV r⟩/\m<=r.length/\r.take m=dis (a::l)/\r.length<=1000000000:=by
 obtain⟨m,r,k1,k2,k3,k4⟩:=vb6 a l hl;have hok:okL tV (l.length+1) (λk=>tV.row (gL tV (a::l) k))=true:=Ra8 tV (f:=λk=>gL tV (a::l) k) λ_ _=>rfl
 have hr:=Ac7 (a::l) (by simp only[List.length_cons];omega) []
 rw[Qbad] at hr;unfold fa8 sa2;simp only[Nc2,Nc3,gc6 a l hl,hok,k1,s6,Nat.beq_refl,hr];exact⟨m,r,rfl,k2,k3,by omega⟩
end Go.Ev.Ce
namespace Go.Ev.Ce
open Go Go.Ev Go.Ev.L Go.Proofs Go.Sort
theorem ad2(l:List V3)(a c k:Nat)(s:PLq)(p:Pln):p∈kb4 l a c s k↔p∈s\/((D0 (gL tV l k) (gL tV l c) (gL tV l a)).2=true/\(p=(D0 (gL tV l k) (gL tV l c) (gL tV l a)).1\/p=ga3 (D0 (gL tV l k) (gL tV l c) (gL tV l a)).1)):=by
 unfold kb4;generalize D0 (gL tV l k) (gL tV l c) (gL tV l a)=T;cases h2:T.2 with
 |false=>simp
 |true=>simp only[if_true,pd0,true_and,or_assoc]
theorem Yd3(l:List V3)(p:Pln):p∈G0 l↔∃a,a<l.length/\∃c,c<a/\∃k,k<c/\((D0 (gL tV l k) (gL tV l c) (gL tV l a)).2=true/\(p=(D0 (gL tV l k) (gL tV l c) (gL tV l a)).1\/p=ga3 (D0 (gL tV l k) (gL tV l c) (gL tV l a)).1)):=by
 have h:p∈G0 l↔p∈[]\/_:=Fa2 (λo a p=>Fa2 (λo c p=>Fa2 (λo k p=>ad2 l a c k o p) o p c) o p a) [] p l.length
 rw[h];simp only[Qiae,false_or]
theorem pc6{f:PLq->Nat->PLq}(h:∀o k,o.Nodup->(f o k).Nodup){o:PLq}(ho:o.Nodup):∀n,((List.range n).foldl f o).Nodup
 |0=>ho
 |n+1=>by rw[A7];exact h _ _ (pc6 h ho n)
theorem pd2(l:List V3):(G0 l).Nodup:=pc6 (λo a ho=>pc6 (λo c ho=>pc6 (λo k ho=>by
 show (kb4 l a c o k).Nodup;unfold kb4;split
 ·exact Wb6 (Wb6 ho)
 ·exact ho) ho c) ho a) List.nodup_nil l.length
theorem Ed1{l:List V3}(hl:l.all inV=true)(p:Pln):p∈fil l (G0 l)↔Ac3 l p:=by
 have hin:=Qcf.1 hl;have hb:(!bey l p)=hold p l:=rfl;unfold fil;rw[Qfh,Yd3,hb];constructor
 ·rintro⟨⟨a,ha,c,hc,k,hk,h1,h2⟩,h3⟩;have ma:=gLm ha;have mc:=gLm (show c<l.length by omega)
  have mk:=gLm (show k<l.length by omega)
  have ht:=(ta4 h1).2
  rcases h2 with rfl|rfl
  ·exact oc4 mk mc ma ht ((Qa0 ht.ok hl).1 h3)
  ·exact Wb3 mk mc ma ht ((Qa0 (ub9 ht.ok) hl).1 h3)
 ·intro h;obtain⟨u,w,x,hu,hw,hx,h3,t1,t2,t3⟩:=h.on;obtain⟨a,ha,c,hc,k,hk,hn,hall⟩:=Xd6 hu hw hx h3;obtain⟨i1,i2,i3⟩:=hall (λv=>inV v=true) (hin u hu) (hin w hw) (hin x hx)
  obtain⟨e1,e2,e3⟩:=hall (λv=>dot p.n v=p.b) t1 t2 t3
  have h2:=vb3 i3 i2 i1 (nd7 hn).2.2.1;exact⟨⟨a,ha,c,hc,k,hk,h2,Ac2 (ta4 h2).2 h.ok e3 e2 e1⟩,(Qa0 h.ok hl).2 h.hd⟩
theorem hc8{l r:List V3}(h:∀v,v∈r↔v∈l){p:Pln}(hp:Ac3 l p):Ac3 r p:=by
 obtain⟨⟨hd,u,w,x,hu,hw,hx,e⟩,ok⟩:=hp;exact⟨⟨λv hv=>hd v ((h v).1 hv),u,w,x,(h u).2 hu,(h w).2 hw,(h x).2 hx,e⟩,ok⟩
theorem Kc5{l:PLq}(h:l.Nodup):ya9 (jb1 l):=by
 have h1:=nc8 l;have h2:(jb1 l).Nodup:=(Wb0 l).nodup_iff.2 h;have h3:=h1.and h2;refine h3.imp λ{x y} ⟨k1,k2⟩=>?_
 rw[ra5] at k1;have k1:¬ LtP y x:=by simpa using k1
 rcases Pc9 x y with h|h|h
 ·exact h
 ·exact absurd h k2
 ·exact absurd h k1
theorem Ed2{l:List V3}(hl:l.all inV=true):(dis l).all inV=true:=Qcf.2 λv hv=>Qcf.1 hl v ((vb5 l v).1 hv)
theorem Bc4{l:List V3}(hl:l.all inV=true):jb1 (fil (dis l) (G0 (dis l)))=F0 l:=by
 refine gc2 (Kc5 ((pd2 (dis l)).filter _)) (Xd4 l) λp=>?_
 rw[(Wb0 _).mem_iff,Ed1 (Ed2 hl),Qc3 hl];exact⟨hc8 λv=>(vb5 l v).symm,hc8 (vb5 l)⟩
theorem qe4{l:List V3}(hl:l.all inV=true)(h4:Sol l):F0 l≠[]:=λe=>by
 have h:=Zc4 h4 (Cd6 hl (c:=[]) λp hp=>by rw[<- Qc3 hl,e] at hp;exact hp) (x:=⟨100,0,0,1⟩) ⟨by show (0:Int)<1;omega,λp hp=>by cases hp⟩ (h:=⟨⟨1,0,0⟩,24⟩) λv hv=>by
  obtain⟨⟨a1,a2⟩,_,_⟩:=(Ta7 v).1 (Qcf.1 hl v hv);simp only[dot];omega
 simp only[rmZ] at h;omega
theorem ad3{l:List V3}(h48:l.length<=48)(hl:l.all inV=true)(h4:Sol l):ua6 l=0:=by
 have hin:=Qcf.1 hl;unfold ua6;rw[if_neg (by omega),if_neg (by rw[<- Qiaf,hl];simp)]
 have h1:(ixs l.length).any (sp1 l)=true:=by
  obtain⟨a,c,k,v,ha,hc,hk,hv,hd⟩:=h4;obtain⟨i',hi,j',hj,k',hk',hn,hall⟩:=Xd6 ha hc hk (Jc6 hd);obtain⟨i1,i2,i3⟩:=hall (λv=>inV v=true) (hin _ ha) (hin _ hc) (hin _ hk)
  have ht:=vb3 i3 i2 i1 (nd7 hn).2.2.1;have mem:∀{n m:Nat},m<n->((m:Nat):Int)∈ixs n:=λ{n m} h=>Qbz.2 ⟨m,Qcj.2 h,rfl⟩
  refine Qib.2 ⟨_,mem hi,?_⟩;unfold sp1;rw[Int.toNat_natCast];refine Qib.2 ⟨_,mem hj,?_⟩;unfold sp2;rw[Int.toNat_natCast];refine Qib.2 ⟨gL tV l k',?_,ht⟩;rw[<- gc8 tV l hk'];exact nc4 tV (by rw[Qia];omega)
 have h2:kb3 l=false:=by
  unfold kb3;rw[if_pos h1];obtain⟨hi,k1⟩:=fb9 h1;have k1:(ixs (iF l)).any (sp2 l (iF l))=true:=k1;obtain⟨hj,k2⟩:=fb9 k1;have k2:(l.take (jF l)).any (λv=>(D0 v (gL tV l (jF l)) (gL tV l (iF l))).2)=true:=k2
  have hj:jF l<iF l:=hj;have hi:iF l<l.length:=hi;have hk:=oc8 k2;have hk2:=Qir (xs:=l.take (jF l)) (p:=λv=>(D0 v (gL tV l (jF l)) (gL tV l (iF l))).2) (w:=hk)
  rw[<- tb3 tV hk,gc8 tV l (by rw[Qia] at hk;omega)] at hk2
  have hok:okp (plF l)=true:=(ta4 hk2).2.ok;obtain⟨v,hv,hne⟩:=h4.off (nd4 hok) (plF l).b;rw[Bool.not_eq_false',Qib];refine⟨v,hv,?_⟩
  have:ba1 (plF l) v≠0:=λe=>hne ((gc3 hok (hin v hv)).1 e)
  simpa using this
 rw[h2];rfl
theorem Ed3(l r:PLq)(n:Nat)(hn:n=l.length):(two (r1L tP) r1I).rd (.tup [.sl 0 0 n 0,i 0],[⟨66,4,bL tP (l++r),true,false,0⟩])=some (l,0):=by
 subst hn;have h:(r1L tP).rd [⟨66,4,bL tP (l++r),true,false,0⟩] (.sl 0 0 l.length 0)=some l:=by
  show Bool.rec (motive:=λ_=>Option PLq) none (some (slR tP (bL tP (l++r)) 0 l.length)) (Bool.and true (okS tP (bL tP (l++r)) 0 l.length))=_
  rw[md8 _ _ (by rw[Qea];omega),md9 _ _ (by rw[Qea];omega),List.take_left']
  ·rfl
  ·rfl
 simp only[two,h];rfl
theorem ad4(a:V3)(l:List V3)(h48:(a::l).length<=48)(hl:(a::l).all inV=true)(h4:Sol (a::l)):Rd (two (r1L tP) r1I) (W7 (a,l)) (λr=>r=(F0 (a::l),0)):=by
 have hc:=ad3 h48 hl h4;have hdl:=Qc7 (a::l);have hll:l.length<=1000000:=by simp only[List.length_cons] at h48;omega
 obtain⟨j,e⟩:=Yd2 (dis (a::l)) (by omega)
 have hf:=Bc4 hl;have hne:fil (dis (a::l)) (G0 (dis (a::l)))≠[]:=λe=>by
  rw[e] at hf;have h0:jb1 []=[]:=Zc0;rw[h0] at hf;exact qe4 hl h4 hf.symm
 have hok:okL tV (l.length+1) (λk=>tV.row (gL tV (a::l) k))=true:=Ra8 tV (f:=λk=>gL tV (a::l) k) λ_ _=>rfl
 have hlen:(fil (dis (a::l)) (G0 (dis (a::l)))).length<=1000000:=by
  have h1:=pc0 (dis (a::l)) (G0 (dis (a::l)));have h2:(G0 (dis (a::l))).length<=_:=pc1 (dis (a::l)) (by omega) _ (Qac _)
  omega
 unfold W7;simp only[v7,Za2,r4,Nc2,Nc3,hok,vb8 (a::l) (by omega),vb7 (a::l) (by omega),hc,Jc8 a l hll,Jc9 a l hll,e]
 generalize fil (dis (a::l)) (G0 (dis (a::l)))=O at *
 cases O with
 |nil=>exact absurd rfl hne
 |cons q o =>
  have hr:(Bool.and (Nat.ble (q::o).length room) (Bool.and (Nat.ble (q::o).length (len (bL tP (q::o)))) (okS tP (bL tP (q::o)) 0 (q::o).length)))=true:=by
   rw[fd0,Ra9,Qbd,Qbd,Qiad,Qiad];refine⟨by unfold room;omega,Qac _,rfl⟩
  simp only[phP,hr,Gc6,Cd0,Za3,hf];exact⟨_,(F0 (a::l),0),rfl,Ed3 _ _ _ (by rw[<- hf,fb4]),rfl⟩
end Go.Ev.Ce
namespace Go.Ev.Ce
open Go Go.Ev Go.Ev.L Go.Proofs
structure B8(v:V3):Prop where
 x:Sm 8 v.x
 y:Sm 8 v.y
 z:Sm 8 v.z
structure Mp(l:List V3):Prop where
 l4:4<=l.length
 l8:l.length<=8
 bd:∀v∈l,Sm 11 v.x/\Sm 11 v.y/\Sm 11 v.z
 nf:nf0 l=true
theorem Mp.inV{l:List V3}(h:Mp l):l.all inV=true:=Qcf.2 λv hv=>by
 obtain⟨h1,h2,h3⟩:=h.bd v hv;exact (Ta7 v).2 ⟨h1.mono (by omega),h2.mono (by omega),h3.mono (by omega)⟩
theorem gb0{l:List V3}(h:ua6 l=0):l.length<=48/\l.all inV=true/\Sol l:=by
 unfold ua6 at h
 split at h
 ·cases h
 rename_i h48
 split at h
 ·cases h
 rename_i hin
 split at h
 ·cases h
 rename_i hf;have hl:l.all inV=true:=by
  rw[Qcf];intro v hv;cases hi:inV v with
  |true=>rfl
  |false=>exact absurd (Qib.2 ⟨v,hv,by rw[hi];rfl⟩) hin
 have hin2:=Qcf.1 hl;refine⟨by omega,hl,?_⟩
 have hf:kb3 l=false:=Bool.eq_false_iff.2 hf;unfold kb3 at hf
 split at hf
 ·rename_i h1;obtain⟨hi,k1⟩:=fb9 h1;have k1:(ixs (iF l)).any (sp2 l (iF l))=true:=k1;obtain⟨hj,k2⟩:=fb9 k1;have k2:(l.take (jF l)).any (λv=>(D0 v (gL tV l (jF l)) (gL tV l (iF l))).2)=true:=k2
  have hj:jF l<iF l:=hj;have hi:iF l<l.length:=hi;have hk:=oc8 k2;have hk2:=Qir (xs:=l.take (jF l)) (p:=λv=>(D0 v (gL tV l (jF l)) (gL tV l (iF l))).2) (w:=hk)
  rw[Qia] at hk;rw[<- tb3 tV (by rw[Qia];exact hk),gc8 tV l (by omega)] at hk2
  have ht:=(ta4 hk2).2;rw[Bool.not_eq_false',Qib] at hf;obtain⟨v,hv,hne⟩:=hf;have hne:ba1 (plF l) v≠0:=bne_iff_ne.1 hne;have ht:Thr (gL tV l (kF l)) (gL tV l (jF l)) (gL tV l (iF l)) (plF l):=ht;have hkl:kF l<l.length:=by
   have:kF l<min (jF l) l.length:=hk
   omega
  have hoff:dot (plF l).n v≠(plF l).b:=λe=>hne ((gc3 ht.ok (hin2 v hv)).2 e)
  refine⟨_,_,_,v,gLm hkl,gLm (show jF l<l.length by omega),gLm hi,hv,λh0=>hoff ?_⟩
  obtain⟨ok,⟨g,hg,e1,e2,e3⟩,o⟩:=ht;have e:g*(dot (plF l).n v-(plF l).b)=dot (N3 (gL tV l (kF l)) (gL tV l (jF l)) (gL tV l (iF l))) (J0 v (gL tV l (kF l))):=by
   have e1:g*(plF l).n.x=(N3 (gL tV l (kF l)) (gL tV l (jF l)) (gL tV l (iF l))).x:=e1;have e2:g*(plF l).n.y=(N3 (gL tV l (kF l)) (gL tV l (jF l)) (gL tV l (iF l))).y:=e2;have e3:g*(plF l).n.z=(N3 (gL tV l (kF l)) (gL tV l (jF l)) (gL tV l (iF l))).z:=e3;rw[o];simp only[dot];rw[<- e1,<- e2,<- e3];simp only[J0]
   grind
  rw[h0] at e
  have:=(Qic.1 e).resolve_left (by omega)
  omega
 ·cases hf
def Q1(l:List V3):PLq×Int:=if ua6 l=0 then (F0 l,0) else ([],ua6 l)
def Zb7(l:List V3):List V3×Int:=if ua6 l=0 then (qe3 (F0 l) l,0) else ([],ua6 l)
theorem pd3{l:List V3}(h48:l.length<=48)(hl:l.all inV=true):(F0 l).length<=1000000:=by
 have h1:=pc0 (dis l) (G0 (dis l));have hd:=Qc7 l;have h2:(G0 (dis l)).length<=_:=pc1 (dis l) (by omega) _ (Qac _)
 rw[<- Bc4 hl,fb4];omega
theorem Ta9(a:V3)(l:List V3)(hl:l.length<=900000):Rd (two (r1L tP) r1I) (W7 (a,l)) (λr=>r=Q1 (a::l)):=by
 by_cases h:ua6 (a::l)=0
 ·obtain⟨h1,h2,h3⟩:=gb0 h;unfold Q1;rw[if_pos h];exact ad4 a l h1 h2 h3
 ·have hll:(a::l).length<=1000000:=by simp only[List.length_cons];omega
  have hne:(ua6 (a::l) != 0)=true:=bne_iff_ne.2 h;unfold Q1 W7;rw[if_neg h];simp only[v7,Za2,r4,vb8 (a::l) hll,vb7 (a::l) hll,hne,s6];exact⟨_,([],ua6 (a::l)),rfl,rfl,rfl⟩
theorem vb9:ua6 []=11:=by
 unfold ua6 kb3;rfl
def Zb8(l:List V3):PLq×Int:=Q1 l
def kb5(l:List V3):Bool:=decide (1<=l.length/\l.length<=900000)
def Zb9:Sum:=G9 (ga2 tV) λl=>.guard (kb5 l) (.ret ((two (r1L tP) r1I).enc (Zb8 l),[]))
theorem Wb8:d6 prog G 70 Zb9:=by
 refine ld9 (fb5 jb4 λa r hr=>?_) (fb5 bb8 λa r hr=>?_) (fb5 bb9 λa r hr=>?_)
 ·obtain⟨p,c⟩:=a;obtain⟨hg,hr⟩:=DT.run_guard_some hr;have hl:c.length<=900000:=by
   have:=(of_decide_eq_true hg).2
   simp only[List.length_cons] at this;omega
  have hp:Aa5 (p,c)=Q1 (p::c):=(Ta9 p c hl).p;have hq:Aa6 (p,c)=true:=(Ta9 p c hl).g;rw[hp,hq];exact hr
 ·obtain⟨hg,hr⟩:=DT.run_guard_some hr;exact absurd (of_decide_eq_true hg).1 (by simp)
 ·obtain⟨hg,hr⟩:=DT.run_guard_some hr;exact absurd (of_decide_eq_true hg).1 (by simp)
theorem wb0(a:V3)(l:List V3)(hl:l.length<=900000):Rd (two (r1L tV) r1I) (da8 (a,l)) (λr=>r=Zb7 (a::l)):=by
 have hok:okL tV (l.length+1) (λk=>tV.row (gL tV (a::l) k))=true:=Ra8 tV (f:=λk=>gL tV (a::l) k) λ_ _=>rfl
 have hp:Aa5 (a,l)=Q1 (a::l):=(Ta9 a l hl).p;have hq:Aa6 (a,l)=true:=(Ta9 a l hl).g;unfold Zb7;unfold da8;simp only[v7,Za2,r4,Nc2,Nc3,hok,hp,hq,s6];unfold Q1;by_cases h:ua6 (a::l)=0
 ·obtain⟨h1,h2,h3⟩:=gb0 h;have hF:OkF (F0 (a::l)):=⟨pd3 h1 h2,λp hp=>(Xd5 hp).ok⟩
  obtain⟨m,r,e1,e2,e3,e4⟩:=pc5 a l (by omega)
  obtain⟨m',r',k1,k2,k3⟩:=Kc4 r m e2 (F0 (a::l)) e4 hF;rw[if_pos h,if_pos h];simp only[e1,k1];refine⟨_,(r'.take m',0),rfl,?_,by rw[k3,e3];rfl⟩
  have h:(r1L tV).rd [⟨23,3,bL tV r',true,false,0⟩] (.sl 0 0 m' 0)=some (r'.take m'):=by
   show Bool.rec (motive:=λ_=>Option (List V3)) none (some (slR tV (bL tV r') 0 m')) (Bool.and true (okS tV (bL tV r') 0 m'))=_
   rw[gc5 _ _ k2,Cb7 _ _ k2];rfl
  simp only[two,h];rfl
 ·have hne:(ua6 (a::l) != 0)=true:=bne_iff_ne.2 h;rw[if_neg h,if_neg h];simp only[hne,s6];exact⟨_,([],ua6 (a::l)),rfl,rfl,rfl⟩
def Kb4(l:List V3):List V3×Int:=Zb7 l
def Va7(l:List V3):Bool:=decide (1<=l.length/\l.length<=900000)
def Kb5:Sum:=G9 (ga2 tV) λl=>.guard (Va7 l) (.ret ((two (r1L tV) r1I).enc (Kb4 l),[]))
theorem Cb9:d6 prog G 69 Kb5:=by
 refine ld9 (fb5 Jb2 λa r hr=>?_) (fb5 Bb3 λa r hr=>?_) (fb5 Bb5 λa r hr=>?_)
 ·obtain⟨p,c⟩:=a;obtain⟨hg,hr⟩:=DT.run_guard_some hr;have hl:c.length<=900000:=by
   have:=(of_decide_eq_true hg).2
   simp only[List.length_cons] at this;omega
  have hp:bb6 (p,c)=Zb7 (p::c):=(wb0 p c hl).p;have hq:bb7 (p,c)=true:=(wb0 p c hl).g;rw[hp,hq];exact hr
 ·obtain⟨hg,hr⟩:=DT.run_guard_some hr;exact absurd (of_decide_eq_true hg).1 (by simp)
 ·obtain⟨hg,hr⟩:=DT.run_guard_some hr;exact absurd (of_decide_eq_true hg).1 (by simp)
set_option maxRecDepth 100000
def ua7(x:Int)(y:Int):ROq:=let y0:=(.tup [i 0,i 3],[]);(sl (decide (x<0)) (some y0) (sl (decide (x>1073741824)) (some y0) (sl (decide (y<1)) (some y0) (sl (decide (y>1048576)) (some y0) (sl ((W (6*y))==0) none (some (.tup [i (W (Int.tdiv (W ((W (x+(W (6*y))))-1)) (W (6*y)))),i 0],[])))))))
def Ja3(x:Int)(y:Int):Int×Int:=N4 (two r1I r1I) (ua7 x y)
def Ja4(x:Int)(y:Int):Bool:=okO (two r1I r1I) (ua7 x y)
def Fb8:Sum:=pa5 cI cI (λx y=>.guard (Ja4 x y) (.ret ((two r1I r1I).enc (Ja3 x y),[])))
theorem pc7:d6 prog G 8 Fb8:=rb9 (bd b8 Oa0) (two r1I r1I) (o:=ua7)
def Ua0(x:Int)(y:Int)(z:Int):V3:=(⟨x,y,z⟩:V3)
def Wb9:Sum:=Hb3 cI cI cI (λx y z=>.ret ((one r1V).enc (Ua0 x y z),[]))
theorem Bc5:d6 prog G 21 Wb9:=Md8 (bd b21 Oa0)
def Y5(x:Int):ROq:=(sl (decide (x>=0)) (some (b (decide (x<=12)),[])) (some (b false,[])))
def Q6(x:Int):Bool:=N4 (one r1B) (Y5 x)
def Q7(x:Int):Bool:=okO (one r1B) (Y5 x)
def Va8:Sum:=G9 cI (λx=>.guard (Q7 x) (.ret ((one r1B).enc (Q6 x),[])))
theorem Db0:d6 prog G 48 Va8:=Na9 (bd b48 Oa0) (one r1B) (o:=Y5)
def Xb0:List (Nat×Sum):=[(48,Va8)]
theorem Kb6:w7 prog G Xb0:=⟨Db0,trivial⟩
def ja3(x:V3):ROq:=let t1:=(Q6 x.x);let t2:=(Q6 x.y);let t3:=(Q6 x.z);(sl (Q7 x.x) (sl t1 (sl (Q7 x.y) (sl t2 (sl (Q7 x.z) (some (b t3,[])) none) (some (b false,[]))) none) (some (b false,[]))) none)
def Y9(x:V3):Bool:=N4 (one r1B) (ja3 x)
def Z0(x:V3):Bool:=okO (one r1B) (ja3 x)
def kb6:Sum:=G9 (ha1 tV) (λx=>.guard (Z0 x) (.ret ((one r1B).enc (Y9 x),[])))
theorem Xb1:d6 prog G 22 kb6:=Na9 (bd b22 Kb6) (one r1B) (o:=ja3)
def ac0:List (Nat×Sum):=[(21,Wb9),(20,Fb0),(22,kb6)]
theorem Xb2:w7 prog G ac0:=⟨Bc5,mc9,Xb1,trivial⟩
def pa3(x:V3)(y:Int)(z:Int)(w:Int):ROq:=let y0:=(.tup [.agg [i 0,i 0,i 0],i 3],[]);let t1:=(Ua0 (W (y+w)) (W (y+w)) (W ((W (y+w))+z)));let t2:=(ab6 x t1);let t3:=(Y9 x);let t4:=(Ua0 y z w);let t5:=(Y9 t4);let t6:=(Y9 t2);(sl (Z0 x) (sl (!t3) (some y0) (sl (Z0 t4) (sl (!t5) (some y0) (sl (Z0 t2) (sl (!t6) (some y0) (some (.tup [.agg [i t2.x,i t2.y,i t2.z],i 0],[]))) none)) none)) none)
def Ba0(x:V3)(y:Int)(z:Int)(w:Int):V3×Int:=N4 (two r1V r1I) (pa3 x y z w)
def Ba1(x:V3)(y:Int)(z:Int)(w:Int):Bool:=okO (two r1V r1I) (pa3 x y z w)
def wb1:Sum:=Qb6 (ha1 tV) cI cI cI (λx y z w=>.guard (Ba1 x y z w) (.ret ((two r1V r1I).enc (Ba0 x y z w),[])))
theorem ac4:d6 prog G 11 wb1:=oe5 (bd b11 Xb2) (two r1V r1I) (o:=pa3)
def Fa3(x:Int)(y:Int):ROq:=let y1:=(W (Int.tdiv x (W (6*y))));let y0:=(.tup [i 0,i 3],[]);(sl (decide (x<0)) (some y0) (sl (decide (x>1073741824)) (some y0) (sl (decide (y<1)) (some y0) (sl (decide (y>1048576)) (some y0) (sl ((W (6*y))==0) none (sl (decide ((W ((W (y1*6))*y))<x)) (some (.tup [i (W (y1+1)),i 0],[])) (some (.tup [i y1,i 0],[]))))))))
def Ua1(x:Int)(y:Int):Int×Int:=N4 (two r1I r1I) (Fa3 x y)
def Ua2(x:Int)(y:Int):Bool:=okO (two r1I r1I) (Fa3 x y)
def Xb3:Sum:=pa5 cI cI (λx y=>.guard (Ua2 x y) (.ret ((two r1I r1I).enc (Ua1 x y),[])))
theorem Bc6:d6 prog G 9 Xb3:=rb9 (bd b9 Oa0) (two r1I r1I) (o:=Fa3)
def wb2:List (Nat×Sum):=[(14,Fb4),(23,fc7)]
theorem ac5:w7 prog G wb2:=⟨nc6,Ic8,trivial⟩
structure ja4 where
 (is1 is2 is3 f0 e8 g7 ta5 Ba2 Ua4:Int)
structure E3 where
 qc5:Int
def cb6(p:ja4)(s:E3):St:=⟨.unk::i p.is1::i p.is2::i p.is3::.ptr 0 0 0 0::ra 3 (.ptr 1 0 0 0::.unk::.sl 2 0 3 0::i s.qc5::ra 47 []),[bq 0 3 [[i p.f0,i p.e8,i p.g7]],bq 0 3 [[i 0,i 0,i 0]],bq 3 1 [[i p.ta5],[i p.Ba2],[i p.Ua4]]]⟩
def Q8{α:Type}(k:E3->α)(e:Nat->α)(z:α)(p:ja4)(s:E3):α:=let y0:=(j8 [[i p.ta5],[i p.Ba2],[i p.Ua4]] (0+s.qc5.toNat));let y1:=(((Nat.blt (0+s.qc5.toNat) (len [[i p.ta5],[i p.Ba2],[i p.Ua4]]))&&(Nat.ble (0+1) (len y0)))&&(Ga5 [CK.int .i64] (i5 y0 0)));(sl (decide (s.qc5<3)) (sl (inB s.qc5 3) (sl y1 (sl (decide ((toI (hdA (i5 y0 0)))<0)) (e 1) (sl (inB s.qc5 3) (sl y1 (sl (decide ((toI (hdA (i5 y0 0)))>12)) (e 1) (k ⟨W (s.qc5+1)⟩)) z) z)) z) z) (e 2))
def pa4(p:ja4)(s:E3):Stp E3:=Q8 .next .exit .fail p s
def Ma6:Lo ja4 E3:=⟨En wb2,0,he4,[1,1,0,1,4,4],[1,2,3,4,8,10,11],.p,[⟨sUq::sIq::sIq::sIq::sPq 0::ru2 3 (sPq 1::sUq::.s (.o (.sl 2 0 (some 0) (some 3)))::sIq::ru2 47 []),[⟨0,3,true,some [kLq 3]⟩,⟨0,3,true,some [[.o (.lit .i64 0),.o (.lit .i64 0),.o (.lit .i64 0)]]⟩,⟨3,1,true,some [[.o (.int .i64)],[.o (.int .i64)],[.o (.int .i64)]]⟩],λa H=>(⟨aIq a 1,aIq a 2,aIq a 3,hIq H 0 0 0,hIq H 0 0 1,hIq H 0 0 2,hIq H 2 0 0,hIq H 2 1 0,hIq H 2 2 0⟩,⟨aIq a 11⟩)⟩],pa4,[(none,λp s=>⟨[.tup [.agg [i 0,i 0,i 0],i 3]],[]⟩),(some 0,λp s=>upq (cb6 p s) [(17,i s.qc5),(18,.sl 2 0 3 0),(19,i 3),(20,b (decide (s.qc5<3)))])],cb6⟩
theorem Xb4:Ma6.Ok:=Lo.okq [] .nil λp s=>(.ofq @Q8)
def ua8(x:V3)(y:Int)(z:Int)(w:Int):ROq:=let y0:=(.tup [.agg [i 0,i 0,i 0],i 3],[]);let t1:=(lp (pa4 (⟨y,z,w,x.x,x.y,x.z,y,z,w⟩:ja4)) (⟨0⟩:E3));let t2:=(ua4 x);let t3:=(zb4 x (⟨W (y+w),W (y+w),W ((W (y+w))+z)⟩:V3));let t4:=(ua4 t3);(sl (Nat.beq t1.1 1) (some y0) (sl (Nat.beq t1.1 2) (sl (ua5 x) (sl (!t2) (some y0) (sl (ua5 t3) (sl (!t4) (some y0) (some (.tup [.agg [i t3.x,i t3.y,i t3.z],i 0],[]))) none)) none) none))
def Ja5(x:V3)(y:Int)(z:Int)(w:Int):V3×Int:=N4 (two r1V r1I) (ua8 x y z w)
def Ja6(x:V3)(y:Int)(z:Int)(w:Int):Bool:=okO (two r1V r1I) (ua8 x y z w)
def Fb9:Sum:=Qb6 (ha1 tV) cI cI cI (λx y z w=>.guard (Ja6 x y z w) (.ret ((two r1V r1I).enc (Ja5 x y z w),[])))
theorem pc8:d6 prog G 12 Fb9:=Sd5 (bd b12 ac5) (two r1V r1I) (o:=ua8) λx y z w=>Ha8 (.s .p (.s .p (.s (.s .p (.b (.u Ma6.ls))) .p))) [Ma6.pr] (.cons Xb4 .nil)
def Gb0(x:Int)(y:Int)(z:Int):V3:=(⟨x,y,z⟩:V3)
def Gb1:Sum:=Hb3 cI cI cI (λx y z=>.ret ((one r1V).enc (Gb0 x y z),[]))
theorem pc9:d6 prog G 10 Gb1:=Md8 (bd b10 Oa0)
def rch(n e:V3):Int:=(n.x.natAbs:Int)*e.x+(n.y.natAbs:Int)*e.y+(n.z.natAbs:Int)*e.z
def ja5(e:V3):Bool:=(decide (0<=e.x)&&decide (e.x<=12))&&((decide (0<=e.y)&&decide (e.y<=12))&&(decide (0<=e.z)&&decide (e.z<=12)))
def pq(e:V3)(s:Int)(p:Pln):Pln:=⟨p.n,p.b+s*rch p.n e⟩
def okq(e:V3)(s:Int)(p:Pln):Bool:=okp p&&smb 2097152 (p.b+s*rch p.n e)
structure B12(e:V3):Prop where
 x1:0<=e.x
 x2:e.x<=12
 y1:0<=e.y
 y2:e.y<=12
 z1:0<=e.z
 z2:e.z<=12
theorem Bc7(e:V3):ua3 e=some (b (ja5 e),[]):=by
 unfold ua3 ja5;show sl (decide (0<=e.x)) (sl (decide (e.x<=12)) (sl (decide (0<=e.y)) (sl (decide (e.y<=12)) (sl (decide (0<=e.z)) _ _) _) _) _) _=_;cases decide (0<=e.x)<;>cases decide (e.x<=12)<;>cases decide (0<=e.y)<;>cases decide (e.y<=12)<;>cases decide (0<=e.z)<;>cases decide (e.z<=12)<;>rfl
theorem pd4(e:V3):ua4 e=ja5 e:=by unfold ua4;rw[Bc7];rfl
theorem pd5(e:V3):ua5 e=true:=by unfold ua5;rw[Bc7];rfl
end Go.Ev.Ce
