/- Own work. -/
import Derived.Test.YtdigbcehbdiibaaGreatDoorEvOgE1
set_option linter.all false
noncomputable section
def Qia:=@Int.mul_eq_zero
def Qib:=@Int.le_of_lt
def Qic:=@Int.mul_nonneg
def Qid:=@Nat.lt_irrefl
def Qie:=@List.length_take
def Qif:=@List.pairwise_cons
def Qig:=@Nat.gcd_dvd_left
def Qih:=@Nat.gcd_dvd_right
def Qii:=@Bool.and_true
def Qij:=@Bool.and_self
def Qik:=@Int.natCast_dvd_natCast
def Qil:=@List.any_eq_true
def Qim:=@List.drop_zero
def Qin:=@Nat.dvd_trans
def Qio:=@Int.mul_pos
def Qip:=@Int.zero_mul
def Qiq:=@Int.mul_le_mul_of_nonneg_right
def Qir:=@Int.mul_le_mul_of_nonneg_left
def Qis:=@List.not_mem_nil
def Qit:=@Int.mul_tdiv_cancel'
def Qiu:=@List.mem_singleton
def Qiv:=@Int.dvd_natAbs
def Qiw:=@List.take_succ_eq_append_getElem
def Qix:=@Bool.not_eq_true
def Qiy:=@Int.nonneg_of_mul_nonneg_right
def Qiz:=@List.take_append_of_le_length
def Qiaa:=@Nat.lt_or_gt_of_ne
def Qiab:=@Nat.gcd_zero_left
def Qiac:=@Int.eq_of_mul_eq_mul_left
def Qiad:=@Nat.beq_refl
def Qiae:=@Int.mul_zero
def Qiaf:=@List.length_drop
def Qiag:=@List.pairwise_mergeSort
def Qiah:=@List.pairwise_singleton
def Qiai:=@List.mem_append
def Qiaj:=@Int.neg_mul
def Qiak:=@List.drop_eq_nil_of_le
namespace Go.Ev.Ce
open Go Go.Ev Go.Ev.L Go.Proofs
def inn(l:PLq)(x:Pt):Bool:=l.all λp=>!decide (rm p x<0)
def eqX(x q:Pt):Bool:=q.px==x.px&&(q.py==x.py&&(q.pz==x.pz&&(q.pw==x.pw&&true)))
theorem ee7(x q:Pt):eqX x q=true↔q=x:=by
 unfold eqX;simp only[Qii,Qas,beq_iff_eq];exact⟨λ⟨h1,h2,h3,h4⟩=>by cases q;cases x;simp_all,λh=>by subst h;exact⟨rfl,rfl,rfl,rfl⟩⟩
def Pe5(l:List Pt)(x:Pt):Bool:=l.any (eqX x)
theorem Ae7(l:List Pt)(x:Pt):Pe5 l x=true↔x∈l:=by
 unfold Pe5;rw[Qil];exact⟨λ⟨q,h,e⟩=>(ee7 x q).1 e ▸ h,λh=>⟨x,h,(ee7 x x).2 rfl⟩⟩
def smb(n x:Int):Bool:=!decide (x < -n)&&!decide (x>n)
theorem Pb8(n x:Int):smb n x=true↔Sm n x:=by unfold smb Sm;simp only[Qas,Qcc,decide_eq_false_iff_not];omega
theorem id3(n:Int)(l:List Int)(hn:0<=n/\n<=1000000000)(hl:l.length<=1000000000):Ca7 n l=some (b (l.all (smb n)),[]):=by
 have hW:W (0-n)=-n:=by rw[ia6 (by omega) (by omega)];omega
 have h:=Xd0 (step:=na7 ⟨n,l,(l.length:Int)⟩) (mk:=λj=>(⟨(j:Int)⟩:L3)) (c:=λx=>!smb n x) (u:=1) (fin:=2) tI l hl
  (λj hj=>by
   simp only[na7,wa5,Int.toNat_natCast,D2 hj (by omega),hW]
   rw[bt (Da8 hj),bt (i9 hj)];unfold smb;cases decide (gL tI l j < -n)<;>cases decide (gL tI l j>n)<;>rfl)
  (by simp only[na7,wa5];rw[bf (oa2 (Qid _))]) 0 (Qbw _)
 rw[Qim] at h;unfold Ca7;simp only[i8,j6];rw[show (⟨0⟩:L3)=⟨((0:Nat):Int)⟩ from rfl,h]
 have e:(l.any λx=>!smb n x)=!l.all (smb n):=by rw[List.not_all_eq_any_not]
 rw[e];cases l.all (smb n)<;>rfl
theorem Ic2(n:Int)(l:List Int)(hn:0<=n/\n<=1000000000)(hl:l.length<=1000000000):ra4 n l=l.all (smb n):=by unfold ra4;rw[id3 n l hn hl];rfl
theorem Ic3(n:Int)(l:List Int)(hn:0<=n/\n<=1000000000)(hl:l.length<=1000000000):ra5 n l=true:=by unfold ra5;rw[id3 n l hn hl];rfl
theorem Md0{n:Int}(h:Sm 1000000000000000000 n):Ha7 n=(n.natAbs:Int):=by
 unfold Ha7;obtain⟨h1,h2⟩:=h;rw[ia6 (by omega) (by omega)]
 split<;>omega
theorem xc3{n:Int}(h:Sm 1000000000000000000 n):Va0 n=some (i (n.natAbs:Int),[]):=by
 unfold Va0;obtain⟨h1,h2⟩:=h;rw[ia6 (by omega) (by omega)]
 by_cases h:n<0
 ·rw[bt (decide_eq_true h)];congr 3;omega
 ·rw[bf (decide_eq_false h)];congr 3;omega
theorem ac9{n:Int}(h:Sm 1000000000000000000 n):Ca5 n=(n.natAbs:Int):=by unfold Ca5;rw[xc3 h];rfl
theorem bc0{n:Int}(h:Sm 1000000000000000000 n):Ca6 n=true:=by unfold Ca6;rw[xc3 h];rfl
def g3(v:V3):Int:=(Nat.gcd (Nat.gcd v.x.natAbs v.y.natAbs) v.z.natAbs:Nat)
theorem Ae8(g n:Nat):eu (g:Int) (n:Int)=(Nat.gcd g n:Nat):=by rw[ef8 (by omega) (by omega)];rfl
theorem od0(P:aa1)(g n:Nat)(hn:n<=1000000000000000000):lp (X1 P) ⟨(g:Int),(n:Int)⟩=(1,⟨(Nat.gcd g n:Nat),0⟩):=by
 have:=Oc0 (step:=X1 P) (mk:=λg n=>(⟨g,n⟩:N4)) (λg n h=>by
  have h0:n≠0:=by omega
  simp[X1,qa5,pc5,h,h0]) (λg=>by simp[X1,qa5,pc5]) (g:Int) (n:Int) (by omega) (by omega) (by omega)
 rw[this,Ae8]
theorem id4(l:List Int)(hl:l.length<=1000000000)(hb:∀x∈l,Sm 1000000000000000000 x):xa7 l=some (i (l.foldl (λg x=>Nat.gcd g x.natAbs) 0:Nat),[]):=by
 have h := Pe0 (step := ha6 ⟨(l.length : Int)⟩) (mk := fun j (a : Nat) => (⟨(a : Int), l, (j : Int)⟩ : I4)) (f := fun g x => Nat.gcd g x.natAbs) (fin := 2) tI l (fun _ _ => True) hl (fun j a hj _ => ⟨by
   have hm:=hb _ (Qa8 tI hj);have hne:(gL tI l j==(-9223372036854775808:Int))=false:=by
    have:=hm.1
    rw[beq_eq_false_iff_ne];omega
   have hs:(gL tI l j).natAbs<=1000000000000000000:=by obtain⟨h1,h2⟩:=hm;omega
   simp only[ha6,qa6,Int.toNat_natCast,i8,j6,Md0 hm,od0 _ _ _ hs,D2 hj (by omega)]
   rw[bt (Da8 hj),bt (i9 hj),bf hne]
   rfl,trivial⟩) (λa _=>by simp only[ha6,qa6];rw[bf (oa2 (Qid _))]) 0 (Qbw _) 0 trivial
 have h:=h.1;rw[Qim] at h;unfold xa7;simp only[i8,j6];rw[show (⟨0,l,0⟩:I4)=⟨((0:Nat):Int),l,((0:Nat):Int)⟩ from rfl,h]
 rfl
def okp(p:Pln):Bool:=[p.n.x,p.n.y,p.n.z].all (smb 4608)&&(g3 p.n==1&&[p.b].all (smb 2097152))
theorem ff5(p:Pln):Bd p↔[p.n.x,p.n.y,p.n.z].all (smb 4608)=true/\[p.b].all (smb 2097152)=true:=by
 simp only[List.all_cons,List.all_nil,Qii,Qas,Pb8,Sm];exact⟨λh=>⟨⟨⟨h.x1,h.x2⟩,⟨h.y1,h.y2⟩,h.z1,h.z2⟩,h.b1,h.b2⟩,λ⟨⟨⟨a,b⟩,⟨c,d⟩,e,f⟩,g,h⟩=>⟨a,b,c,d,e,f,g,h⟩⟩
theorem Ic4{p:Pln}(h:okp p=true):Bd p:=by
 unfold okp at h;rw[Qas,Qas] at h;exact (ff5 p).2 ⟨h.1,h.2.2⟩
theorem sm3{v:V3}(h:[v.x,v.y,v.z].all (smb 4608)=true):Sm 4608 v.x/\Sm 4608 v.y/\Sm 4608 v.z:=by
 simpa only[List.all_cons,List.all_nil,Qii,Qas,Pb8] using h
theorem Md1(p:Pln):Ka8 p=some (b (okp p),[]):=by
 unfold Ka8 okp;have l3:[p.n.x,p.n.y,p.n.z].length<=1000000000:=by simp
 have l1:[p.b].length<=1000000000:=by simp
 simp only[Ic2 4608 _ (by omega) l3,Ic3 4608 _ (by omega) l3,Ic2 2097152 _ (by omega) l1,Ic3 2097152 _ (by omega) l1]
 cases hw:[p.n.x,p.n.y,p.n.z].all (smb 4608) with
 |false=>rfl
 |true =>
  obtain⟨h1,h2,h3⟩:=sm3 hw;have hd:=id4 [p.n.x,p.n.y,p.n.z] l3 (by
   intro x hx;simp only[Qbi,Qis,or_false] at hx
   rcases hx with rfl|rfl|rfl
   ·exact h1.mono (by omega)
   ·exact h2.mono (by omega)
   ·exact h3.mono (by omega))
  have hg:([p.n.x,p.n.y,p.n.z].foldl (λg x=>Nat.gcd g x.natAbs) 0:Nat)=Nat.gcd (Nat.gcd p.n.x.natAbs p.n.y.natAbs) p.n.z.natAbs:=by
   simp only[List.foldl_cons,List.foldl_nil,Qiab]
  have hp:ca4 [p.n.x,p.n.y,p.n.z]=g3 p.n:=by unfold ca4;rw[hd,hg];rfl
  have hgd:ca5 [p.n.x,p.n.y,p.n.z]=true:=by unfold ca5;rw[hd];rfl
  rw[hp,hgd];cases g3 p.n==1<;>rfl
theorem Pe6(p:Pln):cb0 p=okp p:=by unfold cb0;rw[Md1 p];rfl
theorem Pe7(p:Pln):cb1 p=true:=by unfold cb1;rw[Md1 p];rfl
theorem Ic5(P:Ha6)(g n:Nat)(hn:n<=1000000000000000000):lp (pa4 P) ⟨(g:Int),(n:Int)⟩=(1,⟨(Nat.gcd g n:Nat),0⟩):=by
 have:=Oc0 (step:=pa4 P) (mk:=λg n=>(⟨g,n⟩:ea0)) (λg n h=>by
  have h0:n≠0:=by omega
  simp[pa4,rb0,pc5,h,h0]) (λg=>by simp[pa4,rb0,pc5]) (g:Int) (n:Int) (by omega) (by omega) (by omega)
 rw[this,Ae8]
theorem Ad6{v:V3}(h1:Sm 1000000000000000000 v.x)(h2:Sm 1000000000000000000 v.y)(h3:Sm 1000000000000000000 v.z) :
  Pb0 v=if g3 v=0 then some (.tup [.agg (tV.row ⟨0,0,0⟩),i 0],[]) else some (.tup [.agg (tV.row ⟨W (Int.tdiv v.x (g3 v)),W (Int.tdiv v.y (g3 v)),W (Int.tdiv v.z (g3 v))⟩),i (g3 v)],[]):=by
 have ne:∀{x:Int},Sm 1000000000000000000 x->(x==(-9223372036854775808:Int))=false:=λ{x} h=>by
  have:=h.1
  rw[beq_eq_false_iff_ne];omega
 have bd:∀{x:Int},Sm 1000000000000000000 x->x.natAbs<=1000000000000000000:=λ{x} h=>by obtain⟨h1,h2⟩:=h;omega
 have l1:=Ic5 ⟨0,v.x,v.y,v.z,v.x,v.y,v.z⟩ 0 v.x.natAbs (bd h1);rw[Qiab] at l1;have l2:=Ic5 ⟨1,v.x,v.y,v.z,v.x,v.y,v.z⟩ v.x.natAbs v.y.natAbs (bd h2);have l3:=Ic5 ⟨2,v.x,v.y,v.z,v.x,v.y,v.z⟩ (Nat.gcd v.x.natAbs v.y.natAbs) v.z.natAbs (bd h3);unfold Pb0;simp only[ac9 h1,ac9 h2,ac9 h3,bc0 h1,bc0 h2,bc0 h3];rw[show (⟨0,(v.x.natAbs:Int)⟩:ea0)=⟨((0:Nat):Int),(v.x.natAbs:Int)⟩ from rfl]
 simp only[l1,l2,l3,ne h1,ne h2,ne h3];rw[show ((Nat.gcd (Nat.gcd v.x.natAbs v.y.natAbs) v.z.natAbs:Nat):Int)=g3 v from rfl]
 by_cases h:g3 v=0
 ·rw[if_pos h,show (g3 v==0)=true from by rw[h];rfl];rfl
 ·rw[if_neg h,show (g3 v==0)=false from by rw[beq_eq_false_iff_ne];exact h];rfl
theorem id5{v:V3}(h1:Sm 1000000000000000000 v.x)(h2:Sm 1000000000000000000 v.y)(h3:Sm 1000000000000000000 v.z):(ab1 v).2=g3 v:=by
 unfold ab1;rw[Ad6 h1 h2 h3];split
 ·rename_i h;rw[h];rfl
 ·rfl
theorem ff6{v:V3}(h1:Sm 1000000000000000000 v.x)(h2:Sm 1000000000000000000 v.y)(h3:Sm 1000000000000000000 v.z)(h:g3 v≠0):ab1 v=(⟨W (Int.tdiv v.x (g3 v)),W (Int.tdiv v.y (g3 v)),W (Int.tdiv v.z (g3 v))⟩,g3 v):=by
 unfold ab1;rw[Ad6 h1 h2 h3,if_neg h];rfl
theorem Ae9{v:V3}(h1:Sm 1000000000000000000 v.x)(h2:Sm 1000000000000000000 v.y)(h3:Sm 1000000000000000000 v.z):Pb1 v=true:=by
 unfold Pb1;rw[Ad6 h1 h2 h3]
 split<;>rfl
theorem oe3(p:Pln):Ab2 p=some (b (okp p),[]):=by
 unfold Ab2 okp;cases hw:[p.n.x,p.n.y,p.n.z].all (smb 4608) with
 |false =>
  simp only[List.all_cons,List.all_nil,Qii,smb] at hw;cases h1:decide (p.n.x < -4608)<;>cases h2:decide (p.n.x>4608)<;>cases h3:decide (p.n.y < -4608)<;>cases h4:decide (p.n.y>4608)<;>cases h5:decide (p.n.z < -4608)<;>cases h6:decide (p.n.z>4608)<;>simp only[h1,h2,h3,h4,h5,h6] at hw ⊢<;>first | rfl | cases hw
 |true =>
  obtain⟨h1,h2,h3⟩:=sm3 hw;rw[bf (decide_eq_false (by have:=h1.1;omega)),bf (decide_eq_false (by have:=h1.2;omega)),bf (decide_eq_false (by have:=h2.1;omega)),bf (decide_eq_false (by have:=h2.2;omega)),bf (decide_eq_false (by have:=h3.1;omega)),bf (decide_eq_false (by have:=h3.2;omega))]
  have k1:=h1.mono (m:=1000000000000000000) (by omega)
  have k2:=h2.mono (m:=1000000000000000000) (by omega)
  have k3:=h3.mono (m:=1000000000000000000) (by omega)
  rw[bt (Ae9 k1 k2 k3),id5 k1 k2 k3];cases g3 p.n==1 with
  |false=>rfl
  |true =>
   simp only[List.all_cons,List.all_nil,Qii,smb,Bool.true_and];rw[g7];by_cases ha:p.b < -2097152
   ·rw[bf (decide_eq_false (by omega)),show decide (p.b < -2097152)=true from decide_eq_true ha];rfl
   ·rw[bt (decide_eq_true (by omega)),show decide (p.b < -2097152)=false from decide_eq_false ha]
    congr 3;by_cases hc:p.b<=2097152
    ·rw[decide_eq_true hc,decide_eq_false (by omega)];rfl
    ·rw[decide_eq_false hc,decide_eq_true (by omega)];rfl
theorem Be0(p:Pln):Zb0 p=true:=by unfold Zb0;rw[oe3 p];rfl
def chk(l:PLq):Int:=if (l.length:Int)>48 then 2 else if l.all okp then 0 else 12
theorem id6{l:PLq}:chk l=0↔l.length<=48/\∀p∈l,okp p=true:=by
 unfold chk;by_cases hn:(l.length:Int)>48
 ·rw[if_pos hn];exact⟨λh=>absurd h (by decide),λh=>by omega⟩
 ·rw[if_neg hn];cases h:l.all okp with
  |true=>exact⟨λ_=>⟨by omega,Qcb.1 h⟩,λ_=>rfl⟩
  |false=>exact⟨λh=>absurd h (by decide),λh'=>by rw[Qcb.2 h'.2] at h;cases h⟩
theorem btD{p:Prop}{inst:Decidable p}(h:p){α:Type}(t e:α):sl (@decide p inst) t e=t:=bt (decide_eq_true h) t e
theorem bfD{p:Prop}{inst:Decidable p}(h:¬ p){α:Type}(t e:α):sl (@decide p inst) t e=e:=bf (decide_eq_false h) t e
theorem Q6{j n:Nat}(h:j<n):(j:Int)<(n:Int):=Int.ofNat_lt.2 h
theorem Z3{j n:Nat}(h:¬ j<n):¬ (j:Int)<(n:Int):=λh'=>h (Int.ofNat_lt.1 h')
def xc4(r:PLq)(p q:Pln)(out:List Pt)(s:Pln):List Pt :=
 if (mpt p q s).2&&(!Pe5 out (mpt p q s).1&&inn r (mpt p q s).1) then out++[(mpt p q s).1] else out
def oe4(r:PLq)(p q:Pln)(l:PLq)(out:List Pt):List Pt:=l.foldl (xc4 r p q) out
def Md2(r:PLq)(p:Pln):PLq->List Pt->List Pt
 |[],out=>out
 |q::l,out=>Md2 r p l (oe4 r p q l out)
def Xd3(r:PLq):PLq->List Pt->List Pt
 |[],out=>out
 |p::l,out=>Xd3 r l (Md2 r p l out)
def cor(r:PLq):List Pt:=Xd3 r r []
def Bds(r:PLq):Prop:=∀p∈r,Bd p
def ph(out:List Pt):Nat:=match out with
 |[]=>0
 |_::_=>1
theorem ee8{α:Type}(t:Ty α)(l:List α)(n k:Nat):gL t (l.drop n) k=gL t l (n+k):=by simp[gL,Qda,Qbf]
theorem oe5{ρ:Type}(R:RR ρ){x:a7×List b7}{r:ρ}(h:R.rd x=some r):O8 R (some x)=r:=by
 show Option.rec (motive:=λ_=>ρ) R.d (λx=>x) (R.rd x)=r
 rw[h]
theorem Be1{ρ:Type}(R:RR ρ){x:a7×List b7}{r:ρ}(h:R.rd x=some r):okO R (some x)=true:=by
 show Option.rec (motive:=λ_=>Bool) false (λ_=>true) (R.rd x)=true
 rw[h]
@[reducible] def flK:List (Nat×CK):=[(0,.int .i64),(1,.int .i64),(2,.int .i64),(3,.int .i64)]
theorem ff7(s:Pln):((Nat.ble 4 (len (tP.row s)))&&(Ib3 [CK.int .i64,CK.int .i64,CK.int .i64,CK.int .i64] (tP.row s)))=true:=rfl
theorem qf9{α:Type}(t:Ty α)(l:List α):(one (r1L t)).rd (eL t l,[])=some l:=by
 show Bool.rec (motive:=λ_=>Option (List α)) none (some (rt t l)) (Bool.and (Nat.beq t.es t.es) (okE t l))=_
 rw[i8,G3,Qiad];rfl
def ws:PLq:=[⟨⟨1,0,0⟩,24⟩,⟨⟨-1,0,0⟩,24⟩,⟨⟨0,1,0⟩,24⟩,⟨⟨0,-1,0⟩,24⟩,⟨⟨0,0,1⟩,24⟩,⟨⟨0,0,-1⟩,24⟩]
theorem rf0:Bds ws:=by
 intro p hp
 have:okp p=true:=by
  have h:ws.all okp=true:=by decide
  exact Qcb.1 h p hp
 exact Ic4 this
def pos(X:List Pt)(p:Pln):Bool:=X.any λx=>decide (rm p x>0)
def Pe8(r:PLq):Bool:=r.all (pos (cor r))
theorem Pe9{c:PLq}(h:(chk c==0)=true):Bds (c++ws)/\(c++ws).length<=200:=by
 rw[beq_iff_eq,id6] at h;refine⟨λp hp=>?_,by rw[Qdc,show ws.length=6 from rfl];omega⟩
 rcases Qiai.1 hp with hp|hp
 ·exact Ic4 (h.2 p hp)
 ·exact rf0 p hp
def pts(c:PLq):List Pt:=if chk c==0 then cor (c++ws) else []
def ful(c:PLq):Bool:=(chk c==0)&&Pe8 (c++ws)
theorem Md3{Q:Pt->Prop}(r:PLq)(p q:Pln):∀(l:PLq) (out:List Pt),(∀s∈l,(mpt p q s).2=true->inn r (mpt p q s).1=true->Q (mpt p q s).1)->(∀x∈out,Q x)->∀x∈oe4 r p q l out,Q x
 |[],out,_,h=>h
 |s::l,out,hs,h=>Md3 r p q l (xc4 r p q out s) (λt ht=>hs t (Qck _ ht)) λx hx=>by
  unfold xc4 at hx
  split at hx
  ·rename_i hc;rw[Qas,Qas] at hc
   rcases Qiai.1 hx with hx|hx
   ·exact h x hx
   ·rw[Qiu] at hx;subst hx;exact hs s Qch hc.1 hc.2.2
  ·exact h x hx
theorem Md4{Q:Pt->Prop}(r:PLq)(p:Pln):∀(l:PLq) (out:List Pt),(∀q∈l,∀s∈l,(mpt p q s).2=true->inn r (mpt p q s).1=true->Q (mpt p q s).1)->(∀x∈out,Q x)->∀x∈Md2 r p l out,Q x
 |[],out,_,h=>h
 |q::l,out,hs,h=>Md4 r p l _ (λa ha t ht=>hs a (Qck _ ha) t (Qck _ ht)) (Md3 r p q l out (λt ht=>hs q Qch t (Qck _ ht)) h)
theorem Md5{Q:Pt->Prop}(r:PLq):∀(l:PLq) (out:List Pt),(∀p∈l,∀q∈l,∀s∈l,(mpt p q s).2=true->inn r (mpt p q s).1=true->Q (mpt p q s).1)->(∀x∈out,Q x)->∀x∈Xd3 r l out,Q x
 |[],out,_,h=>h
 |p::l,out,hs,h=>Md5 r l _ (λa ha c hc t ht=>hs a (Qck _ ha) c (Qck _ hc) t (Qck _ ht)) (Md4 r p l out (λc hc t ht=>hs p Qch c (Qck _ hc) t (Qck _ ht)) h)
theorem ee9{Q:Pt->Prop}{r:PLq}(hs:∀p∈r,∀q∈r,∀s∈r,(mpt p q s).2=true->inn r (mpt p q s).1=true->Q (mpt p q s).1):∀x∈cor r,Q x :=
 Md5 r r [] hs λx hx=>by cases hx
structure Okx(x:Pt):Prop where
 w1:0<x.pw
 w2:x.pw<=600000000000
 c1:Sm 300000000000000 x.px
 c2:Sm 300000000000000 x.py
 c3:Sm 300000000000000 x.pz
theorem Ad7{r:PLq}(hb:Bds r):∀x∈cor r,Okx x:=ee9 λp hp q hq s hs h _=>by
 obtain⟨h1,h2,h3,h4,h5⟩:=Xd2 (hb p hp) (hb q hq) (hb s hs) h;exact⟨h1,h5,h2,h3,h4⟩
theorem Sm.neg{n x:Int}(h:Sm n x):Sm n (-x):=⟨by have:=h.2;omega,by have:=h.1;omega⟩
def Nx{σ:Type}(x:Stp σ)(E:Nat->Prop)(N:σ->Prop):Prop:=(∃t,x=.exit t/\E t)\/∃s,x=.next s/\N s
theorem Nx.sl{σ:Type}{c:Bool}{t e:Stp σ}{E:Nat->Prop}{N:σ->Prop}(h1:c=true->Nx t E N)(h2:c=false->Nx e E N):Nx (sl c t e) E N:=by cases c;exact h2 rfl;exact h1 rfl
theorem Nx.ex{σ:Type}{t:Nat}{E:Nat->Prop}{N:σ->Prop}(h:E t):Nx (.exit t) E N:=.inl ⟨t,rfl,h⟩
theorem Nx.nx{σ:Type}{s:σ}{E:Nat->Prop}{N:σ->Prop}(h:N s):Nx (.next s) E N:=.inr ⟨s,rfl,h⟩
theorem Qa2{σ τ:Type}{step:σ->Stp σ}{mk:Nat->τ->σ}(n:Nat)(I:Nat->τ->Prop)(E:Nat->σ->Prop)(hn:n<=1000000000)
  (h:∀j a,j<n->I j a->Nx (step (mk j a)) (λt=>E t (mk j a)) (λs=>∃a',s=mk (j+1) a'/\I (j+1) a'))
  (hf:∀j a,n<=j->I j a->∃t,step (mk j a)=.exit t/\E t (mk j a)) (j0:Nat) (a:τ) (hi:I j0 a):∃t s,lp step (mk j0 a)=(t,s)/\E t s:=by
 have key:=Zb9 (step:=step) (I:=λm s=>∃j a,m=n-j/\s=mk j a/\I j a) (Q:=E) (λm s ⟨j,a,hm,hs,ha⟩=>by
  subst hs;by_cases hlt:j<n
  ·rcases h j a hlt ha with h1|⟨s',h1,a',h2,h3⟩
   ·exact .inl h1
   ·subst h2;exact .inr ⟨_,n-(j+1),by omega,h1,j+1,a',rfl,rfl,h3⟩
  ·exact .inl (hf j a (by omega) ha)) (n-j0) (mk j0 a) (by omega) ⟨j0,a,rfl,rfl,hi⟩
 exact⟨_,_,rfl,key⟩
def Rd{ρ:Type}(R:RR ρ)(o:ROq)(P:ρ->Prop):Prop:=∃x r,o=some x/\R.rd x=some r/\P r
theorem Rd.p{ρ:Type}{R:RR ρ}{o:ROq}{P:ρ->Prop}(h:Rd R o P):P (O8 R o):=by
 obtain⟨x,r,h1,h2,h3⟩:=h;rw[h1,oe5 R h2];exact h3
theorem Rd.g{ρ:Type}{R:RR ρ}{o:ROq}{P:ρ->Prop}(h:Rd R o P):okO R o=true:=by
 obtain⟨x,r,h1,h2,h3⟩:=h;rw[h1];exact Be1 R h2
theorem Rd.sl{ρ:Type}{R:RR ρ}{c:Bool}{t e:ROq}{P:ρ->Prop}(h1:c=true->Rd R t P)(h2:c=false->Rd R e P):Rd R (sl c t e) P:=by cases c;exact h2 rfl;exact h1 rfl
def inV(v:V3):Bool:=smb 24 v.x&&(smb 24 v.y&&smb 24 v.z)
theorem Bb3(v:V3):inV v=true↔Sm 24 v.x/\Sm 24 v.y/\Sm 24 v.z:=by unfold inV;rw[Qas,Qas,Pb8,Pb8,Pb8]
theorem Be2(v:V3):vc8 v=some (b (inV v),[]):=by
 unfold vc8 inV smb;cases h1:decide (v.x < -24)<;>cases h2:decide (v.x>24)<;>cases h3:decide (v.y < -24)<;>cases h4:decide (v.y>24)<;>cases h5:decide (v.z < -24)<;>cases h6:decide (v.z>24)<;>rfl
theorem rf1(v:V3):Jb9 v=inV v:=by unfold Jb9;rw[Be2];rfl
theorem Ye2(v:V3):Kb0 v=true:=by unfold Kb0;rw[Be2];rfl
def sub(a b:V3):V3:=⟨a.x-b.x,a.y-b.y,a.z-b.z⟩
theorem fe0{a b:V3}(ha:inV a=true)(hb:inV b=true):pb5 a b=sub a b/\Sm 48 (sub a b).x/\Sm 48 (sub a b).y/\Sm 48 (sub a b).z:=by
 rw[Bb3] at ha hb;obtain⟨⟨a1,a2⟩,⟨a3,a4⟩,a5,a6⟩:=ha;obtain⟨⟨b1,b2⟩,⟨b3,b4⟩,b5,b6⟩:=hb;unfold pb5 sub;rw[ia6 (by omega) (by omega),ia6 (by omega) (by omega),ia6 (by omega) (by omega)]
 exact⟨rfl,⟨by show _<=a.x-b.x;omega,by show a.x-b.x<=_;omega⟩,⟨by show _<=a.y-b.y;omega,by show a.y-b.y<=_;omega⟩,⟨by show _<=a.z-b.z;omega,by show a.z-b.z<=_;omega⟩⟩
theorem Eb9{a b c:V3}(ha:inV a=true)(hb:inV b=true)(hc:inV c=true) :
  Ab1 (pb5 b a) (pb5 c a)=d7 (sub b a) (sub c a)/\Sm 4608 (d7 (sub b a) (sub c a)).x/\Sm 4608 (d7 (sub b a) (sub c a)).y/\Sm 4608 (d7 (sub b a) (sub c a)).z:=by
 obtain⟨e1,⟨u1,u2⟩,⟨u3,u4⟩,u5,u6⟩:=fe0 hb ha;obtain⟨e2,⟨v1,v2⟩,⟨v3,v4⟩,v5,v6⟩:=fe0 hc ha;rw[e1,e2,Pe4];generalize sub b a=p at *
 generalize sub c a=q at *
 have h1:=mb u3 u4 v5 v6;have h2:=mb u5 u6 v3 v4;have h3:=mb u5 u6 v1 v2;have h4:=mb u1 u2 v5 v6;have h5:=mb u1 u2 v3 v4;have h6:=mb u3 u4 v1 v2;have k:Sm 4608 (d7 p q).x/\Sm 4608 (d7 p q).y/\Sm 4608 (d7 p q).z:=by unfold Sm d7;simp only;omega
 obtain⟨k1,k2,k3⟩:=k;rw[Ic1 (k1.mono (by omega)),Ic1 (k2.mono (by omega)),Ic1 (k3.mono (by omega))]
 exact⟨rfl,k1,k2,k3⟩
def I6(a b c:V3):Pln×Bool :=
 if inV a&&(inV b&&inV c) then
  if g3 (d7 (sub b a) (sub c a))=0 then (⟨⟨0,0,0⟩,0⟩,false)
  else (⟨⟨Int.tdiv (d7 (sub b a) (sub c a)).x (g3 (d7 (sub b a) (sub c a))),Int.tdiv (d7 (sub b a) (sub c a)).y (g3 (d7 (sub b a) (sub c a))),Int.tdiv (d7 (sub b a) (sub c a)).z (g3 (d7 (sub b a) (sub c a)))⟩,
   dot ⟨Int.tdiv (d7 (sub b a) (sub c a)).x (g3 (d7 (sub b a) (sub c a))),Int.tdiv (d7 (sub b a) (sub c a)).y (g3 (d7 (sub b a) (sub c a))),Int.tdiv (d7 (sub b a) (sub c a)).z (g3 (d7 (sub b a) (sub c a)))⟩ a⟩,true)
 else (⟨⟨0,0,0⟩,0⟩,false)
theorem gc7(v:V3):0<=g3 v:=by unfold g3;omega
theorem Xd4(a c d:V3):cb2 a c d=some (.tup [.agg (tP.row (I6 a c d).1),b (I6 a c d).2],[]):=by
 unfold cb2 I6;simp only[rf1,Ye2];cases ha:inV a with
 |false=>rfl
 |true =>
  cases hc:inV c with
  |false=>rfl
  |true =>
   cases hd:inV d with
   |false=>rfl
   |true =>
    obtain⟨e,k1,k2,k3⟩:=Eb9 ha hc hd;rw[e];generalize d7 (sub c a) (sub d a)=n at *
    have m1:=k1.mono (m:=1000000000000000000) (by omega)
    have m2:=k2.mono (m:=1000000000000000000) (by omega)
    have m3:=k3.mono (m:=1000000000000000000) (by omega)
    rw[Ae9 m1 m2 m3,id5 m1 m2 m3];by_cases h0:g3 n=0
    ·rw[show (g3 n==0)=true from by rw[h0];rfl]
     simp only[Qij,if_true,h0];rfl
    ·have hp:=gc7 n;have q1:=oa3 (g:=g3 n) k1 (by omega)
     have q2:=oa3 (g:=g3 n) k2 (by omega)
     have q3:=oa3 (g:=g3 n) k3 (by omega)
     rw[show (g3 n==0)=false from by rw[beq_eq_false_iff_ne];exact h0,ff6 m1 m2 m3 h0]
     simp only[Qij,if_true,h0,if_false];rw[Ic1 (q1.mono (by omega)),Ic1 (q2.mono (by omega)),Ic1 (q3.mono (by omega))]
     have hdot:gc4 ⟨Int.tdiv n.x (g3 n),Int.tdiv n.y (g3 n),Int.tdiv n.z (g3 n)⟩ a=dot ⟨Int.tdiv n.x (g3 n),Int.tdiv n.y (g3 n),Int.tdiv n.z (g3 n)⟩ a:=by
      unfold gc4;simp only[gd8,Ad4];obtain⟨⟨a1,a2⟩,⟨a3,a4⟩,a5,a6⟩:=(Bb3 a).1 ha;have r1:=mb q1.1 q1.2 a1 a2;have r2:=mb q2.1 q2.2 a3 a4;have r3:=mb q3.1 q3.2 a5 a6;rw[ia6 (by omega) (by omega)]
      rfl
     rw[hdot];rfl
theorem oe6(a b c:V3):Db3 a b c=true:=by unfold Db3;rw[Xd4];rfl
theorem Qe0(p:Pln)(v:V3):Rd (one r1I) (Pb4 p v) (λ_=>True):=by
 unfold Pb4;simp only[Be0,Ye2,g7];exact Rd.sl (λ_=>⟨_,_,rfl,rfl,trivial⟩) λ_=>Rd.sl (λ_=>⟨_,_,rfl,rfl,trivial⟩) λ_=>Rd.sl (λ_=>⟨_,_,rfl,rfl,trivial⟩) λ_=>Rd.sl (λ_=>⟨_,_,rfl,rfl,trivial⟩) λ_=>⟨_,_,rfl,rfl,trivial⟩
theorem ff8(p:Pln)(v:V3):fd5 p v=true:=(Qe0 p v).g
theorem rf2(P:Va3)(hl:P.f8.length<=1000000000):∃t s,lp (La0 P) ⟨0⟩=(t,s)/\(t=1\/t=2\/t=3):=by
 obtain⟨l,x1,x2,x3,x4,x5,x6,x7,x8⟩:=P;refine Qa2 (step:=La0 ⟨l,x1,x2,x3,x4,x5,x6,x7,x8⟩) (mk:=λj (_:Unit)=>(⟨(j:Int)⟩:Ha8)) l.length (λ_ _=>True) (λt _=>t=1\/t=2\/t=3) hl (λj a hj _=>?_) (λj a hj _=>?_) 0 () trivial
 ·simp only[La0,rb6,ff8,Int.toNat_natCast,D2 hj (show l.length<=4611686018427387904 from Qai hl (by omega))]
  rw[btD (Q6 hj),bt (i9 hj),g7];exact Nx.sl (λ_=>Nx.sl (λ_=>.ex (by simp)) λ_=>.nx ⟨(),rfl,trivial⟩) λ_=>.ex (by simp)
 ·simp only[La0,rb6];rw[bfD (by omega)]
  exact⟨_,rfl,by simp⟩
theorem rf3(l:List V3)(hl:l.length<=1000000000)(a c:Nat)(ha:a<l.length)(hc:c<a):∃t s,lp (La1 ⟨(a:Int),(c:Int)⟩) ⟨l,0⟩=(t,s)/\((t=1\/t=2)/\s.f8=l):=by
 refine Qa2 (step:=La1 ⟨(a:Int),(c:Int)⟩) (mk:=λj (_:Unit)=>(⟨l,(j:Int)⟩:Ha9)) c (λ_ _=>True) (λt s=>(t=1\/t=2)/\s.f8=l) (by omega) (λj x hj _=>?_) (λj x hj _=>?_) 0 () trivial
 ·simp only[La1,rb7,oe6,Int.toNat_natCast,i8,j6,D2 hj (show c<=4611686018427387904 by omega)]
  rw[btD (Q6 hj),bt (i9 ha),bt (i9 (show c<l.length by omega)),bt (i9 (show j<l.length by omega)),g7]
  generalize hP:Va3.mk _ _ _ _ _ _ _ _ _=P3;obtain⟨t,s,h1,h2⟩:=rf2 P3 (by subst hP;exact hl)
  rw[h1]
  rcases h2 with rfl|rfl|rfl
  ·exact .ex (by simp)
  ·exact .nx ⟨(),rfl,trivial⟩
  ·exact .nx ⟨(),rfl,trivial⟩
 ·simp only[La1,rb7];rw[bfD (by omega)]
  exact⟨_,rfl,by simp⟩
theorem rf4(l:List V3)(hl:l.length<=1000000000)(a:Nat)(ha:a<l.length):∃t s,lp (La2 ⟨(a:Int)⟩) ⟨l,0⟩=(t,s)/\((t=1\/t=2)/\s.f8=l):=by
 refine Qa2 (step:=La2 ⟨(a:Int)⟩) (mk:=λj (_:Unit)=>(⟨l,(j:Int)⟩:Ia0)) a (λ_ _=>True) (λt s=>(t=1\/t=2)/\s.f8=l) (by omega) (λj x hj _=>?_) (λj x hj _=>?_) 0 () trivial
 ·simp only[La2,rb8,i8,j6,D2 hj (show a<=4611686018427387904 by omega)]
  obtain⟨t,s,h1,h2,h3⟩:=rf3 l hl a j ha hj;rw[btD (Q6 hj),h1]
  rcases h2 with rfl|rfl
  ·exact .ex (by simp)
  ·exact .nx ⟨(),by rw[h3],trivial⟩
 ·simp only[La2,rb8];rw[bfD (by omega)]
  exact⟨_,rfl,by simp⟩
theorem Nb6(l:List V3)(hl:l.length<=1000000000):Rd (one r1B) (fd6 l) (λ_=>True):=by
 have key:∃t s,lp (La3 ⟨⟩) ⟨l,0⟩=(t,s)/\(t=1\/t=2):=by
  refine Qa2 (step:=La3 ⟨⟩) (mk:=λj (_:Unit)=>(⟨l,(j:Int)⟩:Ia1)) l.length (λ_ _=>True) (λt s=>t=1\/t=2) hl (λj x hj _=>?_) (λj x hj _=>?_) 0 () trivial
  ·simp only[La3,rb9,i8,j6,D2 hj (show l.length<=4611686018427387904 by omega)]
   obtain⟨t,s,h1,h2,h3⟩:=rf4 l hl j hj;rw[btD (Q6 hj),h1]
   rcases h2 with rfl|rfl
   ·exact .ex (by simp)
   ·exact .nx ⟨(),by rw[h3],trivial⟩
  ·simp only[La3,rb9];rw[bfD (by omega)]
   exact⟨_,rfl,by simp⟩
 obtain⟨t,s,h1,h2⟩:=key;unfold fd6;simp only[i8,j6];rw[h1]
 rcases h2 with rfl|rfl<;>exact⟨_,_,rfl,rfl,trivial⟩
structure Fc(ph:Nat)(out:PLq)(m:Nat):Prop where
 h:(ph=0/\out=[])\/ph=1
 l:out.length<=m
theorem Fc.more{ph m m':Nat}{out:PLq}(h:Fc ph out m)(hm:m<=m'):Fc ph out m':=⟨h.h,Qai h.l hm⟩
theorem ff9{α:Type}(t:Ty α)(k:Nat)(l:List α):(one (r1L t)).rd (.sl 0 0 l.length 0,[⟨k,t.es,bL t l,true,false,0⟩])=some l:=by
 show Bool.rec (motive:=λ_=>Option (List α)) none (some (slR t (bL t l) 0 l.length)) (Bool.and (Nat.beq t.es t.es) (okS t (bL t l) 0 l.length))=_
 rw[yd6,Ud5,Qiad];rfl
theorem Fb0(v:V3):wa6 v=inV v/\wa7 v=true:=by
 have h3:[v.x,v.y,v.z].length<=1000000000:=by simp
 have:rb4 v=some (b (inV v),[]):=by
  unfold rb4 inV;simp only[Ic2 24 _ (by omega) h3,Ic3 24 _ (by omega) h3,g7]
  simp only[List.all_cons,List.all_nil,Qii]
 unfold wa6 wa7;rw[this];exact⟨rfl,rfl⟩
def has(c:PLq)(v:V3):Bool:=(chk c==0)&&(inV v&&inn c ⟨v.x,v.y,v.z,1⟩)
def apart(a c:PLq):Bool:=!((chk a==0)&&(chk c==0))||!Pe8 (a++c++ws)
def Af5(a c:PLq):Bool:=ful a&&((chk c==0)&&(pts a).all (inn c))
def onc(X:List Pt)(p:Pln):Nat:=X.countP λx=>rm p x==0
def keep(X:List Pt)(p:Pln):Bool:=!decide ((onc X p:Int)<3)
theorem xc5{α:Type}(c:α->Bool):∀l:List α,(l.take (l.findIdx c)).filter (λx=>!c x)=l.take (l.findIdx c)
 |[]=>rfl
 |x::l=>by
  rw[List.findIdx_cons];cases h:c x with
  |true=>rfl
  |false =>
   simp only[cond_false,List.take_succ_cons,List.filter_cons,h,Bool.not_false,if_true];rw[xc5 c l]
theorem Xd5{α:Type}(l:List α)(j:Nat)(h:j<l.length):l.take (j+1)=l.take j++[l[j]]:=by rw[Qiw h]
theorem Wc0{α:Type}(t:Ty α){l:List α}{j:Nat}(h:j<l.length):l.take (j+1)=l.take j++[gL t l j]:=by rw[Xd5 l j h,ac0 t h]
theorem Ic6{α:Type}(t:Ty α){l r:List α}{j:Nat}(h:l.drop j=r.drop j):gL t l j=gL t r j:=by
 have h1:=ee8 t l j 0;have h2:=ee8 t r j 0;rw[Nat.add_zero] at h1 h2;rw[<- h1,<- h2,h]
theorem xc6{α:Type}{l r:List α}{j:Nat}(h:l.drop j=r.drop j)(k:Nat):l.drop (j+k)=r.drop (j+k):=by rw[<- List.drop_drop,<- List.drop_drop,h]
structure Del(l:PLq)(f:Pln->Bool)(cur:PLq)(m j:Nat):Prop where
 len:cur.length=l.length
 t:cur.take m=(l.take j).filter f
 d:cur.drop j=l.drop j
 le:m<=j
 lm:m<=l.length
theorem Qe1(l:PLq)(n:Nat):j5 (bL tP l) n=bL tP (l.drop n):=by unfold bL;rw[C7,j7,j7,List.map_drop]
def eqP(x y:Pln):Bool:=x.n.x==y.n.x&&(x.n.y==y.n.y&&(x.n.z==y.n.z&&(x.b==y.b&&true)))
theorem xc7(x y:Pln):eqP x y=true↔x=y:=by
 unfold eqP;simp only[Qii,Qas,beq_iff_eq];refine⟨λ⟨h1,h2,h3,h4⟩=>?_,λh=>by subst h;exact⟨rfl,rfl,rfl,rfl⟩⟩
 obtain⟨⟨x1,x2,x3⟩,x4⟩:=x;obtain⟨⟨y1,y2,y3⟩,y4⟩:=y
 simp only at h1 h2 h3 h4
 subst h1 h2 h3 h4;rfl
def ddF:Pln->PLq->PLq
 |_,[]=>[]
 |a,x::l=>if eqP x a then ddF x l else x::ddF x l
def dd:PLq->PLq
 |[]=>[]
 |x::l=>x::ddF x l
structure Cmp(l:PLq)(n:Nat)(cur:PLq)(m j:Nat)(R:PLq):Prop where
 len:cur.length=l.length
 t:cur.take m++ddF (gL tP l (j-1)) ((l.take n).drop j)=R
 d:cur.drop (j-1)=l.drop (j-1)
 le:m+1<=j
theorem Be3(l:PLq)(n:Nat)(hn:n<=l.length):slR tP (bL tP l) 0 n=l.take n:=cd7 tP (by rw[Qie];omega) λk hk=>by
 rw[Qar,za1 tP (by omega)]
 congr 1;simp[gL,Qda,Qap,hk]
theorem Be4(l:PLq)(n:Nat)(hn:n<=l.length):okS tP (bL tP l) 0 n=true:=Ob1 tP (f:=λk=>gL tP l k) λk hk=>by rw[Qar,za1 tP (by omega)]
end Go.Ev.Ce
namespace Go.Ev.Ce
open Go Go.Ev Go.Ev.L Go.Proofs Go.Sort
theorem id7(l:PLq):List.Perm (kc4 l) l:=List.mergeSort_perm l _
theorem oe7(x y z:Pln)(h1:(!ltOf Db1 y x)=true)(h2:(!ltOf Db1 z y)=true):(!ltOf Db1 z x)=true:=by
 simp only[Qcc,ab4,decide_eq_false_iff_not] at *
 unfold LtP at *
 omega
theorem oe8(x y:Pln):((!ltOf Db1 y x)||!ltOf Db1 x y)=true:=by
 simp only[Qcg,Qcc,ab4,decide_eq_false_iff_not];unfold LtP;omega
theorem Ad8(l:PLq):(kc4 l).Pairwise λx y=>(!ltOf Db1 y x)=true:=Qiag oe7 oe8 l
instance:DecidableEq Pln:=λx y=>decidable_of_iff _ (xc7 x y)
def PC:List Pt:=[⟨0,0,0,1⟩,⟨0,0,1,4⟩,⟨0,1,0,3⟩,⟨1,0,0,2⟩]
end Go.Ev.Ce
namespace Go.Ev.Ce
open Go Go.Ev Go.Ev.L Go.Proofs
set_option maxRecDepth 100000
structure ic9 where
structure bc1 where
structure bc2 where
structure jc0 where
 alt:Nat
structure Ic7 where
structure xc8 where
structure xc9 where
structure Ic8 where
 alt:Nat
structure od1 where
structure od2 where
 alt:Nat
def eb2(l:PLq):Prop:=l.Pairwise LtP
theorem td7{x y z:Pln}(h1:LtP x y)(h2:LtP y z):LtP x z:=by unfold LtP at *;omega
theorem Wc1(x:Pln):¬ LtP x x:=by unfold LtP;omega
theorem fe1(x y:Pln):LtP x y\/x=y\/LtP y x:=by
 by_cases h1:LtP x y
 ·exact .inl h1
 ·by_cases h2:LtP y x
  ·exact .inr (.inr h2)
  ·refine .inr (.inl ?_);unfold LtP at h1 h2;have e1:x.n.x=y.n.x:=by omega
   have e2:x.n.y=y.n.y:=by omega
   have e3:x.n.z=y.n.z:=by omega
   have e4:x.b=y.b:=by omega
   cases x with | mk n b=>cases y with | mk m c=>cases n;cases m;simp_all
theorem gc8:∀{l r:PLq},eb2 l->eb2 r->(∀p,p∈l↔p∈r)->l=r
 |[],[],_,_,_=>rfl
 |[],b::r,_,_,h=>by have:=(h b).2 Qch;cases this
 |a::l,[],_,_,h=>by have:=(h a).1 Qch;cases this
 |a::l,b::r,hl,hr,h=>by
  obtain⟨hl1,hl2⟩:=Qif.1 hl;obtain⟨hr1,hr2⟩:=Qif.1 hr;have hab:a=b:=by
   rcases Qbi.1 ((h a).1 Qch) with e|h1
   ·exact e
   ·rcases Qbi.1 ((h b).2 Qch) with e|h2
    ·exact e.symm
    ·exact absurd (td7 (hr1 a h1) (hl1 b h2)) (Wc1 b)
  subst hab;rw[gc8 hl2 hr2 λp=>?_]
  constructor
  ·intro hp
   rcases Qbi.1 ((h p).1 (Qck _ hp)) with e|h1
   ·subst e;exact absurd (hl1 p hp) (Wc1 p)
   ·exact h1
  ·intro hp
   rcases Qbi.1 ((h p).2 (Qck _ hp)) with e|h1
   ·subst e;exact absurd (hr1 p hp) (Wc1 p)
   ·exact h1
def Ad9:PLq->Pln->PLq
 |[],y=>[y]
 |a::l,y=>if Db1 a y<0 then a::Ad9 l y else if eqP a y then a::l else y::a::l
theorem bc3(y p:Pln):∀x,p∈Ad9 x y↔p=y\/p∈x
 |[]=>by simp[Ad9]
 |a::l=>by
  unfold Ad9;have ih:=bc3 y p l;split
  ·simp only[Qbi,ih];constructor
   ·rintro (h|h|h)
    ·exact .inr (.inl h)
    ·exact .inl h
    ·exact .inr (.inr h)
   ·rintro (h|h|h)
    ·exact .inr (.inl h)
    ·exact .inl h
    ·exact .inr (.inr h)
  ·split
   ·rename_i h;rw[xc7] at h;subst h;simp only[Qbi];constructor
    ·exact λh=>.inr h
    ·rintro (h|h)
     ·exact .inl h
     ·exact h
   ·simp only[Qbi]
theorem yc0(y:Pln):∀{x},eb2 x->eb2 (Ad9 x y)
 |[],_=>Qiah _ _
 |a::l,h=>by
  obtain⟨h1,h2⟩:=Qif.1 h;unfold Ad9;split
  ·rename_i hc;rw[Ad2] at hc;refine Qif.2 ⟨λp hp=>?_,yc0 y h2⟩
   rcases (bc3 y p l).1 hp with e|hp
   ·subst e;exact hc
   ·exact h1 p hp
  ·rename_i hc;rw[Ad2] at hc;split
   ·exact h
   ·rename_i hne;have hlt:LtP y a:=by
     rcases fe1 y a with h|h|h
     ·exact h
     ·exact absurd ((xc7 _ _).2 h.symm) hne
     ·exact absurd h hc
    refine Qif.2 ⟨λp hp=>?_,h⟩
    rcases Qbi.1 hp with e|hp
    ·subst e;exact hlt
    ·exact td7 hlt (h1 p hp)
theorem oe9:kc4 []=[]:=Qbh (gc5 [])
end Go.Ev.Ce
namespace Go.Ev.Ce
def rmZ(p:Pln)(x:Pt):Int:=p.b*x.pw-(p.n.x*x.px+p.n.y*x.py+p.n.z*x.pz)
structure Inr(r:List Pln)(x:Pt):Prop where
 w:0<x.pw
 h:∀p∈r,0<=rmZ p x
def ha0(p:Pln):Pln:=⟨⟨-p.n.x,-p.n.y,-p.n.z⟩,-p.b⟩
theorem tb3(p:Pln)(x:Pt):rmZ (ha0 p) x=-rmZ p x:=by unfold rmZ ha0;grind
structure Cn(r:List Pln)(x:Pt):Prop extends Inr r x where
 c:∃p q s,p∈r/\q∈r/\s∈r/\mw p q s≠0/\rmZ p x=0/\rmZ q x=0/\rmZ s x=0
def Bdd(r:List Pln):Prop:=∀d:V3,d≠⟨0,0,0⟩->∃p∈r,0<dot p.n d
def go(x:Pt)(q:Pln)(d:V3):Pt:=⟨x.px*dot q.n d+rmZ q x*d.x,x.py*dot q.n d+rmZ q x*d.y,x.pz*dot q.n d+rmZ q x*d.z,x.pw*dot q.n d⟩
theorem Md6(p q:Pln)(x:Pt)(d:V3):rmZ p (go x q d)=dot q.n d*rmZ p x-rmZ q x*dot p.n d:=by simp only[rmZ,go,dot];grind
theorem cb9{a b c:Int}(hc:0<c)(h:a*c<=b*c):a<=b:=Int.le_of_mul_le_mul_right h hc
theorem first(x:Pt)(d:V3):∀r:List Pln,(∀p∈r,0<=rmZ p x)->(∃p∈r,0<dot p.n d)->∃q∈r,0<dot q.n d/\∀p∈r,0<dot p.n d->rmZ q x*dot p.n d<=rmZ p x*dot q.n d
 |[],_,h=>by obtain⟨p,hp,_⟩:=h;cases hp
 |a::r,hx,h=>by
  by_cases hr:∃p∈r,0<dot p.n d
  ·obtain⟨q,hq,h1,h2⟩:=first x d r (λp hp=>hx p (Qck _ hp)) hr
   by_cases ha:0<dot a.n d
   ·by_cases hc:rmZ q x*dot a.n d<=rmZ a x*dot q.n d
    ·grind
    ·refine⟨a,Qch,ha,λp hp h3=>?_⟩
     rcases Qbi.1 hp with rfl|hp
     ·exact Int.le_refl _
     ·have h4:=h2 p hp h3;have h5:rmZ a x*dot q.n d<rmZ q x*dot a.n d:=by omega
      have h6:=Qiq h4 (Qib ha);have h7:=Int.mul_lt_mul_of_pos_right h5 h3;have e1:rmZ q x*dot p.n d*dot a.n d=rmZ q x*dot a.n d*dot p.n d:=by grind
      have e2:rmZ a x*dot q.n d*dot p.n d=rmZ a x*dot p.n d*dot q.n d:=by grind
      have e3:rmZ p x*dot q.n d*dot a.n d=rmZ p x*dot a.n d*dot q.n d:=by grind
      refine cb9 h1 ?_;omega
   grind
  grind
theorem step{r:List Pln}{x:Pt}(hx:Inr r x)(d:V3)(h:∃p∈r,0<dot p.n d):∃q∈r,0<dot q.n d/\Inr r (go x q d):=by
 obtain⟨q,hq,h1,h2⟩:=first x d r hx.h h;refine⟨q,hq,h1,⟨Qio hx.w h1,λp hp=>?_⟩⟩
 rw[Md6];have h3:=hx.h p hp;have h4:=hx.h q hq;by_cases h5:0<dot p.n d
 ·grind
 ·have h6:=Qic (Qib h1) h3;have h7:rmZ q x*dot p.n d<=0:=Int.mul_nonpos_of_nonneg_of_nonpos h4 (by omega)
  omega
theorem Be5{h q:Pln}{x:Pt}{d:V3}(h1:0<=rmZ q x)(h2:0<=dot h.n d):rmZ h (go x q d)*x.pw<=rmZ h x*(go x q d).pw\/x.pw<=0:=by
 rcases Int.lt_or_le 0 x.pw with hw|hw
 ·left;rw[Md6]
  have:=Qic h1 h2
  have h3:=Qic this (Qib hw);have e:rmZ h x*(go x q d).pw=dot q.n d*rmZ h x*x.pw:=by unfold go;grind
  grind
 ·exact .inr hw
def neg(d:V3):V3:=⟨-d.x,-d.y,-d.z⟩
theorem Wc2(a d:V3):dot a (neg d)=-dot a d:=by unfold dot neg;grind
theorem Bd0{d:V3}(h:d≠⟨0,0,0⟩):neg d≠⟨0,0,0⟩:=λh'=>h (by
 cases d;unfold neg at h';simp only[V3.mk.injEq] at h' ⊢;omega)
theorem turn(h:Pln){d:V3}(hd:d≠⟨0,0,0⟩):∃e,e≠(⟨0,0,0⟩:V3)/\0<=dot h.n e/\∀a,dot a d=0->dot a e=0:=by
 by_cases h1:0<=dot h.n d
 ·grind
 ·exact⟨neg d,Bd0 hd,by rw[Wc2];omega,λa h=>by rw[Wc2,h];rfl⟩
theorem Qe2{n:V3}(hn:n≠⟨0,0,0⟩):∃d,d≠(⟨0,0,0⟩:V3)/\dot n d=0:=by
 by_cases h:n.x=0/\n.y=0
 ·exact⟨⟨1,0,0⟩,by simp,by unfold dot;simp[h.1]⟩
 ·refine⟨⟨n.y,-n.x,0⟩,λh'=>h ?_,by unfold dot;grind⟩
  simp_all
theorem V3.ext'{a b:V3}(h1:a.x=b.x)(h2:a.y=b.y)(h3:a.z=b.z):a=b:=by cases a;cases b;simp_all
theorem Md7{m n d:V3}(hm:m≠⟨0,0,0⟩)(h1:dot m d=0)(h2:dot n d≠0):d7 m n≠⟨0,0,0⟩:=λh=>by
 unfold d7 at h;simp only[V3.mk.injEq] at h;obtain⟨c1,c2,c3⟩:=h;unfold dot at h1 h2;have e1:m.x*(n.x*d.x+n.y*d.y+n.z*d.z)=0:=by grind
 have e2:m.y*(n.x*d.x+n.y*d.y+n.z*d.z)=0:=by grind
 have e3:m.z*(n.x*d.x+n.y*d.y+n.z*d.z)=0:=by grind
 have k:∀{a:Int},a*(n.x*d.x+n.y*d.y+n.z*d.z)=0->a=0:=λh=>(Qia.1 h).resolve_right h2
 exact hm (V3.ext' (k e1) (k e2) (k e3))
theorem Oc2(a b:V3):dot a (d7 a b)=0:=by unfold dot d7;grind
theorem Oc3(a b:V3):dot b (d7 a b)=0:=by unfold dot d7;grind
theorem Be6{p q:Pln}{x:Pt}{d:V3}(h:rmZ p x=0)(h':dot p.n d=0):rmZ p (go x q d)=0:=by rw[Md6,h,h'];simp
theorem Be7(q:Pln)(x:Pt)(d:V3):rmZ q (go x q d)=0:=by rw[Md6];grind
theorem rf5{q:Pln}{d:V3}(h:0<dot q.n d):q.n≠⟨0,0,0⟩:=λh'=>by rw[h'] at h;unfold dot at h;simp at h
theorem Ye3{a b c u v w:Int}(hu:0<u)(hv:0<v)(hw:0<w)(h1:a*v<=b*u)(h2:b*w<=c*v):a*w<=c*u:=by
 have h3:=Qiq h1 (Qib hw);have h4:=Qiq h2 (Qib hu);have e1:a*v*w=a*w*v:=by grind
 have e2:b*u*w=b*w*u:=by grind
 have e3:c*v*u=c*u*v:=by grind
 exact cb9 hv (by omega)
theorem Xd6{r:List Pln}(hb:Bdd r)(h:Pln){x:Pt}(hx:Inr r x):∃v,Cn r v/\rmZ h v*x.pw<=rmZ h x*v.pw:=by
 obtain⟨d0,n0,p0,_⟩:=turn h (d:=⟨1,0,0⟩) (by simp)
 obtain⟨q1,m1,k1,i1⟩:=step hx d0 (hb d0 n0);have l1:=(Be5 (h:=h) (x:=x) (hx.h q1 m1) p0).resolve_right (by have:=hx.w;omega)
 obtain⟨e1,ne1,he1⟩:=Qe2 (rf5 k1);obtain⟨d1,n1,p1,z1⟩:=turn h ne1;obtain⟨q2,m2,k2,i2⟩:=step i1 d1 (hb d1 n1);have l2:=(Be5 (h:=h) (x:=go x q1 d0) (i1.h q2 m2) p1).resolve_right (by have:=i1.w;omega)
 have hc:=Md7 (rf5 k1) (z1 _ he1) (n:=q2.n) (by omega)
 obtain⟨d2,n2,p2,z2⟩:=turn h hc;obtain⟨q3,m3,k3,i3⟩:=step i2 d2 (hb d2 n2);have l3:=(Be5 (h:=h) (x:=go (go x q1 d0) q2 d1) (i2.h q3 m3) p2).resolve_right (by have:=i2.w;omega)
 have a1:rmZ q1 (go (go x q1 d0) q2 d1)=0:=Be6 (Be7 _ _ _) (z1 _ he1);refine⟨_,⟨i3,q3,q1,q2,m3,m1,m2,λh0=>?_,Be7 _ _ _,Be6 a1 (z2 _ (Oc2 _ _)),Be6 (Be7 _ _ _) (z2 _ (Oc3 _ _))⟩,?_⟩
 ·have:dot q3.n d2=0:=z2 _ h0
  omega
 ·exact Ye3 i3.w i2.w hx.w l3 (Ye3 i2.w i1.w hx.w l2 l1)
theorem ma9{r:List Pln}(hb:Bdd r){h:Pln}(hv:∀v,Cn r v->0<=rmZ h v){x:Pt}(hx:Inr r x):0<=rmZ h x:=by
 obtain⟨v,h1,h2⟩:=Xd6 hb h hx;have h3:=Qic (hv v h1) (Qib hx.w);exact cb9 h1.w (by rw[Qip];omega)
def mid(x y:Pt):Pt:=⟨x.px*y.pw+y.px*x.pw,x.py*y.pw+y.py*x.pw,x.pz*y.pw+y.pz*x.pw,2*(x.pw*y.pw)⟩
theorem Be8(p:Pln)(x y:Pt):rmZ p (mid x y)=rmZ p x*y.pw+rmZ p y*x.pw:=by unfold rmZ mid;grind
theorem Inr.mid{r:List Pln}{x y:Pt}(hx:Inr r x)(hy:Inr r y):Inr r (mid x y):=⟨by unfold Ce.mid;exact Qio (by decide) (Qio hx.w hy.w),λp hp=>by
 rw[Be8];exact Int.add_nonneg (Qic (hx.h p hp) (Qib hy.w)) (Qic (hy.h p hp) (Qib hx.w))⟩
def Be9(r:List Pln):Prop:=∃x:Pt,0<x.pw/\∀p∈r,0<rmZ p x
theorem fe2{r:List Pln}:∀(l:List Pln),(∀p∈l,p∈r)->(∃x,Inr r x)->(∀p∈l,∃v,Inr r v/\0<rmZ p v)->∃x,Inr r x/\∀p∈l,0<rmZ p x
 |[],_,h,_=>by obtain⟨x,h⟩:=h;exact⟨x,h,λp hp=>by cases hp⟩
 |a::l,hl,h,hv=>by
  obtain⟨x,h1,h2⟩:=fe2 l (λp hp=>hl p (Qck _ hp)) h (λp hp=>hv p (Qck _ hp))
  obtain⟨y,h3,h4⟩:=hv a Qch;refine⟨mid x y,h1.mid h3,λp hp=>?_⟩
  rw[Be8]
  rcases Qbi.1 hp with rfl|hp
  ·have:=Qic (h1.h p (hl p Qch)) (Qib h3.w)
   have:=Qio h4 h1.w
   omega
  ·have:=Qio (h2 p hp) h3.w
   have:=Qic (h3.h p (hl p (Qck _ hp))) (Qib h1.w)
   omega
theorem Ce0{r:List Pln}(hb:Bdd r)(h0:r≠[]):Be9 r↔∀p∈r,∃v,Cn r v/\0<rmZ p v:=by
 constructor
 ·intro ⟨x,hw,hx⟩ p hp;by_cases h:∃v,Cn r v/\0<rmZ p v
  ·exact h
  ·have hx':Inr r x:=⟨hw,λq hq=>Qib (hx q hq)⟩
   have:=ma9 hb (h:=ha0 p) (λv hv=>by
    rw[tb3]
    have:¬ 0<rmZ p v:=λh'=>h ⟨v,hv,h'⟩
    omega) hx'
   rw[tb3] at this
   have:=hx p hp
   omega
 ·intro h;obtain⟨p,hp⟩:=List.exists_mem_of_ne_nil r h0;obtain⟨v,hv,_⟩:=h p hp;obtain⟨x,h1,h2⟩:=fe2 r (λ_ h=>h) ⟨v,hv.toInr⟩ λp hp=>by
   obtain⟨v,hv,h⟩:=h p hp;exact⟨v,hv.toInr,h⟩
  exact⟨x,h1.w,h2⟩
structure Eqv(x v:Pt):Prop where
 e1:x.px*v.pw=v.px*x.pw
 e2:x.py*v.pw=v.py*x.pw
 e3:x.pz*v.pw=v.pz*x.pw
theorem Eqv.rm{x v:Pt}(h:Eqv x v)(p:Pln):rmZ p x*v.pw=rmZ p v*x.pw:=by
 obtain⟨e1,e2,e3⟩:=h;unfold rmZ
 grind
theorem Eqv.inr{r:List Pln}{x v:Pt}(h:Eqv x v)(hw:0<x.pw)(hv:Inr r v):Inr r x:=⟨hw,λp hp=>by
 have:=h.rm p
 have h2:=Qic (hv.h p hp) (Qib hw);exact cb9 hv.w (by rw[Qip];omega)⟩
end Go.Ev.Ce
namespace Go.Ev.Ce
open Go Go.Ev Go.Ev.L Go.Proofs
theorem Qe3{p:Pln}{x:Pt}(hp:Bd p)(hx:Okx x):rm p x=rmZ p x:=by
 unfold rm rmZ;obtain⟨w1,w2,⟨a1,a2⟩,⟨a3,a4⟩,a5,a6⟩:=hx;have h0:=mb hp.b1 hp.b2 (show -600000000000<=x.pw by omega) w2
 have h1:=mb hp.x1 hp.x2 a1 a2;have h2:=mb hp.y1 hp.y2 a3 a4;have h3:=mb hp.z1 hp.z2 a5 a6;exact ia6 (by omega) (by omega)
theorem fe3{r:PLq}(hb:Bds r){x:Pt}(hx:Okx x):inn r x=true↔Inr r x:=by
 unfold inn;rw[Qcb];constructor
 ·intro h;refine⟨hx.w1,λp hp=>?_⟩
  have:=h p hp
  rw[Qe3 (hb p hp) hx] at this;simpa using this
 ·intro h p hp;rw[Qe3 (hb p hp) hx];simpa using h.h p hp
theorem Ye4{p q s:Pln}(h:(mpt p q s).2=true):mw p q s≠0/\∃k:Int,k≠0/\k*(mpt p q s).1.px=(mv p q s).x/\k*(mpt p q s).1.py=(mv p q s).y/\k*(mpt p q s).1.pz=(mv p q s).z/\k*(mpt p q s).1.pw=mw p q s:=by
 unfold mpt at h ⊢;by_cases h0:mw p q s=0
 ·rw[if_pos h0] at h;cases h
 refine⟨h0,?_⟩;have hg:=Xd1 (v:=mv p q s) h0;have dv:∀{x:Int},(gc (mv p q s) (mw p q s))∣x->gc (mv p q s) (mw p q s)*Int.tdiv x (gc (mv p q s) (mw p q s))=x:=λh=>Qit h
 have d1:gc (mv p q s) (mw p q s)∣(mv p q s).x:=by
  rw[<- Qiv];exact Qik.2 (Qin (Qig _ _) (Qig _ _))
 have d2:gc (mv p q s) (mw p q s)∣(mv p q s).y:=by
  rw[<- Qiv];exact Qik.2 (Qin (Qig _ _) (Qih _ _))
 have d3:gc (mv p q s) (mw p q s)∣(mv p q s).z:=by
  rw[<- Qiv];exact Qik.2 (Qin (Qih _ _) (Qig _ _))
 have d4:gc (mv p q s) (mw p q s)∣mw p q s:=by
  rw[<- Qiv];exact Qik.2 (Qin (Qih _ _) (Qih _ _))
 rw[if_neg h0];by_cases h1:mw p q s<0
 ·rw[if_pos h1];have e:∀{x:Int},(gc (mv p q s) (mw p q s))∣x->-(gc (mv p q s) (mw p q s))*Int.tdiv (-x) (gc (mv p q s) (mw p q s))=x:=λ{x} h=>by
   rw[Qiaj,dv ((Int.dvd_neg).2 h),Int.neg_neg]
  exact⟨-(gc (mv p q s) (mw p q s)),by omega,e d1,e d2,e d3,e d4⟩
 ·rw[if_neg h1];exact⟨gc (mv p q s) (mw p q s),by omega,dv d1,dv d2,dv d3,dv d4⟩
theorem Ce1{p q s:Pln}(h:(mpt p q s).2=true):rmZ p (mpt p q s).1=0/\rmZ q (mpt p q s).1=0/\rmZ s (mpt p q s).1=0:=by
 obtain⟨_,k,hk,e1,e2,e3,e4⟩:=Ye4 h;generalize (mpt p q s).1=x at *
 have f:∀a:Pln,a.b*mw p q s-(a.n.x*(mv p q s).x+a.n.y*(mv p q s).y+a.n.z*(mv p q s).z)=0->rmZ a x=0:=λa ha=>by
  rw[<- e1,<- e2,<- e3,<- e4] at ha
  have:k*rmZ a x=0:=by rw[<- ha];unfold rmZ;grind
  exact (Qia.1 this).resolve_left hk
 refine⟨f p ?_,f q ?_,f s ?_⟩<;>(simp only[mw,mv,dot,d7];grind)
theorem Qe4{p q s:Pln}(h:mw p q s≠0):(mpt p q s).2=true:=by
 unfold mpt;rw[if_neg h]
 split<;>rfl
theorem Ce2{p q s:Pln}{x:Pt}(h1:rmZ p x=0)(h2:rmZ q x=0)(h3:rmZ s x=0):mw p q s*x.px=(mv p q s).x*x.pw/\mw p q s*x.py=(mv p q s).y*x.pw/\mw p q s*x.pz=(mv p q s).z*x.pw:=by
 have i1:(mv p q s).x*x.pw-mw p q s*x.px=(d7 q.n s.n).x*rmZ p x+(d7 s.n p.n).x*rmZ q x+(d7 p.n q.n).x*rmZ s x:=by simp only[mw,mv,dot,d7,rmZ];grind
 have i2:(mv p q s).y*x.pw-mw p q s*x.py=(d7 q.n s.n).y*rmZ p x+(d7 s.n p.n).y*rmZ q x+(d7 p.n q.n).y*rmZ s x:=by simp only[mw,mv,dot,d7,rmZ];grind
 have i3:(mv p q s).z*x.pw-mw p q s*x.pz=(d7 q.n s.n).z*rmZ p x+(d7 s.n p.n).z*rmZ q x+(d7 p.n q.n).z*rmZ s x:=by simp only[mw,mv,dot,d7,rmZ];grind
 rw[h1,h2,h3] at i1 i2 i3;simp only[Qiae,Int.add_zero] at i1 i2 i3;omega
theorem gf0{p q s:Pln}{x v:Pt}(h:mw p q s≠0)(h1:rmZ p x=0)(h2:rmZ q x=0)(h3:rmZ s x=0)(k1:rmZ p v=0)(k2:rmZ q v=0)(k3:rmZ s v=0):Eqv x v:=by
 obtain⟨a1,a2,a3⟩:=Ce2 h1 h2 h3;obtain⟨c1,c2,c3⟩:=Ce2 k1 k2 k3;have f:∀{a c m:Int},mw p q s*a=m*x.pw->mw p q s*c=m*v.pw->a*v.pw=c*x.pw:=λ{a c m} ha hc=>by
  have:mw p q s*(a*v.pw-c*x.pw)=0:=by grind
  have:=(Qia.1 this).resolve_left h
  omega
 exact⟨f a1 c1,f a2 c2,f a3 c3⟩
theorem pe0{r:PLq}{p q:Pln}{out:List Pt}{s:Pln}{x:Pt}(h:x∈out):x∈xc4 r p q out s:=by
 unfold xc4;split
 ·exact Qbj _ h
 ·exact h
theorem id8{r:PLq}{p q:Pln}{x:Pt}:∀{l:PLq} {out:List Pt},x∈out->x∈oe4 r p q l out
 |[],_,h=>h
 |s::l,out,h=>id8 (l:=l) (out:=xc4 r p q out s) (pe0 h)
theorem yc1{r:PLq}{p:Pln}{x:Pt}:∀{l:PLq} {out:List Pt},x∈out->x∈Md2 r p l out
 |[],_,h=>h
 |_::l,_,h=>yc1 (l:=l) (id8 h)
theorem Md8{r:PLq}{x:Pt}:∀{l:PLq} {out:List Pt},x∈out->x∈Xd3 r l out
 |[],_,h=>h
 |_::l,_,h=>Md8 (l:=l) (yc1 h)
theorem pe1{r:PLq}{p q:Pln}{out:List Pt}{s:Pln}(h1:(mpt p q s).2=true)(h2:inn r (mpt p q s).1=true):(mpt p q s).1∈xc4 r p q out s:=by
 unfold xc4;rw[h1,h2];cases h:Pe5 out (mpt p q s).1 with
 |true=>simpa using (Ae7 _ _).1 h
 |false=>simp
theorem id9{r:PLq}{p q s:Pln}(h1:(mpt p q s).2=true)(h2:inn r (mpt p q s).1=true):∀{l:PLq} {out:List Pt},s∈l->(mpt p q s).1∈oe4 r p q l out
 |[],_,h=>by cases h
 |t::l,out,h=>by
  show _∈oe4 r p q l (xc4 r p q out t)
  rcases Qbi.1 h with rfl|h
  ·exact id8 (pe1 h1 h2)
  ·exact id9 h1 h2 h
structure Hit(r:PLq)(Q:Pt->Prop)(p q s:Pln):Prop where
 h1:(mpt p q s).2=true
 h2:inn r (mpt p q s).1=true
 h3:Q (mpt p q s).1
theorem Md9{r:PLq}{Q:Pt->Prop}{p q s:Pln}(hq:Hit r Q p q s)(hs:Hit r Q p s q)(hne:q≠s):∀{l:PLq} {out:List Pt},q∈l->s∈l->∃x∈Md2 r p l out,Q x
 |[],_,h,_=>by cases h
 |t::l,out,hql,hsl=>by
  show ∃x∈Md2 r p l (oe4 r p t l out),Q x
  rcases Qbi.1 hql with rfl|h1
  ·have h2:=(Qbi.1 hsl).resolve_left λh=>hne h.symm
   exact⟨_,yc1 (id9 hq.h1 hq.h2 h2),hq.h3⟩
  ·rcases Qbi.1 hsl with rfl|h2
   ·exact⟨_,yc1 (id9 hs.h1 hs.h2 h1),hs.h3⟩
   ·exact Md9 hq hs hne (l:=l) h1 h2
theorem Nd0{r:PLq}{Q:Pt->Prop}{p q s:Pln}(H:∀a c d,(a=p\/a=q\/a=s)->(c=p\/c=q\/c=s)->(d=p\/d=q\/d=s)->a≠c->c≠d->a≠d->Hit r Q a c d)(h1:p≠q)(h2:q≠s)(h3:p≠s) :
  ∀{l:PLq} {out:List Pt},p∈l->q∈l->s∈l->∃x∈Xd3 r l out,Q x
 |[],_,h,_,_=>by cases h
 |t::l,out,hp,hq,hs=>by
  have fin:∀{a c d:Pln} {out:List Pt},(a=p\/a=q\/a=s)->(c=p\/c=q\/c=s)->(d=p\/d=q\/d=s)->a≠c->c≠d->a≠d->c∈l->d∈l->∃x∈Xd3 r l (Md2 r a l out),Q x:=λha hc hd n1 n2 n3 m1 m2=>by
   obtain⟨x,hx,hQ⟩:=Md9 (H _ _ _ ha hc hd n1 n2 n3) (H _ _ _ ha hd hc n3 n2.symm n1) n2 (out:=_) m1 m2;exact⟨x,Md8 hx,hQ⟩
  show ∃x∈Xd3 r l (Md2 r t l out),Q x
  rcases Qbi.1 hp with rfl|hp'
  ·exact fin (.inl rfl) (.inr (.inl rfl)) (.inr (.inr rfl)) h1 h2 h3 ((Qbi.1 hq).resolve_left (Ne.symm h1)) ((Qbi.1 hs).resolve_left (Ne.symm h3))
  ·rcases Qbi.1 hq with rfl|hq'
   ·exact fin (.inr (.inl rfl)) (.inl rfl) (.inr (.inr rfl)) (Ne.symm h1) h3 h2 hp' ((Qbi.1 hs).resolve_left (Ne.symm h2))
   ·rcases Qbi.1 hs with rfl|hs'
    ·exact fin (.inr (.inr rfl)) (.inl rfl) (.inr (.inl rfl)) (Ne.symm h3) h1 (Ne.symm h2) hp' hq'
    ·exact Nd0 H h1 h2 h3 hp' hq' hs'
theorem rf6{p q s:Pln}(h:mw p q s≠0):p≠q/\q≠s/\p≠s:=by
 refine⟨λe=>h ?_,λe=>h ?_,λe=>h ?_⟩<;>(subst e;simp only[mw,dot,d7];grind)
theorem gf1{r:PLq}(hb:Bds r):∀x∈cor r,Cn r x:=ee9 λp hp q hq s hs h hi=>by
 obtain⟨w1,w2,w3,w4,w5⟩:=Xd2 (hb p hp) (hb q hq) (hb s hs) h;obtain⟨e1,e2,e3⟩:=Ce1 h;exact⟨(fe3 hb ⟨w1,w5,w2,w3,w4⟩).1 hi,p,q,s,hp,hq,hs,(Ye4 h).1,e1,e2,e3⟩
theorem gf2{r:PLq}(hb:Bds r){v:Pt}(hv:Cn r v):∃x∈cor r,Eqv x v:=by
 obtain⟨p,q,s,hp,hq,hs,hw,e1,e2,e3⟩:=hv.c;obtain⟨n1,n2,n3⟩:=rf6 hw;refine Nd0 (λa c d ha hc hd m1 m2 m3=>?_) n1 n2 n3 hp hq hs
 have hm:∀{a},(a=p\/a=q\/a=s)->a∈r/\rmZ a v=0:=λh=>by
  rcases h with rfl|rfl|rfl
  ·exact⟨hp,e1⟩
  ·exact⟨hq,e2⟩
  ·exact⟨hs,e3⟩
 have hw':mw a c d≠0:=by
  have k:mw a c d=mw p q s\/mw a c d=-mw p q s:=by
   rcases ha with rfl|rfl|rfl<;>rcases hc with rfl|rfl|rfl<;>rcases hd with rfl|rfl|rfl<;>first|exact absurd rfl m1|exact absurd rfl m2|exact absurd rfl m3|exact .inl rfl|(left;simp only[mw,dot,d7];grind;done)|(right;simp only[mw,dot,d7];grind;done)
  rcases k with k|k<;>omega
 have h:=Qe4 hw';obtain⟨w1,w2,w3,w4,w5⟩:=Xd2 (hb a (hm ha).1) (hb c (hm hc).1) (hb d (hm hd).1) h;obtain⟨f1,f2,f3⟩:=Ce1 h;have he:=gf0 hw' f1 f2 f3 (hm ha).2 (hm hc).2 (hm hd).2;exact⟨h,(fe3 hb ⟨w1,w5,w2,w3,w4⟩).2 (he.inr w1 hv.toInr),he⟩
theorem Xd7(c:PLq):Bdd (c++ws):=λd hd=>by
 have k:∀{n:V3} {m:Int},(⟨n,m⟩:Pln)∈ws->0<dot n d->∃p∈c++ws,0<dot p.n d:=λh h'=>⟨_,Qce _ h,h'⟩
 by_cases h1:0<d.x
 ·exact k (n:=⟨1,0,0⟩) (m:=24) (by simp[ws]) (by unfold dot;simp;omega)
 by_cases h2:d.x<0
 ·exact k (n:=⟨-1,0,0⟩) (m:=24) (by simp[ws]) (by unfold dot;simp;omega)
 by_cases h3:0<d.y
 ·exact k (n:=⟨0,1,0⟩) (m:=24) (by simp[ws]) (by unfold dot;simp;omega)
 by_cases h4:d.y<0
 ·exact k (n:=⟨0,-1,0⟩) (m:=24) (by simp[ws]) (by unfold dot;simp;omega)
 by_cases h5:0<d.z
 ·exact k (n:=⟨0,0,1⟩) (m:=24) (by simp[ws]) (by unfold dot;simp;omega)
 by_cases h6:d.z<0
 ·exact k (n:=⟨0,0,-1⟩) (m:=24) (by simp[ws]) (by unfold dot;simp;omega)
 exact absurd (V3.ext' (by show d.x=0;omega) (by show d.y=0;omega) (by show d.z=0;omega)) hd
theorem fe4{r:PLq}(hb:Bds r){p:Pln}(hp:Bd p):pos (cor r) p=true↔∃v,Cn r v/\0<rmZ p v:=by
 unfold pos;rw[Qil];constructor
 ·rintro⟨x,hx,h⟩;rw[Qe3 hp (Ad7 hb x hx)] at h;exact⟨x,gf1 hb x hx,by simpa using h⟩
 ·rintro⟨v,hv,h⟩;obtain⟨x,hx,he⟩:=gf2 hb hv;refine⟨x,hx,?_⟩;rw[Qe3 hp (Ad7 hb x hx)];have h1:=he.rm p;have h2:=Qio h (Ad7 hb x hx).w1
  have:0<rmZ p x:=Int.lt_of_mul_lt_mul_right (by rw[Qip];omega:0*v.pw<rmZ p x*v.pw) (Qib hv.w)
  simpa using this
theorem pe2{r:PLq}(hb:Bds r)(hd:Bdd r)(h0:r≠[]):Pe8 r=true↔Be9 r:=by
 rw[Ce0 hd h0];unfold Pe8;rw[Qcb];exact⟨λh p hp=>(fe4 hb (hb p hp)).1 (h p hp),λh p hp=>(fe4 hb (hb p hp)).2 (h p hp)⟩
end Go.Ev.Ce
namespace Go.Ev.Ce
def dv(z v:Pt):V3:=⟨v.px*z.pw-z.px*v.pw,v.py*z.pw-z.py*v.pw,v.pz*z.pw-z.pz*v.pw⟩
def thr(n:V3)(z:Pt):Pln:=⟨⟨z.pw*n.x,z.pw*n.y,z.pw*n.z⟩,n.x*z.px+n.y*z.py+n.z*z.pz⟩
theorem Ce3(n:V3)(z x:Pt):rmZ (thr n z) x=-dot n (dv z x):=by simp only[rmZ,thr,dot,dv];grind
theorem Ce4{p:Pln}{z v:Pt}(hz:rmZ p z≠0)(hv:rmZ p v=0)(hw:0<v.pw):dv z v≠⟨0,0,0⟩:=λh=>by
 unfold dv at h;simp only[V3.mk.injEq] at h;obtain⟨e1,e2,e3⟩:=h
 have:rmZ p z*v.pw=rmZ p v*z.pw:=by unfold rmZ;grind
 rw[hv,Qip] at this;exact (Qia.1 this).elim hz (by omega)
theorem gf3{p:Pln}{z:Pt}(hz:rmZ p z≠0):∀l:List Pt,l.length<=2->(∀v∈l,rmZ p v=0/\0<v.pw)->∃n,n≠(⟨0,0,0⟩:V3)/\∀v∈l,dot n (dv z v)=0
 |[],_,_=>⟨⟨1,0,0⟩,by simp,λv h=>by cases h⟩
 |[v],_,h=>by
  obtain⟨h1,h2⟩:=h v (by simp)
  obtain⟨d,hd,he⟩:=Qe2 (Ce4 hz h1 h2);exact⟨d,hd,λu hu=>by rw[Qiu.1 hu,<- he];unfold dot;grind⟩
 |[v,u],_,h=>by
  obtain⟨h1,h2⟩:=h v (by simp)
  by_cases hc:d7 (dv z v) (dv z u)=⟨0,0,0⟩
  ·obtain⟨d,hd,he⟩:=Qe2 (Ce4 hz h1 h2);have hu:dot (dv z u) d=0:=by
    by_cases h0:dot (dv z u) d=0
    ·exact h0
    ·exact absurd hc (Md7 (Ce4 hz h1 h2) he h0)
   refine⟨d,hd,λx hx=>?_⟩
   simp only[Qbi,Qis,or_false] at hx
   rcases hx with rfl|rfl
   ·rw[<- he];unfold dot;grind
   ·rw[<- hu];unfold dot;grind
  ·refine⟨_,hc,λx hx=>?_⟩
   simp only[Qbi,Qis,or_false] at hx
   rcases hx with rfl|rfl
   ·rw[<- Oc2 (dv z x) (dv z u)];unfold dot;grind
   ·rw[<- Oc3 (dv z v) (dv z x)];unfold dot;grind
 |_::_::_::_,h,_=>by simp at h
def gf4(p:Pln)(z v:Pt):Pt:=⟨rmZ p v*z.px-rmZ p z*v.px,rmZ p v*z.py-rmZ p z*v.py,rmZ p v*z.pz-rmZ p z*v.pz,rmZ p v*z.pw-rmZ p z*v.pw⟩
theorem Bd1(p q:Pln)(z v:Pt):rmZ q (gf4 p z v)=rmZ p v*rmZ q z-rmZ p z*rmZ q v:=by
 generalize ha:rmZ p v=a;generalize hb:rmZ p z=c;simp only[rmZ,gf4] at *
 rw[ha,hb]
 grind
theorem Ce5{r:List Pln}(hb:Bdd r)(hB:Be9 r){h:Pln}(hn:h.n≠⟨0,0,0⟩):¬ ∀x,Inr r x->rmZ h x=0:=λH=>by
 obtain⟨x,hw,hx⟩:=hB;have hi:Inr r x:=⟨hw,λp hp=>Qib (hx p hp)⟩
 obtain⟨q,hq,h1,h2⟩:=step hi h.n (hb h.n hn);have h3:=H _ h2;rw[Md6,H _ hi] at h3;have h4:=hx q hq;have h5:0<dot h.n h.n:=by
  have k:∀a:Int,a≠0->0<a*a:=λa ha=>by
   rcases Int.lt_or_gt_of_ne ha with h|h
   ·exact Int.mul_pos_of_neg_of_neg h h
   ·exact Qio h h
  have k0:∀a:Int,0<=a*a:=λa=>by
   by_cases h:a=0
   ·subst h;decide
   ·exact Qib (k a h)
  have a1:=k0 h.n.x;have a2:=k0 h.n.y;have a3:=k0 h.n.z;unfold dot;by_cases c1:h.n.x=0
  ·by_cases c2:h.n.y=0
   ·have:=k h.n.z (λc3=>hn (V3.ext' c1 c2 c3));omega
   ·have:=k _ c2;omega
  ·have:=k _ c1;omega
 have:=Qio h4 h5
 omega
theorem rf7{r r':List Pln}{p:Pln}(hb:Bdd r)(hB:Be9 r)(hp:p∈r)(hr:∀q∈r,q∈r'\/q=p)
  (l:List Pt) (hl:l.length<=2) (hl0:∀v∈l,rmZ p v=0/\0<v.pw) (hc:∀v,Cn r v->rmZ p v=0->∃x∈l,Eqv x v) {z:Pt} (hz:Inr r' z):Inr r z:=by
 by_cases h0:0<=rmZ p z
 ·exact⟨hz.w,λq hq=>(hr q hq).elim (hz.h q) λe=>e ▸ h0⟩
 exfalso;have hneg:rmZ p z<0:=by omega
 obtain⟨n,hn,hv⟩:=gf3 (p:=p) (z:=z) (by omega) l hl hl0
 have hn':(thr n z).n≠⟨0,0,0⟩:=λe=>hn (by
  unfold thr at e;simp only[V3.mk.injEq] at e;have k:∀{a:Int},z.pw*a=0->a=0:=λh=>(Qia.1 h).resolve_left (by have:=hz.w;omega)
  exact V3.ext' (k e.1) (k e.2.1) (k e.2.2))
 -- the face lies in that plane
 have hface:∀u,Inr r u->rmZ p u=0->rmZ (thr n z) u=0:=λu hu hu0=>by
  have hbd:Bdd (ha0 p::r):=λd hd=>by
   obtain⟨q,hq,h⟩:=hb d hd;exact⟨q,Qck _ hq,h⟩
  have hiu:Inr (ha0 p::r) u:=⟨hu.w,λq hq=>by
   rcases Qbi.1 hq with rfl|hq
   ·rw[tb3,hu0];decide
   ·exact hu.h q hq⟩
  have hvx:∀v,Cn (ha0 p::r) v->rmZ (thr n z) v=0:=λv hcv=>by
   have hir:Inr r v:=⟨hcv.w,λq hq=>hcv.h q (Qck _ hq)⟩
   have hp0:rmZ p v=0:=by
    have h1:=hcv.h (ha0 p) Qch;rw[tb3] at h1;have h2:=hir.h p hp;omega
   obtain⟨a,c,d,ha,hc',hd,hw,e1,e2,e3⟩:=hcv.c
   -- a plane that is turned round gives the same Xd6
   have fl:∀{a c d:Pln},mw (ha0 a) c d=-mw a c d/\mw c (ha0 a) d=-mw c a d/\mw c d (ha0 a)=-mw c d a:=λ{a c d}=>by
    refine⟨?_,?_,?_⟩<;>(simp only[mw,dot,d7,ha0];grind)
   have hr0:∀{a:Pln},rmZ (ha0 a) v=0->rmZ a v=0:=λh=>by rw[tb3] at h;omega
   have hcn:Cn r v:=by
    refine⟨hir,?_⟩
    rcases Qbi.1 ha with rfl|ha<;>rcases Qbi.1 hc' with rfl|hc'<;>rcases Qbi.1 hd with rfl|hd
    ·exact absurd (by simp only[mw,dot,d7];grind) hw
    ·exact absurd (by simp only[mw,dot,d7];grind) hw
    ·exact absurd (by simp only[mw,dot,d7];grind) hw
    ·exact⟨p,c,d,hp,hc',hd,by have:=(fl (a:=p) (c:=c) (d:=d)).1;omega,hp0,e2,e3⟩
    ·exact absurd (by simp only[mw,dot,d7];grind) hw
    ·exact⟨a,p,d,ha,hp,hd,by have:=(fl (a:=p) (c:=a) (d:=d)).2.1;omega,e1,hp0,e3⟩
    ·exact⟨a,c,p,ha,hc',hp,by have:=(fl (a:=p) (c:=a) (d:=c)).2.2;omega,e1,e2,hp0⟩
    ·exact⟨a,c,d,ha,hc',hd,hw,e1,e2,e3⟩
   obtain⟨x,hx,he⟩:=hc v hcn hp0;have h1:=he.rm (thr n z);rw[Ce3 n z x,hv x hx] at h1;have h1:rmZ (thr n z) v*x.pw=0:=by omega
   exact (Qia.1 h1).resolve_right (by have:=(hl0 x hx).2;omega)
  have a1:=ma9 hbd (h:=thr n z) (λv hv=>by rw[hvx v hv];decide) hiu
  have a2:=ma9 hbd (h:=ha0 (thr n z)) (λv hv=>by rw[tb3,hvx v hv];decide) hiu
  rw[tb3] at a2;omega
 -- so do all vertices
 have hall:∀v,Inr r v->rmZ (thr n z) v=0:=λv hi=>by
  by_cases hv0:rmZ p v=0
  ·exact hface v hi hv0
  have hvp:0<rmZ p v:=by have:=hi.h p hp;omega
  have hu:Inr r (gf4 p z v):=by
   have w1:=Qio hvp hz.w;have w2:rmZ p z*v.pw<0:=Int.mul_neg_of_neg_of_pos hneg hi.w;refine⟨by show 0<rmZ p v*z.pw-rmZ p z*v.pw;omega,λq hq=>?_⟩
   rw[Bd1]
   rcases hr q hq with h|rfl
   ·have b1:=Qic (Qib hvp) (hz.h q h);have b2:rmZ p z*rmZ q v<=0:=Int.mul_nonpos_of_nonpos_of_nonneg (Qib hneg) (hi.h q hq);omega
   ·have:=Int.mul_comm (rmZ q v) (rmZ q z);omega
  have h1:=hface _ hu (by rw[Bd1];have:=Int.mul_comm (rmZ p v) (rmZ p z);omega)
  rw[Bd1] at h1;have h2:rmZ (thr n z) z=0:=by rw[Ce3];simp only[dot,dv];grind
  rw[h2] at h1;have h1:rmZ p z*rmZ (thr n z) v=0:=by omega
  exact (Qia.1 h1).resolve_left (by omega)
 exact Ce5 hb hB hn' hall
end Go.Ev.Ce
namespace Go.Ev.Ce
open Go Go.Ev Go.Ev.L Go.Proofs
def phP(out:PLq):Nat:=match out with
 |[]=>0
 |_::_=>1
def la7(p:Pln)(v:V3):Int:=if okp p&&inV v then (if dot p.n v-p.b<0 then -1 else if dot p.n v-p.b>0 then 1 else 0) else 0
theorem gf5{p:Pln}{v:V3}(hp:Bd p)(hv:inV v=true):Sm 331776 (dot p.n v):=by
 obtain⟨⟨a1,a2⟩,⟨a3,a4⟩,a5,a6⟩:=(Bb3 v).1 hv;have r1:=mb hp.x1 hp.x2 a1 a2;have r2:=mb hp.y1 hp.y2 a3 a4;have r3:=mb hp.z1 hp.z2 a5 a6;unfold Sm dot;omega
theorem yc2{p:Pln}{v:V3}(hp:okp p=true)(hv:inV v=true):la7 p v>0↔dot p.n v>p.b:=by
 unfold la7;rw[hp,hv];simp only[Qij,if_true];split
 ·omega
 ·split<;>omega
theorem Ic9{p:Pln}{v:V3}(hp:okp p=true)(hv:inV v=true):la7 p v=0↔dot p.n v=p.b:=by
 unfold la7;rw[hp,hv];simp only[Qij,if_true];split
 ·omega
 ·split<;>omega
theorem gf6(v:V3):g3 v∣v.x/\g3 v∣v.y/\g3 v∣v.z:=by
 unfold g3;refine⟨?_,?_,?_⟩<;>rw[<- Qiv]<;>apply Qik.2
 ·exact Qin (Qig _ _) (Qig _ _)
 ·exact Qin (Qig _ _) (Qih _ _)
 ·exact Qih _ _
theorem gf7(v:V3)(h:g3 v≠0):g3 ⟨Int.tdiv v.x (g3 v),Int.tdiv v.y (g3 v),Int.tdiv v.z (g3 v)⟩=1:=by
 generalize hg:g3 v=g at *
 have h0:0<=g:=hg ▸ gc7 v;obtain⟨n,rfl⟩:∃n:Nat,g=n:=⟨g.toNat,by omega⟩
 have hn:0<n:=by omega
 have hgn:Nat.gcd (Nat.gcd v.x.natAbs v.y.natAbs) v.z.natAbs=n:=by unfold g3 at hg;omega
 have d1:n∣Nat.gcd v.x.natAbs v.y.natAbs:=hgn ▸ Qig _ _;have d3:n∣v.z.natAbs:=hgn ▸ Qih _ _;have d4:n∣v.x.natAbs:=Qin d1 (Qig _ _);have d5:n∣v.y.natAbs:=Qin d1 (Qih _ _);unfold g3;simp only[Int.natAbs_tdiv,Int.natAbs_natCast];show ((Nat.gcd (Nat.gcd (v.x.natAbs / n) (v.y.natAbs / n)) (v.z.natAbs / n):Nat):Int)=1;rw[Nat.gcd_div d4 d5,Nat.gcd_div d1 d3,hgn,Nat.div_self hn];rfl
structure Thr(a b c:V3)(p:Pln):Prop where
 ok:okp p=true
 k:∃g:Int,0<g/\g*p.n.x=(d7 (sub b a) (sub c a)).x/\g*p.n.y=(d7 (sub b a) (sub c a)).y/\g*p.n.z=(d7 (sub b a) (sub c a)).z
 o:p.b=dot p.n a
theorem xa3{a b c:V3}(h:(I6 a b c).2=true):(inV a=true/\inV b=true/\inV c=true)/\Thr a b c (I6 a b c).1:=by
 unfold I6 at h ⊢;cases ha:inV a with
 |false=>rw[ha] at h;cases h
 |true =>
  cases hb:inV b with
  |false=>rw[ha,hb] at h;cases h
  |true =>
   cases hc:inV c with
   |false=>rw[ha,hb,hc] at h;cases h
   |true =>
    rw[ha,hb,hc] at h;simp only[Qij,if_true] at h ⊢;obtain⟨_,k1,k2,k3⟩:=Eb9 ha hb hc;generalize hn:d7 (sub b a) (sub c a)=n at *
    by_cases h0:g3 n=0
    ·rw[if_pos h0] at h;cases h
    ·rw[if_neg h0];have hp:=gc7 n;obtain⟨d1,d2,d3⟩:=gf6 n;have q1:=oa3 (g:=g3 n) k1 (by omega)
     have q2:=oa3 (g:=g3 n) k2 (by omega)
     have q3:=oa3 (g:=g3 n) k3 (by omega)
     refine⟨⟨trivial,trivial,trivial⟩,⟨?_,⟨g3 n,by omega,by rw[hn];exact Qit d1,by rw[hn];exact Qit d2,by rw[hn];exact Qit d3⟩,rfl⟩⟩
     obtain⟨⟨a1,a2⟩,⟨a3,a4⟩,a5,a6⟩:=(Bb3 a).1 ha;have r1:=mb q1.1 q1.2 a1 a2;have r2:=mb q2.1 q2.2 a3 a4;have r3:=mb q3.1 q3.2 a5 a6;unfold okp;rw[gf7 n h0];simp only[List.all_cons,List.all_nil,Qii,Qas,Pb8,beq_self_eq_true,true_and,and_true];refine⟨⟨q1,q2,q3⟩,?_⟩;unfold Sm dot
     simp only
     omega
theorem Qe5(a b c:V3):Bd (I6 a b c).1:=by
 cases h:(I6 a b c).2 with
 |true=>exact Ic4 (xa3 h).2.ok
 |false =>
  have:(I6 a b c).1=⟨⟨0,0,0⟩,0⟩:=by
   unfold I6 at h ⊢;split
   ·rename_i hc;rw[if_pos hc] at h;split
    ·rfl
    ·rename_i h0;rw[if_neg h0] at h;cases h
   ·rfl
  rw[this]
  constructor<;>simp
theorem yc3{p:Pln}(h:okp p=true):okp (ha0 p)=true:=by
 unfold okp ha0 g3 at *
 simp only[List.all_cons,List.all_nil,Qii,Qas,Pb8,Int.natAbs_neg] at h ⊢;obtain⟨⟨h1,h2,h3⟩,h4,h5⟩:=h;exact⟨⟨h1.neg,h2.neg,h3.neg⟩,h4,h5.neg⟩
def Af6(l:List V3)(p:Pln):Bool:=l.any λv=>la7 p v != 0
def nf(l:List V3)(a c k:Nat):Bool:=(I6 (gL tV l a) (gL tV l c) (gL tV l k)).2&&Af6 l (I6 (gL tV l a) (gL tV l c) (gL tV l k)).1
def nf2(l:List V3)(a c:Nat):Bool:=(List.range c).any (nf l a c)
def nf1(l:List V3)(a:Nat):Bool:=(List.range a).any (nf2 l a)
def nf0(l:List V3):Bool:=(List.range l.length).any (nf1 l)
theorem Jc0{σ:Type}{step:σ->Stp σ}{mk:Nat->σ}(n:Nat)(c:Nat->Bool)(u fin:Nat)(hn:n<=1000000000)(h:∀j,j<n->step (mk j)=sl (c j) (.exit u) (.next (mk (j+1))))(hf:step (mk n)=.exit fin) :
  ∃j,lp step (mk 0)=(if (List.range n).any c then u else fin,mk j):=by
 have key:=Qa2 (step:=step) (mk:=λj (_:Unit)=>mk j) n (λj _=>j<=n/\∀i,i<j->c i=false) (λt s=>t=(if (List.range n).any c then u else fin)/\∃j,s=mk j) hn
  (λj _ hj hi=>by
   rw[h j hj];refine Nx.sl (λhc=>.ex ⟨?_,j,rfl⟩) (λhc=>.nx ⟨(),rfl,by omega,λi hi'=>?_⟩)
   ·rw[if_pos (Qil.2 ⟨j,Qca.2 hj,hc⟩)]
   ·by_cases e:i=j
    ·rw[e];exact hc
    ·exact hi.2 i (by omega))
  (λj _ hj hi=>by
   have e:j=n:=by omega
   subst e;refine⟨fin,hf,?_,j,rfl⟩;rw[if_neg λhh=>?_]
   obtain⟨i,hi1,hi2⟩:=Qil.1 hh;rw[hi.2 i (Qca.1 hi1)] at hi2;cases hi2) 0 () ⟨by omega,by omega⟩
 obtain⟨t,s,h1,rfl,j,rfl⟩:=key;exact⟨j,h1⟩
def hold(p:Pln)(l:List V3):Bool:=!l.any λv=>decide (la7 p v>0)
def Nd1(l:List V3)(a c:Nat)(out:PLq)(k:Nat):PLq :=
  if (I6 (gL tV l a) (gL tV l c) (gL tV l k)).2 then
    (if hold (ha0 (I6 (gL tV l a) (gL tV l c) (gL tV l k)).1) l then Ad9 (if hold (I6 (gL tV l a) (gL tV l c) (gL tV l k)).1 l then Ad9 out (I6 (gL tV l a) (gL tV l c) (gL tV l k)).1 else out) (ha0 (I6 (gL tV l a) (gL tV l c) (gL tV l k)).1)
     else (if hold (I6 (gL tV l a) (gL tV l c) (gL tV l k)).1 l then Ad9 out (I6 (gL tV l a) (gL tV l c) (gL tV l k)).1 else out))
  else out
def F2(l:List V3)(a:Nat)(out:PLq)(c:Nat):PLq:=(List.range c).foldl (Nd1 l a c) out
def F1(l:List V3)(out:PLq)(a:Nat):PLq:=(List.range a).foldl (F2 l a) out
def F0(l:List V3):PLq:=(List.range l.length).foldl (F1 l) []
theorem L4{τ:Type}(f:τ->Nat->τ)(a:τ)(n:Nat):(List.range (n+1)).foldl f a=f ((List.range n).foldl f a) n:=by
  rw[List.range_succ,List.foldl_append];rfl
theorem jd0{f:PLq->Nat->PLq}{m:Nat}(h:∀o k,(f o k).length<=o.length+m)(o:PLq):∀n,((List.range n).foldl f o).length<=o.length+m*n
  |0=>Qaf _
  | n+1=>by
    rw[L4];have h1:=h ((List.range n).foldl f o) n;have h2:=jd0 h o n;rw[Nat.mul_succ];omega
def yc4(l:PLq)(p:Pln):Bool:=l.any λq=>eqP q p
theorem Nd2(l:PLq)(p:Pln):yc4 l p=true↔p∈l:=by
 unfold yc4;rw[Qil];exact⟨λ⟨q,h,e⟩=>by rw[xc7] at e;exact e ▸ h,λh=>⟨p,h,(xc7 p p).2 rfl⟩⟩
def ipt(v:V3):Pt:=⟨v.x,v.y,v.z,1⟩
theorem gf8{v:V3}(h:inV v=true):∀p∈ws,0<=rmZ p (ipt v):=by
 obtain⟨⟨a1,a2⟩,⟨a3,a4⟩,a5,a6⟩:=(Bb3 v).1 h;intro p hp;simp only[ws,Qbi,Qis,or_false] at hp
 rcases hp with rfl|rfl|rfl|rfl|rfl|rfl<;>simp only[rmZ,ipt]<;>omega
theorem Bd2{p:Pln}(h:okp p=true):g3 p.n=1:=by
 unfold okp at h;simp only[Qas,beq_iff_eq] at h;exact h.2.1
theorem yc5{p:Pln}(h:okp p=true):p.n≠⟨0,0,0⟩:=λe=>by
 have:=Bd2 h
 rw[e] at this
 revert this
 decide
theorem Ce6(c:Int)(n:V3):g3 ⟨c*n.x,c*n.y,c*n.z⟩=c.natAbs*g3 n:=by
 unfold g3;simp only[Int.natAbs_mul,Nat.gcd_mul_left];rw[Int.natCast_mul]
theorem Ce7{m n:V3}(hm:g3 m=1)(hn:g3 n=1)(h:d7 m n=⟨0,0,0⟩):n=m\/n=neg m:=by
 unfold d7 at h;simp only[V3.mk.injEq] at h;obtain⟨c1,c2,c3⟩:=h;have k:∀{c d:Int},c*m.x=d*n.x->c*m.y=d*n.y->c*m.z=d*n.z->c.natAbs=d.natAbs:=λ{c d} e1 e2 e3=>by
  have a1:=Ce6 c m;have a2:=Ce6 d n;rw[e1,e2,e3,a2,hm,hn] at a1;omega
 have ax:=k (c:=n.x) (d:=m.x) (by grind) (by grind) (by grind)
 have ay:=k (c:=n.y) (d:=m.y) (by grind) (by grind) (by grind)
 have az:=k (c:=n.z) (d:=m.z) (by grind) (by grind) (by grind)
 have sg:∀{a c:Int},a.natAbs=c.natAbs->a=c\/a=-c:=λh=>by omega
 -- the sign of one component that is not zero is that of all
 have go:∀{s u t v:Int},u≠0->s*v=u*t->s=u->t=v:=λ{s u t v} hu h e=>by
  subst e;exact (Qiac hu h).symm
 have gn:∀{s u t v:Int},u≠0->s*v=u*t->s=-u->t=-v:=λ{s u t v} hu h e=>by
  subst e
  have:u*t=u*(-v):=by rw[<- h];grind
  exact Qiac hu this
 by_cases hx:m.x=0
 ·have hx':n.x=0:=by omega
  by_cases hy:m.y=0
  ·have hy':n.y=0:=by omega
   rcases sg az with e|e
   ·exact .inl (V3.ext' (by omega) (by omega) e)
   ·exact .inr (V3.ext' (by show n.x=-m.x;omega) (by show n.y=-m.y;omega) e)
  ·rcases sg ay with e|e
   ·exact .inl (V3.ext' (by omega) e (go hy (by grind) e))
   ·exact .inr (V3.ext' (by show n.x=-m.x;omega) e (gn hy (by grind) e))
 ·rcases sg ax with e|e
  ·exact .inl (V3.ext' e (go hx (by grind) e) (go hx (by grind) e))
  ·exact .inr (V3.ext' e (gn hx (by grind) e) (gn hx (by grind) e))
structure Cf1(l:List V3):Prop where
 h:∃a c k v,a∈l/\c∈l/\k∈l/\v∈l/\dot (d7 (sub c a) (sub k a)) (sub v a)≠0
theorem gLm{l:List V3}{j:Nat}(h:j<l.length):gL tV l j∈l:=Qa8 tV h
theorem Lb5{p:Pln}{l:List V3}(hp:okp p=true)(hl:l.all inV=true):hold p l=true↔∀v∈l,dot p.n v<=p.b:=by
 unfold hold;rw[Qcc,<- Qix,Qil];constructor
 ·intro h v hv;have h1:¬ la7 p v>0:=λh'=>h ⟨v,hv,by simpa using h'⟩
  rw[yc2 hp (Qcb.1 hl v hv)] at h1;omega
 ·rintro h ⟨v,hv,h1⟩;have h1:la7 p v>0:=by simpa using h1
  rw[yc2 hp (Qcb.1 hl v hv)] at h1
  have:=h v hv
  omega
structure Fct(l:List V3)(p:Pln):Prop where
 ok:okp p=true
 hd:hold p l=true
theorem bc4(p:Pln)(v:V3):dot (ha0 p).n v=-dot p.n v:=by unfold dot ha0;grind
theorem pe3(l:List V3)(a c k:Nat)(out:PLq)(p:Pln):p∈Nd1 l a c out k↔p∈out\/((I6 (gL tV l a) (gL tV l c) (gL tV l k)).2=true /\
  ((p=(I6 (gL tV l a) (gL tV l c) (gL tV l k)).1/\hold p l=true)\/(p=ha0 (I6 (gL tV l a) (gL tV l c) (gL tV l k)).1/\hold p l=true))):=by
 unfold Nd1;generalize I6 (gL tV l a) (gL tV l c) (gL tV l k)=T;cases h2:T.2 with
 |false=>simp
 |true =>
  simp only[if_true];cases h4:hold (ha0 T.1) l with
  |false =>
   simp only[Qhd,if_false];cases h3:hold T.1 l with
   |false =>
    simp only[Qhd,if_false];constructor
    ·exact λh=>.inl h
    ·rintro (h|⟨_,⟨rfl,h⟩|⟨rfl,h⟩⟩)
     ·exact h
     ·rw[h3] at h;cases h
     ·rw[h4] at h;cases h
   |true =>
    simp only[if_true,bc3];constructor
    ·rintro (rfl|h)
     ·exact .inr ⟨trivial,.inl ⟨rfl,h3⟩⟩
     ·exact .inl h
    ·rintro (h|⟨_,⟨rfl,h⟩|⟨rfl,h⟩⟩)
     ·exact .inr h
     ·exact .inl rfl
     ·rw[h4] at h;cases h
  |true =>
   simp only[if_true,bc3];cases h3:hold T.1 l with
   |false =>
    simp only[Qhd,if_false];constructor
    ·rintro (rfl|h)
     ·exact .inr ⟨trivial,.inr ⟨rfl,h4⟩⟩
     ·exact .inl h
    ·rintro (h|⟨_,⟨rfl,h⟩|⟨rfl,h⟩⟩)
     ·exact .inr h
     ·rw[h3] at h;cases h
     ·exact .inl rfl
   |true =>
    simp only[if_true,bc3];constructor
    ·rintro (rfl|rfl|h)
     ·exact .inr ⟨trivial,.inr ⟨rfl,h4⟩⟩
     ·exact .inr ⟨trivial,.inl ⟨rfl,h3⟩⟩
     ·exact .inl h
    ·rintro (h|⟨_,⟨rfl,h⟩|⟨rfl,h⟩⟩)
     ·exact .inr (.inr h)
     ·exact .inr (.inl rfl)
     ·exact .inl rfl
theorem tb4{f:PLq->Nat->PLq}{Q:Nat->Pln->Prop}(h:∀o k p,p∈f o k↔p∈o\/Q k p)(o:PLq)(p:Pln):∀n,p∈(List.range n).foldl f o↔p∈o\/∃k,k<n/\Q k p
 |0=>by simp
 |n+1=>by
  rw[L4,h,tb4 h o p n];constructor
  ·rintro ((h|⟨k,hk,h⟩)|h)
   ·exact .inl h
   ·exact .inr ⟨k,by omega,h⟩
   ·exact .inr ⟨n,by omega,h⟩
  ·rintro (h|⟨k,hk,h⟩)
   ·exact .inl (.inl h)
   ·by_cases e:k=n
    ·subst e;exact .inr h
    ·exact .inl (.inr ⟨k,by omega,h⟩)
def Fq (l : List V3) (a c k : Nat) (p : Pln) : Prop := (I6 (gL tV l a) (gL tV l c) (gL tV l k)).2 = true ∧
  ((p=(I6 (gL tV l a) (gL tV l c) (gL tV l k)).1/\hold p l=true)\/(p=ha0 (I6 (gL tV l a) (gL tV l c) (gL tV l k)).1/\hold p l=true))
theorem gf9(l:List V3)(a c:Nat)(out:PLq)(p:Pln):p∈F2 l a out c↔p∈out\/∃k,k<c/\Fq l a c k p:=tb4 (λo k p=>pe3 l a c k o p) out p c
theorem hf0(l:List V3)(a:Nat)(out:PLq)(p:Pln):p∈F1 l out a↔p∈out\/∃c,c<a/\∃k,k<c/\Fq l a c k p:=tb4 (λo c p=>gf9 l a c o p) out p a
theorem Xd8(l:List V3)(p:Pln):p∈F0 l↔∃a,a<l.length/\∃c,c<a/\∃k,k<c/\Fq l a c k p:=by
 have:=tb4 (λo a p=>hf0 l a o p) [] p l.length
 simpa [F0] using this
theorem pe4{l:List V3}{a c:Nat}{out:PLq}{k:Nat}(h:eb2 out):eb2 (Nd1 l a c out k):=by
 unfold Nd1;split
 ·split
  ·refine yc0 _ ?_;split
   ·exact yc0 _ h
   ·exact h
  ·split
   ·exact yc0 _ h
   ·exact h
 ·exact h
theorem yc6{f:PLq->Nat->PLq}(h:∀o k,eb2 o->eb2 (f o k)){o:PLq}(ho:eb2 o):∀n,eb2 ((List.range n).foldl f o)
 |0=>ho
 |n+1=>by rw[L4];exact h _ _ (yc6 h ho n)
theorem hf3{l:List V3}{a c:Nat}{out:PLq}(h:eb2 out):eb2 (F2 l a out c):=yc6 (λ_ _ h=>pe4 h) h c
theorem hf4{l:List V3}{a:Nat}{out:PLq}(h:eb2 out):eb2 (F1 l out a):=yc6 (λ_ _ h=>hf3 h) h a
theorem qc5(l:List V3):eb2 (F0 l):=yc6 (λ_ _ h=>hf4 h) .nil l.length
theorem td8{l:PLq}(h:eb2 l):l.Nodup:=List.Pairwise.imp (λ{x y} (h:LtP x y) (e:x=y)=>Wc1 y (e ▸ h)) h
theorem Ce8{l:List V3}{p:Pln}(hp:p∈F0 l):Fct l p:=by
 obtain⟨a,ha,c,hc,k,hk,h1,⟨h2,h3⟩|⟨h2,h3⟩⟩:=(Xd8 l p).1 hp
 ·exact⟨h2 ▸ (xa3 h1).2.ok,h3⟩
 ·exact⟨h2 ▸ yc3 (xa3 h1).2.ok,h3⟩
structure Nd3(c:PLq):Prop where
 l:c.length<=47
 v:∀p∈c,okp p=true
 f:Be9 (c++ws)
theorem Nd3.chk{c:PLq}(h:Nd3 c):(chk c==0)=true:=by
 rw[beq_iff_eq,id6];exact⟨by have:=h.l;omega,h.v⟩
theorem Nd3.bds{c:PLq}(h:Nd3 c):Bds (c++ws):=(Pe9 h.chk).1
theorem Nd3.ful{c:PLq}(h:Nd3 c):ful c=true:=by
 unfold Ce.ful;rw[h.chk,(pe2 h.bds (Xd7 c) (by simp[ws])).2 h.f]
 rfl
theorem Nd3.pts{c:PLq}(h:Nd3 c):pts c=cor (c++ws):=by unfold Ce.pts;rw[if_pos h.chk]
end Go.Ev.Ce
namespace Go.Ev.Ce
def p6(a b:V3):V3:=⟨a.x-b.x,a.y-b.y,a.z-b.z⟩
def N3(u w x:V3):V3:=d7 (p6 w u) (p6 x u)
def Ub6:List V3->V3
 |[]=>⟨0,0,0⟩
 |v::l=>⟨v.x+(Ub6 l).x,v.y+(Ub6 l).y,v.z+(Ub6 l).z⟩
def yc7:List Int->Int
 |[]=>0
 |x::l=>x+yc7 l
theorem Nd4(n:V3):∀l:List V3,dot n (Ub6 l)=yc7 (l.map (dot n))
 |[]=>by simp[Ub6,yc7,dot]
 |v::l=>by
  have:=Nd4 n l
  simp only[Qbo,yc7,<- this];simp only[Ub6,dot]
  grind
theorem Nd5(m s:Int):∀l:List Int,yc7 (l.map λa=>m*a-s)=m*yc7 l-s*l.length
 |[]=>by simp[yc7]
 |a::l=>by
  have:=Nd5 m s l
  simp only[Qbo,yc7,this,List.length_cons]
  grind
theorem Oc4:∀{l:List Int},(∀a∈l,a<=0)->yc7 l<=0
 |[],_=>by simp[yc7]
 |a::l,h=>by
  have:=Oc4 (l:=l) λx hx=>h x (Qck _ hx)
  have:=h a Qch
  simp only[yc7];omega
theorem Jc1:∀{l:List Int},(∀a∈l,a<=0)->yc7 l=0->∀a∈l,a=0
 |[],_,_=>λa ha=>by cases ha
 |a::l,h,h0=>by
  have h1:=Oc4 (l:=l) λx hx=>h x (Qck _ hx)
  have h2:=h a Qch;simp only[yc7] at h0;intro b hb
  rcases Qbi.1 hb with rfl|hb
  ·omega
  ·exact Jc1 (l:=l) (λx hx=>h x (Qck _ hx)) (by omega) b hb
def Sol(l:List V3):Prop:=∃a c k v,a∈l/\c∈l/\k∈l/\v∈l/\dot (N3 a c k) (p6 v a)≠0
theorem Sol.off{l:List V3}(h:Sol l){n:V3}(hn:n≠⟨0,0,0⟩)(b:Int):∃v∈l,dot n v≠b:=by
 obtain⟨a,c,k,v,ha,hc,hk,hv,hd⟩:=h;by_cases h1:dot n a=b
 ·by_cases h2:dot n c=b
  ·by_cases h3:dot n k=b
   ·by_cases h4:dot n v=b
    ·exfalso;unfold N3 at hd;generalize hD:dot (d7 (p6 c a) (p6 k a)) (p6 v a)=D at *
     have q1:dot n (p6 c a)=0:=by unfold dot p6 at *;grind
     have q2:dot n (p6 k a)=0:=by unfold dot p6 at *;grind
     have q3:dot n (p6 v a)=0:=by unfold dot p6 at *;grind
     generalize p6 c a=p at *
     generalize p6 k a=q at *
     generalize p6 v a=r at *
     have i1:D*n.x=(d7 q r).x*dot n p+(d7 r p).x*dot n q+(d7 p q).x*dot n r:=by rw[<- hD];simp only[dot,d7];grind
     have i2:D*n.y=(d7 q r).y*dot n p+(d7 r p).y*dot n q+(d7 p q).y*dot n r:=by rw[<- hD];simp only[dot,d7];grind
     have i3:D*n.z=(d7 q r).z*dot n p+(d7 r p).z*dot n q+(d7 p q).z*dot n r:=by rw[<- hD];simp only[dot,d7];grind
     rw[q1,q2,q3] at i1 i2 i3;have z:∀{x:Int},D*x=0->x=0:=λh=>(Qia.1 h).resolve_left hd
     exact hn (V3.ext' (z (by omega)) (z (by omega)) (z (by omega)))
    ·exact⟨v,hv,h4⟩
   ·exact⟨k,hk,h3⟩
  ·exact⟨c,hc,h2⟩
 ·exact⟨a,ha,h1⟩
theorem Sol.ne{l:List V3}(h:Sol l):∃v,v∈l:=by obtain⟨a,_,_,_,ha,_⟩:=h;exact⟨a,ha⟩
structure Fac(l:List V3)(n:V3)(b:Int):Prop where
 hd:∀v∈l,dot n v<=b
 on:∃u w x,u∈l/\w∈l/\x∈l/\N3 u w x≠⟨0,0,0⟩/\dot n u=b/\dot n w=b/\dot n x=b
def hf5(l:List V3)(c:List Pln):Prop:=∀n b,n≠⟨0,0,0⟩->Fac l n b->∃s t:Int,0<s/\0<t/\∃q∈c,t*q.n.x=s*n.x/\t*q.n.y=s*n.y/\t*q.n.z=s*n.z/\t*q.b=s*b
def pol(m:Int)(S v:V3):Pln:=⟨⟨m*v.x-S.x,m*v.y-S.y,m*v.z-S.z⟩,1⟩
theorem Qe6(m:Int)(S v d:V3):dot (pol m S v).n d=m*dot d v-dot d S:=by simp only[dot,pol];grind
theorem Nd6(l:List V3)(d:V3):yc7 (l.map λv=>(l.length:Int)*dot d v-dot d (Ub6 l))=0:=by
 have h:=Nd5 (l.length:Int) (dot d (Ub6 l)) (l.map (dot d));rw[List.map_map] at h;have e:((λa=>(l.length:Int)*a-dot d (Ub6 l))∘dot d)=λv=>(l.length:Int)*dot d v-dot d (Ub6 l):=rfl
 rw[e] at h;rw[h,<- Nd4,List.length_map]
 grind
theorem td9{a b:V3}(h:dot a b≠0):b≠⟨0,0,0⟩:=λe=>h (by subst e;simp[dot])
theorem Xd9{a b:V3}(h:dot a b≠0):a≠⟨0,0,0⟩:=λe=>h (by subst e;simp[dot])
theorem fe5{l:List V3}(h:Sol l):0<(l.length:Int):=by
 obtain⟨v,hv⟩:=h.ne
 grind
theorem Qe7{l:List V3}(h:Sol l):Bdd (l.map (pol l.length (Ub6 l))):=λd hd=>by
 by_cases hh:∃p∈l.map (pol l.length (Ub6 l)),0<dot p.n d
 ·exact hh
 exfalso;have hm:=fe5 h;have hall:∀a∈l.map (λv=>(l.length:Int)*dot d v-dot d (Ub6 l)),a<=0:=λa ha=>by
  obtain⟨v,hv,rfl⟩:=Qbr.1 ha;refine Int.not_lt.1 λh'=>hh ⟨pol l.length (Ub6 l) v,Qbr.2 ⟨v,hv,rfl⟩,?_⟩
  rw[Qe6];omega
 have hz:=Jc1 hall (Nd6 l d);obtain⟨a,ha⟩:=h.ne;obtain⟨v,hv,hne⟩:=h.off hd (dot d a);have e1:=hz _ (Qbr.2 ⟨a,ha,rfl⟩);have e2:=hz _ (Qbr.2 ⟨v,hv,rfl⟩);apply hne
 have:(l.length:Int)*(dot d v-dot d a)=0:=by grind
 have:=(Qia.1 this).resolve_left (by omega)
 omega
theorem gc9{l:List V3}(h4:Sol l){c:List Pln}(hc:hf5 l c){x:Pt}(hx:Inr c x){h:Pln}(hh:∀v∈l,dot h.n v<=h.b):0<=rmZ h x:=by
 have hm:=fe5 h4;have hr:=Qe7 h4;generalize hS:Ub6 l=S at hr;generalize hM:(l.length:Int)=m at hr hm
 -- the linear function on the polar
 have hv:∀y,Cn (l.map (pol m S)) y->0<=rmZ ⟨⟨m*x.px-x.pw*S.x,m*x.py-x.pw*S.y,m*x.pz-x.pw*S.z⟩,x.pw⟩ y:=λy hy=>by
  obtain⟨p1,p2,p3,hp1,hp2,hp3,hw,e1,e2,e3⟩:=hy.c;obtain⟨v1,m1,rfl⟩:=Qbr.1 hp1;obtain⟨v2,m2,rfl⟩:=Qbr.1 hp2;obtain⟨v3,m3,rfl⟩:=Qbr.1 hp3;have rp:∀v,rmZ (pol m S v) y=y.pw-(m*dot ⟨y.px,y.py,y.pz⟩ v-dot ⟨y.px,y.py,y.pz⟩ S):=λv=>by simp only[rmZ,pol,dot];grind
  rw[rp] at e1 e2 e3;have hn3:dot (pol m S v1).n (N3 v1 v2 v3)≠0:=λh0=>hw (by
   have:mw (pol m S v1) (pol m S v2) (pol m S v3)=m*m*dot (pol m S v1).n (N3 v1 v2 v3):=by simp only[mw,pol,dot,N3,d7,p6];grind
   rw[this,h0,Qiae])
  have hne:N3 v1 v2 v3≠⟨0,0,0⟩:=td9 hn3;have hfac:Fac l ⟨m*y.px,m*y.py,m*y.pz⟩ (y.pw+dot ⟨y.px,y.py,y.pz⟩ S):=by
   have ed:∀v,dot ⟨m*y.px,m*y.py,m*y.pz⟩ v=m*dot ⟨y.px,y.py,y.pz⟩ v:=λv=>by simp only[dot];grind
   refine⟨λv hv=>?_,v1,v2,v3,m1,m2,m3,hne,?_,?_,?_⟩
   ·have:=hy.h (pol m S v) (Qbr.2 ⟨v,hv,rfl⟩)
    rw[rp] at this;rw[ed];omega
   ·rw[ed];omega
   ·rw[ed];omega
   ·rw[ed];omega
  have hyn:(⟨m*y.px,m*y.py,m*y.pz⟩:V3)≠⟨0,0,0⟩:=λe=>by
   have k:∀{a:Int},m*a=0->a=0:=λh=>(Qia.1 h).resolve_left (by omega)
   simp only[V3.mk.injEq] at e;have a1:=k e.1;have a2:=k e.2.1;have a3:=k e.2.2;rw[a1,a2,a3] at e1;have hw:=hy.w;simp only[dot] at e1;simp only[Qip,Int.add_zero,Qiae,Int.sub_zero] at e1;omega
  obtain⟨s,t,hs,ht,q,hq,f1,f2,f3,f4⟩:=hc _ _ hyn hfac;have hxq:=hx.h q hq;have e:t*rmZ q x=s*rmZ ⟨⟨m*x.px-x.pw*S.x,m*x.py-x.pw*S.y,m*x.pz-x.pw*S.z⟩,x.pw⟩ y:=by
   have:t*rmZ q x=(t*q.b)*x.pw-((t*q.n.x)*x.px+(t*q.n.y)*x.py+(t*q.n.z)*x.pz):=by simp only[rmZ];grind
   rw[this,f1,f2,f3,f4];simp only[rmZ,dot];grind
  have h1:=Qic (Qib ht) hxq;rw[e] at h1;exact Qiy h1 hs
 by_cases hn:h.n=⟨0,0,0⟩
 ·obtain⟨v,hv⟩:=h4.ne;have h1:=hh v hv;have e:rmZ h x=h.b*x.pw:=by simp only[rmZ,hn];grind
  rw[e];rw[hn] at h1;simp only[dot,Qip,Int.add_zero] at h1;exact Qic h1 (Qib hx.w)
 ·-- the polar point of h
  have hall:∀a∈l.map (λv=>(l.length:Int)*dot h.n v-dot h.n (Ub6 l)),a<=(l.length:Int)*h.b-dot h.n (Ub6 l):=λa ha=>by
   obtain⟨v,hv,rfl⟩:=Qbr.1 ha
   have:=Qir (hh v hv) (show 0<=(l.length:Int) by omega)
   omega
  have hpos:0<m*h.b-dot h.n S:=by
   rw[<- hM,<- hS];by_cases h0:0<(l.length:Int)*h.b-dot h.n (Ub6 l)
   ·exact h0
   exfalso;have hz:=Jc1 (λa ha=>by have:=hall a ha;omega) (Nd6 l h.n)
   obtain⟨v,hv,hne⟩:=h4.off hn h.b;have e1:=hz _ (Qbr.2 ⟨v,hv,rfl⟩);have h2:=hh v hv
   have:(l.length:Int)*dot h.n v<(l.length:Int)*h.b:=Int.mul_lt_mul_of_pos_left (by omega) (by omega)
   omega
  have hy:Inr (l.map (pol m S)) ⟨h.n.x,h.n.y,h.n.z,m*h.b-dot h.n S⟩:=⟨hpos,λp hp=>by
   obtain⟨v,hv,rfl⟩:=Qbr.1 hp;have e:rmZ (pol m S v) ⟨h.n.x,h.n.y,h.n.z,m*h.b-dot h.n S⟩=m*(h.b-dot h.n v):=by simp only[rmZ,pol,dot];grind
   rw[e];exact Qic (by omega) (by have:=hh v hv;omega)⟩
  have h1:=ma9 hr hv hy;have e:rmZ ⟨⟨m*x.px-x.pw*S.x,m*x.py-x.pw*S.y,m*x.pz-x.pw*S.z⟩,x.pw⟩ ⟨h.n.x,h.n.y,h.n.z,m*h.b-dot h.n S⟩=m*rmZ h x:=by simp only[rmZ,dot];grind
  rw[e] at h1;exact Qiy h1 hm
theorem Bd3(own:List V3):(∃a c k,a∈own/\c∈own/\k∈own/\dot a (d7 c k)≠0)\/∃d,d≠(⟨0,0,0⟩:V3)/\∀n∈own,dot n d=0:=by
 by_cases h1:∃a∈own,a≠⟨0,0,0⟩
 ·obtain⟨a,ha,hne⟩:=h1;by_cases h2:∃c∈own,d7 a c≠⟨0,0,0⟩
  ·obtain⟨c,hc,hx⟩:=h2;by_cases h3:∃k∈own,dot k (d7 a c)≠0
   ·grind
   ·exact .inr ⟨d7 a c,hx,λn hn=>Qeb λh=>h3 ⟨n,hn,h⟩⟩
  ·obtain⟨d,hd,h0⟩:=Qe2 hne;refine .inr ⟨d,hd,λn hn=>?_⟩
   have hc:d7 a n=⟨0,0,0⟩:=Qeb λh=>h2 ⟨n,hn,h⟩
   have e:∀{s t:Int},s*t=0->s≠0->t=0:=λh hs=>(Qia.1 h).resolve_left hs
   unfold d7 at hc;simp only[V3.mk.injEq] at hc;obtain⟨c1,c2,c3⟩:=hc;have k1:a.x*dot n d=0:=by
    have:a.x*dot n d=n.x*dot a d+(a.x*n.y-a.y*n.x)*d.y-(a.z*n.x-a.x*n.z)*d.z:=by simp only[dot];grind
    simp_all
   have k2:a.y*dot n d=0:=by
    have:a.y*dot n d=n.y*dot a d+(a.y*n.z-a.z*n.y)*d.z-(a.x*n.y-a.y*n.x)*d.x:=by simp only[dot];grind
    simp_all
   have k3:a.z*dot n d=0:=by
    have:a.z*dot n d=n.z*dot a d+(a.z*n.x-a.x*n.z)*d.x-(a.y*n.z-a.z*n.y)*d.y:=by simp only[dot];grind
    simp_all
   by_cases hx:a.x=0
   ·by_cases hy:a.y=0
    ·exact e k3 λhz=>hne (V3.ext' hx hy hz)
    ·exact e k2 hy
   ·exact e k1 hx
 ·exact .inr ⟨⟨1, 0, 0⟩, by simp, fun n hn => by
   have:n=⟨0,0,0⟩:=Qeb λh=>h1 ⟨n,hn,h⟩
   rw[this];simp[dot]⟩
theorem big(d:V3):∀c:List Pln,∃N:Int,0<N/\∀p∈c,dot p.n d<=N/\-dot p.n d<=N
 |[]=>⟨1,by decide,λp hp=>by cases hp⟩
 |q::c=>by
  obtain⟨N,h0,h⟩:=big d c;refine⟨N+(dot q.n d).natAbs,by omega,λp hp=>?_⟩
  grind
theorem bc5{p q s:Pln}(hw:mw p q s≠0){d:V3}(h1:dot p.n d=0)(h2:dot q.n d=0)(h3:dot s.n d=0):d=⟨0,0,0⟩:=by
 have i1:mw p q s*d.x=(d7 q.n s.n).x*dot p.n d+(d7 s.n p.n).x*dot q.n d+(d7 p.n q.n).x*dot s.n d:=by simp only[mw,dot,d7];grind
 have i2:mw p q s*d.y=(d7 q.n s.n).y*dot p.n d+(d7 s.n p.n).y*dot q.n d+(d7 p.n q.n).y*dot s.n d:=by simp only[mw,dot,d7];grind
 have i3:mw p q s*d.z=(d7 q.n s.n).z*dot p.n d+(d7 s.n p.n).z*dot q.n d+(d7 p.n q.n).z*dot s.n d:=by simp only[mw,dot,d7];grind
 rw[h1,h2,h3] at i1 i2 i3;have z:∀{x:Int},mw p q s*x=0->x=0:=λh=>(Qia.1 h).resolve_left hw
 exact V3.ext' (z (by omega)) (z (by omega)) (z (by omega))
def Spn(c:List Pln)(v:V3):Prop:=∃p q s,p∈c/\q∈c/\s∈c/\mw p q s≠0/\dot p.n v=p.b/\dot q.n v=q.b/\dot s.n v=s.b
theorem fe6{l:List V3}(h4:Sol l){c w:List Pln}(hc:hf5 l c)(hin:∀p∈c++w,∀v∈l,dot p.n v<=p.b){x:Pt}(hx:Cn (c++w) x):∃v∈l,Eqv x ⟨v.x,v.y,v.z,1⟩/\Spn c v:=by
 obtain⟨p,q,s,hp,hq,hs,hw,e1,e2,e3⟩:=hx.c;have hxc:Inr c x:=⟨hx.w,λa ha=>hx.h a (Qbj _ ha)⟩
 have hv:∃v∈l,dot p.n v=p.b/\dot q.n v=q.b/\dot s.n v=s.b:=by
  apply Qeb;intro hno;have h1:=gc9 h4 hc hxc (h:=⟨⟨p.n.x+q.n.x+s.n.x,p.n.y+q.n.y+s.n.y,p.n.z+q.n.z+s.n.z⟩,p.b+q.b+s.b-1⟩) λv hv=>by
   have a1:=hin p hp v hv;have a2:=hin q hq v hv;have a3:=hin s hs v hv;have e:dot ⟨p.n.x+q.n.x+s.n.x,p.n.y+q.n.y+s.n.y,p.n.z+q.n.z+s.n.z⟩ v=dot p.n v+dot q.n v+dot s.n v:=by simp only[dot];grind
   simp only[e]
   have:¬ (dot p.n v=p.b/\dot q.n v=q.b/\dot s.n v=s.b):=λh=>hno ⟨v,hv,h⟩
   omega
  have e:rmZ ⟨⟨p.n.x+q.n.x+s.n.x,p.n.y+q.n.y+s.n.y,p.n.z+q.n.z+s.n.z⟩,p.b+q.b+s.b-1⟩ x=rmZ p x+rmZ q x+rmZ s x-x.pw:=by simp only[rmZ];grind
  rw[e,e1,e2,e3] at h1
  have:=hx.w
  omega
 obtain⟨v,hv,t1,t2,t3⟩:=hv;have hd:(⟨x.px-v.x*x.pw,x.py-v.y*x.pw,x.pz-v.z*x.pw⟩:V3)=⟨0,0,0⟩:=by
  have k:∀{a:Pln},dot a.n v=a.b->rmZ a x=0->dot a.n ⟨x.px-v.x*x.pw,x.py-v.y*x.pw,x.pz-v.z*x.pw⟩=0:=λ{a} h1 h2=>by
   rw[rmZ,<- h1] at h2;simp only[dot] at h2 ⊢
   grind
  exact bc5 hw (k t1 e1) (k t2 e2) (k t3 e3)
 simp only[V3.mk.injEq] at hd;refine⟨v,hv,⟨?_,?_,?_⟩,?_⟩
 ·grind
 ·grind
 ·grind
 -- the facets through it span the space
 have hf:∀a:Pln,decide (dot a.n v=a.b)=true↔dot a.n v=a.b:=λa=>by simp
 rcases Bd3 ((c.filter λa=>decide (dot a.n v=a.b)).map Pln.n) with⟨a,b,k,ha',hb',hk',hd⟩|⟨d,hd,h0⟩
 ·obtain⟨a,ha,rfl⟩:=Qbr.1 ha';obtain⟨b,hb,rfl⟩:=Qbr.1 hb';obtain⟨k,hk,rfl⟩:=Qbr.1 hk';rw[Qff,hf] at ha hb hk;exact⟨a,b,k,ha.1,hb.1,hk.1,hd,ha.2,hb.2,hk.2⟩
 ·exfalso;obtain⟨N,hN,hb⟩:=big d c;have h0':∀a∈c,dot a.n v=a.b->dot a.n d=0:=λa ha h=>h0 a.n (Qbr.2 ⟨a,Qff.2 ⟨ha,by simpa using h⟩,rfl⟩)
  have iny:∀e:V3,(∀a∈c,dot a.n v=a.b->dot a.n e=0)->(∀a∈c,dot a.n e<=N)->Inr c ⟨N*v.x+e.x,N*v.y+e.y,N*v.z+e.z,N⟩:=λe he hle=>⟨hN,λa ha=>by
   have ea:rmZ a ⟨N*v.x+e.x,N*v.y+e.y,N*v.z+e.z,N⟩=N*(a.b-dot a.n v)-dot a.n e:=by simp only[rmZ,dot];grind
   rw[ea];have h1:=hin a (Qbj _ ha) v hv;by_cases ht:dot a.n v=a.b
   ·rw[he a ha ht,ht];simp
   ·have h2:N*1<=N*(a.b-dot a.n v):=Qir (by omega) (by omega)
    have:=hle a ha
    omega⟩
  have y1:=iny d h0' λa ha=>(hb a ha).1
  have y2:=iny (neg d) (λa ha h=>by rw[Wc2,h0' a ha h];rfl) λa ha=>by rw[Wc2];exact (hb a ha).2
  have z:∀a∈c++w,dot a.n v=a.b->dot a.n d=0:=λa ha ht=>by
   have a1:=gc9 h4 hc y1 (h:=a) (hin a ha);have a2:=gc9 h4 hc y2 (h:=a) (hin a ha);have e1:rmZ a ⟨N*v.x+d.x,N*v.y+d.y,N*v.z+d.z,N⟩=N*(a.b-dot a.n v)-dot a.n d:=by simp only[rmZ,dot];grind
   have e2:rmZ a ⟨N*v.x+(neg d).x,N*v.y+(neg d).y,N*v.z+(neg d).z,N⟩=N*(a.b-dot a.n v)+dot a.n d:=by simp only[rmZ,dot,neg];grind
   rw[e1,ht] at a1;rw[e2,ht] at a2;simp only[Int.sub_self,Qiae] at a1 a2;omega
  exact hd (bc5 hw (z p hp t1) (z q hq t2) (z s hs t3))
end Go.Ev.Ce
namespace Go.Ev.Ce
open Go Go.Ev Go.Ev.L Go.Proofs
theorem Qe8{v:V3}(h:g3 v=0):v=⟨0,0,0⟩:=by
 unfold g3 at h;have h:Nat.gcd (Nat.gcd v.x.natAbs v.y.natAbs) v.z.natAbs=0:=by omega
 rw[Nat.gcd_eq_zero_iff,Nat.gcd_eq_zero_iff] at h;exact V3.ext' (by show v.x=0;omega) (by show v.y=0;omega) (by show v.z=0;omega)
theorem Wa5{a c k:V3}(ha:inV a=true)(hc:inV c=true)(hk:inV k=true)(h:N3 a c k≠⟨0,0,0⟩):(I6 a c k).2=true:=by
 unfold I6;rw[ha,hc,hk];simp only[Qij,if_true];rw[if_neg (λh0=>h (Qe8 h0):¬ g3 (d7 (sub c a) (sub k a))=0)]
theorem ud0{a c k:V3}{p:Pln}(h:Thr a c k p):N3 a c k≠⟨0,0,0⟩:=λe=>by
 obtain⟨ok,⟨g,hg,e1,e2,e3⟩,_⟩:=h;have e':d7 (sub c a) (sub k a)=⟨0,0,0⟩:=e;rw[e'] at e1 e2 e3;have z:∀{x:Int},g*x=0->x=0:=λh=>(Qia.1 h).resolve_left (by omega)
 exact yc5 ok (V3.ext' (z e1) (z e2) (z e3))
theorem jd1{a c k:V3}{p:Pln}(h:Thr a c k p):dot p.n a=p.b/\dot p.n c=p.b/\dot p.n k=p.b:=by
 obtain⟨ok,⟨g,hg,e1,e2,e3⟩,o⟩:=h;have z:∀{x y:Int},g*(x-y)=0->x=y:=λh=>by have:=(Qia.1 h).resolve_left (by omega);omega
 refine⟨o.symm,?_,?_⟩
 ·rw[o];apply z
  have:g*(dot p.n c-dot p.n a)=(g*p.n.x)*(c.x-a.x)+(g*p.n.y)*(c.y-a.y)+(g*p.n.z)*(c.z-a.z):=by simp only[dot];grind
  rw[this,e1,e2,e3];simp only[d7,sub];grind
 ·rw[o];apply z
  have:g*(dot p.n k-dot p.n a)=(g*p.n.x)*(k.x-a.x)+(g*p.n.y)*(k.y-a.y)+(g*p.n.z)*(k.z-a.z):=by simp only[dot];grind
  rw[this,e1,e2,e3];simp only[d7,sub];grind
theorem bb2(p:Pln)(v:V3):dot (ha0 p).n v=(ha0 p).b↔dot p.n v=p.b:=by
 rw[bc4];show -dot p.n v=-p.b↔_;omega
theorem bc6{a c k:V3}{p q:Pln}(h:Thr a c k q)(hp:okp p=true)(t1:dot p.n a=p.b)(t2:dot p.n c=p.b)(t3:dot p.n k=p.b):p=q\/p=ha0 q:=by
 obtain⟨s1,s2,s3⟩:=jd1 h;obtain⟨ok,⟨g,hg,e1,e2,e3⟩,o⟩:=h;have d1:dot p.n (sub c a)=0:=by simp only[dot,sub] at *;grind
 have d2:dot p.n (sub k a)=0:=by simp only[dot,sub] at *;grind
 have hc:d7 q.n p.n=⟨0,0,0⟩:=by
  have z:∀{x:Int},g*x=0->x=0:=λh=>(Qia.1 h).resolve_left (by omega)
  generalize sub c a=u at *
  generalize sub k a=w at *
  refine V3.ext' (z ?_) (z ?_) (z ?_)
  ·have:g*(d7 q.n p.n).x=(g*q.n.y)*p.n.z-(g*q.n.z)*p.n.y:=by simp only[d7];grind
   rw[this,e2,e3]
   have:(d7 u w).y*p.n.z-(d7 u w).z*p.n.y=w.x*dot p.n u-u.x*dot p.n w:=by simp only[d7,dot];grind
   rw[this,d1,d2];simp
  ·have:g*(d7 q.n p.n).y=(g*q.n.z)*p.n.x-(g*q.n.x)*p.n.z:=by simp only[d7];grind
   rw[this,e1,e3]
   have:(d7 u w).z*p.n.x-(d7 u w).x*p.n.z=w.y*dot p.n u-u.y*dot p.n w:=by simp only[d7,dot];grind
   rw[this,d1,d2];simp
  ·have:g*(d7 q.n p.n).z=(g*q.n.x)*p.n.y-(g*q.n.y)*p.n.x:=by simp only[d7];grind
   rw[this,e1,e2]
   have:(d7 u w).x*p.n.y-(d7 u w).y*p.n.x=w.z*dot p.n u-u.z*dot p.n w:=by simp only[d7,dot];grind
   rw[this,d1,d2];simp
 obtain⟨pn,pb⟩:=p;obtain⟨qn,qb⟩:=q
 rcases Ce7 (Bd2 ok) (Bd2 hp) hc with e|e
 ·left
  simp only at e o t1 s1 t2 t3
  subst e;rw[<- t1,s1]
 ·right
  simp only at e o t1 s1 t2 t3
  subst e;rw[<- t1];simp only[dot,neg,ha0] at s1 ⊢;simp only[Pln.mk.injEq,true_and]
  grind
structure Ub7(l:List V3)(p:Pln):Prop extends Fac l p.n p.b where
 ok:okp p=true
theorem yc8{l:List V3}{p:Pln}{u w x:V3}(hu:u∈l)(hw:w∈l)(hx:x∈l)(h:Thr u w x p)(hh:∀v∈l,dot (ha0 p).n v<=(ha0 p).b):Ub7 l (ha0 p):=by
 obtain⟨s1,s2,s3⟩:=jd1 h;exact⟨⟨hh,u,w,x,hu,hw,hx,ud0 h,(bb2 p u).2 s1,(bb2 p w).2 s2,(bb2 p x).2 s3⟩,yc3 h.ok⟩
theorem Wc3{l:List V3}{p:Pln}{u w x:V3}(hu:u∈l)(hw:w∈l)(hx:x∈l)(h:Thr u w x p)(hh:∀v∈l,dot p.n v<=p.b):Ub7 l p:=by
 obtain⟨s1,s2,s3⟩:=jd1 h;exact⟨⟨hh,u,w,x,hu,hw,hx,ud0 h,s1,s2,s3⟩,h.ok⟩
theorem Ce9{u w x:V3}(h:N3 u w x≠⟨0,0,0⟩):N3 w u x≠⟨0,0,0⟩/\N3 u x w≠⟨0,0,0⟩/\N3 x w u≠⟨0,0,0⟩/\N3 w x u≠⟨0,0,0⟩/\N3 x u w≠⟨0,0,0⟩:=by
 have e1:N3 w u x=neg (N3 u w x):=V3.ext' (by simp only[N3,d7,p6,neg];grind) (by simp only[N3,d7,p6,neg];grind) (by simp only[N3,d7,p6,neg];grind)
 have e2:N3 u x w=neg (N3 u w x):=V3.ext' (by simp only[N3,d7,p6,neg];grind) (by simp only[N3,d7,p6,neg];grind) (by simp only[N3,d7,p6,neg];grind)
 have e3:N3 x w u=neg (N3 u w x):=V3.ext' (by simp only[N3,d7,p6,neg];grind) (by simp only[N3,d7,p6,neg];grind) (by simp only[N3,d7,p6,neg];grind)
 have e4:N3 w x u=N3 u w x:=V3.ext' (by simp only[N3,d7,p6];grind) (by simp only[N3,d7,p6];grind) (by simp only[N3,d7,p6];grind)
 have e5:N3 x u w=N3 u w x:=V3.ext' (by simp only[N3,d7,p6];grind) (by simp only[N3,d7,p6];grind) (by simp only[N3,d7,p6];grind)
 rw[e1,e2,e3,e4,e5];exact⟨Bd0 h,Bd0 h,Bd0 h,h,h⟩
theorem rf8{u w x:V3}(h:N3 u w x≠⟨0,0,0⟩):u≠w/\u≠x/\w≠x:=by
 refine⟨λe=>h ?_,λe=>h ?_,λe=>h ?_⟩<;>subst e<;>refine V3.ext' ?_ ?_ ?_<;>simp only[N3,d7,p6]<;>grind
theorem hf6{l:List V3}{u w x:V3}(hu:u∈l)(hw:w∈l)(hx:x∈l)(h:N3 u w x≠⟨0,0,0⟩) :
  ∃a,a<l.length/\∃c,c<a/\∃k,k<c/\N3 (gL tV l a) (gL tV l c) (gL tV l k)≠⟨0,0,0⟩/\∀f:V3->Prop,f u->f w->f x->f (gL tV l a)/\f (gL tV l c)/\f (gL tV l k):=by
 obtain⟨i,hi,rfl⟩:=Qef.1 hu;obtain⟨j,hj,rfl⟩:=Qef.1 hw;obtain⟨k,hk,rfl⟩:=Qef.1 hx;obtain⟨n1,n2,n3⟩:=rf8 h;obtain⟨s1,s2,s3,s4,s5⟩:=Ce9 h;have d1:i≠j:=λe=>n1 (by subst e;rfl)
 have d2:i≠k:=λe=>n2 (by subst e;rfl)
 have d3:j≠k:=λe=>n3 (by subst e;rfl)
 rw[<- ac0 tV hi,<- ac0 tV hj,<- ac0 tV hk] at *
 rcases Qiaa d1 with h1|h1<;>rcases Qiaa d2 with h2|h2<;>rcases Qiaa d3 with h3|h3
 ·exact⟨k,hk,j,h3,i,h1,s3,λf a b c=>⟨c,b,a⟩⟩
 ·exact⟨j,hj,k,h3,i,h2,s4,λf a b c=>⟨b,c,a⟩⟩
 ·omega
 ·exact⟨j,hj,i,h1,k,h2,s1,λf a b c=>⟨b,a,c⟩⟩
 ·exact⟨k,hk,i,h2,j,h1,s5,λf a b c=>⟨c,a,b⟩⟩
 ·omega
 ·exact⟨i,hi,k,h2,j,h3,s2,λf a b c=>⟨a,c,b⟩⟩
 ·exact⟨i,hi,j,h1,k,h3,h,λf a b c=>⟨a,b,c⟩⟩
theorem E9{l:List V3}(hl:l.all inV=true)(p:Pln):p∈F0 l↔Ub7 l p:=by
 have hin:=Qcb.1 hl;constructor
 ·intro hp;obtain⟨a,ha,c,hc,k,hk,h1,h2⟩:=(Xd8 l p).1 hp;have ma:=gLm ha;have mc:=gLm (show c<l.length by omega)
  have mk:=gLm (show k<l.length by omega)
  have ht:=(xa3 h1).2
  rcases h2 with⟨rfl,h3⟩|⟨rfl,h3⟩
  ·exact Wc3 ma mc mk ht ((Lb5 ht.ok hl).1 h3)
  ·exact yc8 ma mc mk ht ((Lb5 (yc3 ht.ok) hl).1 h3)
 ·intro h;obtain⟨u,w,x,hu,hw,hx,h3,t1,t2,t3⟩:=h.on;obtain⟨a,ha,c,hc,k,hk,hn,hall⟩:=hf6 hu hw hx h3;obtain⟨i1,i2,i3⟩:=hall (λv=>inV v=true) (hin u hu) (hin w hw) (hin x hx)
  obtain⟨e1,e2,e3⟩:=hall (λv=>dot p.n v=p.b) t1 t2 t3
  have h2:=Wa5 i1 i2 i3 hn;refine (Xd8 l p).2 ⟨a,ha,c,hc,k,hk,h2,?_⟩;have hh:=(Lb5 h.ok hl).2 h.hd
  rcases bc6 (xa3 h2).2 h.ok e1 e2 e3 with e|e
  ·exact .inl ⟨e,hh⟩
  ·exact .inr ⟨e,hh⟩
theorem fe7{n:V3}(h:n≠⟨0,0,0⟩):0<dot n n:=by
 have sq:∀a:Int,0<=a*a:=λa=>by
  by_cases h:0<=a
  ·exact Qic h h
  ·have:=Qic (show 0<=-a by omega) (show 0<=-a by omega)
   rw[Int.neg_mul_neg] at this;exact this
 have z:∀{a:Int},a*a=0->a=0:=λh=>(Qia.1 h).elim id id
 have s1:=sq n.x;have s2:=sq n.y;have s3:=sq n.z;by_cases h0:0<dot n n
 ·exact h0
 ·exfalso;simp only[dot] at h0;exact h (V3.ext' (z (by omega)) (z (by omega)) (z (by omega)))
theorem Bd4{l:List V3}(hl:l.all inV=true){c:PLq}(hc:∀p,Ub7 l p->p∈c):hf5 l c:=λn b hn hf=>by
 have hin:=Qcb.1 hl;obtain⟨u,w,x,hu,hw,hx,h3,t1,t2,t3⟩:=hf.on;have h2:=Wa5 (hin u hu) (hin w hw) (hin x hx) h3;have ht:=(xa3 h2).2;generalize (I6 u w x).1=q at ht;obtain⟨s1,s2,s3⟩:=jd1 ht;have hnn:=fe7 hn;have d1:dot n (p6 w u)=0:=by simp only[dot,p6] at *;grind
 have d2:dot n (p6 x u)=0:=by simp only[dot,p6] at *;grind
 -- the normals are parallel
 have par:dot n n*q.n.x=dot q.n n*n.x/\dot n n*q.n.y=dot q.n n*n.y/\dot n n*q.n.z=dot q.n n*n.z:=by
  obtain⟨ok,⟨g,hg,e1,e2,e3⟩,o⟩:=ht;have z:∀{x y:Int},g*(x-y)=0->x=y:=λh=>by have:=(Qia.1 h).resolve_left (by omega);omega
  have eg:g*dot q.n n=(d7 (p6 w u) (p6 x u)).x*n.x+(d7 (p6 w u) (p6 x u)).y*n.y+(d7 (p6 w u) (p6 x u)).z*n.z:=by
   have:g*dot q.n n=(g*q.n.x)*n.x+(g*q.n.y)*n.y+(g*q.n.z)*n.z:=by simp only[dot];grind
   rw[this,e1,e2,e3];rfl
  have e1:g*q.n.x=(d7 (p6 w u) (p6 x u)).x:=e1;have e2:g*q.n.y=(d7 (p6 w u) (p6 x u)).y:=e2;have e3:g*q.n.z=(d7 (p6 w u) (p6 x u)).z:=e3;generalize p6 w u=p at *
  generalize p6 x u=r at *
  refine⟨z ?_,z ?_,z ?_⟩
  ·have:g*(dot n n*q.n.x-dot q.n n*n.x)=dot n n*(g*q.n.x)-(g*dot q.n n)*n.x:=by grind
   rw[this,e1,eg]
   have:dot n n*(d7 p r).x-((d7 p r).x*n.x+(d7 p r).y*n.y+(d7 p r).z*n.z)*n.x=(n.y*r.z-n.z*r.y)*dot n p-(n.y*p.z-n.z*p.y)*dot n r:=by simp only[dot,d7];grind
   rw[this,d1,d2];simp
  ·have:g*(dot n n*q.n.y-dot q.n n*n.y)=dot n n*(g*q.n.y)-(g*dot q.n n)*n.y:=by grind
   rw[this,e2,eg]
   have:dot n n*(d7 p r).y-((d7 p r).x*n.x+(d7 p r).y*n.y+(d7 p r).z*n.z)*n.y=(n.z*r.x-n.x*r.z)*dot n p-(n.z*p.x-n.x*p.z)*dot n r:=by simp only[dot,d7];grind
   rw[this,d1,d2];simp
  ·have:g*(dot n n*q.n.z-dot q.n n*n.z)=dot n n*(g*q.n.z)-(g*dot q.n n)*n.z:=by grind
   rw[this,e3,eg]
   have:dot n n*(d7 p r).z-((d7 p r).x*n.x+(d7 p r).y*n.y+(d7 p r).z*n.z)*n.z=(n.x*r.y-n.y*r.x)*dot n p-(n.x*p.y-n.y*p.x)*dot n r:=by simp only[dot,d7];grind
   rw[this,d1,d2];simp
 have fin:∀r:Pln,Thr u w x q->(r=q\/r=ha0 q)->0<dot r.n n->(dot n n*r.n.x=dot r.n n*n.x/\dot n n*r.n.y=dot r.n n*n.y/\dot n n*r.n.z=dot r.n n*n.z)->∃s t:Int,0<s/\0<t/\∃q∈c,t*q.n.x=s*n.x/\t*q.n.y=s*n.y/\t*q.n.z=s*n.z/\t*q.b=s*b:=λr ht hr hp ⟨p1,p2,p3⟩=>by
  have hru:dot r.n u=r.b:=by
   rcases hr with rfl|rfl
   ·exact s1
   ·exact (bb2 q u).2 s1
  have ed:∀v,dot n n*dot r.n v=dot r.n n*dot n v:=λv=>by
   have:dot n n*dot r.n v=(dot n n*r.n.x)*v.x+(dot n n*r.n.y)*v.y+(dot n n*r.n.z)*v.z:=by
    generalize dot n n=t;simp only[dot];grind
   rw[this,p1,p2,p3];generalize dot r.n n=s;simp only[dot];grind
  have eb:dot n n*r.b=dot r.n n*b:=by rw[<- hru,ed,t1]
  have hd:∀v∈l,dot r.n v<=r.b:=λv hv=>by
   have h1:=Qir (hf.hd v hv) (Qib hp);rw[<- ed,<- eb] at h1;exact Int.le_of_mul_le_mul_left h1 hnn
  have hF:Ub7 l r:=by
   rcases hr with rfl|rfl
   ·exact Wc3 hu hw hx ht hd
   ·exact yc8 hu hw hx ht hd
  exact⟨dot r.n n,dot n n,hp,hnn,r,hc r hF,p1,p2,p3,eb⟩
 by_cases h0:0<dot q.n n
 ·exact fin q ht (.inl rfl) h0 par
 ·refine fin (ha0 q) ht (.inr rfl) ?_ ?_
  ·rw[bc4]
   have:dot q.n n≠0:=λe=>by
    obtain⟨p1,p2,p3⟩:=par;rw[e] at p1 p2 p3;simp only[Qip] at p1 p2 p3;have z:∀{x:Int},dot n n*x=0->x=0:=λh=>(Qia.1 h).resolve_left (by omega)
    exact yc5 ht.ok (V3.ext' (z p1) (z p2) (z p3))
   omega
  ·rw[bc4];obtain⟨p1,p2,p3⟩:=par;show dot n n*-q.n.x=_/\dot n n*-q.n.y=_/\dot n n*-q.n.z=_;rw[Int.mul_neg,Int.mul_neg,Int.mul_neg,p1,p2,p3,Qiaj,Qiaj,Qiaj];exact⟨rfl,rfl,rfl⟩
end Go.Ev.Ce
namespace Go.Ev.Ce
open Go Go.Ev Go.Ev.L Go.Proofs Go.Sort
def eqV(x y:V3):Bool:=x.x==y.x&&(x.y==y.y&&(x.z==y.z&&true))
theorem Bd5(x y:V3):eqV x y=true↔x=y:=by
 unfold eqV;simp only[Qii,Qas,beq_iff_eq];refine⟨λ⟨h1,h2,h3⟩=>V3.ext' h1 h2 h3,λh=>by subst h;exact⟨rfl,rfl,rfl⟩⟩
theorem Bd6{l:List V3}{j:Nat}(h:j<l.length):ldR tV (bL tV l) (0+j)=true:=by rw[Qar];exact Ud4 tV h
theorem jd2{l:List V3}{j:Nat}(h:j<l.length):rdR tV (bL tV l) (0+j)=gL tV l j:=by rw[Qar];exact Ud3 tV h
theorem Nd7(l:List V3)(n:Nat):E1 (bL tV l) n=bL tV (l.take n):=by unfold bL;rw[D0,j7,j7,List.map_take]
theorem jd3(l:List V3)(n:Nat):j5 (bL tV l) n=bL tV (l.drop n):=by unfold bL;rw[C7,j7,j7,List.map_drop]
theorem Nd8(n:Nat):List.replicate n [i 0,i 0,i 0]=bL tV (List.replicate n ⟨0,0,0⟩):=by unfold bL;rw[j7,List.map_replicate];rfl
def dvF:V3->List V3->List V3
 |_,[]=>[]
 |a,x::l=>if eqV x a then dvF x l else x::dvF x l
def ddV:List V3->List V3
 |[]=>[]
 |x::l=>x::dvF x l
structure De0(l:List V3)(n:Nat)(cur:List V3)(m j:Nat)(R:List V3):Prop where
 len:cur.length=l.length
 t:cur.take m++dvF (gL tV l (j-1)) ((l.take n).drop j)=R
 d:cur.drop (j-1)=l.drop (j-1)
 le:m+1<=j
theorem od3(l:List V3)(n o:Nat)(hn:n<=l.length)(hl:l.length<=1000000000)(ho:o<n)(m:Nat)(cur:List V3)(R:List V3)(hd:De0 l n cur m (o+1) R) :
  ∃t s,lp (p8 ⟨n,0+o,n-o⟩) ⟨(m:Int),((1:Nat):Int),bL tV cur⟩=(t,s)/\(t=1/\∃m' cur' k,s=⟨((m':Nat):Int),k,bL tV cur'⟩/\cur'.length=l.length/\cur'.take m'=R/\m'<=n):=by
 refine Qa2 (step:=p8 ⟨n,0+o,n-o⟩) (mk:=λj (x:Nat×List V3)=>(⟨(x.1:Int),(j:Int),bL tV x.2⟩:o3)) (n-o) (λj x=>De0 l n x.2 x.1 (o+j) R/\1<=j/\x.1<=n) (λt s=>t=1/\∃m' cur' k,s=⟨((m':Nat):Int),k,bL tV cur'⟩/\cur'.length=l.length/\cur'.take m'=R/\m'<=n) (by omega) (λj x hj hx=>?_) (λj x hj hx=>?_) 1 (m,cur) ⟨hd,Qaf _,by have:=hd.le;show m<=n;omega⟩
 ·obtain⟨m,cur⟩:=x;obtain⟨⟨h1,h2,h3,h4⟩,hj1,hmn⟩:=hx
  simp only at h1 h2 h3 h4 hmn
  have hoj:o+j<n:=by omega
  have hjc:o+j<cur.length:=by omega
  have hjc':o+(j-1)<cur.length:=by omega
  have hmc:m<cur.length:=by omega
  have hg':gL tV cur (o+(j-1))=gL tV l (o+j-1):=by rw[show o+(j-1)=o+j-1 by omega];exact Ic6 tV h3
  have hd1:cur.drop (o+j)=l.drop (o+j):=by have:=xc6 h3 1;rw[show o+j-1+1=o+j by omega] at this;exact this
  have hg:gL tV cur (o+j)=gL tV l (o+j):=Ic6 tV hd1;have hWm:W ((m:Int)+1)=((m+1:Nat):Int):=by rw[ia6 (by omega) (by omega)];omega
  have hWj:W ((j:Int)-1)=((j-1:Nat):Int):=by rw[ia6 (by omega) (by omega)];omega
  have hb:Nat.blt m cur.length=true:=by rw[Qcf];exact hmc
  have hrow:j9 (bL tV cur) m=tV.row (gL tV cur m):=za1 tV hmc;have sp:∀(v:V3) (x1 x2 x3:Int),qa9 (tV.row v) 0 [i x1,i x2,i x3]=tV.row ⟨x1,x2,x3⟩:=λ_ _ _ _=>rfl
  have rl:∀v:V3,Nat.ble 3 (len (tV.row v))=true:=λ_=>rfl
  simp only[p8,X6,Int.toNat_natCast,Qar,hWj,Ud4 tV hjc,Ud4 tV hjc',Ud3 tV hjc,Ud3 tV hjc',D2 hj (show n-o<=4611686018427387904 by omega),hWm,hg,hg',hrow,Ob2,hb,sp,rl,Id8,i9 (show m<n by omega)]
  rw[btD (Q6 hj)];simp only[i9 hj,i9 (show j-1<n-o by omega),g7,Qij]
  rw[show ((gL tV l (o+j)).x==(gL tV l (o+j-1)).x&&((gL tV l (o+j)).y==(gL tV l (o+j-1)).y&&((gL tV l (o+j)).z==(gL tV l (o+j-1)).z&&true)))=eqV (gL tV l (o+j)) (gL tV l (o+j-1)) from rfl]
  have hcons:(l.take n).drop (o+j)=gL tV l (o+j)::(l.take n).drop (o+(j+1)):=by
   rw[Qha (by rw[Qie];omega),List.getElem_take,ac0 tV (by omega)]
   rfl
  rw[hcons] at h2;have hlast:o+(j+1)-1=o+j:=by omega
  unfold dvF at h2;cases he:eqV (gL tV l (o+j)) (gL tV l (o+j-1)) with
  |true =>
   rw[he] at h2;simp only[if_true] at h2;refine .nx ⟨(m,cur),rfl,⟨⟨h1,?_,?_,by show m+1<=o+(j+1);omega⟩,by omega,hmn⟩⟩
   ·rw[hlast];exact h2
   ·rw[hlast];exact hd1
  |false =>
   rw[he] at h2;simp only[Qhd,if_false] at h2;refine .nx ⟨(m+1,cur.set m (gL tV l (o+j))),rfl,⟨⟨by rw[List.length_set];exact h1,?_,?_,by show m+1+1<=o+(j+1);omega⟩,by omega,by show m+1<=n;omega⟩⟩
   ·rw[hlast];show (cur.set m (gL tV l (o+j))).take (m+1)++_=R;rw[Qiw (by rw[List.length_set];exact hmc),List.getElem_set_self,List.take_set_of_le (Qaf _),List.append_assoc]
    exact h2
   ·rw[hlast];show (cur.set m (gL tV l (o+j))).drop (o+j)=_;rw[List.drop_set_of_lt (by omega),hd1]
 ·obtain⟨m,cur⟩:=x;obtain⟨⟨h1,h2,h3,h4⟩,hj1,hmn⟩:=hx
  simp only at h1 h2 h3 h4 hmn
  refine⟨1,?_,rfl,m,cur,_,rfl,h1,?_,hmn⟩
  ·simp only[p8,X6];rw[bfD (by omega)]
  ·rw[Qiak (by rw[Qie];omega)] at h2
   unfold dvF at h2;rw[Qbv] at h2;exact h2
theorem Nd9(l:List V3)(n:Nat)(hn:n<=l.length)(hl:l.length<=1000000000) :
  ∃m r,P0 ⟨n,bL tV l⟩=⟨1,m,bL tV r⟩/\m<=r.length/\r.take m=ddV (l.take n)/\r.length=l.length:=by
 unfold P0 Ea1
 simp only
 by_cases h2:(n:Int)<2
 ·rw[btD h2];refine⟨n,l,rfl,hn,?_,rfl⟩
  have:n=0\/n=1:=by omega
  rcases this with rfl|rfl
  ·rfl
  ·cases l with
   |nil=>rfl
   |cons x l=>rfl
 ·rw[bfD h2];have h1n:1<=n:=by omega
  have hI : ∀ j, j < n → 1 ≤ j → l.take j ++ dvF (gL tV l (j - 1)) ((l.take n).drop j) = ddV (l.take n) →
    (eqV (gL tV l j) (gL tV l (j-1))=true->De0 l n l j (j+1) (ddV (l.take n)))/\(eqV (gL tV l j) (gL tV l (j-1))=false->l.take (j+1)++dvF (gL tV l (j+1-1)) ((l.take n).drop (j+1))=ddV (l.take n)):=by
   intro j hj hj1 hR;have hcons:(l.take n).drop j=gL tV l j::(l.take n).drop (j+1):=by
    rw[Qha (by rw[Qie];omega),List.getElem_take,ac0 tV (by omega)]
   rw[hcons] at hR;unfold dvF at hR;constructor
   ·intro he;rw[he] at hR;simp only[if_true] at hR;exact⟨rfl,hR,rfl,Qaf _⟩
   ·intro he;rw[he] at hR;simp only[Qhd,if_false] at hR;rw[Wc0 tV (show j<l.length by omega),List.append_assoc]
    exact hR
  have inner:∀k,k<n->1<=k->De0 l n l k (k+1) (ddV (l.take n))->∃m' cur' k',lp (p8 ⟨n,0+k,n-k⟩) ⟨(k:Int),1,bL tV l⟩=(1,⟨((m':Nat):Int),k',bL tV cur'⟩)/\cur'.length=l.length/\cur'.take m'=ddV (l.take n)/\m'<=n:=by
   intro k hk hk1 hc;obtain⟨t,s,e1,rfl,m',cur',k',rfl,e2,e3,e4⟩:=od3 l n k hn hl hk k l _ hc;exact⟨m',cur',k',e1,e2,e3,e4⟩
  have key:=Qa2 (step:=O9 ⟨n,bL tV l⟩) (mk:=λj (_:Unit)=>(⟨(j:Int)⟩:r6)) n (λj _=>1<=j/\j<=n/\l.take j++dvF (gL tV l (j-1)) ((l.take n).drop j)=ddV (l.take n))
   (λt s=>(t=1/\∃k:Nat,s=⟨(k:Int)⟩/\k<n/\1<=k/\De0 l n l k (k+1) (ddV (l.take n)))\/(t=2/\l.take n=ddV (l.take n))) (by omega) (λj x hj hx=>?_) (λj x hj hx=>?_) 1 () ⟨Qaf _,h1n,by
    cases l with
    |nil=>simp only[List.length_nil] at hn;omega
    |cons x l =>
     cases n with
     |zero=>omega
     |succ n=>rfl⟩
  ·obtain⟨t,s,e1,e2⟩:=key;rw[show (⟨1⟩:r6)=⟨((1:Nat):Int)⟩ from rfl,e1]
   rcases e2 with⟨rfl,k,rfl,hk,hk1,hc⟩|⟨rfl,he⟩
   ·obtain⟨m',cur',k',e2,e3,e4,e5⟩:=inner k hk hk1 hc;simp only[Int.toNat_natCast,e2];simp only[Qar,Nat.sub_zero];refine⟨m',cur'.take m'++(List.replicate (n-m') ⟨0,0,0⟩++cur'.drop (m'+(n-m'))),?_,?_,?_,?_⟩
    ·rw[Nd7,Nd8,jd3,Xb7,Xb7];rfl
    ·rw[Qdc,Qie,e3];omega
    ·rw[Qiz (by rw[Qie,e3];omega),List.take_take,Nat.min_self,e4]
    ·rw[Qdc,Qdc,Qie,Qbm,Qiaf,e3];omega
   ·exact⟨n,l,rfl,hn,he,rfl⟩
  ·obtain⟨hj1,hjn,hR⟩:=hx;obtain⟨i1,i2⟩:=hI j hj hj1 hR;have hWj:W ((j:Int)-1)=((j-1:Nat):Int):=by rw[ia6 (by omega) (by omega)];omega
   have hjl:j<l.length:=by omega
   have hjl':j-1<l.length:=by omega
   simp only[O9,X7,Int.toNat_natCast,hWj,Bd6 hjl,Bd6 hjl',jd2 hjl,jd2 hjl',D2 hj (show n<=4611686018427387904 by omega)]
   rw[btD (Q6 hj),bt (i9 hj),bt (i9 (show j-1<n by omega)),bt (i9 (show j<n+1 by omega))]
   simp only[g7];rw[show ((gL tV l j).x==(gL tV l (j-1)).x&&((gL tV l j).y==(gL tV l (j-1)).y&&((gL tV l j).z==(gL tV l (j-1)).z&&true)))=eqV (gL tV l j) (gL tV l (j-1)) from rfl]
   cases he:eqV (gL tV l j) (gL tV l (j-1)) with
   |false=>exact .nx ⟨(),rfl,by omega,by omega,i2 he⟩
   |true =>
    obtain⟨m',cur',k',e2,e3,e4,e5⟩:=inner j hj hj1 (i1 he);rw[e2];simp only[i9 (show m'<n+1 by omega)]
    exact .ex (.inl ⟨rfl,j,rfl,hj,hj1,i1 he⟩)
  ·obtain⟨hj1,hjn,hR⟩:=hx;refine⟨2,?_,.inr ⟨rfl,?_⟩⟩
   ·simp only[O9,X7];rw[bfD (by omega)]
   ·have:j=n:=by omega
    subst this;rw[Qiak (by rw[Qie];omega)] at hR
    unfold dvF at hR;rw[Qbv] at hR;exact hR
def De1(l:List V3):Prop:=l.Pairwise LtV
theorem Jc2{x y z:V3}(h1:LtV x y)(h2:LtV y z):LtV x z:=by unfold LtV at *;omega
theorem yc9(x:V3):¬ LtV x x:=by unfold LtV;omega
theorem Qe9(x y:V3):LtV x y\/x=y\/LtV y x:=by
 by_cases h1:LtV x y
 ·exact .inl h1
 ·by_cases h2:LtV y x
  ·exact .inr (.inr h2)
  ·refine .inr (.inl ?_);unfold LtV at h1 h2;exact V3.ext' (by omega) (by omega) (by omega)
theorem Yd0(l:List V3):List.Perm (Sb4 l) l:=List.mergeSort_perm l _
theorem pe5(x y z:V3)(h1:(!ltOf Eb3 y x)=true)(h2:(!ltOf Eb3 z y)=true):(!ltOf Eb3 z x)=true:=by
 rw[Sa2] at *
 simp only[Qcc,decide_eq_false_iff_not] at *
 unfold LtV at *
 omega
theorem pe6(x y:V3):((!ltOf Eb3 y x)||(!ltOf Eb3 x y))=true:=by
 rw[Sa2,Sa2];by_cases h:LtV y x
 ·have h2:¬ LtV x y:=λh2=>yc9 x (Jc2 h2 h)
  simp[h2]
 ·simp[h]
theorem Bd7(l:List V3):(Sb4 l).Pairwise λx y=>(!ltOf Eb3 y x)=true:=Qiag pe5 pe6 l
theorem fe8(p:V3):∀(a:V3) (l:List V3),p∈a::dvF a l↔p∈a::l
 |a,[]=>by simp[dvF]
 |a,x::l=>by
  have ih:=fe8 p x l;unfold dvF;split
  ·rename_i h;rw[Bd5] at h;subst h;rw[ih];simp
  ·simp only[Qbi] at ih ⊢;rw[ih]
theorem hf7(p:V3):∀l:List V3,p∈ddV l↔p∈l
 |[]=>Iff.rfl
 |x::l=>fe8 p x l
theorem fe9:∀(a:V3) (l:List V3),(a::l).Pairwise (λx y=>(!ltOf Eb3 y x)=true)->De1 (a::dvF a l)
 |a,[],_=>Qiah _ _
 |a,x::l,h=>by
  obtain⟨h1,h2⟩:=Qif.1 h;have ih:=fe9 x l h2;have hle:=h1 x Qch;rw[Sa2] at hle;have hle:¬ LtV x a:=by simpa using hle
  unfold dvF;split
  ·rename_i he;rw[Bd5] at he;subst he;exact ih
  ·rename_i hne;have hlt:LtV a x:=by
    rcases Qe9 a x with h|h|h
    ·exact h
    ·exact absurd ((Bd5 _ _).2 h.symm) hne
    ·exact absurd h hle
   refine Qif.2 ⟨λp hp=>?_,ih⟩
   rcases Qbi.1 hp with e|hp'
   ·subst e;exact hlt
   ·exact Jc2 hlt ((Qif.1 ih).1 p hp')
theorem jd4(l:List V3):De1 (ddV (Sb4 l)):=by
 have h:=Bd7 l;cases hs:Sb4 l with
 |nil=>exact .nil
 |cons a l'=>rw[hs] at h;exact fe9 a l' h
def dis(l:List V3):List V3:=ddV (Sb4 l)
theorem hc3(l:List V3)(v:V3):v∈dis l↔v∈l:=by unfold dis;rw[hf7,(Yd0 l).mem_iff]
theorem Jc3(l:List V3):(dis l).Nodup:=List.Pairwise.imp (λ{x y} (h:LtV x y) (e:x=y)=>yc9 y (e ▸ h)) (jd4 l)
theorem ge0(l:List V3):(dis l).length<=l.length:=by
 have:=List.Nodup.length_le_of_subset (Jc3 l) (λv hv=>(hc3 l v).1 hv)
 exact this
theorem ud1(l:List V3)(n:Nat)(hn:n<=l.length):slR tV (bL tV l) 0 n=l.take n:=cd7 tV (by rw[Qie];omega) λk hk=>by
 rw[Qar,za1 tV (by omega)]
 congr 1;simp[gL,Qda,Qap,hk]
theorem Jc4(l:List V3)(n:Nat)(hn:n<=l.length):okS tV (bL tV l) 0 n=true:=Ob1 tV (f:=λk=>gL tV l k) λk hk=>by rw[Qar,za1 tV (by omega)]
theorem ud2(a:V3)(l:List V3)(hl:l.length<=1000000):ia7 (a,l)=⟨1,(a::l).length,bL tV (a::l)⟩:=by
 have ec:m8 (λk=>tV.row (gL tV (a::l) k)) (List.range (l.length+1))=bL tV (a::l):=cd8 tV (a::l)
 unfold ia7 Ra0;simp only[ec,Ob2];have r:Nat.ble ((0+(a::l).length)*24) room=true:=by rw[Nat.ble_eq];unfold room;simp only[List.length_cons];omega
 rw[r,Qar];rfl
theorem zc0(a:V3)(l:List V3)(hl:l.length<=1000000):∃m r,P0 ⟨(a::l).length,app (bL tV (Sb4 (slR tV (bL tV (a::l)) 0 (a::l).length))) (j5 (bL tV (a::l)) (a::l).length)⟩=⟨1,m,bL tV r⟩/\m<=r.length/\r.take m=dis (a::l)/\r.length=l.length+1:=by
 have hs:(Sb4 (a::l)).length=(a::l).length:=td6 _;rw[yd6,jd3,Xb7];obtain⟨m,r,k1,k2,k3,k4⟩:=Nd9 (Sb4 (a::l)++(a::l).drop (a::l).length) (a::l).length (by rw[Qdc,hs];omega) (by rw[Qdc,hs,Qiaf];simp only[List.length_cons];omega)
 refine⟨m,r,k1,k2,?_,by rw[k4,Qdc,hs,Qiaf];simp only[List.length_cons];omega⟩
 rw[k3,Qiz (by rw[hs];omega),List.take_of_length_le (by rw[hs];omega)]
 rfl
theorem Od0(l:List V3)(hl:l.length<=2000000)(r:List V3):(Bool.and (Nat.ble l.length room) (Bool.and (Nat.ble l.length (len (bL tV (l++r)))) (okS tV (bL tV (l++r)) 0 l.length)))=true:=by
 rw[Jc4 _ _ (by rw[Qdc];omega),Ob2,Qas,Qas,Nat.ble_eq,Nat.ble_eq]
 refine⟨by unfold room;omega,by rw[Qdc];omega,rfl⟩
theorem Oc5(a:V3)(l:List V3)(hl:l.length<=1000000):Rd (one (r1L tV)) (ya1 (a,l)) (λr=>r=dis (a::l)):=by
 obtain⟨m,r,k1,k2,k3,_⟩:=zc0 a l hl;have hok:okL tV (l.length+1) (λk=>tV.row (gL tV (a::l) k))=true:=Ob1 tV (f:=λk=>gL tV (a::l) k) λ_ _=>rfl
 have hr:=Od0 (a::l) (by simp only[List.length_cons];omega) []
 rw[Qbv] at hr;unfold ya1;simp only[ce4,ce5,ud2 a l hl,hok,k1,g7,Qiad,hr];refine⟨_,r.take m,rfl,?_,k3⟩;show Bool.rec (motive:=λ_=>Option (List V3)) none (some (slR tV (bL tV r) 0 m)) (Bool.and true (okS tV (bL tV r) 0 m))=_
 rw[ud1 r m k2,Jc4 r m k2];rfl
theorem Yd1(a:V3)(l:List V3)(hl:l.length<=1000000):ib0 (a,l)=dis (a::l):=(Oc5 a l hl).p
theorem Yd2(a:V3)(l:List V3)(hl:l.length<=1000000):ib1 (a,l)=true:=(Oc5 a l hl).g
end Go.Ev.Ce
namespace Go.Ev.Ce
open Go Go.Ev Go.Ev.L Go.Proofs
theorem Od1(p:Pln)(v:V3):Va5 p v=some (i (la7 p v),[]):=by
 unfold Va5 la7;simp only[Pe6,Pe7,(Fb0 v).1,(Fb0 v).2,ee4,ee5,g7];cases hp:okp p with
 |false=>rfl
 |true =>
  cases hv:inV v with
  |false=>rfl
  |true =>
   have hb:=Ic4 hp;have hd:=gf5 hb hv;have e:U4 p.n v=dot p.n v:=by
    unfold U4;simp only[gd8,Ad4];exact Ic1 (hd.mono (by omega))
   rw[e];simp only[Bool.not_true,Jb0,Qij,if_true,Db0];by_cases h1:dot p.n v<p.b
   ·rw[if_pos h1,if_pos (by omega)]
   ·rw[if_neg h1];by_cases h2:dot p.n v>p.b
    ·rw[if_pos h2,if_neg (by omega),if_pos (by omega)]
    ·rw[if_neg h2,if_neg (by omega),if_neg (by omega)]
theorem zc1(p:Pln)(v:V3):na9 p v=la7 p v:=by unfold na9;rw[Od1];rfl
theorem zc2(p:Pln)(v:V3):oa0 p v=true:=by unfold oa0;rw[Od1];rfl
theorem Re0{v:V3}(h1:Sm 1000000000000000000 v.x)(h2:Sm 1000000000000000000 v.y)(h3:Sm 1000000000000000000 v.z):ca4 [v.x,v.y,v.z]=g3 v/\ca5 [v.x,v.y,v.z]=true:=by
 have hd:=id4 [v.x,v.y,v.z] (by simp) (by
  intro x hx;simp only[Qbi,Qis,or_false] at hx
  rcases hx with rfl|rfl|rfl<;>assumption)
 have hg:([v.x,v.y,v.z].foldl (λg x=>Nat.gcd g x.natAbs) 0:Nat)=Nat.gcd (Nat.gcd v.x.natAbs v.y.natAbs) v.z.natAbs:=by
  simp only[List.foldl_cons,List.foldl_nil,Qiab]
 exact⟨by unfold ca4;rw[hd,hg];rfl,by unfold ca5;rw[hd];rfl⟩
theorem De2{v:V3}(h1:Sm 1000000000000000000 v.x)(h2:Sm 1000000000000000000 v.y)(h3:Sm 1000000000000000000 v.z) :
  Va4 v=if g3 v=0 then some (.tup [.agg (tV.row ⟨0,0,0⟩),i 0],[]) else some (.tup [.agg (tV.row ⟨W (Int.tdiv v.x (g3 v)),W (Int.tdiv v.y (g3 v)),W (Int.tdiv v.z (g3 v))⟩),i (g3 v)],[]):=by
 obtain⟨e1,e2⟩:=Re0 h1 h2 h3;unfold Va4;simp only[e1,e2,g7];by_cases h:g3 v=0
 ·rw[if_pos h,bt (by simpa using h)];rfl
 ·rw[if_neg h,bf (by simpa using h),bf (by simpa using h),bf (by simpa using h),bf (by simpa using h)];rfl
theorem Oc6(a c d:V3):xa9 a c d=some (.tup [.agg (tP.row (I6 a c d).1),b (I6 a c d).2],[]):=by
 unfold xa9 I6;simp only[(Fb0 _).1,(Fb0 _).2];cases ha:inV a with
 |false=>rfl
 |true =>
  cases hc:inV c with
  |false=>rfl
  |true =>
   cases hd:inV d with
   |false=>rfl
   |true =>
    obtain⟨e,k1,k2,k3⟩:=Eb9 ha hc hd;have e':fa6 (Ca8 c a) (Ca8 d a)=d7 (sub c a) (sub d a):=e;rw[e'];generalize d7 (sub c a) (sub d a)=n at *
    have m1:=k1.mono (m:=1000000000000000000) (by omega)
    have m2:=k2.mono (m:=1000000000000000000) (by omega)
    have m3:=k3.mono (m:=1000000000000000000) (by omega)
    have hpr:=De2 m1 m2 m3;have gp:lb9 n=true:=by unfold lb9;rw[hpr];split<;>rfl
    by_cases h0:g3 n=0
    ·have pp:Ia3 n=(⟨0,0,0⟩,0):=by unfold Ia3;rw[hpr,if_pos h0];rfl
     have hz:U4 ⟨0,0,0⟩ a=0:=by unfold U4;simp only[Qip];rfl
     simp only[gp,pp,hz,Qij,if_true,h0];rfl
    ·have hp:=gc7 n;have q1:=oa3 (g:=g3 n) k1 (by omega)
     have q2:=oa3 (g:=g3 n) k2 (by omega)
     have q3:=oa3 (g:=g3 n) k3 (by omega)
     rw[Ic1 (q1.mono (by omega)),Ic1 (q2.mono (by omega)),Ic1 (q3.mono (by omega))] at hpr
     have pp:Ia3 n=(⟨Int.tdiv n.x (g3 n),Int.tdiv n.y (g3 n),Int.tdiv n.z (g3 n)⟩,g3 n):=by unfold Ia3;rw[hpr,if_neg h0];rfl
     have hdot:U4 ⟨Int.tdiv n.x (g3 n),Int.tdiv n.y (g3 n),Int.tdiv n.z (g3 n)⟩ a=dot ⟨Int.tdiv n.x (g3 n),Int.tdiv n.y (g3 n),Int.tdiv n.z (g3 n)⟩ a:=by
      unfold U4;simp only[gd8,Ad4];obtain⟨⟨a1,a2⟩,⟨a3,a4⟩,a5,a6⟩:=(Bb3 a).1 ha;have r1:=mb q1.1 q1.2 a1 a2;have r2:=mb q2.1 q2.2 a3 a4;have r3:=mb q3.1 q3.2 a5 a6;rw[ia6 (by omega) (by omega)]
      rfl
     simp only[gp,pp,hdot,Qij,if_true,h0,if_false,show g3 n>0 from by omega,decide_true]
     rfl
theorem Pb9(a b c:V3):K8 a b c=I6 a b c:=by unfold K8;rw[Oc6];rfl
theorem qc6(a b c:V3):ma8 a b c=true:=by unfold ma8;rw[Oc6];rfl
theorem De3(v:V3)(p:Pln):cb4 ⟨v.x,v.y,v.z,p.n.x,p.n.y,p.n.z,p.b⟩=⟨1,la7 p v != 0⟩:=by
 unfold cb4 Db6;simp only[zc1,zc2,g7]
theorem Re1(l:List V3)(p:Pln)(hl:l.length<=1000000000):aa2 ⟨l,p.n.x,p.n.y,p.n.z,p.b⟩=⟨1,if l.any (λv=>la7 p v != 0) then ((l.findIdx (λv=>la7 p v != 0):Nat):Int) else -1⟩:=by
 have h:=qa7 (step:=J7 ⟨l,(l.length:Int),p.n.x,p.n.y,p.n.z,p.b⟩) (mk:=λj=>(⟨(j:Int)⟩:m9)) (c:=λv=>la7 p v != 0) (u:=1) (fin:=2) tV l hl
  (λj hj=>by
   simp only[J7,Q0,Int.toNat_natCast,De3,D2 hj (by omega)]
   rw[bt (Da8 hj),bt (i9 hj)]
   rfl)
  (by simp only[J7,Q0];rw[bf (oa2 (Qid _))]) 0 (Qbw _)
 rw[Qim] at h;unfold aa2 ra8;simp only[i8,j6];rw[show (⟨0⟩:m9)=⟨((0:Nat):Int)⟩ from rfl,h]
 split
 ·simp only[Qar];rfl
 ·rfl
theorem ge1(l:List V3)(p:Pln)(hl:l.length<=1000000000):p5 ⟨l,p.n.x,p.n.y,p.n.z,p.b⟩=⟨1,l.any λv=>la7 p v != 0⟩:=by
 unfold p5 ha9;simp only[i8,j6,Re1 l p hl];split
 ·rename_i h;rw[h,show decide (((l.findIdx (λv=>la7 p v != 0):Nat):Int)>=0)=true from decide_eq_true (by omega)];rfl
 ·rename_i h;rw[Qix] at h;rw[h];rfl
theorem Re2(v:V3)(p:Pln):Pa9 ⟨v.x,v.y,v.z,p.n.x,p.n.y,p.n.z,p.b⟩=⟨1,decide (la7 p v>0)⟩:=by
 unfold Pa9 hb7;simp only[zc1,zc2,g7]
theorem Re3(l:List V3)(p:Pln)(hl:l.length<=1000000000):aa3 ⟨l,p.n.x,p.n.y,p.n.z,p.b⟩=⟨1,if l.any (λv=>decide (la7 p v>0)) then ((l.findIdx (λv=>decide (la7 p v>0)):Nat):Int) else -1⟩:=by
 have h:=qa7 (step:=J8 ⟨l,(l.length:Int),p.n.x,p.n.y,p.n.z,p.b⟩) (mk:=λj=>(⟨(j:Int)⟩:m9)) (c:=λv=>decide (la7 p v>0)) (u:=1) (fin:=2) tV l hl
  (λj hj=>by
   simp only[J8,Q1,Int.toNat_natCast,Re2,D2 hj (by omega)]
   rw[bt (Da8 hj),bt (i9 hj)]
   rfl)
  (by simp only[J8,Q1];rw[bf (oa2 (Qid _))]) 0 (Qbw _)
 rw[Qim] at h;unfold aa3 sa3;simp only[i8,j6];rw[show (⟨0⟩:m9)=⟨((0:Nat):Int)⟩ from rfl,h]
 split
 ·simp only[Qar];rfl
 ·rfl
theorem Re4(l:List V3)(p:Pln)(hl:l.length<=1000000000):R8 ⟨l,p.n.x,p.n.y,p.n.z,p.b⟩=⟨1,l.any λv=>decide (la7 p v>0)⟩:=by
 unfold R8 ia2;simp only[i8,j6,Re3 l p hl];split
 ·rename_i h;rw[h,show decide (((l.findIdx (λv=>decide (la7 p v>0)):Nat):Int)>=0)=true from decide_eq_true (by omega)];rfl
 ·rename_i h;rw[Qix] at h;rw[h];rfl
def bey(l:List V3)(p:Pln):Bool:=l.any λv=>decide (la7 p v>0)
theorem ud3(l:List V3)(p:Pln)(hl:l.length<=1000000000):La9 l p=some (b (bey l p),[]):=by
 unfold La9;simp only[i8,j6,Re4 l p hl];rfl
theorem De4(l:List V3)(p:Pln)(hl:l.length<=1000000000):ga0 l p=bey l p:=by unfold ga0;rw[ud3 l p hl];rfl
theorem De5(l:List V3)(p:Pln)(hl:l.length<=1000000000):ga1 l p=true:=by unfold ga1;rw[ud3 l p hl];rfl
theorem ud4{α:Type}(t:Ty α)(l:List α){j k:Nat}(h:k<j):gL t (l.take j) k=gL t l k:=by
 simp[gL,Qda,Qap,h]
theorem De6(l:List V3)(i j:Nat)(hi:i<l.length)(hj:j<i)(hl:l.length<=1000000) :
  lp (R7 ⟨(i:Int),(j:Int),(l.length:Int),(i:Int),(i:Int),(j:Int),(j:Int),l,l⟩) ⟨0⟩ =
   if (l.take j).any (λv=>(I6 v (gL tV l j) (gL tV l i)).2) then (1,⟨((l.take j).findIdx (λv=>(I6 v (gL tV l j) (gL tV l i)).2):Nat)⟩) else (2,⟨(j:Int)⟩):=by
 have hlen:(l.take j).length=j:=by rw[Qie];omega
 have h:=qa7 (step:=R7 ⟨(i:Int),(j:Int),(l.length:Int),(i:Int),(i:Int),(j:Int),(j:Int),l,l⟩) (mk:=λk=>(⟨(k:Int)⟩:K9)) (c:=λv=>(I6 v (gL tV l j) (gL tV l i)).2) (u:=1) (fin:=2) tV (l.take j) (by omega)
  (λk hk=>by
   rw[hlen] at hk;simp only[R7,Pa6,Int.toNat_natCast,Pb9,qc6,ud4 tV l hk,i8,j6,ge1 l _ (show l.length<=1000000000 by omega),D2 hk (by omega)]
   rw[btD (Q6 hk),bt (i9 (by omega)),bt (i9 (by omega)),bt (i9 hi),g7]
   cases (I6 (gL tV l k) (gL tV l j) (gL tV l i)).2<;>rfl)
  (by rw[hlen];simp only[R7,Pa6];rw[bfD (Z3 (Qid _))]) 0 (Qbw _)
 rw[Qim,hlen] at h;rw[show (⟨0⟩:K9)=⟨((0:Nat):Int)⟩ from rfl,h]
 split
 ·simp only[Qar]
 ·rfl
def ixs(n:Nat):List Int:=(List.range n).map λk:Nat=>(k:Int)
theorem nb2(n:Nat):(ixs n).length=n:=by simp[ixs]
theorem ge2{n k:Nat}(h:k<n):gL tI (ixs n) k=(k:Int):=by
 simp[gL,ixs,Qda,Qbe,List.getElem?_range h]
def sp2(l:List V3)(i:Nat)(m:Int):Bool:=(l.take m.toNat).any λv=>(I6 v (gL tV l m.toNat) (gL tV l i)).2
theorem De7(l:List V3)(i:Nat)(hi:i<l.length)(hl:l.length<=1000000) :
  lp (Z1 ⟨(i:Int),(l.length:Int),(i:Int),(i:Int)⟩) ⟨0,l,l⟩=if (ixs i).any (sp2 l i) then (1,⟨((ixs i).findIdx (sp2 l i):Nat),l,l⟩) else (2,⟨(i:Int),l,l⟩):=by
 have h:=qa7 (step:=Z1 ⟨(i:Int),(l.length:Int),(i:Int),(i:Int)⟩) (mk:=λj=>(⟨(j:Int),l,l⟩:N9)) (c:=sp2 l i) (u:=1) (fin:=2) tI (ixs i) (by rw[nb2];omega)
  (λj hj=>by
   rw[nb2] at hj;simp only[Z1,Pa7,Int.toNat_natCast,Nat.sub_zero,i8,j6,De6 l i j hi hj hl,D2 hj (by omega),ge2 hj]
   rw[btD (Q6 hj),bt (i9 (by omega))]
   unfold sp2;simp only[Int.toNat_natCast];cases ((l.take j).any λv=>(I6 v (gL tV l j) (gL tV l i)).2)<;>rfl)
  (by rw[nb2];simp only[Z1,Pa7];rw[bfD (Z3 (Qid _))]) 0 (Qbw _)
 rw[Qim,nb2] at h;rw[show (⟨0,l,l⟩:N9)=⟨((0:Nat):Int),l,l⟩ from rfl,h]
 split
 ·simp only[Qar]
 ·rfl
def sp1(l:List V3)(m:Int):Bool:=(ixs m.toNat).any (sp2 l m.toNat)
theorem hf8(l:List V3)(hl:l.length<=1000000) :
  lp (sa0 ⟨(l.length:Int)⟩) ⟨0,l,l⟩=if (ixs l.length).any (sp1 l) then (1,⟨((ixs l.length).findIdx (sp1 l):Nat),l,l⟩) else (2,⟨(l.length:Int),l,l⟩):=by
 have h:=qa7 (step:=sa0 ⟨(l.length:Int)⟩) (mk:=λj=>(⟨(j:Int),l,l⟩:X5)) (c:=sp1 l) (u:=1) (fin:=2) tI (ixs l.length) (by rw[nb2];omega)
  (λi hi=>by
   rw[nb2] at hi;simp only[sa0,Pa8,Int.toNat_natCast,Nat.sub_zero,i8,j6,De7 l i hi hl,D2 hi (by omega),ge2 hi]
   rw[btD (Q6 hi),bt (i9 (by omega))]
   unfold sp1;simp only[Int.toNat_natCast];cases (ixs i).any (sp2 l i)<;>rfl)
  (by rw[nb2];simp only[sa0,Pa8];rw[bfD (Z3 (Qid _))]) 0 (Qbw _)
 rw[Qim,nb2] at h;rw[show (⟨0,l,l⟩:X5)=⟨((0:Nat):Int),l,l⟩ from rfl,h]
 split
 ·simp only[Qar]
 ·rfl
theorem Bd8{α:Type}{l:List α}{c:α->Bool}(h:l.any c=true):l.findIdx c<l.length:=by
 obtain⟨x,h1,h2⟩:=Qil.1 h;exact List.findIdx_lt_length_of_exists ⟨x,h1,h2⟩
theorem hc5{n:Nat}{c:Int->Bool}(h:(ixs n).any c=true):(ixs n).findIdx c<n/\c ((ixs n).findIdx c:Nat)=true:=by
 have hlt:=Bd8 h;have h1:=List.findIdx_getElem (xs:=ixs n) (p:=c) (w:=hlt);rw[nb2] at hlt;refine⟨hlt,?_⟩;simpa [ixs] using h1
def iF(l:List V3):Nat:=(ixs l.length).findIdx (sp1 l)
def jF(l:List V3):Nat:=(ixs (iF l)).findIdx (sp2 l (iF l))
def kF(l:List V3):Nat:=(l.take (jF l)).findIdx (λv=>(I6 v (gL tV l (jF l)) (gL tV l (iF l))).2)
def plF(l:List V3):Pln:=(I6 (gL tV l (kF l)) (gL tV l (jF l)) (gL tV l (iF l))).1
def lc5(l:List V3):Bool:=if (ixs l.length).any (sp1 l) then !(l.any λv=>la7 (plF l) v != 0) else true
theorem Od2(l:List V3)(hl:l.length<=1000000):db7 l=some (b (lc5 l),[]):=by
 unfold db7 lc5;simp only[i8,j6];rw[hf8 l hl];by_cases h:(ixs l.length).any (sp1 l)=true
 ·obtain⟨hi,h1⟩:=hc5 h;have h1:(ixs (iF l)).any (sp2 l (iF l))=true:=h1;obtain⟨hj,h2⟩:=hc5 h1;have h2:(l.take (jF l)).any (λv=>(I6 v (gL tV l (jF l)) (gL tV l (iF l))).2)=true:=h2
  rw[if_pos h,if_pos h];simp only[Int.toNat_natCast,Nat.sub_zero];rw[show (ixs l.length).findIdx (sp1 l)=iF l from rfl,De7 l (iF l) hi hl,if_pos h1]
  simp only[Int.toNat_natCast,Nat.sub_zero];rw[show (ixs (iF l)).findIdx (sp2 l (iF l))=jF l from rfl,De6 l (iF l) (jF l) hi hj hl,if_pos h2]
  simp only[Int.toNat_natCast,Pb9];rw[show (l.take (jF l)).findIdx (λv=>(I6 v (gL tV l (jF l)) (gL tV l (iF l))).2)=kF l from rfl,show (I6 (gL tV l (kF l)) (gL tV l (jF l)) (gL tV l (iF l))).1=plF l from rfl,ge1 l _ (by omega)]
  rfl
 ·rw[if_neg h,if_neg h];rfl
theorem Re5(l:List V3)(hl:l.length<=1000000):Ab6 l=lc5 l:=by unfold Ab6;rw[Od2 l hl];rfl
theorem Re6(l:List V3)(hl:l.length<=1000000):Ab7 l=true:=by unfold Ab7;rw[Od2 l hl];rfl
theorem ud5(v:V3):Da3 v=some (b (!inV v),[]):=by
 unfold Da3;simp only[(Fb0 v).1,(Fb0 v).2,g7]
theorem De8(v:V3):Va7 v=!inV v:=by unfold Va7;rw[ud5];rfl
theorem De9(v:V3):Va8 v=true:=by unfold Va8;rw[ud5];rfl
theorem Re7(l:List V3)(hl:l.length<=1000000000):aa4 ⟨l⟩=⟨1,if l.any (λv=>!inV v) then ((l.findIdx (λv=>!inV v):Nat):Int) else -1⟩:=by
 have h:=qa7 (step:=J9 ⟨l,(l.length:Int)⟩) (mk:=λj=>(⟨(j:Int)⟩:m9)) (c:=λv=>!inV v) (u:=1) (fin:=2) tV l hl
  (λj hj=>by
   simp only[J9,Q3,Int.toNat_natCast,De8,De9,D2 hj (by omega)]
   rw[bt (Da8 hj),bt (i9 hj),g7])
  (by simp only[J9,Q3];rw[bf (oa2 (Qid _))]) 0 (Qbw _)
 rw[Qim] at h;unfold aa4 sa6;simp only[i8,j6];rw[show (⟨0⟩:m9)=⟨((0:Nat):Int)⟩ from rfl,h]
 split
 ·simp only[Qar];rfl
 ·rfl
theorem Re8(l:List V3)(hl:l.length<=1000000000):R9 ⟨l⟩=⟨1,l.any λv=>!inV v⟩:=by
 unfold R9 ia5;simp only[i8,j6,Re7 l hl];split
 ·rename_i h;rw[h,show decide (((l.findIdx (λv=>!inV v):Nat):Int)>=0)=true from decide_eq_true (by omega)];rfl
 ·rename_i h;rw[Qix] at h;rw[h];rfl
def X3(l:List V3):Int:=if (l.length:Int)>48 then 2 else if l.any (λv=>!inV v) then 3 else if lc5 l then 11 else 0
theorem ud6(l:List V3)(hl:l.length<=1000000):Va9 l=some (i (X3 l),[]):=by
 unfold Va9 X3;simp only[i8,j6,G3,Re8 l (by omega),Re5 l hl,Re6 l hl]
 by_cases h:(l.length:Int)>48
 ·rw[btD h,if_pos h]
 ·rw[bfD h,if_neg h];cases l.any λv=>!inV v with
  |true=>rfl
  |false=>cases lc5 l<;>rfl
theorem zc3(l:List V3)(hl:l.length<=1000000):wa8 l=X3 l:=by unfold wa8;rw[ud6 l hl];rfl
theorem zc4(l:List V3)(hl:l.length<=1000000):wa9 l=true:=by unfold wa9;rw[ud6 l hl];rfl
theorem Ee0{p:Pln}(h:Bd p):Ia2 p=ha0 p:=by
 unfold Ia2 Ca8 ha0
 simp only
 have:=h.x1;have:=h.x2;have:=h.y1;have:=h.y2;have:=h.z1;have:=h.z2;have:=h.b1;have:=h.b2
 rw[ia6 (by omega) (by omega),ia6 (by omega) (by omega),ia6 (by omega) (by omega),ia6 (by omega) (by omega)]
 simp only[Int.zero_sub]
def Bd9(p:Pln):List a7:=[i p.n.x,i p.n.y,i p.n.z,i p.b,b true]
def Bb4(l:PLq):List (List a7):=l.map Bd9
theorem ud7(x q:Pln):ic3 flK [i x.n.x,i x.n.y,i x.n.z,i x.b] (Bd9 q)=eqP q x:=by
 show Bool.and (decide (x.n.x=q.n.x)) (Bool.and (decide (x.n.y=q.n.y)) (Bool.and (decide (x.n.z=q.n.z)) (Bool.and (decide (x.b=q.b)) true)))=_;unfold eqP;have h:∀a c:Int,decide (a=c)=(c==a):=λa c=>by rw[Bool.eq_iff_iff,decide_eq_true_eq,beq_iff_eq];exact eq_comm
 rw[h,h,h,h]
theorem Od3(x:Pln):∀l,Ib4 4 [(0,.int .i64),(1,.int .i64),(2,.int .i64),(3,.int .i64)] [i x.n.x,i x.n.y,i x.n.z,i x.b] (Bb4 l)=yc4 l x
 |[]=>rfl
 |q::l=>by
  have ih:=Od3 x l;unfold Ib4 at ih ⊢;show Option.rec (motive:=λ_=>Bool) false (λr=>toB (hdA (j5 r 4))) (Bool.rec (motive:=λ_=>Option (List a7)) (Mc1 flK [i x.n.x,i x.n.y,i x.n.z,i x.b] (Bb4 l)) (some (Bd9 q)) (ic3 flK [i x.n.x,i x.n.y,i x.n.z,i x.b] (Bd9 q)))=yc4 (q::l) x
  rw[ud7];unfold yc4 at ih ⊢;rw[List.any_cons];cases eqP q x with
  |true=>rfl
  |false=>exact ih
theorem Yd3(x:Pln):∀l,yc4 l x=false->gb0 [(0,.int .i64),(1,.int .i64),(2,.int .i64),(3,.int .i64)] [i x.n.x,i x.n.y,i x.n.z,i x.b] [i x.n.x,i x.n.y,i x.n.z,i x.b,b true] (Bb4 l)=Bb4 (l++[x])
 |[],_=>rfl
 |q::l,h=>by
  unfold yc4 at h;rw[List.any_cons,Bool.or_eq_false_iff] at h;show Bool.rec (motive:=λ_=>List (List a7)) (Bd9 q::gb0 flK [i x.n.x,i x.n.y,i x.n.z,i x.b] (Bd9 x) (Bb4 l)) (Bd9 x::Bb4 l) (ic3 flK [i x.n.x,i x.n.y,i x.n.z,i x.b] (Bd9 q))=_
  rw[ud7,h.1,show gb0 flK [i x.n.x,i x.n.y,i x.n.z,i x.b] (Bd9 x) (Bb4 l)=_ from Yd3 x l h.2]
  rfl
def qc7(s:PLq)(p:Pln):PLq:=if yc4 s p then s else s++[p]
theorem Ee1(s:PLq)(p q:Pln):q∈qc7 s p↔q∈s\/q=p:=by
 unfold qc7;split
 ·rename_i h;rw[Nd2] at h;exact⟨.inl,λh'=>h'.elim id λe=>e ▸ h⟩
 ·rw[Qiai,Qiu]
theorem jd5{s:PLq}{p:Pln}(h:s.Nodup):(qc7 s p).Nodup:=by
 unfold qc7;split
 ·exact h
 ·rename_i hn;rw[Nd2] at hn;rw[List.nodup_append];exact⟨h,by simp,λa ha b hb=>by rw[Qiu.1 hb];intro e;exact hn (e ▸ ha)⟩
theorem Od4(s:PLq)(p:Pln):(qc7 s p).length<=s.length+1:=by
 unfold qc7;split
 ·omega
 ·simp
def fil(l:List V3)(s:PLq):PLq:=s.filter λp=>!bey l p
theorem Wc4(l:List V3)(s:PLq)(p:Pln):fil l (s++[p])=if bey l p then fil l s else fil l s++[p]:=by
 unfold fil;rw[List.filter_append,List.filter_cons,List.filter_nil];cases bey l p<;>simp
theorem Cd0(l:List V3)(s:PLq):(fil l s).length<=s.length:=List.length_filter_le _ _
def lc6(l:List V3)(a c:Nat)(s:PLq)(k:Nat):PLq :=
 if (I6 (gL tV l k) (gL tV l c) (gL tV l a)).2 then qc7 (qc7 s (I6 (gL tV l k) (gL tV l c) (gL tV l a)).1) (ha0 (I6 (gL tV l k) (gL tV l c) (gL tV l a)).1) else s
def G2(l:List V3)(a:Nat)(s:PLq)(c:Nat):PLq:=(List.range c).foldl (lc6 l a c) s
def G1(l:List V3)(s:PLq)(a:Nat):PLq:=(List.range a).foldl (G2 l a) s
def G0(l:List V3):PLq:=(List.range l.length).foldl (G1 l) []
theorem ud8(l:List V3)(a c:Nat)(s:PLq)(k:Nat):(lc6 l a c s k).length<=s.length+2:=by
 unfold lc6;split
 ·have h1:=Od4 (qc7 s (I6 (gL tV l k) (gL tV l c) (gL tV l a)).1) (ha0 (I6 (gL tV l k) (gL tV l c) (gL tV l a)).1);have h2:=Od4 s (I6 (gL tV l k) (gL tV l c) (gL tV l a)).1;omega
 ·omega
theorem hf9(l:List V3)(a:Nat)(s:PLq)(c:Nat):(G2 l a s c).length<=s.length+2*c:=jd0 (ud8 l a c) s c
theorem Yd4(l:List V3)(a:Nat)(s:PLq):∀j,j<=a->a<=48->((List.range j).foldl (G2 l a) s).length<=s.length+96*j
 |0,_,_=>Qaf _
 |j+1,h,ha=>by
  rw[L4];have h1:=Yd4 l a s j (by omega) ha
  have h2:=hf9 l a ((List.range j).foldl (G2 l a) s) j;omega
theorem Cd1(l:List V3)(hl:l.length<=48):∀j,j<=l.length->((List.range j).foldl (G1 l) []).length<=5000*j
 |0,_=>Qaf _
 |j+1,h=>by
  rw[L4];have h1:=Cd1 l hl j (by omega)
  have h2:(G1 l ((List.range j).foldl (G1 l) []) j).length<=_:=Yd4 l j ((List.range j).foldl (G1 l) []) j (Qaf _) (by omega)
  omega
@[reducible] def mkf(l:List V3)(k:Nat)(s:PLq):D3:=⟨phP (fil l s),(k:Int),Bb4 s,(fil l s).length,bL tP (fil l s)⟩
theorem Jc5{n:Nat}{l:PLq}(hn:n=l.length)(h:l.length<=1000000000):(Nat.beq n (len (bL tP l))&&Nat.ble ((n+1)*32) room)=true:=by
 subst hn;rw[Ob2,Qiad,Bool.true_and];exact Oe9 (by omega)
theorem ge3(o:PLq)(x:Pln):phP (o++[x])=1:=by cases o<;>rfl
theorem Ee2(l:List V3)(hl:l.length<=48)(a c k:Nat)(ha:a<l.length)(hc:c<a)(hk:k<c)(x1 x2 x3 x4:Int)(s:PLq)(ho:s.length<=900000) :
  U5 ⟨(a:Int),(c:Int),x1,x2,x3,x4,(c:Int),l,l⟩ (mkf l k s)=.next (mkf l (k+1) (lc6 l a c s k)):=by
 have hfl:Ia2 (I6 (gL tV l k) (gL tV l c) (gL tV l a)).1=ha0 (I6 (gL tV l k) (gL tV l c) (gL tV l a)).1:=Ee0 (Qe5 _ _ _);have hb:∀p,ga0 l p=bey l p:=λp=>De4 l p (by omega)
 have hg:∀p,ga1 l p=true:=λp=>De5 l p (by omega)
 have hn:=D2 hk (show c<=4611686018427387904 by omega)
 have b1:inB (a:Int) l.length=true:=i9 ha;have b2:inB (c:Int) l.length=true:=i9 (by omega)
 have b3:inB (k:Int) l.length=true:=i9 (by omega)
 have hfl2:=Cd0 l s;unfold lc6;unfold mkf;generalize hT:I6 (gL tV l k) (gL tV l c) (gL tV l a)=T at *
 cases hO:fil l s with
 |nil =>
  show ga2 Stp.next Stp.exit Stp.fail _ _=_;simp only[ga2,Pb9,qc6,Int.toNat_natCast,i8,G3,hT,hfl,hb,hg,hn,b1,b2,b3,Od3];rw[btD (Q6 hk)];cases h2:T.2 with
  |false=>simp only[Qhd,if_false,hO];rfl
  |true =>
   simp only[if_true,g7];cases h3:yc4 s T.1 with
   |true =>
    cases h4:yc4 s (ha0 T.1) with
    |true=>simp only[qc7,h3,h4,if_true,hO];rfl
    |false =>
     rw[Yd3 _ _ h4];cases h5:bey l (ha0 T.1)<;>(simp only[qc7,h3,h4,h5,if_true,if_false,Qhd,Wc4,hO];rfl)
   |false =>
    simp only[Yd3 _ _ h3,Od3];cases h5:bey l T.1<;>cases h4:yc4 (s++[T.1]) (ha0 T.1)<;>(try simp only[Yd3 _ _ h4])<;>cases h6:bey l (ha0 T.1)<;>(simp only[qc7,h3,h4,h5,h6,if_true,if_false,Qhd,Wc4,hO];rfl)
 |cons q o =>
  have rr:(Nat.beq (q::o).length (len (bL tP (q::o)))&&Nat.ble (((q::o).length+1)*32) room)=true:=Jc5 rfl (by rw[<- hO];omega)
  have ap:∀(O:PLq) (p:Pln),app (bL tP O) [[i p.n.x,i p.n.y,i p.n.z,i p.b]]=bL tP (O++[p]):=λO p=>Xb7 tP O [p]
  have rr2:∀p:Pln,(Nat.beq ((q::o).length+1) (len (bL tP (q::o++[p])))&&Nat.ble (((q::o).length+1+1)*32) room)=true:=λp=>Jc5 (by simp) (by rw[<- hO,Qdc,List.length_singleton];omega)
  show ga3 Stp.next Stp.exit Stp.fail _ _=_;simp only[ga3,Pb9,qc6,Int.toNat_natCast,i8,G3,hT,hfl,hb,hg,hn,b1,b2,b3,Od3,rr,ap,rr2];rw[btD (Q6 hk)];cases h2:T.2 with
  |false=>simp only[Qhd,if_false,hO];rfl
  |true =>
   simp only[if_true,g7];cases h3:yc4 s T.1 with
   |true =>
    cases h4:yc4 s (ha0 T.1) with
    |true=>simp only[qc7,h3,h4,if_true,hO];rfl
    |false =>
     rw[Yd3 _ _ h4];cases h5:bey l (ha0 T.1)<;>(simp only[qc7,h3,h4,h5,if_true,if_false,Qhd,Wc4,hO,ge3,Qdc,List.length_singleton];rfl)
   |false =>
    simp only[Yd3 _ _ h3,Od3];cases h5:bey l T.1<;>cases h4:yc4 (s++[T.1]) (ha0 T.1)<;>(try simp only[Yd3 _ _ h4])<;>cases h6:bey l (ha0 T.1)<;>(simp only[qc7,h3,h4,h5,h6,if_true,if_false,Qhd,Wc4,hO,ge3,Qdc,List.length_singleton];rfl)
theorem if0(l:List V3)(hl:l.length<=48)(a c:Nat)(ha:a<l.length)(hc:c<a)(x1 x2 x3 x4:Int)(s:PLq)(ho:s.length<=800000) :
  ∃j,lp (U5 ⟨(a:Int),(c:Int),x1,x2,x3,x4,(c:Int),l,l⟩) (mkf l 0 s)=(phP (fil l (G2 l a s c))+1,mkf l j (G2 l a s c)):=by
 have key:=Qa2 (step:=U5 ⟨(a:Int),(c:Int),x1,x2,x3,x4,(c:Int),l,l⟩) (mk:=mkf l) c (λj o=>j<=c/\o=(List.range j).foldl (lc6 l a c) s) (λt r=>t=phP (fil l (G2 l a s c))+1/\∃j:Nat,r=mkf l j (G2 l a s c)) (by omega)
  (λj o hj hi=>by
   obtain⟨_,hi⟩:=hi;have hlen:o.length<=900000:=by
    rw[hi]
    have:=jd0 (ud8 l a c) s j
    omega
   rw[Ee2 l hl a c j ha hc hj x1 x2 x3 x4 o hlen];exact .nx ⟨_,rfl,by omega,by rw[L4,<- hi]⟩)
  (λj o hj hi=>by
   obtain⟨h1,hi⟩:=hi;have e:j=c:=by omega
   subst e;have hF:o=G2 l a s j:=hi;rw[<- hF];refine⟨_,?_,rfl,j,rfl⟩;unfold mkf;cases hO:fil l o with
   |nil =>
    show ga2 Stp.next Stp.exit Stp.fail _ _=_;simp only[ga2];rw[bfD (Z3 (Qid _))];rfl
   |cons q o =>
    show ga3 Stp.next Stp.exit Stp.fail _ _=_;simp only[ga3];rw[bfD (Z3 (Qid _))]
    rfl) 0 s ⟨Qbw _,rfl⟩
 obtain⟨t,r,h1,rfl,j,rfl⟩:=key;exact⟨j,h1⟩
@[reducible] def jd6(l:List V3)(k:Nat)(s:PLq):C6:=⟨phP (fil l s),(k:Int),l,l,Bb4 s,(fil l s).length,bL tP (fil l s)⟩
theorem if1(l:List V3)(hl:l.length<=48)(a:Nat)(ha:a<l.length)(x1 x2:Int)(s:PLq)(ho:s.length<=700000) :
  ∃j,lp (ca7 ⟨(a:Int),x1,x2,(a:Int)⟩) (jd6 l 0 s)=(phP (fil l (G1 l s a))+1,jd6 l j (G1 l s a)):=by
 have key:=Qa2 (step:=ca7 ⟨(a:Int),x1,x2,(a:Int)⟩) (mk:=jd6 l) a (λj o=>j<=a/\o=(List.range j).foldl (G2 l a) s) (λt r=>t=phP (fil l (G1 l s a))+1/\∃j:Nat,r=jd6 l j (G1 l s a)) (by omega)
  (λj o hj hi=>by
   obtain⟨hja,hi⟩:=hi;have hlen:o.length<=800000:=by rw[hi];have:=Yd4 l a s j hja (by omega);omega
   have hn:=D2 hj (show a<=4611686018427387904 by omega)
   have bj:inB (j:Int) (l.length+1)=true:=i9 (by omega)
   obtain⟨j',e1⟩:=if0 l hl a j ha hj x1 x2 (a:Int) (j:Int) o hlen
   have fin : ∀ {r : C6}, r = jd6 l (j + 1) (G2 l a o j) → Nx (.next r) (fun t => t = phP (fil l (G1 l s a)) + 1 ∧ ∃ j' : Nat, jd6 l j o = jd6 l j' (G1 l s a))
     (λr=>∃o',r=jd6 l (j+1) o'/\(j+1<=a/\o'=(List.range (j+1)).foldl (G2 l a) s)):=λ{r} hs =>
    .nx ⟨_,hs,by omega,by rw[L4,<- hi]⟩
   clear hi
   generalize hF:G2 l a o j=R at *
   unfold jd6 at *
   unfold mkf at e1;cases hO:fil l o with
   |nil =>
    rw[hO] at e1 fin;show Nx (ga4 Stp.next Stp.exit Stp.fail _ _) _ _;simp only[ga4,i8,j6,hn,bj,Int.toNat_natCast,Nat.sub_zero];have e1:lp (U5 ⟨(a:Int),(j:Int),x1,x2,(a:Int),(j:Int),(j:Int),l,l⟩) ⟨0,0,Bb4 o,0,[]⟩=_:=e1;rw[btD (Q6 hj),e1];cases hR:fil l R with
    |nil=>exact fin (by rw[hR];rfl)
    |cons q R'=>exact fin (by rw[hR];rfl)
   |cons q o' =>
    rw[hO] at e1 fin;show Nx (ga5 Stp.next Stp.exit Stp.fail _ _) _ _;simp only[ga5,i8,j6,hn,bj,Int.toNat_natCast,Nat.sub_zero];have e1:lp (U5 ⟨(a:Int),(j:Int),x1,x2,(a:Int),(j:Int),(j:Int),l,l⟩) ⟨1,0,Bb4 o,(q::o').length,bL tP (q::o')⟩=_:=e1;rw[btD (Q6 hj),e1];cases hR:fil l R with
    |nil=>exact fin (by rw[hR];rfl)
    |cons q R'=>exact fin (by rw[hR];rfl))
  (λj o hj hi=>by
   obtain⟨h1,hi⟩:=hi;have e:j=a:=by omega
   subst e;have hF:o=G1 l s j:=hi;rw[<- hF];refine⟨_,?_,rfl,j,rfl⟩;unfold jd6;cases hO:fil l o with
   |nil =>
    show ga4 Stp.next Stp.exit Stp.fail _ _=_;simp only[ga4];rw[bfD (Z3 (Qid _))];rfl
   |cons q o =>
    show ga5 Stp.next Stp.exit Stp.fail _ _=_;simp only[ga5];rw[bfD (Z3 (Qid _))]
    rfl) 0 s ⟨Qbw _,rfl⟩
 obtain⟨t,r,h1,rfl,j,rfl⟩:=key;exact⟨j,h1⟩
@[reducible] def Cd2(l:List V3)(k:Nat)(s:PLq):D4:=⟨phP (fil l s),(k:Int),l,l,Bb4 s,(fil l s).length,bL tP (fil l s)⟩
theorem if2(l:List V3)(hl:l.length<=48) :
  ∃j,lp (Qa1 ⟨(l.length:Int)⟩) ⟨0,0,l,l,[],0,[]⟩=(phP (fil l (G0 l))+1,Cd2 l j (G0 l)):=by
 have key:=Qa2 (step:=Qa1 ⟨(l.length:Int)⟩) (mk:=Cd2 l) l.length (λj o=>j<=l.length/\o=(List.range j).foldl (G1 l) []) (λt r=>t=phP (fil l (G0 l))+1/\∃j:Nat,r=Cd2 l j (G0 l)) (by omega)
  (λj o hj hi=>by
   obtain⟨hja,hi⟩:=hi;have hlen:o.length<=700000:=by rw[hi];have:=Cd1 l hl j hja;omega
   have hn:=D2 hj (show l.length<=4611686018427387904 by omega)
   have bj:inB (j:Int) (l.length+1)=true:=i9 (by omega)
   obtain⟨j',e1⟩:=if1 l hl j hj (l.length:Int) (j:Int) o hlen
   have fin : ∀ {r : D4}, r = Cd2 l (j + 1) (G1 l o j) → Nx (.next r) (fun t => t = phP (fil l (G0 l)) + 1 ∧ ∃ j' : Nat, Cd2 l j o = Cd2 l j' (G0 l))
     (λr=>∃o',r=Cd2 l (j+1) o'/\(j+1<=l.length/\o'=(List.range (j+1)).foldl (G1 l) [])):=λ{r} hs =>
    .nx ⟨_,hs,by omega,by rw[L4,<- hi]⟩
   clear hi
   generalize hF:G1 l o j=R at *
   unfold Cd2 at *
   unfold jd6 at e1;cases hO:fil l o with
   |nil =>
    rw[hO] at e1 fin;show Nx (ga6 Stp.next Stp.exit Stp.fail _ _) _ _;simp only[ga6,i8,j6,hn,bj,Int.toNat_natCast,Nat.sub_zero];have e1:lp (ca7 ⟨(j:Int),(l.length:Int),(j:Int),(j:Int)⟩) ⟨0,0,l,l,Bb4 o,0,[]⟩=_:=e1;rw[btD (Q6 hj),e1];cases hR:fil l R with
    |nil=>exact fin (by rw[hR];rfl)
    |cons q R'=>exact fin (by rw[hR];rfl)
   |cons q o' =>
    rw[hO] at e1 fin;show Nx (ga7 Stp.next Stp.exit Stp.fail _ _) _ _;simp only[ga7,i8,j6,hn,bj,Int.toNat_natCast,Nat.sub_zero];have e1:lp (ca7 ⟨(j:Int),(l.length:Int),(j:Int),(j:Int)⟩) ⟨1,0,l,l,Bb4 o,(q::o').length,bL tP (q::o')⟩=_:=e1;rw[btD (Q6 hj),e1];cases hR:fil l R with
    |nil=>exact fin (by rw[hR];rfl)
    |cons q R'=>exact fin (by rw[hR];rfl))
  (λj o hj hi=>by
   obtain⟨h1,hi⟩:=hi;have e:j=l.length:=by omega
   subst e;have hF:o=G0 l:=hi;rw[<- hF];refine⟨_,?_,rfl,l.length,rfl⟩;unfold Cd2;cases hO:fil l o with
   |nil =>
    show ga6 Stp.next Stp.exit Stp.fail _ _=_;simp only[ga6];rw[bfD (Z3 (Qid _))];rfl
   |cons q o =>
    show ga7 Stp.next Stp.exit Stp.fail _ _=_;simp only[ga7];rw[bfD (Z3 (Qid _))]
    rfl) 0 [] ⟨Qbw _,rfl⟩
 obtain⟨t,r,h1,rfl,j,rfl⟩:=key;exact⟨j,h1⟩
end Go.Ev.Ce
