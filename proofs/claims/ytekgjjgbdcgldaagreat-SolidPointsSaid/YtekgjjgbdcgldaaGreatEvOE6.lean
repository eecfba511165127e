/- Own work. -/
import Derived.Test.YtekgjjgbdcgldaaGreatEvOE1
set_option linter.all false
def Qia:=@List.drop_zero
def Qib:=@List.length_append
def Qic:=@Nat.lt_irrefl
def Qid:=@List.length_drop
def Qie:=@Nat.zero_le
def Qif:=@List.mem_cons_of_mem
def Qig:=@Bool.and_eq_true
def Qih:=@List.getElem_mem
def Qii:=@List.not_all_eq_any_not
def Qij:=@Nat.zero_add
def Qik:=@Nat.beq_refl
def Qil:=@Bool.and_true
def Qim:=@List.drop_eq_getElem_cons
def Qin:=@List.drop_eq_nil_of_le
def Qio:=@List.length_take
def Qip:=@List.mem_of_mem_drop
def Qiq:=@List.mem_cons_self
def Qir:=@List.getD_eq_getElem?_getD
def Qis:=@List.append_assoc
def Qit:=@Bool.not_eq_true
def Qiu:=@List.all_eq_true
def Qiv:=@List.mem_append
def Qiw:=@Bool.not_false
def Qix:=@List.map_congr_left
def Qiy:=@Nat.le_trans
namespace Go.Ev.Ce
open Go Go.Ev Go.Ev.L Go.Proofs
noncomputable def inn(l:List Pln)(x:Pt):Bool:=l.all λp=>!decide (rm p x<0)
theorem De1(l:List Pln)(x:Pt):inn l x=!l.any λp=>decide (rm p x<0):=by unfold inn;rw[List.not_any_eq_all_not]
theorem ag3(p:Pln)(x:Pt):sb5 ⟨p.n.x,p.n.y,p.n.z,p.b,x.px,x.py,x.pz,x.pw⟩=⟨decide (rm p x<0)⟩:=by
 show Ea0.mk (decide (Ba7 p x<0))=_;rw[Sd8]
theorem wf3(l:List Pln)(x:Pt)(hl:l.length<=1000000000):ca0 ⟨l,x.px,x.py,x.pz,x.pw⟩=⟨1,if l.any (λp=>decide (rm p x<0)) then ((l.findIdx (λp=>decide (rm p x<0)):Nat):Int) else -1⟩:=by
 have h:=Va6 (step:=J9 ⟨l,(l.length:Int),x.px,x.py,x.pz,x.pw⟩) (mk:=λj=>(⟨(j:Int)⟩:p7)) (c:=λp=>decide (rm p x<0)) (u:=1) (fin:=2) tP l hl
  (λj hj=>by
   simp only[J9,H6,Int.toNat_natCast,ag3,n8 hj (by omega)]
   rw[bt (ic3 hj),bt (e8 hj)])
  (by simp only[J9,H6];rw[bf (Vb5 (Qic _))]) 0 (Qie _)
 rw[Qia] at h;unfold ca0 I5;simp only[g8,i7];rw[show (⟨0⟩:p7)=⟨((0:Nat):Int)⟩ from rfl,h]
 split
 ·simp only[Qij];rfl
 ·rfl
theorem Id0(l:List Pln)(x:Pt)(hl:l.length<=1000000000):Ta1 l x=some (b (inn l x),[]):=by
 unfold Ta1 ja1 D6;simp only[g8,i7,wf3 l x hl,De1];split
 ·rename_i h;rw[h,show decide (((l.findIdx (λp=>decide (rm p x<0)):Nat):Int)>=0)=true from decide_eq_true (by omega)];rfl
 ·rename_i h;rw[Qit] at h;rw[h];rfl
theorem he5(l:List Pln)(x:Pt)(hl:l.length<=1000000000):wa5 l x=inn l x:=by unfold wa5;rw[Id0 l x hl];rfl
theorem he6(l:List Pln)(x:Pt)(hl:l.length<=1000000000):wa6 l x=true:=by unfold wa6;rw[Id0 l x hl];rfl
theorem Hf2(l:List Pln)(x:Pt)(hl:l.length<=1000000000):jc5 l x=some (b (inn l x),[]):=by
 have h:=Xa3 (step:=ob0 ⟨l,x.px,x.py,x.pz,x.pw⟩) (mk:=λj=>(⟨(j:Int)⟩:Ca5)) (c:=λp=>decide (rm p x<0)) (u:=1) (fin:=2) tP l hl
  (λj hj=>by
   simp only[ob0,bb4,Int.toNat_natCast,dd9,n8 hj (by omega)]
   rw[bt (ic3 hj),bt (e8 hj)])
  (by simp only[ob0,bb4];rw[bf (Vb5 (Qic _))]) 0 (Qie _)
 rw[Qia] at h;unfold jc5;simp only[g8,i7,De1];rw[show (⟨0⟩:Ca5)=⟨((0:Nat):Int)⟩ from rfl,h]
 split
 ·rename_i h;rw[h];rfl
 ·rename_i h;rw[Qit] at h;rw[h];rfl
theorem og1(l:List Pln)(x:Pt)(hl:l.length<=1000000000):Qb4 l x=inn l x:=by unfold Qb4;rw[Hf2 l x hl];rfl
theorem og2(l:List Pln)(x:Pt)(hl:l.length<=1000000000):Qb5 l x=true:=by unfold Qb5;rw[Hf2 l x hl];rfl
def eqX(x q:Pt):Bool:=q.px==x.px&&(q.py==x.py&&(q.pz==x.pz&&(q.pw==x.pw&&true)))
theorem De2(x q:Pt):eqX x q=true↔q=x:=by
 unfold eqX;simp only[Qil,Qig,beq_iff_eq];exact⟨λ⟨h1,h2,h3,h4⟩=>by cases q;cases x;simp_all,λh=>by subst h;exact⟨rfl,rfl,rfl,rfl⟩⟩
def lc1(l:List Pt)(x:Pt):Bool:=l.any (eqX x)
theorem cf8(l:List Pt)(x:Pt):lc1 l x=true↔x∈l:=by
 unfold lc1;rw[List.any_eq_true];exact⟨λ⟨q,h,e⟩=>(De2 x q).1 e ▸ h,λh=>⟨x,h,(De2 x x).2 rfl⟩⟩
theorem he7(l:List Pt)(x:Pt)(hl:l.length<=1000000000):ob1 l x=some (b (lc1 l x),[]):=by
 have h:=Xa3 (step:=Ja9 ⟨l,x.px,x.py,x.pz,x.pw⟩) (mk:=λj=>(⟨(j:Int)⟩:fa5)) (c:=eqX x) (u:=1) (fin:=2) tX l hl
  (λj hj=>by
   simp only[Ja9,Da8,Int.toNat_natCast,n8 hj (by omega)]
   rw[bt (ic3 hj),bt (e8 hj)]
   rfl)
  (by simp only[Ja9,Da8];rw[bf (Vb5 (Qic _))]) 0 (Qie _)
 rw[Qia] at h;unfold ob1;simp only[g8,i7];rw[show (⟨0⟩:fa5)=⟨((0:Nat):Int)⟩ from rfl,h]
 unfold lc1;split
 ·rename_i h;rw[h];rfl
 ·rename_i h;rw[Qit] at h;rw[h];rfl
theorem wf4(l:List Pt)(x:Pt)(hl:l.length<=1000000000):Ya8 l x=lc1 l x:=by unfold Ya8;rw[he7 l x hl];rfl
theorem wf5(l:List Pt)(x:Pt)(hl:l.length<=1000000000):Ya9 l x=true:=by unfold Ya9;rw[he7 l x hl];rfl
def smb(n x:Int):Bool:=!decide (x < -n)&&!decide (x>n)
theorem wb8(n x:Int):smb n x=true↔Sm n x:=by unfold smb Sm;simp only[Qig,Bool.not_eq_true',decide_eq_false_iff_not];omega
theorem nd1(n:Int)(l:List Int)(hn:0<=n/\n<=1000000000)(hl:l.length<=1000000000):Ka8 n l=some (b (l.all (smb n)),[]):=by
 have hW:W (0-n)=-n:=by rw[ka3 (by omega) (by omega)];omega
 have h:=Xa3 (step:=ua4 ⟨n,l,(l.length:Int)⟩) (mk:=λj=>(⟨(j:Int)⟩:P4)) (c:=λx=>!smb n x) (u:=1) (fin:=2) tI l hl
  (λj hj=>by
   simp only[ua4,oa9,Int.toNat_natCast,n8 hj (by omega),hW]
   rw[bt (ic3 hj),bt (e8 hj)];unfold smb;cases decide (gL tI l j < -n)<;>cases decide (gL tI l j>n)<;>rfl)
  (by simp only[ua4,oa9];rw[bf (Vb5 (Qic _))]) 0 (Qie _)
 rw[Qia] at h;unfold Ka8;simp only[g8,i7];rw[show (⟨0⟩:P4)=⟨((0:Nat):Int)⟩ from rfl,h]
 have e:(l.any λx=>!smb n x)=!l.all (smb n):=by rw[Qii]
 rw[e];cases l.all (smb n)<;>rfl
theorem Qc2(n:Int)(l:List Int)(hn:0<=n/\n<=1000000000)(hl:l.length<=1000000000):za5 n l=l.all (smb n):=by unfold za5;rw[nd1 n l hn hl];rfl
theorem Qc3(n:Int)(l:List Int)(hn:0<=n/\n<=1000000000)(hl:l.length<=1000000000):za6 n l=true:=by unfold za6;rw[nd1 n l hn hl];rfl
theorem he8{n:Int}(h:Sm 1000000000000000000 n):Oa4 n=(n.natAbs:Int):=by
 unfold Oa4;obtain⟨h1,h2⟩:=h;rw[ka3 (by omega) (by omega)]
 split<;>omega
theorem Hc8{n:Int}(h:Sm 1000000000000000000 n):Ka0 n=some (i (n.natAbs:Int),[]):=by
 unfold Ka0;obtain⟨h1,h2⟩:=h;rw[ka3 (by omega) (by omega)]
 by_cases h:n<0
 ·rw[bt (decide_eq_true h)];congr 3;omega
 ·rw[bf (decide_eq_false h)];congr 3;omega
theorem lc2{n:Int}(h:Sm 1000000000000000000 n):ya9 n=(n.natAbs:Int):=by unfold ya9;rw[Hc8 h];rfl
theorem lc3{n:Int}(h:Sm 1000000000000000000 n):za0 n=true:=by unfold za0;rw[Hc8 h];rfl
def g3(v:V3):Int:=(Nat.gcd (Nat.gcd v.x.natAbs v.y.natAbs) v.z.natAbs:Nat)
theorem cf9(g n:Nat):eu (g:Int) (n:Int)=(Nat.gcd g n:Nat):=by rw[Ye2 (by omega) (by omega)];rfl
theorem Ad1(P:ia5)(g n:Nat)(hn:n<=1000000000000000000):lp (ea9 P) ⟨(g:Int),(n:Int)⟩=(1,⟨(Nat.gcd g n:Nat),0⟩):=by
 have:=Uc7 (step:=ea9 P) (mk:=λg n=>(⟨g,n⟩:S1)) (λg n h=>by
  have h0:n≠0:=by omega
  simp[ea9,ka4,Ab6,h,h0]) (λg=>by simp[ea9,ka4,Ab6]) (g:Int) (n:Int) (by omega) (by omega) (by omega)
 rw[this,cf9]
theorem we4(l:List Int)(hl:l.length<=1000000000)(hb:∀x∈l,Sm 1000000000000000000 x):Ea4 l=some (i (l.foldl (λg x=>Nat.gcd g x.natAbs) 0:Nat),[]):=by
 have h := Fc2 (step := pa0 ⟨(l.length : Int)⟩) (mk := fun j (a : Nat) => (⟨(a : Int), l, (j : Int)⟩ : M6)) (f := fun g x => Nat.gcd g x.natAbs) (fin := 2) tI l (fun _ _ => True) hl (fun j a hj _ => ⟨by
   have hm:=hb _ (ya6 tI hj);have hne:(gL tI l j==(-9223372036854775808:Int))=false:=by
    have:=hm.1
    rw[beq_eq_false_iff_ne];omega
   have hs:(gL tI l j).natAbs<=1000000000000000000:=by obtain⟨h1,h2⟩:=hm;omega
   simp only[pa0,ka5,Int.toNat_natCast,g8,i7,he8 hm,Ad1 _ _ _ hs,n8 hj (by omega)]
   rw[bt (ic3 hj),bt (e8 hj),bf hne]
   rfl,trivial⟩) (λa _=>by simp only[pa0,ka5];rw[bf (Vb5 (Qic _))]) 0 (Qie _) 0 trivial
 have h:=h.1;rw[Qia] at h;unfold Ea4;simp only[g8,i7];rw[show (⟨0,l,0⟩:M6)=⟨((0:Nat):Int),l,((0:Nat):Int)⟩ from rfl,h]
 rfl
def okp(p:Pln):Bool:=[p.n.x,p.n.y,p.n.z].all (smb 4608)&&(g3 p.n==1&&[p.b].all (smb 2097152))
theorem Nf5(p:Pln):Bd p↔[p.n.x,p.n.y,p.n.z].all (smb 4608)=true/\[p.b].all (smb 2097152)=true:=by
 simp only[List.all_cons,List.all_nil,Qil,Qig,wb8,Sm];exact⟨λh=>⟨⟨⟨h.x1,h.x2⟩,⟨h.y1,h.y2⟩,h.z1,h.z2⟩,h.b1,h.b2⟩,λ⟨⟨⟨a,b⟩,⟨c,d⟩,e,f⟩,g,h⟩=>⟨a,b,c,d,e,f,g,h⟩⟩
theorem Nb8{p:Pln}(h:okp p=true):Bd p:=by
 unfold okp at h;rw[Qig,Qig] at h;exact (Nf5 p).2 ⟨h.1,h.2.2⟩
theorem sm3{v:V3}(h:[v.x,v.y,v.z].all (smb 4608)=true):Sm 4608 v.x/\Sm 4608 v.y/\Sm 4608 v.z:=by
 simpa only[List.all_cons,List.all_nil,Qil,Qig,wb8] using h
theorem he9(p:Pln):Ta3 p=some (b (okp p),[]):=by
 unfold Ta3 okp;have l3:[p.n.x,p.n.y,p.n.z].length<=1000000000:=by simp
 have l1:[p.b].length<=1000000000:=by simp
 simp only[Qc2 4608 _ (by omega) l3,Qc3 4608 _ (by omega) l3,Qc2 2097152 _ (by omega) l1,Qc3 2097152 _ (by omega) l1]
 cases hw:[p.n.x,p.n.y,p.n.z].all (smb 4608) with
 |false=>rfl
 |true =>
  obtain⟨h1,h2,h3⟩:=sm3 hw;have hd:=we4 [p.n.x,p.n.y,p.n.z] l3 (by
   intro x hx;simp only[List.mem_cons,List.not_mem_nil,or_false] at hx
   rcases hx with rfl|rfl|rfl
   ·exact h1.mono (by omega)
   ·exact h2.mono (by omega)
   ·exact h3.mono (by omega))
  have hg:([p.n.x,p.n.y,p.n.z].foldl (λg x=>Nat.gcd g x.natAbs) 0:Nat)=Nat.gcd (Nat.gcd p.n.x.natAbs p.n.y.natAbs) p.n.z.natAbs:=by
   simp only[List.foldl_cons,List.foldl_nil,Nat.gcd_zero_left]
  have hp:Va8 [p.n.x,p.n.y,p.n.z]=g3 p.n:=by unfold Va8;rw[hd,hg];rfl
  have hgd:Va9 [p.n.x,p.n.y,p.n.z]=true:=by unfold Va9;rw[hd];rfl
  rw[hp,hgd];cases g3 p.n==1<;>rfl
theorem De3(p:Pln):Ta4 p=okp p:=by unfold Ta4;rw[he9 p];rfl
theorem De4(p:Pln):Ta5 p=true:=by unfold Ta5;rw[he9 p];rfl
theorem Qc4(P:ta8)(g n:Nat)(hn:n<=1000000000000000000):lp (na9 P) ⟨(g:Int),(n:Int)⟩=(1,⟨(Nat.gcd g n:Nat),0⟩):=by
 have:=Uc7 (step:=na9 P) (mk:=λg n=>(⟨g,n⟩:Z3)) (λg n h=>by
  have h0:n≠0:=by omega
  simp[na9,Ka1,Ab6,h,h0]) (λg=>by simp[na9,Ka1,Ab6]) (g:Int) (n:Int) (by omega) (by omega) (by omega)
 rw[this,cf9]
theorem Sd9 {v : V3} (h1 : Sm 1000000000000000000 v.x) (h2 : Sm 1000000000000000000 v.y) (h3 : Sm 1000000000000000000 v.z) :
  Bb7 v=if g3 v=0 then some (.tup [.agg (tV.row ⟨0,0,0⟩),i 0],[]) else some (.tup [.agg (tV.row ⟨W (Int.tdiv v.x (g3 v)),W (Int.tdiv v.y (g3 v)),W (Int.tdiv v.z (g3 v))⟩),i (g3 v)],[]):=by
 have ne:∀{x:Int},Sm 1000000000000000000 x->(x==(-9223372036854775808:Int))=false:=λ{x} h=>by
  have:=h.1
  rw[beq_eq_false_iff_ne];omega
 have bd:∀{x:Int},Sm 1000000000000000000 x->x.natAbs<=1000000000000000000:=λ{x} h=>by obtain⟨h1,h2⟩:=h;omega
 have l1:=Qc4 ⟨0,v.x,v.y,v.z,v.x,v.y,v.z⟩ 0 v.x.natAbs (bd h1);rw[Nat.gcd_zero_left] at l1;have l2:=Qc4 ⟨1,v.x,v.y,v.z,v.x,v.y,v.z⟩ v.x.natAbs v.y.natAbs (bd h2);have l3:=Qc4 ⟨2,v.x,v.y,v.z,v.x,v.y,v.z⟩ (Nat.gcd v.x.natAbs v.y.natAbs) v.z.natAbs (bd h3);unfold Bb7;simp only[lc2 h1,lc2 h2,lc2 h3,lc3 h1,lc3 h2,lc3 h3];rw[show (⟨0,(v.x.natAbs:Int)⟩:Z3)=⟨((0:Nat):Int),(v.x.natAbs:Int)⟩ from rfl]
 simp only[l1,l2,l3,ne h1,ne h2,ne h3];rw[show ((Nat.gcd (Nat.gcd v.x.natAbs v.y.natAbs) v.z.natAbs:Nat):Int)=g3 v from rfl]
 by_cases h:g3 v=0
 ·rw[if_pos h,show (g3 v==0)=true from by rw[h];rfl];rfl
 ·rw[if_neg h,show (g3 v==0)=false from by rw[beq_eq_false_iff_ne];exact h];rfl
theorem nd2{v:V3}(h1:Sm 1000000000000000000 v.x)(h2:Sm 1000000000000000000 v.y)(h3:Sm 1000000000000000000 v.z):(Xa6 v).2=g3 v:=by
 unfold Xa6;rw[Sd9 h1 h2 h3];split
 ·rename_i h;rw[h];rfl
 ·rfl
theorem Nf6{v:V3}(h1:Sm 1000000000000000000 v.x)(h2:Sm 1000000000000000000 v.y)(h3:Sm 1000000000000000000 v.z)(h:g3 v≠0):Xa6 v=(⟨W (Int.tdiv v.x (g3 v)),W (Int.tdiv v.y (g3 v)),W (Int.tdiv v.z (g3 v))⟩,g3 v):=by
 unfold Xa6;rw[Sd9 h1 h2 h3,if_neg h];rfl
theorem df0{v:V3}(h1:Sm 1000000000000000000 v.x)(h2:Sm 1000000000000000000 v.y)(h3:Sm 1000000000000000000 v.z):Bb8 v=true:=by
 unfold Bb8;rw[Sd9 h1 h2 h3]
 split<;>rfl
theorem Id1(p:Pln):ob2 p=some (b (okp p),[]):=by
 unfold ob2 okp;cases hw:[p.n.x,p.n.y,p.n.z].all (smb 4608) with
 |false =>
  simp only[List.all_cons,List.all_nil,Qil,smb] at hw;cases h1:decide (p.n.x < -4608)<;>cases h2:decide (p.n.x>4608)<;>cases h3:decide (p.n.y < -4608)<;>cases h4:decide (p.n.y>4608)<;>cases h5:decide (p.n.z < -4608)<;>cases h6:decide (p.n.z>4608)<;>simp only[h1,h2,h3,h4,h5,h6] at hw ⊢<;>first | rfl | cases hw
 |true =>
  obtain⟨h1,h2,h3⟩:=sm3 hw;rw[bf (decide_eq_false (by have:=h1.1;omega)),bf (decide_eq_false (by have:=h1.2;omega)),bf (decide_eq_false (by have:=h2.1;omega)),bf (decide_eq_false (by have:=h2.2;omega)),bf (decide_eq_false (by have:=h3.1;omega)),bf (decide_eq_false (by have:=h3.2;omega))]
  have k1:=h1.mono (m:=1000000000000000000) (by omega)
  have k2:=h2.mono (m:=1000000000000000000) (by omega)
  have k3:=h3.mono (m:=1000000000000000000) (by omega)
  rw[bt (df0 k1 k2 k3),nd2 k1 k2 k3];cases g3 p.n==1 with
  |false=>rfl
  |true =>
   simp only[List.all_cons,List.all_nil,Qil,smb,Bool.true_and];rw[g7];by_cases ha:p.b < -2097152
   ·rw[bf (decide_eq_false (by omega)),show decide (p.b < -2097152)=true from decide_eq_true ha];rfl
   ·rw[bt (decide_eq_true (by omega)),show decide (p.b < -2097152)=false from decide_eq_false ha]
    congr 3;by_cases hc:p.b<=2097152
    ·rw[decide_eq_true hc,decide_eq_false (by omega)];rfl
    ·rw[decide_eq_false hc,decide_eq_true (by omega)];rfl
theorem ie0(p:Pln):ob3 p=okp p:=by unfold ob3;rw[Id1 p];rfl
theorem nd3(p:Pln):ob4 p=true:=by unfold ob4;rw[Id1 p];rfl
def chk(l:List Pln):Int:=if (l.length:Int)>48 then 2 else if l.all okp then 0 else 12
theorem ie1(l:List Pln)(hl:l.length<=1000000000):cb7 l=some (i (chk l),[]):=by
 have hk1:∀p,Ka9 p=some (b (!okp p),[]):=λp=>by unfold Ka9;rw[De4,De3];rfl
 have hp1:∀p,cb5 p=!okp p:=λp=>by unfold cb5;rw[hk1];rfl
 have hg1:∀p,cb6 p=true:=λp=>by unfold cb6;rw[hk1];rfl
 have h:=Va6 (step:=K0 ⟨l,(l.length:Int)⟩) (mk:=λj=>(⟨(j:Int)⟩:p8)) (c:=λp=>!okp p) (u:=1) (fin:=2) tP l hl
  (λj hj=>by
   simp only[K0,H7,Int.toNat_natCast,hp1,hg1,n8 hj (by omega)]
   rw[bt (ic3 hj),bt (e8 hj),g7])
  (by simp only[K0,H7];rw[bf (Vb5 (Qic _))]) 0 (Qie _)
 rw[Qia] at h;have e:(l.any λx=>!okp x)=!l.all okp:=by rw[Qii]
 unfold cb7 ja2 D7 sa1 I6 chk;simp only[g8,i7];rw[show (⟨0⟩:p8)=⟨((0:Nat):Int)⟩ from rfl,h,e]
 by_cases hn:(l.length:Int)>48
 ·rw[bt (decide_eq_true hn),if_pos hn]
 ·rw[bf (decide_eq_false hn),if_neg hn];cases l.all okp with
  |true=>rfl
  |false =>
   simp only[Qiw,if_true,Qij];show sl true (sl (Nat.beq 1 1) (sl (decide (((l.findIdx λp=>!okp p:Nat):Int)>=0)) _ _) _) _=_
   rw[show decide (((l.findIdx λp=>!okp p:Nat):Int)>=0)=true from decide_eq_true (by omega)]
   rfl
theorem ed1(l:List Pln)(hl:l.length<=1000000000):ua6 l=chk l:=by unfold ua6;rw[ie1 l hl];rfl
theorem Td0(l:List Pln)(hl:l.length<=1000000000):Oa5 l=true:=by unfold Oa5;rw[ie1 l hl];rfl
theorem Id2(l:List Pln)(hl:l.length<=1000000000):ob5 l=some (i (chk l),[]):=by
 have h:=Xa3 (step:=Ka2 ⟨l⟩) (mk:=λj=>(⟨(j:Int)⟩:fa6)) (c:=λp=>!okp p) (u:=1) (fin:=2) tP l hl
  (λj hj=>by
   simp only[Ka2,Da9,Int.toNat_natCast,ie0,nd3,n8 hj (by omega)]
   rw[bt (ic3 hj),bt (e8 hj),g7])
  (by simp only[Ka2,Da9];rw[bf (Vb5 (Qic _))]) 0 (Qie _)
 rw[Qia] at h;have e:(l.any λx=>!okp x)=!l.all okp:=by rw[Qii]
 unfold ob5 chk;simp only[g8,i7];rw[show (⟨0⟩:fa6)=⟨((0:Nat):Int)⟩ from rfl,h,e]
 by_cases hn:(l.length:Int)>48
 ·rw[bt (decide_eq_true hn),if_pos hn]
 ·rw[bf (decide_eq_false hn),if_neg hn];cases l.all okp<;>rfl
theorem ie2(l:List Pln)(hl:l.length<=1000000000):ob6 l=chk l:=by unfold ob6;rw[Id2 l hl];rfl
theorem ie3(l:List Pln)(hl:l.length<=1000000000):ob7 l=true:=by unfold ob7;rw[Id2 l hl];rfl
theorem db5{l:List Pln}:chk l=0↔l.length<=48/\∀p∈l,okp p=true:=by
 unfold chk;by_cases hn:(l.length:Int)>48
 ·rw[if_pos hn];exact⟨λh=>absurd h (by decide),λh=>by omega⟩
 ·rw[if_neg hn];cases h:l.all okp with
  |true=>exact⟨λ_=>⟨by omega,Qiu.1 h⟩,λ_=>rfl⟩
  |false=>exact⟨λh=>absurd h (by decide),λh'=>by rw[Qiu.2 h'.2] at h;cases h⟩
theorem btD{p:Prop}{inst:Decidable p}(h:p){α:Type}(t e:α):sl (@decide p inst) t e=t:=bt (decide_eq_true h) t e
theorem bfD{p:Prop}{inst:Decidable p}(h:¬ p){α:Type}(t e:α):sl (@decide p inst) t e=e:=bf (decide_eq_false h) t e
theorem f9{j n:Nat}(h:j<n):(j:Int)<(n:Int):=Int.ofNat_lt.2 h
theorem l7{j n:Nat}(h:¬ j<n):¬ (j:Int)<(n:Int):=λh'=>h (Int.ofNat_lt.1 h')
theorem db6 {σ τ α : Type} {step : σ → Stp σ} {mk : Nat → τ → σ} {f : α → List α → τ → τ} {g : List α → τ → τ} {fin : τ → Nat} (l : List α) (I : Nat → τ → Prop) (hl : l.length ≤ 1000000000)
  (g0:∀a,g [] a=a) (g1:∀x r a,g (x::r) a=g r (f x r a))
  (h:∀j a (hj:j<l.length),I j a->step (mk j a)=.next (mk (j+1) (f l[j] (l.drop (j+1)) a))/\I (j+1) (f l[j] (l.drop (j+1)) a))
  (hf:∀j a,l.length<=j->I j a->step (mk j a)=.exit (fin a)) (j0:Nat) (a:τ) (hi:I j0 a) :
  lp step (mk j0 a)=(fin (g (l.drop j0) a),mk (max j0 l.length) (g (l.drop j0) a))/\I (max j0 l.length) (g (l.drop j0) a):=by
 have key:=yc3 (step:=step) (I:=λm s=>∃j b,m=l.length-j/\max j l.length=max j0 l.length/\s=mk j b/\I j b/\g (l.drop j) b=g (l.drop j0) a)
  (Q:=λu s=>u=fin (g (l.drop j0) a)/\s=mk (max j0 l.length) (g (l.drop j0) a)/\I (max j0 l.length) (g (l.drop j0) a)) (λm s ⟨j,b,hm,hj,hs,hb,he⟩=>by
   subst hs;by_cases hlt:j<l.length
   ·obtain⟨h1,h2⟩:=h j b hlt hb;refine .inr ⟨_,l.length-(j+1),by omega,h1,j+1,_,rfl,by omega,rfl,h2,?_⟩
    rw[<- he,Qim hlt,g1]
   ·have hd:l.drop j=[]:=Qin (by omega)
    rw[hd,g0] at he;have hj':j=max j0 l.length:=by omega
    subst he;rw[<- hj'];exact .inl ⟨_,hf j _ (by omega) hb,rfl,rfl,hb⟩) (l.length-j0) (mk j0 a) (by omega) ⟨j0,a,rfl,rfl,rfl,hi,rfl⟩
 exact⟨Prod.ext key.1 key.2.1,key.2.2⟩
noncomputable def La4(r:List Pln)(p q:Pln)(out:List Pt)(s:Pln):List Pt :=
 if (mpt p q s).2&&(!lc1 out (mpt p q s).1&&inn r (mpt p q s).1) then out++[(mpt p q s).1] else out
noncomputable def tb6(r:List Pln)(p q:Pln)(l:List Pln)(out:List Pt):List Pt:=l.foldl (La4 r p q) out
noncomputable def db7(r:List Pln)(p:Pln):List Pln->List Pt->List Pt
 |[],out=>out
 |q::l,out=>db7 r p l (tb6 r p q l out)
noncomputable def Hc9(r:List Pln):List Pln->List Pt->List Pt
 |[],out=>out
 |p::l,out=>Hc9 r l (db7 r p l out)
noncomputable def cor(r:List Pln):List Pt:=Hc9 r r []
def Bds(r:List Pln):Prop:=∀p∈r,Bd p
theorem Qc5(r:List Pln)(p q:Pln)(out:List Pt)(s:Pln):(La4 r p q out s).length<=out.length+1:=by
 unfold La4;split
 ·simp
 ·omega
theorem Ic0(r:List Pln)(p q:Pln):∀(l:List Pln) (out:List Pt),(tb6 r p q l out).length<=out.length+l.length
 |[],out=>Nat.le_refl _
 |s::l,out=>by
  have h1:=Qc5 r p q out s;have h2:=Ic0 r p q l (La4 r p q out s);show (tb6 r p q l (La4 r p q out s)).length<=_;simp only[List.length_cons];omega
theorem nd4(r:List Pln)(p:Pln):∀(l:List Pln) (out:List Pt),l.length<=200->(db7 r p l out).length<=out.length+200*l.length
 |[],out,_=>by simp[db7]
 |q::l,out,h=>by
  simp only[List.length_cons] at h ⊢;have h1:=Ic0 r p q l out;have h2:=nd4 r p l (tb6 r p q l out) (by omega)
  show (db7 r p l (tb6 r p q l out)).length<=_;omega
theorem ie4(r:List Pln):∀(l:List Pln) (out:List Pt),l.length<=200->(Hc9 r l out).length<=out.length+40000*l.length
 |[],out,_=>by simp[Hc9]
 |p::l,out,h=>by
  simp only[List.length_cons] at h ⊢;have h1:=nd4 r p l out (by omega)
  have h2:=ie4 r l (db7 r p l out) (by omega)
  show (Hc9 r l (db7 r p l out)).length<=_;omega
theorem Td1(r:List Pln)(_:Bds r)(hr:r.length<=200):(cor r).length<=8000000:=by
 have:=ie4 r r [] hr
 rw[List.length_nil] at this;show (Hc9 r r []).length<=_;omega
noncomputable def ph(out:List Pt):Nat:=match out with
 |[]=>0
 |_::_=>1
theorem ie5(x:Pt):lc1 [] x=false:=rfl
theorem Ic1{α:Type}(t:Ty α)(l:List α)(n k:Nat):gL t (l.drop n) k=gL t l (n+k):=by simp[gL,Qir,List.getElem?_drop]
theorem ie6{n:Nat}{l:List Pt}(hn:n=l.length)(h:l.length<=1000000000):(Nat.beq n (len (bL tX l))&&Nat.ble ((n+1)*32) room)=true:=by
 subst hn;rw[U9,Qik,Bool.true_and];exact fa4 (by omega)
theorem De5(l:List Pt)(x:Pt):app (bL tX l) [[i x.px,i x.py,i x.pz,i x.pw]]=bL tX (l++[x]):=Xa2 tX l [x]
@[reducible] noncomputable def sc5(k:Nat)(out:List Pt):v8:=⟨ph out,(k:Int),out.length,bL tX out⟩
theorem Nf7(l:List Pt):slR tX (bL tX l) 0 l.length=l:=hc9 tX l
theorem wf6 (r : List Pln) (hb : Bds r) (hr : r.length ≤ 200) (a c k : Nat) (ha : a < r.length) (hc : c < r.length) (out : List Pt) (ho : out.length ≤ 1000000000) (hk : k < r.length) :
  V1 ⟨r,a,c⟩ (sc5 k out)=.next (sc5 (k+1) (La4 r r[a] r[c] out r[k])):=by
 have hin:∀x,Qb4 r x=inn r x:=λx=>og1 r x (by omega)
 have hig:∀x,Qb5 r x=true:=λx=>og2 r x (by omega)
 have hth:∀x,Ya8 out x=lc1 out x:=λx=>wf4 out x ho
 have htg:∀x,Ya9 out x=true:=λx=>wf5 out x ho
 have hme:=wf1 (hb _ (Qih ha)) (hb _ (Qih hc)) (hb _ (Qih hk));have hmg:=wf2 (hb _ (Qih ha)) (hb _ (Qih hc)) (hb _ (Qih hk));unfold V1;cases out with
 |nil =>
  show Y7 Stp.next Stp.exit Stp.fail _ (sc5 k [])=_;simp only[Y7,sc5,Int.toNat_natCast,g8,o5,Ya7 tP ha,Ya7 tP hc,Ya7 tP hk,hme,hmg,hin,hig,hth,htg,n8 hk (by omega)]
  rw[btD (f9 hk),bt (e8 ha),bt (e8 hc),bt (e8 hk),g7];unfold La4;rw[ie5];cases (mpt r[a] r[c] r[k]).2 with
  |false=>rfl
  |true =>
   cases inn r (mpt r[a] r[c] r[k]).1 with
   |false=>rfl
   |true=>rfl
 |cons o os =>
  show Y8 Stp.next Stp.exit Stp.fail _ (sc5 k (o::os))=_;simp only[Y8,sc5,Int.toNat_natCast,g8,o5,Ya7 tP ha,Ya7 tP hc,Ya7 tP hk,hme,hmg,hin,hig,Nf7,ic0,hth,htg,n8 hk (by omega)]
  rw[btD (f9 hk),bt (e8 ha),bt (e8 hc),bt (e8 hk),g7,ie6 rfl ho,De5];unfold La4;cases (mpt r[a] r[c] r[k]).2 with
  |false=>rfl
  |true =>
   cases inn r (mpt r[a] r[c] r[k]).1 with
   |false=>cases lc1 (o::os) (mpt r[a] r[c] r[k]).1<;>rfl
   |true =>
    cases lc1 (o::os) (mpt r[a] r[c] r[k]).1 with
    |true=>rfl
    |false =>
     show Stp.next (⟨1,((k+1:Nat):Int),(o::os).length+1,bL tX (o::os++[(mpt r[a] r[c] r[k]).1])⟩:v8)=_;simp[ph]
theorem Nf8(r:List Pln)(a c k:Nat)(out:List Pt)(hk:r.length<=k):V1 ⟨r,a,c⟩ (sc5 k out)=.exit (ph out+1):=by
 unfold V1;have this:¬ ((k:Int)<(r.length:Int)):=by omega
 cases out with
 |nil =>
  show Y7 Stp.next Stp.exit Stp.fail _ (sc5 k [])=_;simp only[Y7,sc5];rw[bfD this];rfl
 |cons o os =>
  show Y8 Stp.next Stp.exit Stp.fail _ (sc5 k (o::os))=_;simp only[Y8,sc5];rw[bfD this];rfl
theorem wf7 (r : List Pln) (hb : Bds r) (hr : r.length ≤ 200) (a c : Nat) (ha : a < r.length) (hc : c < r.length) (k : Nat) (out : List Pt) (ho : out.length ≤ 100000000) :
  ∃m,lp (V1 ⟨r,a,c⟩) (sc5 k out)=(ph (tb6 r r[a] r[c] (r.drop k) out)+1,sc5 m (tb6 r r[a] r[c] (r.drop k) out)) :=
 ⟨_,(db6 (mk:=sc5) (f:=λs _ out=>La4 r r[a] r[c] out s) (g:=λl out=>tb6 r r[a] r[c] l out) (fin:=λout=>ph out+1) r (λj o=>o.length+k<=out.length+j) (by omega)
  (λ_=>rfl) (λ_ _ _=>rfl) (λj o hj hi=>⟨wf6 r hb hr a c j ha hc o (by omega) hj,by have:=Qc5 r r[a] r[c] o r[j];show (La4 r r[a] r[c] o r[j]).length+k<=out.length+(j+1);omega⟩)
  (λj o hj _=>Nf8 r a c j o hj) k out (by omega)).1⟩
@[reducible] noncomputable def sc6(r:List Pln)(j:Nat)(out:List Pt):y6:=⟨ph out,r,(j:Int),out.length,bL tX out⟩
theorem wf8 (r : List Pln) (hb : Bds r) (hr : r.length ≤ 200) (a j : Nat) (ha : a < r.length) (out : List Pt) (ho : out.length ≤ 100000000) (hj : j < r.length) :
  P1 ⟨a⟩ (sc6 r j out)=.next (sc6 r (j+1) (tb6 r r[a] r[j] (r.drop (j+1)) out)):=by
 obtain⟨m,hm⟩:=wf7 r hb hr a j ha hj (j+1) out ho;unfold P1;generalize tb6 r r[a] r[j] (r.drop (j+1)) out=res at *
 cases out with
 |nil =>
  show Y9 Stp.next Stp.exit Stp.fail _ (sc6 r j [])=_;simp only[Y9,sc6,g8,i7,n8 hj (by omega)]
  rw[show (⟨0,((j+1:Nat):Int),0,[]⟩:v8)=sc5 (j+1) [] from rfl,hm,btD (f9 hj)]
  cases res<;>rfl
 |cons o os =>
  show Z0 Stp.next Stp.exit Stp.fail _ (sc6 r j (o::os))=_;simp only[Z0,sc6,g8,i7,n8 hj (by omega)]
  rw[show (⟨1,((j+1:Nat):Int),(o::os).length,bL tX (o::os)⟩:v8)=sc5 (j+1) (o::os) from rfl,hm,btD (f9 hj)]
  cases res<;>rfl
theorem Nf9(r:List Pln)(a j:Nat)(out:List Pt)(hj:r.length<=j):P1 ⟨a⟩ (sc6 r j out)=.exit (ph out+1):=by
 unfold P1;have this:¬ ((j:Int)<(r.length:Int)):=by omega
 cases out with
 |nil =>
  show Y9 Stp.next Stp.exit Stp.fail _ (sc6 r j [])=_;simp only[Y9,sc6];rw[bfD this];rfl
 |cons o os =>
  show Z0 Stp.next Stp.exit Stp.fail _ (sc6 r j (o::os))=_;simp only[Z0,sc6];rw[bfD this];rfl
theorem wf9 (r : List Pln) (hb : Bds r) (hr : r.length ≤ 200) (a : Nat) (ha : a < r.length) (j : Nat) (out : List Pt) (ho : out.length ≤ 40000 * a) :
  ∃m,lp (P1 ⟨a⟩) (sc6 r j out)=(ph (db7 r r[a] (r.drop j) out)+1,sc6 r m (db7 r r[a] (r.drop j) out))/\(db7 r r[a] (r.drop j) out).length<=40000*(a+1):=by
 have hk:=db6 (step:=P1 ⟨a⟩) (mk:=sc6 r) (f:=λq l out=>tb6 r r[a] q l out) (g:=λl out=>db7 r r[a] l out) (fin:=λout=>ph out+1) r (λk o=>o.length<=40000*a+200*(k-j)/\j<=k/\k<=j+r.length) (by omega)
  (λ_=>rfl) (λ_ _ _=>rfl) (λk o hj hi=>⟨wf8 r hb hr a k ha o (by omega) hj,by
   have:=Ic0 r r[a] r[k] (r.drop (k+1)) o
   rw[Qid] at this;show (tb6 r r[a] r[k] (r.drop (k+1)) o).length<=40000*a+200*(k+1-j)/\j<=k+1/\k+1<=j+r.length
   omega⟩)
  (λk o hj _=>Nf9 r a k o hj) j out (by omega)
 exact⟨_,hk.1,by have:=hk.2;omega⟩
@[reducible] noncomputable def zc6(r:List Pln)(j:Nat)(out:List Pt):D5:=⟨ph out,r,(j:Int),out.length,bL tX out⟩
theorem De6 (r : List Pln) (hb : Bds r) (hr : r.length ≤ 200) (a : Nat) (ha : a < r.length) (out : List Pt) (ho : out.length ≤ 40000 * a) :
  V2 ⟨⟩ (zc6 r a out)=.next (zc6 r (a+1) (db7 r r[a] (r.drop (a+1)) out))/\(db7 r r[a] (r.drop (a+1)) out).length<=40000*(a+1):=by
 obtain⟨m,hm,hl⟩:=wf9 r hb hr a ha (a+1) out ho;refine⟨?_,hl⟩
 clear hl
 unfold V2;generalize db7 r r[a] (r.drop (a+1)) out=res at *
 cases out with
 |nil =>
  show Z1 Stp.next Stp.exit Stp.fail _ (zc6 r a [])=_;simp only[Z1,zc6,g8,i7,n8 ha (by omega)]
  rw[show (⟨0,r,((a+1:Nat):Int),0,[]⟩:y6)=sc6 r (a+1) [] from rfl,hm,btD (f9 ha)]
  cases res<;>rfl
 |cons o os =>
  show Z2 Stp.next Stp.exit Stp.fail _ (zc6 r a (o::os))=_;simp only[Z2,zc6,g8,i7,n8 ha (by omega)]
  rw[show (⟨1,r,((a+1:Nat):Int),(o::os).length,bL tX (o::os)⟩:y6)=sc6 r (a+1) (o::os) from rfl,hm,btD (f9 ha)]
  cases res<;>rfl
theorem Of0(r:List Pln)(j:Nat)(out:List Pt)(hj:r.length<=j):V2 ⟨⟩ (zc6 r j out)=.exit (ph out+1):=by
 unfold V2;have this:¬ ((j:Int)<(r.length:Int)):=by omega
 cases out with
 |nil =>
  show Z1 Stp.next Stp.exit Stp.fail _ (zc6 r j [])=_;simp only[Z1,zc6];rw[bfD this];rfl
 |cons o os =>
  show Z2 Stp.next Stp.exit Stp.fail _ (zc6 r j (o::os))=_;simp only[Z2,zc6];rw[bfD this];rfl
theorem xf0(r:List Pln)(hb:Bds r)(hr:r.length<=200):∃m,lp (V2 ⟨⟩) (zc6 r 0 [])=(ph (cor r)+1,zc6 r m (cor r))/\(cor r).length<=8000000:=by
 have hk:=db6 (step:=V2 ⟨⟩) (mk:=zc6 r) (f:=λq l out=>db7 r q l out) (g:=λl out=>Hc9 r l out) (fin:=λout=>ph out+1) r (λk o=>o.length<=40000*k/\k<=r.length) (by omega)
  (λ_=>rfl) (λ_ _ _=>rfl) (λk o hj hi=>⟨(De6 r hb hr k hj o hi.1).1,(De6 r hb hr k hj o hi.1).2,hj⟩)
  (λk o hj _=>Of0 r k o hj) 0 [] (by simp)
 exact⟨_,hk.1,by have:=hk.2;rw[show max 0 r.length=r.length by omega] at this;have h1:=this.1;show (Hc9 r r []).length<=_;rw[Qia] at h1;omega⟩
noncomputable def slX(l:List Pt):b7×List b8:=match l with
 |[]=>(.v (.slice none 0 0),[])
 |_::_=>(.sl 0 0 l.length 0,[⟨136,4,bL tX l,true,false,0⟩])
theorem Td2(l:List Pt):(one (r1L tX)).rd (slX l)=some l:=by
 cases l with
 |nil=>rfl
 |cons x l =>
  show Bool.rec (motive:=λ_=>Option (List Pt)) none (some (slR tX (bL tX (x::l)) 0 (x::l).length)) (Bool.and true (okS tX (bL tX (x::l)) 0 (x::l).length))=_
  rw[hc9,ic0];rfl
theorem Vc7(r:List Pln)(hb:Bds r)(hr:r.length<=200):Sa5 r=some (slX (cor r)):=by
 obtain⟨m,hm,_⟩:=xf0 r hb hr;unfold Sa5;simp only[g8,i7];rw[show (⟨0,r,0,0,[]⟩:D5)=zc6 r 0 [] from rfl,hm]
 cases cor r<;>rfl
theorem Ga6{ρ:Type}(R:RR ρ){x:b7×List b8}{r:ρ}(h:R.rd x=some r):J8 R (some x)=r:=by
 show Option.rec (motive:=λ_=>ρ) R.d (λx=>x) (R.rd x)=r
 rw[h]
theorem Ta9{ρ:Type}(R:RR ρ){x:b7×List b8}{r:ρ}(h:R.rd x=some r):okO R (some x)=true:=by
 show Option.rec (motive:=λ_=>Bool) false (λ_=>true) (R.rd x)=true
 rw[h]
theorem nd5(r:List Pln)(hb:Bds r)(hr:r.length<=200):Sa6 r=cor r:=by unfold Sa6;rw[Vc7 r hb hr];exact Ga6 _ (Td2 _)
theorem nd6(r:List Pln)(hb:Bds r)(hr:r.length<=200):Sa7 r=true:=by unfold Sa7;rw[Vc7 r hb hr];exact Ta9 _ (Td2 _)
noncomputable def Ad2(x:Pt):List b7:=[i x.px,i x.py,i x.pz,i x.pw,b true]
noncomputable def cc4(l:List Pt):List (List b7):=l.map Ad2
@[reducible] noncomputable def flK:List (Nat×CK):=[(0,.int .i64),(1,.int .i64),(2,.int .i64),(3,.int .i64)]
theorem ie7(x q:Pt):sc0 flK [i x.px,i x.py,i x.pz,i x.pw] (Ad2 q)=eqX x q:=by
 show Bool.and (decide (x.px=q.px)) (Bool.and (decide (x.py=q.py)) (Bool.and (decide (x.pz=q.pz)) (Bool.and (decide (x.pw=q.pw)) true)))=_;unfold eqX;have h:∀a c:Int,decide (a=c)=(c==a):=λa c=>by rw[Bool.eq_iff_iff,decide_eq_true_eq,beq_iff_eq];exact eq_comm
 rw[h,h,h,h]
theorem nd7(x:Pt):∀l,Cc5 4 flK [i x.px,i x.py,i x.pz,i x.pw] (cc4 l)=lc1 l x
 |[]=>rfl
 |q::l=>by
  have ih:=nd7 x l;unfold Cc5 at ih ⊢;show Option.rec (motive:=λ_=>Bool) false (λr=>toB (hdA (j7 r 4))) (Bool.rec (motive:=λ_=>Option (List b7)) (Tc9 flK [i x.px,i x.py,i x.pz,i x.pw] (cc4 l)) (some (Ad2 q)) (sc0 flK [i x.px,i x.py,i x.pz,i x.pw] (Ad2 q)))=lc1 (q::l) x
  rw[ie7];unfold lc1 at ih ⊢;rw[List.any_cons];cases eqX x q with
  |true=>rfl
  |false=>exact ih
theorem Id3(x:Pt):∀l,lc1 l x=false->Lb4 flK [i x.px,i x.py,i x.pz,i x.pw] (Ad2 x) (cc4 l)=cc4 (l++[x])
 |[],_=>rfl
 |q::l,h=>by
  unfold lc1 at h;rw[List.any_cons,Bool.or_eq_false_iff] at h;show Bool.rec (motive:=λ_=>List (List b7)) (Ad2 q::Lb4 flK [i x.px,i x.py,i x.pz,i x.pw] (Ad2 x) (cc4 l)) (Ad2 x::cc4 l) (sc0 flK [i x.px,i x.py,i x.pz,i x.pw] (Ad2 q))=_
  rw[ie7,h.1,Id3 x l h.2];rfl
@[reducible] noncomputable def sc7(k:Nat)(out:List Pt):l0:=⟨ph out,(k:Int),out.length,bL tX out,cc4 out⟩
structure C2(P:k9)(r:List Pln)(p q:Pln)(lo:Nat):Prop where
 ns:P.of5=(r.drop lo).length
 gs:P.Gb3=λk=>tP.row (gL tP r (lo+k))
 is:P.ze8=((r.drop lo).length:Int)
 p1:(⟨⟨P.X1,P.X2,P.X3⟩,P.da4⟩:Pln)=p
 q1:(⟨⟨P.gb7,P.gb8,P.gb9⟩,P.ac9⟩:Pln)=q
 r1:P.Pa5=r
theorem Td3(s:Pln):(⟨⟨toI (hdA (tP.row s)),toI (hdA (tlA (tP.row s))),toI (hdA (tlA (tlA (tP.row s))))⟩,toI (hdA (tlA (tlA (tlA (tP.row s)))))⟩:Pln)=s:=rfl
theorem Td4(s:Pln):((Nat.ble 4 (len (tP.row s)))&&(ka1 [CK.int .i64,CK.int .i64,CK.int .i64,CK.int .i64] (tP.row s)))=true:=rfl
theorem xf1 {P : k9} {r : List Pln} {p q : Pln} {lo : Nat} (h : C2 P r p q lo) (hb : Bds r) (hr : r.length ≤ 200) (hp : Bd p) (hq : Bd q) (k : Nat) (out : List Pt) (ho : out.length ≤ 1000000000) (hk : k < (r.drop lo).length) :
  A3 P (sc7 k out)=.next (sc7 (k+1) (La4 r p q out (r.drop lo)[k])):=by
 have hwi:∀x,wa5 r x=inn r x:=λx=>he5 r x (by omega)
 have hwg:∀x,wa6 r x=true:=λx=>he6 r x (by omega)
 have hs:gL tP r (lo+k)=(r.drop lo)[k]:=by rw[<- Ic1,Ya7 tP hk]
 have hbs:Bd (r.drop lo)[k]:=hb _ (Qip (Qih hk));have hd:(r.drop lo).length<=200:=by rw[Qid];omega
 have hme:=Nf3 hp hq hbs;have hmg:=Nf4 hp hq hbs;obtain⟨x1,x2,x3,x4,x5,x6,x7,x8,x9,x10,x11,x12,x13,x14,x15,x16,x17,x18,x19,x20,x21⟩:=P;obtain⟨ns,gs,is,p1,q1,r1⟩:=h
 simp only at ns gs is p1 q1 r1
 have r1:=r1.symm;subst ns gs is r1;unfold A3;cases out with
 |nil =>
  show C7 Stp.next Stp.exit Stp.fail _ (sc7 k [])=_;simp only[C7,sc7,Int.toNat_natCast,g8,o5,p1,q1,hs,Td3,Td4,hme,hmg,hwi,hwg,n8 hk (by omega)]
  rw[btD (f9 hk),bt (e8 hk),g7,g7];unfold La4;rw[ie5];cases (mpt p q (r.drop lo)[k]).2 with
  |false=>rfl
  |true =>
   cases inn r (mpt p q (r.drop lo)[k]).1 with
   |false=>rfl
   |true=>rfl
 |cons o os =>
  show C8 Stp.next Stp.exit Stp.fail _ (sc7 k (o::os))=_;simp only[C8,sc7,Int.toNat_natCast,g8,o5,p1,q1,hs,Td3,Td4,hme,hmg,hwi,hwg,n8 hk (by omega),nd7]
  rw[btD (f9 hk),bt (e8 hk),g7,g7,ie6 rfl ho,De5];unfold La4;cases (mpt p q (r.drop lo)[k]).2 with
  |false=>rfl
  |true =>
   cases hx:lc1 (o::os) (mpt p q (r.drop lo)[k]).1 with
   |true=>rfl
   |false =>
    cases inn r (mpt p q (r.drop lo)[k]).1 with
    |false=>rfl
    |true =>
     show Stp.next (⟨1,((k+1:Nat):Int),(o::os).length+1,bL tX (o::os++[(mpt p q (r.drop lo)[k]).1]),Lb4 flK [i (mpt p q (r.drop lo)[k]).1.px,i (mpt p q (r.drop lo)[k]).1.py,i (mpt p q (r.drop lo)[k]).1.pz,i (mpt p q (r.drop lo)[k]).1.pw] (Ad2 (mpt p q (r.drop lo)[k]).1) (cc4 (o::os))⟩:l0)=_;rw[Id3 _ _ hx];simp[ph]
theorem Of1{P:k9}{r:List Pln}{p q:Pln}{lo:Nat}(h:C2 P r p q lo)(k:Nat)(out:List Pt)(hk:(r.drop lo).length<=k):A3 P (sc7 k out)=.exit (ph out+1):=by
 obtain⟨x1,x2,x3,x4,x5,x6,x7,x8,x9,x10,x11,x12,x13,x14,x15,x16,x17,x18,x19,x20,x21⟩:=P;obtain⟨ns,gs,is,p1,q1,r1⟩:=h
 simp only at ns gs is p1 q1 r1
 have r1:=r1.symm;subst ns gs is r1;unfold A3;have this:¬ ((k:Int)<((r.drop lo).length:Int)):=by omega
 cases out with
 |nil =>
  show C7 Stp.next Stp.exit Stp.fail _ (sc7 k [])=_;simp only[C7,sc7];rw[bfD this];rfl
 |cons o os =>
  show C8 Stp.next Stp.exit Stp.fail _ (sc7 k (o::os))=_;simp only[C8,sc7];rw[bfD this];rfl
theorem xf2 {P : k9} {r : List Pln} {p q : Pln} {lo : Nat} (h : C2 P r p q lo) (hb : Bds r) (hr : r.length ≤ 200) (hp : Bd p) (hq : Bd q) (out : List Pt) (ho : out.length ≤ 100000000) :
  ∃m,lp (A3 P) (sc7 0 out)=(ph (tb6 r p q (r.drop lo) out)+1,sc7 m (tb6 r p q (r.drop lo) out)):=by
 have hd:(r.drop lo).length<=200:=by rw[Qid];omega
 exact⟨_,(db6 (mk:=sc7) (f:=λs _ out=>La4 r p q out s) (g:=λl out=>tb6 r p q l out) (fin:=λout=>ph out+1) (r.drop lo) (λj o=>o.length<=out.length+j) (by omega)
  (λ_=>rfl) (λ_ _ _=>rfl) (λj o hj hi=>⟨xf1 h hb hr hp hq j o (by omega) hj,by have:=Qc5 r p q o (r.drop lo)[j];show (La4 r p q o (r.drop lo)[j]).length<=out.length+(j+1);omega⟩)
  (λj o hj _=>Of1 h j o hj) 0 out (by omega)).1⟩
@[reducible] noncomputable def sc8(r:List Pln)(j:Nat)(out:List Pt):m0:=⟨ph out,r,(j:Int),r,r,out.length,bL tX out,cc4 out⟩
structure C1(P:l5)(r:List Pln)(p:Pln)(a:Nat):Prop where
 i3:P.is3=(a:Int)
 ns:P.Dd9=(r.drop (a+1)).length
 gs:P.Tb9=λk=>tP.row (gL tP r (a+1+k))
 is:P.Tc7=((r.drop (a+1)).length:Int)
 p1:(⟨⟨P.X1,P.X2,P.X3⟩,P.da4⟩:Pln)=p
theorem xf3 {P : l5} {r : List Pln} {p : Pln} {a : Nat} (h : C1 P r p a) (hb : Bds r) (hr : r.length ≤ 200) (hp : Bd p) (j : Nat) (out : List Pt) (ho : out.length ≤ 100000000) (hj : j < (r.drop (a + 1)).length) :
  A4 P (sc8 r j out)=.next (sc8 r (j+1) (tb6 r p (r.drop (a+1))[j] ((r.drop (a+1)).drop (j+1)) out)):=by
 have hs:gL tP r (a+1+j)=(r.drop (a+1))[j]:=by rw[<- Ic1,Ya7 tP hj]
 have hbs:Bd (r.drop (a+1))[j]:=hb _ (Qip (Qih hj));have hd:=hj;rw[Qid] at hd;have hW:W (W ((a:Int)+(j:Int))+2)=((a+1+(j+1):Nat):Int):=by rw[sb1,ka3 (by omega) (by omega)];omega
 have hdl:(r.drop (a+1)).length<=4611686018427387904:=by rw[Qid];omega
 have hlo:inB ((a+1+(j+1):Nat):Int) (r.length+1)=true:=e8 (by omega)
 rw[List.drop_drop];generalize hq:(r.drop (a+1))[j]=q at *
 obtain⟨x1,x2,x3,x4,x5,x6,x7,x8,x9,x10⟩:=P;obtain⟨i3,ns,gs,is,p1⟩:=h
 simp only at i3 ns gs is p1
 subst i3 ns gs is;unfold A4;have key:∀(P2:k9),C2 P2 r p q (a+1+(j+1))->_:=λP2 h2=>xf2 h2 hb hr hp hbs out ho
 cases out with
 |nil =>
  show C9 Stp.next Stp.exit Stp.fail _ (sc8 r j [])=_;simp only[C9,sc8,g8,i7,n8 hj hdl,hW,Int.toNat_natCast,hs,Td4,hlo];rw[show (⟨0,0,0,[],[]⟩:l0)=sc7 0 [] from rfl]
  generalize hP:k9.mk _ _ _ _ _ _ _ _ _ _ _ _ _ _ _ _ _ _ _ _ _=P2;obtain⟨m,hm⟩:=key P2 (by
   subst hP;exact⟨by simp,rfl,by simp,p1,Td3 q,rfl⟩)
  rw[hm,btD (f9 hj),bt (e8 hj)];cases tb6 r p q (r.drop (a+1+(j+1))) []<;>rfl
 |cons o os =>
  show D0 Stp.next Stp.exit Stp.fail _ (sc8 r j (o::os))=_;simp only[D0,sc8,g8,i7,n8 hj hdl,hW,Int.toNat_natCast,hs,Td4,hlo];rw[show (⟨1,0,(o::os).length,bL tX (o::os),cc4 (o::os)⟩:l0)=sc7 0 (o::os) from rfl]
  generalize hP:k9.mk _ _ _ _ _ _ _ _ _ _ _ _ _ _ _ _ _ _ _ _ _=P2;obtain⟨m,hm⟩:=key P2 (by
   subst hP;exact⟨by simp,rfl,by simp,p1,Td3 q,rfl⟩)
  rw[hm,btD (f9 hj),bt (e8 hj)];cases tb6 r p q (r.drop (a+1+(j+1))) (o::os)<;>rfl
theorem Of2{P:l5}{r:List Pln}{p:Pln}{a:Nat}(h:C1 P r p a)(j:Nat)(out:List Pt)(hj:(r.drop (a+1)).length<=j):A4 P (sc8 r j out)=.exit (ph out+1):=by
 obtain⟨x1,x2,x3,x4,x5,x6,x7,x8,x9,x10⟩:=P;obtain⟨i3,ns,gs,is,p1⟩:=h
 simp only at i3 ns gs is p1
 subst i3 ns gs is;unfold A4;have this:¬ ((j:Int)<((r.drop (a+1)).length:Int)):=by omega
 cases out with
 |nil =>
  show C9 Stp.next Stp.exit Stp.fail _ (sc8 r j [])=_;simp only[C9,sc8];rw[bfD this];rfl
 |cons o os =>
  show D0 Stp.next Stp.exit Stp.fail _ (sc8 r j (o::os))=_;simp only[D0,sc8];rw[bfD this];rfl
theorem xf4 {P : l5} {r : List Pln} {p : Pln} {a : Nat} (h : C1 P r p a) (hb : Bds r) (hr : r.length ≤ 200) (hp : Bd p) (out : List Pt) (ho : out.length ≤ 10000000) :
  ∃m,lp (A4 P) (sc8 r 0 out)=(ph (db7 r p (r.drop (a+1)) out)+1,sc8 r m (db7 r p (r.drop (a+1)) out)):=by
 have hd:(r.drop (a+1)).length<=200:=by rw[Qid];omega
 exact⟨_,(db6 (mk:=sc8 r) (f:=λq l out=>tb6 r p q l out) (g:=λl out=>db7 r p l out) (fin:=λout=>ph out+1) (r.drop (a+1)) (λk o=>o.length<=out.length+200*k) (by omega)
  (λ_=>rfl) (λ_ _ _=>rfl) (λk o hj hi=>⟨xf3 h hb hr hp k o (by omega) hj,by
   have:=Ic0 r p (r.drop (a+1))[k] ((r.drop (a+1)).drop (k+1)) o
   rw[Qid] at this;show (tb6 r p (r.drop (a+1))[k] ((r.drop (a+1)).drop (k+1)) o).length<=out.length+200*(k+1)
   omega⟩)
  (λk o hj _=>Of2 h k o hj) 0 out (by omega)).1⟩
@[reducible] noncomputable def zc7(r:List Pln)(j:Nat)(out:List Pt):o3:=⟨ph out,r,(j:Int),r,r,out.length,bL tX out,cc4 out⟩
theorem xf5 {P : s7} (r : List Pln) (h : P.na7 = (r.length : Int)) (hb : Bds r) (hr : r.length ≤ 200) (a : Nat) (ha : a < r.length) (out : List Pt) (ho : out.length ≤ 40000 * a) :
  A5 P (zc7 r a out)=.next (zc7 r (a+1) (db7 r r[a] (r.drop (a+1)) out)):=by
 have hbs:Bd r[a]:=hb _ (Qih ha);have hlo:inB ((a+1:Nat):Int) (r.length+1)=true:=e8 (by omega)
 have key:∀(P2:l5),C1 P2 r r[a] a->_:=λP2 h2=>xf4 h2 hb hr hbs out (by omega)
 obtain⟨x1⟩:=P
 simp only at h
 subst h;unfold A5;cases out with
 |nil =>
  show D1 Stp.next Stp.exit Stp.fail _ (zc7 r a [])=_;simp only[D1,zc7,g8,i7,n8 ha (by omega),Int.toNat_natCast,hlo,Ya7 tP ha]
  rw[show (⟨0,r,0,r,r,0,[],[]⟩:m0)=sc8 r 0 [] from rfl]
  generalize hP:l5.mk _ _ _ _ _ _ _ _ _ _=P2;obtain⟨m,hm⟩:=key P2 (by
   subst hP;exact⟨rfl,by simp,rfl,by simp,rfl⟩)
  rw[hm,btD (f9 ha),bt (e8 ha)];cases db7 r r[a] (r.drop (a+1)) []<;>rfl
 |cons o os =>
  show D2 Stp.next Stp.exit Stp.fail _ (zc7 r a (o::os))=_;simp only[D2,zc7,g8,i7,n8 ha (by omega),Int.toNat_natCast,hlo,Ya7 tP ha]
  rw[show (⟨1,r,0,r,r,(o::os).length,bL tX (o::os),cc4 (o::os)⟩:m0)=sc8 r 0 (o::os) from rfl]
  generalize hP:l5.mk _ _ _ _ _ _ _ _ _ _=P2;obtain⟨m,hm⟩:=key P2 (by
   subst hP;exact⟨rfl,by simp,rfl,by simp,rfl⟩)
  rw[hm,btD (f9 ha),bt (e8 ha)];cases db7 r r[a] (r.drop (a+1)) (o::os)<;>rfl
theorem Of3{P:s7}(r:List Pln)(h:P.na7=(r.length:Int))(j:Nat)(out:List Pt)(hj:r.length<=j):A5 P (zc7 r j out)=.exit (ph out+1):=by
 obtain⟨x1⟩:=P
 simp only at h
 subst h;unfold A5;have this:¬ ((j:Int)<(r.length:Int)):=by omega
 cases out with
 |nil =>
  show D1 Stp.next Stp.exit Stp.fail _ (zc7 r j [])=_;simp only[D1,zc7];rw[bfD this];rfl
 |cons o os =>
  show D2 Stp.next Stp.exit Stp.fail _ (zc7 r j (o::os))=_;simp only[D2,zc7];rw[bfD this];rfl
theorem xf6(r:List Pln)(hb:Bds r)(hr:r.length<=200):∃m,lp (A5 ⟨(r.length:Int)⟩) (zc7 r 0 [])=(ph (cor r)+1,zc7 r m (cor r)) :=
 ⟨_,(db6 (step:=A5 ⟨(r.length:Int)⟩) (mk:=zc7 r) (f:=λq l out=>db7 r q l out) (g:=λl out=>Hc9 r l out) (fin:=λout=>ph out+1) r (λk o=>o.length<=40000*k) (by omega)
  (λ_=>rfl) (λ_ _ _=>rfl) (λk o hj hi=>⟨xf5 r rfl hb hr k hj o hi,by
   have h1:=nd4 r r[k] (r.drop (k+1)) o (by rw[Qid];omega)
   rw[Qid] at h1;show (db7 r r[k] (r.drop (k+1)) o).length<=40000*(k+1)
   omega⟩)
  (λk o hj _=>Of3 r rfl k o hj) 0 [] (by simp)).1⟩
theorem nd8(r:List Pln)(hb:Bds r)(hr:r.length<=200):da6 r=some (slX (cor r)):=by
 obtain⟨m,hm⟩:=xf6 r hb hr;unfold da6;simp only[g8,i7];rw[show (⟨0,r,0,r,r,0,[],[]⟩:o3)=zc7 r 0 [] from rfl,hm]
 cases cor r<;>rfl
theorem Id4(r:List Pln)(hb:Bds r)(hr:r.length<=200):da7 r=cor r:=by unfold da7;rw[nd8 r hb hr];exact Ga6 _ (Td2 _)
theorem Id5(r:List Pln)(hb:Bds r)(hr:r.length<=200):da8 r=true:=by unfold da8;rw[nd8 r hb hr];exact Ta9 _ (Td2 _)
noncomputable def slP(l:List Pln):b7×List b8:=(.sl 0 0 l.length 0,[⟨73,4,bL tP l,true,false,0⟩])
theorem zc8(l:List Pln):(one (r1L tP)).rd (slP l)=some l:=by
 show Bool.rec (motive:=λ_=>Option (List Pln)) none (some (slR tP (bL tP l) 0 l.length)) (Bool.and true (okS tP (bL tP l) 0 l.length))=_
 rw[hc9,ic0];rfl
theorem uc8{α:Type}(t:Ty α)(l:List α):(one (r1L t)).rd (eL t l,[])=some l:=by
 show Bool.rec (motive:=λ_=>Option (List α)) none (some (rt t l)) (Bool.and (Nat.beq t.es t.es) (okE t l))=_
 rw[g8,o5,Qik];rfl
noncomputable def ws:List Pln:=[⟨⟨1,0,0⟩,24⟩,⟨⟨-1,0,0⟩,24⟩,⟨⟨0,1,0⟩,24⟩,⟨⟨0,-1,0⟩,24⟩,⟨⟨0,0,1⟩,24⟩,⟨⟨0,0,-1⟩,24⟩]
theorem Hf3:Bds ws:=by
 intro p hp
 have:okp p=true:=by
  have h:ws.all okp=true:=by decide
  exact Qiu.1 h p hp
 exact Nb8 this
noncomputable def Ad3(lo hi:V3):List Pln:=[⟨⟨1,0,0⟩,hi.x⟩,⟨⟨-1,0,0⟩,W (0-lo.x)⟩,⟨⟨0,1,0⟩,hi.y⟩,⟨⟨0,-1,0⟩,W (0-lo.y)⟩,⟨⟨0,0,1⟩,hi.z⟩,⟨⟨0,0,-1⟩,W (0-lo.z)⟩]
theorem df1(lo hi:V3):rc1 lo hi=some (slP (Ad3 lo hi)):=rfl
theorem Hf4(lo hi:V3):Qb6 lo hi=Ad3 lo hi:=by unfold Qb6;rw[df1];exact Ga6 _ (zc8 _)
theorem Hf5(lo hi:V3):zb1 lo hi=true:=by unfold zb1;rw[df1];exact Ta9 _ (zc8 _)
theorem Of4:Ad3 ⟨-24,-24,-24⟩ ⟨24,24,24⟩=ws:=by
 simp only[Ad3,ws];rw[show W (0 - -24)=24 from by rw[Xe8];rfl]
theorem xf7{l:List Pln}:Nat.beq (len (bL tP l)) 0=l.isEmpty:=by rw[U9];cases l<;>rfl
theorem df2(c:List Pln)(hc:c.length<=1000000000):Qb7 c=some (slP (c++ws)):=by
 unfold Qb7;simp only[Qb0,Hf4,Hf5,Of4,xf7];have h6:(0+len (bL tP c))=c.length:=by rw[U9];omega
 have hw:len (bL tP ws)=6:=rfl;rw[h6,hw];have e1:Nat.ble (c.length*32) room=true:=fa4 (by omega)
 have e2:Nat.ble ((c.length+6)*32) room=true:=fa4 (by omega)
 have e3:app (app [] (bL tP c)) (bL tP ws)=bL tP (c++ws):=Xa2 tP c ws;have e4:Nat.beq c.length (len (app [] (bL tP c)))=true:=by
  rw[show app [] (bL tP c)=bL tP c from rfl,U9,Qik]
 rw[e1,e2,e3,e4];cases c with
 |nil=>rfl
 |cons p c =>
  show some (b7.sl 0 0 ((p::c).length+6) 0,[(⟨73,4,bL tP (p::c++ws),true,false,0⟩:b8)])=_;unfold slP;rw[Qib];rfl
theorem Hf6(c:List Pln)(hc:c.length<=1000000000):Qb8 c=c++ws:=by unfold Qb8;rw[df2 c hc];exact Ga6 _ (zc8 _)
theorem Hf7(c:List Pln)(hc:c.length<=1000000000):Qb9 c=true:=by unfold Qb9;rw[df2 c hc];exact Ta9 _ (zc8 _)
theorem df3{l:List (List Pln)}{j:Nat}(h:j<l.length):gL (tLs tP) l j=l[j]:=Ya7 (tLs tP) h
theorem ie8(ls:List (List Pln))(hn:ls.length<=1000000000)(hl:ls.flatten.length<=1000000000):∃m,lp (L6 ⟨ls,ls,(ls.length:Int)⟩) ⟨0,0⟩=(1,⟨(ls.flatten.length:Int),m⟩):=by
 have h:=db6 (step:=L6 ⟨ls,ls,(ls.length:Int)⟩) (mk:=λj (n:Nat)=>(⟨(n:Int),(j:Int)⟩:s8)) (f:=λl _ n=>n+l.length) (g:=λl n=>n+l.flatten.length) (fin:=λ_=>1) ls
  (λj n=>n+(ls.drop j).flatten.length=ls.flatten.length) hn (λ_=>rfl) (λx r a=>by simp only[List.flatten_cons,Qib];omega)
  (λj n hj hi=>by
   rw[Qim hj,List.flatten_cons,Qib] at hi;have hW:W ((n:Int)+(ls[j].length:Int))=((n+ls[j].length:Nat):Int):=by rw[ka3 (by omega) (by omega)];omega
   refine⟨?_,by show n+ls[j].length+(ls.drop (j+1)).flatten.length=_;omega⟩
   simp only[L6,R6,Int.toNat_natCast,df3 hj,hW,n8 hj (by omega)]
   rw[btD (f9 hj),bt (e8 hj),bfD (by omega)])
  (λj n hj _=>by
   simp only[L6,R6];rw[bfD (by omega)]) 0 0 (by simp)
 have h:=h.1;rw[Qia,Qij] at h;exact⟨_,h⟩
theorem df4{ls:List (List Pln)}(h:ls.flatten=[]){j:Nat}(hj:j<ls.length):ls[j]=[]:=by
 rw[List.flatten_eq_nil_iff] at h;exact h _ (Qih hj)
theorem De7(ls:List (List Pln))(hn:ls.length<=1000000000)(hl:ls.flatten=[]):∃s,lp (E7 ⟨ls,(ls.length:Int)⟩) ⟨0,0,0,[]⟩=(1,s):=by
 have h:=db6 (step:=E7 ⟨ls,(ls.length:Int)⟩) (mk:=λj (_:Unit)=>(⟨0,(j:Int),0,[]⟩:n7)) (f:=λ_ _ n=>n) (g:=λ_ n=>n) (fin:=λ_=>1) ls
  (λ_ _=>True) hn (λ_=>rfl) (λx r a=>rfl)
  (λj n hj hi=>by
   refine⟨?_,trivial⟩;show D3 Stp.next Stp.exit Stp.fail _ _=_;simp only[D3,Int.toNat_natCast,df3 hj,df4 hl hj,n8 hj (by omega)]
   rw[btD (f9 hj),bt (e8 hj)]
   rfl)
  (λj n hj _=>by
   show D3 Stp.next Stp.exit Stp.fail _ _=_;simp only[D3];rw[bfD (by omega)]) 0 () trivial
 exact⟨_,h.1⟩
noncomputable def Nb9(t:Nat)(d:List Pln):List (List b7):=app (bL tP d) (List.replicate (t-d.length) Sd6)
theorem df5(t:Nat)(d:List Pln)(h:d.length<=t):len (Nb9 t d)=t:=by
 unfold Nb9;rw[G9,o0,Qib,<- o0,U9,List.length_replicate];omega
theorem df6(t:Nat)(d l:List Pln)(h:d.length+l.length<=t):app (N8 (Nb9 t d) d.length) (app (bL tP l) (j7 (Nb9 t d) (d.length+len (bL tP l))))=Nb9 t (d++l):=by
 have hd:(bL tP d).length=d.length:=by rw[<- o0,U9]
 unfold Nb9;rw[U9,<- Xa2];simp only[G9,O0,O1];rw[List.take_left' hd,Qis];congr 2;rw[List.drop_append,Qin (by omega),List.nil_append,hd,List.drop_replicate,Qib]
 congr 1;omega
theorem ie9(ls:List (List Pln))(hn:ls.length<=1000000000):∃m,lp (E7 ⟨ls,(ls.length:Int)⟩) ⟨1,0,0,List.replicate ls.flatten.length Sd6⟩=(2,⟨1,m,ls.flatten.length,bL tP ls.flatten⟩):=by
 have h:=db6 (step:=E7 ⟨ls,(ls.length:Int)⟩) (mk:=λj (d:List Pln)=>(⟨1,(j:Int),d.length,Nb9 ls.flatten.length d⟩:n7)) (f:=λl _ d=>d++l) (g:=λl d=>d++l.flatten) (fin:=λ_=>2) ls
  (λj d=>d.length+(ls.drop j).flatten.length=ls.flatten.length) hn (λ_=>by simp) (λx r a=>by simp)
  (λj d hj hi=>by
   rw[Qim hj,List.flatten_cons,Qib] at hi;refine⟨?_,by show (d++ls[j]).length+(ls.drop (j+1)).flatten.length=_;rw[Qib];omega⟩
   show D4 Stp.next Stp.exit Stp.fail _ _=_;simp only[D4,Int.toNat_natCast,df3 hj,n8 hj (by omega),Qb0]
   rw[df6 _ _ _ (by omega),df5 _ _ (by omega),U9,btD (f9 hj),bt (e8 hj),bt (by rw[Nat.ble_eq];omega),Qib])
  (λj d hj _=>by
   show D4 Stp.next Stp.exit Stp.fail _ _=_;simp only[D4];rw[bfD (by omega)]) 0 [] (by simp)
 have h:=h.1;rw[Qia,List.nil_append] at h;have e:Nb9 ls.flatten.length ls.flatten=bL tP ls.flatten:=by unfold Nb9;rw[Nat.sub_self,G9];simp
 rw[e] at h;exact⟨_,h⟩
theorem Hf8(ls:List (List Pln))(hn:ls.length<=1000000000)(hl:ls.flatten.length<=1000000000):Rb7 ls=some (slP (ls.flatten++ws)):=by
 have hc:u7 ls=if ls.flatten=[] then ⟨1,0,[]⟩ else ⟨2,ls.flatten.length,bL tP ls.flatten⟩:=by
  unfold u7 M3;simp only[g8,i7];obtain⟨m,hm⟩:=ie8 ls hn hl;rw[hm];by_cases h0:ls.flatten=[]
  ·obtain⟨s,hs⟩:=De7 ls hn h0;rw[if_pos h0,hs];rw[show (⟨(ls.flatten.length:Int),m⟩:s8)=⟨0,m⟩ by rw[h0];rfl]
   rfl
  ·obtain⟨m',hm'⟩:=ie9 ls hn;rw[if_neg h0];simp only[Int.toNat_natCast];rw[hm'];have h1:0<ls.flatten.length:=List.length_pos_iff.2 h0;have e1:((ls.flatten.length:Int)==0)=false:=by rw[beq_eq_false_iff_ne];omega
   have e2:Bool.and (decide ((0:Int)<(ls.flatten.length:Int))) (Nat.ble (ls.flatten.length*32) room)=true:=by
    rw[fa4 (by omega),decide_eq_true (by omega)]
    rfl
   rw[e1,e2];rfl
 unfold Rb7;simp only[g8,o5,hc];by_cases h0:ls.flatten=[]
 ·rw[if_pos h0,h0];rfl
 ·rw[if_neg h0];generalize ls.flatten=c at *
  have e:∀(d:List Pln) (p:Pln),app (bL tP d) [[i p.n.x,i p.n.y,i p.n.z,i p.b]]=bL tP (d++[p]):=λd p=>Xa2 tP d [p]
  have c1:=e c ⟨⟨1,0,0⟩,24⟩;have c2:=e (c++[⟨⟨1,0,0⟩,24⟩]) ⟨⟨-1,0,0⟩,24⟩;have c3:=e (c++[⟨⟨1,0,0⟩,24⟩]++[⟨⟨-1,0,0⟩,24⟩]) ⟨⟨0,1,0⟩,24⟩;have c4:=e (c++[⟨⟨1,0,0⟩,24⟩]++[⟨⟨-1,0,0⟩,24⟩]++[⟨⟨0,1,0⟩,24⟩]) ⟨⟨0,-1,0⟩,24⟩;have c5:=e (c++[⟨⟨1,0,0⟩,24⟩]++[⟨⟨-1,0,0⟩,24⟩]++[⟨⟨0,1,0⟩,24⟩]++[⟨⟨0,-1,0⟩,24⟩]) ⟨⟨0,0,1⟩,24⟩;have c6:=e (c++[⟨⟨1,0,0⟩,24⟩]++[⟨⟨-1,0,0⟩,24⟩]++[⟨⟨0,1,0⟩,24⟩]++[⟨⟨0,-1,0⟩,24⟩]++[⟨⟨0,0,1⟩,24⟩]) ⟨⟨0,0,-1⟩,24⟩
  simp only at c1 c2 c3 c4 c5 c6
  simp only[c1,c2,c3,c4,c5,c6,U9,Qib,List.length_singleton];have g:∀n:Nat,n<=1000000010->(Nat.beq n n&&Nat.ble ((n+1)*32) room)=true:=λn h=>by rw[Qik,fa4 (by omega)];rfl
  rw[g _ (by omega),g _ (by omega),g _ (by omega),g _ (by omega),g _ (by omega),g _ (by omega)]
  show some (b7.sl 0 0 (c.length+1+1+1+1+1+1) 0,[(⟨73,4,bL tP _,true,false,0⟩:b8)])=_;unfold slP;rw[Qib];simp only[Qis];rfl
theorem ag4(ls:List (List Pln))(hn:ls.length<=1000000000)(hl:ls.flatten.length<=1000000000):jb9 ls=ls.flatten++ws:=by unfold jb9;rw[Hf8 ls hn hl];exact Ga6 _ (zc8 _)
theorem ag5(ls:List (List Pln))(hn:ls.length<=1000000000)(hl:ls.flatten.length<=1000000000):kb0 ls=true:=by unfold kb0;rw[Hf8 ls hn hl];exact Ta9 _ (zc8 _)
theorem Hf9(c:List Pln)(hc:c.length<=1000000000):jb9 [c]=c++ws:=by
 have:[c].flatten=c:=by simp
 rw[ag4 [c] (by simp) (by rw[this];exact hc),this]
theorem If0(c:List Pln)(hc:c.length<=1000000000):kb0 [c]=true:=by
 have:[c].flatten=c:=by simp
 exact ag5 [c] (by simp) (by rw[this];exact hc)
theorem Id6(ls:List (List Pln))(hn:ls.length<=1000000000)(hl:∀c∈ls,c.length<=1000000000):db1 ls=some (b (ls.all λc=>chk c==0),[]):=by
 have hv:∀c∈ls,cb8 c=!(chk c==0)/\cb9 c=true:=λc hc=>by
  have:La1 c=some (b (!(chk c==0)),[]):=by
   unfold La1;simp only[g8,o5,ed1 c (hl c hc),Td0 c (hl c hc)];rfl
  unfold cb8 cb9;rw[this];exact⟨rfl,rfl⟩
 have h:=Va6 (step:=K1 ⟨ls,(ls.length:Int)⟩) (mk:=λj=>(⟨(j:Int)⟩:p9)) (c:=λc=>!(chk c==0)) (u:=1) (fin:=2) (tLs tP) ls hn
  (λj hj=>by
   have hm:=hv _ (ya6 (tLs tP) hj);simp only[K1,H8,Int.toNat_natCast,g8,o5,hm.1,hm.2,n8 hj (by omega)]
   rw[btD (f9 hj),bt (e8 hj),g7,g7])
  (by simp only[K1,H8];rw[bfD (l7 (Qic _))]) 0 (Qie _)
 rw[Qia] at h;have e:(ls.any λc=>!(chk c==0))=!ls.all λc=>chk c==0:=by rw[Qii]
 unfold db1 ja3 D8 sa2 I7;simp only[g8,i7];rw[show (⟨0⟩:p9)=⟨((0:Nat):Int)⟩ from rfl,h,e]
 cases ls.all λc=>chk c==0 with
 |true=>rfl
 |false =>
  simp only[Qiw,if_true,Qij];show sl true (sl (Nat.beq 1 1) (some (b (!(decide (((ls.findIdx λc=>!(chk c==0):Nat):Int)>=0))),[])) _) _=_
  rw[show decide (((ls.findIdx λc=>!(chk c==0):Nat):Int)>=0)=true from decide_eq_true (by omega)]
  rfl
theorem je0(ls:List (List Pln))(hn:ls.length<=1000000000)(hl:∀c∈ls,c.length<=1000000000):ua7 ls=ls.all λc=>chk c==0:=by unfold ua7;rw[Id6 ls hn hl];rfl
theorem je1(ls:List (List Pln))(hn:ls.length<=1000000000)(hl:∀c∈ls,c.length<=1000000000):ua8 ls=true:=by unfold ua8;rw[Id6 ls hn hl];rfl
theorem nd9(c:List Pln)(hc:c.length<=1000000000):ua7 [c]=(chk c==0):=by
 rw[je0 [c] (by simp) (by simpa using hc)]
 simp
theorem od0(c:List Pln)(hc:c.length<=1000000000):ua8 [c]=true:=je1 [c] (by simp) (by simpa using hc)
noncomputable def pos(X:List Pt)(p:Pln):Bool:=X.any λx=>decide (rm p x>0)
noncomputable def Zc7(r:List Pln):Bool:=r.all (pos (cor r))
theorem df7(p:Pln)(X:List Pt)(hX:X.length<=1000000000):va0 ⟨p.n.x,p.n.y,p.n.z,p.b,X⟩=⟨1,!pos X p⟩:=by
 have hw:∀x:Pt,Ca8 ⟨x.px,x.py,x.pz,x.pw,p.n.x,p.n.y,p.n.z,p.b⟩=⟨decide (rm p x>0)⟩:=λx=>by
  show Z4.mk (decide (Ba7 p x>0))=_;rw[Sd8]
 have h:=Va6 (step:=M9 ⟨X,(X.length:Int),p.n.x,p.n.y,p.n.z,p.b⟩) (mk:=λj=>(⟨(j:Int)⟩:r5)) (c:=λx=>decide (rm p x>0)) (u:=1) (fin:=2) tX X hX
  (λj hj=>by
   simp only[M9,K2,Int.toNat_natCast,hw,n8 hj (by omega)]
   rw[btD (f9 hj),bt (e8 hj)])
  (by simp only[M9,K2];rw[bfD (l7 (Qic _))]) 0 (Qie _)
 rw[Qia] at h;unfold va0 V5 la9 F4 wa7 L7 pos;simp only[g8,i7];rw[show (⟨0⟩:r5)=⟨((0:Nat):Int)⟩ from rfl,h]
 cases X.any λx=>decide (rm p x>0) with
 |false=>rfl
 |true =>
  simp only[if_true,Qij];show ha3.mk 1 (!(decide (((X.findIdx λx=>decide (rm p x>0):Nat):Int)>=0)))=_
  rw[show decide (((X.findIdx λx=>decide (rm p x>0):Nat):Int)>=0)=true from decide_eq_true (by omega)]
theorem De8(r:List Pln)(hb:Bds r)(hr:r.length<=200):pa5 r=some (b (Zc7 r),[]):=by
 have hX:(cor r).length<=1000000000:=Qiy (Td1 r hb hr) (by omega)
 have h:=Va6 (step:=K3 ⟨r,(r.length:Int)⟩) (mk:=λj=>(⟨(j:Int),cor r⟩:q7)) (c:=λp=>!pos (cor r) p) (u:=1) (fin:=2) tP r (by omega)
  (λj hj=>by
   simp only[K3,H9,Int.toNat_natCast,g8,i7,df7 _ _ hX,n8 hj (by omega)]
   rw[btD (f9 hj),bt (e8 hj)]
   rfl)
  (by simp only[K3,H9];rw[bfD (l7 (Qic _))]) 0 (Qie _)
 rw[Qia] at h;have e:(r.any λp=>!pos (cor r) p)=!r.all (pos (cor r)):=by rw[Qii]
 unfold pa5 ja5 D9 sa4 I8 Zc7;simp only[g8,i7,o5,Id4 r hb hr,Id5 r hb hr];rw[show (⟨0,cor r⟩:q7)=⟨((0:Nat):Int),cor r⟩ from rfl,h,e]
 cases r.all (pos (cor r)) with
 |true=>rfl
 |false =>
  simp only[Qiw,if_true,Qij];show some (b (!(decide (((r.findIdx λp=>!pos (cor r) p:Nat):Int)>=0))),[])=_
  rw[show decide (((r.findIdx λp=>!pos (cor r) p:Nat):Int)>=0)=true from decide_eq_true (by omega)]
  rfl
theorem df8(r:List Pln)(hb:Bds r)(hr:r.length<=200):pa6 r=Zc7 r:=by unfold pa6;rw[De8 r hb hr];rfl
theorem df9(r:List Pln)(hb:Bds r)(hr:r.length<=200):pa7 r=true:=by unfold pa7;rw[De8 r hb hr];rfl
theorem we5(r:List Pln)(X:List Pt)(hr:r.length<=200)(hX:X.length<=1000000000)(a:Nat)(ha:a<r.length):∃m,lp (Ga2 ⟨r,X,(a:Int)⟩) ⟨false,0⟩=(1,⟨pos X r[a],m⟩):=by
 have h:=Fc2 (step:=Ga2 ⟨r,X,(a:Int)⟩) (mk:=λj (c:Bool)=>(⟨c,(j:Int)⟩:ta9)) (f:=λc x=>c||decide (rm r[a] x>0)) (fin:=1) tX X (λ_ _=>True) hX
  (λj c hj _=>⟨by
   simp only[Ga2,Ka3,Int.toNat_natCast,dd9,n8 hj (by omega),Ya7 tP ha,e8 ha,e8 hj]
   rw[btD (f9 hj)];cases c<;>rfl,trivial⟩)
  (λc _=>by simp only[Ga2,Ka3];rw[bfD (l7 (Qic _))]) 0 (Qie _) false trivial
 have h:=h.1;rw[Qia] at h;have e:∀(l:List Pt) (c:Bool),l.foldl (λc x=>c||decide (rm r[a] x>0)) c=(c||l.any λx=>decide (rm r[a] x>0)):=by
  intro l
  induction l with
  |nil=>intro c;simp
  |cons x l ih=>intro c;rw[List.foldl_cons,ih,List.any_cons,Bool.or_assoc]
 rw[e,Bool.false_or] at h;exact⟨_,h⟩
theorem De9(r:List Pln)(hb:Bds r)(hr:r.length<=200):Bb9 r=some (b (Zc7 r),[]):=by
 have hX:(cor r).length<=1000000000:=Qiy (Td1 r hb hr) (by omega)
 have h:=Xa3 (step:=Sa9 ⟨⟩) (mk:=λj=>(⟨r,cor r,(j:Int)⟩:la3)) (c:=λp=>!pos (cor r) p) (u:=1) (fin:=2) tP r (by omega)
  (λj hj=>by
   obtain⟨m,hm⟩:=we5 r (cor r) hr hX j hj;simp only[Sa9,Ka4,g8,i7,hm,n8 hj (by omega),Ya7 tP hj]
   rw[btD (f9 hj)]
   rfl)
  (by simp only[Sa9,Ka4];rw[bfD (l7 (Qic _))]) 0 (Qie _)
 rw[Qia] at h;have e:(r.any λp=>!pos (cor r) p)=!r.all (pos (cor r)):=by rw[Qii]
 unfold Bb9 Zc7;simp only[g8,i7,o5,nd5 r hb hr,nd6 r hb hr];rw[show (⟨r,cor r,0⟩:la3)=⟨r,cor r,((0:Nat):Int)⟩ from rfl,h,e]
 cases r.all (pos (cor r))<;>rfl
theorem Of5(r:List Pln)(hb:Bds r)(hr:r.length<=200):Wb5 r=Zc7 r:=by unfold Wb5;rw[De9 r hb hr];rfl
theorem Of6(r:List Pln)(hb:Bds r)(hr:r.length<=200):Wb6 r=true:=by unfold Wb6;rw[De9 r hb hr];rfl
theorem mb7{c:List Pln}(h:(chk c==0)=true):Bds (c++ws)/\(c++ws).length<=200:=by
 rw[beq_iff_eq,db5] at h;refine⟨λp hp=>?_,by rw[Qib,show ws.length=6 from rfl];omega⟩
 rcases Qiv.1 hp with hp|hp
 ·exact Nb8 (h.2 p hp)
 ·exact Hf3 p hp
noncomputable def pts(c:List Pln):List Pt:=if chk c==0 then cor (c++ws) else []
noncomputable def ful(c:List Pln):Bool:=(chk c==0)&&Zc7 (c++ws)
theorem je2{c:List Pln}(hc:c.length<=1000000000):∃x,Ta8 c=some x/\(one (r1L tX)).rd x=some (pts c):=by
 unfold Ta8 pts;simp only[g8,o5,nd9 c hc,od0 c hc,Hf9 c hc,If0 c hc];cases h:chk c==0 with
 |false=>exact⟨_,rfl,rfl⟩
 |true =>
  obtain⟨h1,h2⟩:=mb7 h;rw[Id4 _ h1 h2,Id5 _ h1 h2];exact⟨_,rfl,uc8 tX _⟩
theorem od1{c:List Pln}(hc:c.length<=1000000000):Ga4 c=pts c:=by
 obtain⟨x,h1,h2⟩:=je2 hc;unfold Ga4;rw[h1];exact Ga6 _ h2
theorem od2{c:List Pln}(hc:c.length<=1000000000):Ga5 c=true:=by
 obtain⟨x,h1,h2⟩:=je2 hc;unfold Ga5;rw[h1];exact Ta9 _ h2
theorem Id7{c:List Pln}(hc:c.length<=1000000000):∃x,bb7 c=some x/\(one (r1L tX)).rd x=some (pts c):=by
 unfold bb7 pts;simp only[g8,o5,ie2 c hc,ie3 c hc,Hf6 c hc,Hf7 c hc];have e:(chk c != 0)=!(chk c==0):=rfl;rw[e];cases h:chk c==0 with
 |false=>exact⟨_,rfl,rfl⟩
 |true =>
  obtain⟨h1,h2⟩:=mb7 h;rw[nd5 _ h1 h2,nd6 _ h1 h2];exact⟨_,rfl,uc8 tX _⟩
theorem Oe2{c:List Pln}(hc:c.length<=1000000000):vb9 c=pts c:=by
 obtain⟨x,h1,h2⟩:=Id7 hc;unfold vb9;rw[h1];exact Ga6 _ h2
theorem Oe3{c:List Pln}(hc:c.length<=1000000000):wb0 c=true:=by
 obtain⟨x,h1,h2⟩:=Id7 hc;unfold wb0;rw[h1];exact Ta9 _ h2
theorem Ee0{c:List Pln}(hc:c.length<=1000000000):qb1 c=some (b (ful c),[]):=by
 unfold qb1 ful;simp only[g8,o5,nd9 c hc,od0 c hc,Hf9 c hc,If0 c hc];cases h:chk c==0 with
 |false=>rfl
 |true =>
  obtain⟨h1,h2⟩:=mb7 h;rw[df8 _ h1 h2,df9 _ h1 h2];rfl
theorem od3{c:List Pln}(hc:c.length<=1000000000):Ba8 c=ful c:=by unfold Ba8;rw[Ee0 hc];rfl
theorem od4{c:List Pln}(hc:c.length<=1000000000):Ba9 c=true:=by unfold Ba9;rw[Ee0 hc];rfl
theorem je3{c:List Pln}(hc:c.length<=1000000000):Cb0 c=some (b (ful c),[]):=by
 unfold Cb0 ful;simp only[g8,o5,ie2 c hc,ie3 c hc,Hf6 c hc,Hf7 c hc];cases h:chk c==0 with
 |false=>rfl
 |true =>
  obtain⟨h1,h2⟩:=mb7 h;rw[Of5 _ h1 h2,Of6 _ h1 h2];rfl
theorem Ee1{c:List Pln}(hc:c.length<=1000000000):Xa7 c=ful c:=by unfold Xa7;rw[je3 hc];rfl
theorem Ee2{c:List Pln}(hc:c.length<=1000000000):Xa8 c=true:=by unfold Xa8;rw[je3 hc];rfl
set_option maxRecDepth 100000
structure Wa0 where
 is1:Int
 i8:List Int
 b9:Int
noncomputable def Qc6:List (Nat×Sum):=[(27,Pc5)]
theorem Ic2:i9 prog G Qc6:=⟨ld8,trivial⟩
structure Wa1 where
 alt:Nat
 (is0 b9:Int)
noncomputable def ta0{α:Type}(kk:Wa1->α)(x:Wa0):α:=let t1:=(Rb1 (gL tI x.i8 (W ((W (x.b9+1))-1)).toNat) x.is1);(sl (decide (x.b9>=(↑(List.length x.i8):Int))) (kk ⟨1,0,x.b9⟩) (sl (inB (W ((W (x.b9+1))-1)) (List.length x.i8)) (sl (Rb2 (gL tI x.i8 (W ((W (x.b9+1))-1)).toNat) x.is1) (kk ⟨1,t1,W (x.b9+1)⟩) (kk ⟨0,0,0⟩)) (kk ⟨0,0,0⟩)))
noncomputable def n9(x:Wa0):Wa1:=ta0 (λr=>r) x
noncomputable def kb3(x:Wa0)(r:Wa1):DT (b7×List b8):=(.ite (Nat.beq r.alt 1) (.ret (i r.is0,[⟨0,2,[[eL tI x.i8,i r.b9]],true,false,0⟩])) .fail)
theorem Zc8{α β:Type}(F:α->β)(kk:Wa1->α)(x:Wa0):F (ta0 kk x)=ta0 (λr=>F (kk r)) x:=by unfold ta0;(repeat' apply l6 (f:=F))<;>rfl
noncomputable def ta1:Sum:=bb1 ⟨[sPq 0,sIq],[⟨0,2,true,some [[.c 1 (nL tI),.o (.int .i64)]]⟩],λa H=>(⟨aIq a 1,hLq tI H 0 0 0,hIq H 0 0 1⟩,())⟩ (λx=>kb3 x (n9 x))
theorem Aa0:g9 prog G 68 ta1:=N9 (enc:=λx=>⟨[.ptr 0 0 0 0,i x.is1],[⟨0,2,[[eL tI x.i8,i x.b9]],true,false,0⟩]⟩) (λa H=>by kernel_rfl) (bd b68 Ic2) λx=>v7 (Eq.trans (b:=ta0 (λr=>(kb3 x r).run) x) (by kernel_rfl) (Zc8 (λr=>(kb3 x r).run) (λr=>r) x).symm)
structure rc3 where
 is1:Int
 i8:List Int
 b9:Int
noncomputable def we6:List (Nat×Sum):=[(68,ta1)]
theorem je4:i9 prog G we6:=⟨Aa0,trivial⟩
structure rc4 where
 alt:Nat
 (ka8 ka9 la0:Int)
 i8:List Int
 b9:Int
noncomputable def zb2{α:Type}(kk:rc4->α)(x:rc3):α:=let t1:=(n9 ⟨W ((W (2*x.is1))+1),rt tI x.i8,x.b9⟩);let t2:=(n9 ⟨W ((W (2*x.is1))+1),rt tI (rt tI x.i8),t1.b9⟩);let t3:=(n9 ⟨W ((W (2*x.is1))+1),rt tI (rt tI (rt tI x.i8)),t2.b9⟩);(sl ((cnE tI x.i8)&&true) (sl (Nat.beq t1.alt 1) (sl ((cnE tI (rt tI x.i8))&&true) (sl (Nat.beq t2.alt 1) (sl ((cnE tI (rt tI (rt tI x.i8)))&&true) (sl (Nat.beq t3.alt 1) (kk ⟨1,W (t1.is0-x.is1),W (t2.is0-x.is1),W (t3.is0-x.is1),rt tI (rt tI (rt tI x.i8)),t3.b9⟩) (kk ⟨0,0,0,0,[],0⟩)) (kk ⟨0,0,0,0,[],0⟩)) (kk ⟨0,0,0,0,[],0⟩)) (kk ⟨0,0,0,0,[],0⟩)) (kk ⟨0,0,0,0,[],0⟩)) (kk ⟨0,0,0,0,[],0⟩))
noncomputable def Oa6(x:rc3):rc4:=zb2 (λr=>r) x
noncomputable def zc9(x:rc3)(r:rc4):DT (b7×List b8):=(.ite (Nat.beq r.alt 1) (.ret (.agg [i r.ka8,i r.ka9,i r.la0],[⟨0,2,[[eL tI r.i8,i r.b9]],true,false,0⟩])) .fail)
theorem Oe4{α β:Type}(F:α->β)(kk:rc4->α)(x:rc3):F (zb2 kk x)=zb2 (λr=>F (kk r)) x:=by unfold zb2;(repeat' apply l6 (f:=F))<;>rfl
noncomputable def rc5:Sum:=bb1 ⟨[sPq 0,sIq],[⟨0,2,true,some [[.c 1 (nL tI),.o (.int .i64)]]⟩],λa H=>(⟨aIq a 1,hLq tI H 0 0 0,hIq H 0 0 1⟩,())⟩ (λx=>zc9 x (Oa6 x))
theorem Ac0:g9 prog G 69 rc5:=N9 (enc:=λx=>⟨[.ptr 0 0 0 0,i x.is1],[⟨0,2,[[eL tI x.i8,i x.b9]],true,false,0⟩]⟩) (λa H=>by kernel_rfl) (bd b69 je4) λx=>v7 (Eq.trans (b:=zb2 (λr=>(zc9 x r).run) x) (by kernel_rfl) (Oe4 (λr=>(zc9 x r).run) (λr=>r) x).symm)
noncomputable def we7:List (Nat×Sum):=[]
theorem je5:i9 prog G we7:=trivial
noncomputable def Oa7(x:V3)(y:V3):V3:=(⟨W (x.x-y.x),W (x.y-y.y),W (x.z-y.z)⟩:V3)
noncomputable def Qc7:Sum:=oa5 (ba6 tV) (ba6 tV) (λx y=>.ret ((one r1V).enc (Oa7 x y),[]))
theorem od5:g9 prog G 128 Qc7:=Ia3 (bd jg4 je5) λx y=>v7 (by kernel_rfl)
noncomputable def Oe5:List (Nat×Sum):=[(191,Oa2)]
theorem we8:i9 prog G Oe5:=⟨bb6,trivial⟩
noncomputable def lc4(x:V3):Option (b7×List b8):=(sl (decide (x.x<(-24))) (some (b false,[])) (sl (decide (x.x>24)) (some (b false,[])) (sl (decide (x.y<(-24))) (some (b false,[])) (sl (decide (x.y>24)) (some (b false,[])) (sl (decide (x.z<(-24))) (some (b false,[])) (sl (decide (x.z>24)) (some (b false,[])) (some (b true,[]))))))))
noncomputable def qb2(x:V3):Bool:=J8 (one r1B) (lc4 x)
noncomputable def qb3(x:V3):Bool:=okO (one r1B) (lc4 x)
noncomputable def Ic3:Sum:=X6 (ba6 tV) (λx=>.guard (qb3 x) (.ret ((one r1B).enc (qb2 x),[])))
theorem Qc8:g9 prog G 162 Ic3:=Ia9 (bd kg8 we8) (one r1B) (o:=lc4) λx=>v7 (by kernel_rfl)
noncomputable def od6:List (Nat×Sum):=[(162,Ic3),(128,Qc7),(164,jc4),(163,zc0),(84,rc0)]
theorem Zc9:i9 prog G od6:=⟨Qc8,od5,Gc1,Vc3,yc7,trivial⟩
noncomputable def Ua0(x:V3)(y:V3)(z:V3):Option (b7×List b8):=let t1:=(qb2 x);let t2:=(qb2 y);let t3:=(qb2 z);let t4:=(Oa7 y x);let t5:=(Oa7 z x);let t6:=(ba1 t4 t5);let t7:=(Xa6 t6);let t8:=(Ga1 t7.1 x);(sl (qb3 x) (sl (!t1) (some (.tup [.agg [i 0,i 0,i 0,i 0],b false],[])) (sl (qb3 y) (sl (!t2) (some (.tup [.agg [i 0,i 0,i 0,i 0],b false],[])) (sl (qb3 z) (sl (!t3) (some (.tup [.agg [i 0,i 0,i 0,i 0],b false],[])) (sl (Bb8 t6) (sl (t7.2==0) (some (.tup [.agg [i 0,i 0,i 0,i 0],b false],[])) (some (.tup [.agg [i t7.1.x,i t7.1.y,i t7.1.z,i t8],b true],[]))) none)) none)) none)) none)
noncomputable def wa8(x:V3)(y:V3)(z:V3):Pln×Bool:=J8 (two r1P r1B) (Ua0 x y z)
noncomputable def wa9(x:V3)(y:V3)(z:V3):Bool:=okO (two r1P r1B) (Ua0 x y z)
noncomputable def mb8:Sum:=yc1 (ba6 tV) (ba6 tV) (ba6 tV) (λx y z=>.guard (wa9 x y z) (.ret ((two r1P r1B).enc (wa8 x y z),[])))
theorem Db1:g9 prog G 107 mb8:=Le8 (bd hg8 Zc9) (two r1P r1B) (o:=Ua0) λx y z=>v7 (by kernel_rfl)
noncomputable def je6:List (Nat×Sum):=[(68,ta1),(69,rc5),(107,mb8),(27,Pc5)]
theorem Td5:i9 prog G je6:=⟨Aa0,Ac0,Db1,ld8,trivial⟩
noncomputable def Ya0(x:List Int):Option (b7×List b8):=let t1:=(n9 ⟨8,rt tI x,0⟩);let t2:=(n9 ⟨17,rt tI (rt tI x),t1.b9⟩);let t3:=(Oa6 ⟨8,rt tI (rt tI (rt tI x)),t2.b9⟩);let t4:=(Oa6 ⟨8,rt tI t3.i8,t3.b9⟩);let t5:=(Oa6 ⟨8,rt tI t4.i8,t4.b9⟩);let t6:=(wa8 (⟨t3.ka8,t3.ka9,t3.la0⟩:V3) (⟨t4.ka8,t4.ka9,t4.la0⟩:V3) (⟨t5.ka8,t5.ka9,t5.la0⟩:V3));let t7:=(Rb1 (W (t2.is0-8)) 3);let w0:Option (b7×List b8):=(sl (Rb2 (W (t2.is0-8)) 3) (sl (t7==1) (some (.agg [i 0,i (W (1-(W (2*(Int.tmod t1.is0 2))))),i 0,i (W (t2.is0-8))],[])) (sl (t7==2) (some (.agg [i 0,i 0,i (W (1-(W (2*(Int.tmod t1.is0 2))))),i (W (t2.is0-8))],[])) (some (.agg [i (W (1-(W (2*(Int.tmod t1.is0 2))))),i 0,i 0,i (W (t2.is0-8))],[])))) none);(sl ((cnE tI x)&&true) (sl (Nat.beq t1.alt 1) (sl ((cnE tI (rt tI x))&&true) (sl (Nat.beq t2.alt 1) (sl ((cnE tI (rt tI (rt tI x)))&&true) (sl (Nat.beq t3.alt 1) (sl ((cnE tI t3.i8)&&true) (sl (Nat.beq t4.alt 1) (sl ((cnE tI t4.i8)&&true) (sl (Nat.beq t5.alt 1) (sl (wa9 (⟨t3.ka8,t3.ka9,t3.la0⟩:V3) (⟨t4.ka8,t4.ka9,t4.la0⟩:V3) (⟨t5.ka8,t5.ka9,t5.la0⟩:V3)) (sl (decide (t1.is0>1)) (sl t6.2 (some (.agg [i t6.1.n.x,i t6.1.n.y,i t6.1.n.z,i t6.1.b],[])) w0) w0) none) none) none) none) none) none) none) none) none) none) none)
noncomputable def Db2(x:List Int):Pln:=J8 (one r1P) (Ya0 x)
noncomputable def Xb6(x:List Int):Bool:=okO (one r1P) (Ya0 x)
noncomputable def od7:Sum:=X6 (O3 tI) (λx=>.guard (Xb6 x) (.ret ((one r1P).enc (Db2 x),[])))
theorem je7:g9 prog G 51 od7:=Ia9 (bd b51 Td5) (one r1P) (o:=Ya0) λx=>v7 (by kernel_rfl)
noncomputable def je8:List (Nat×Sum):=[(128,Qc7)]
theorem Td6:i9 prog G je8:=⟨od5,trivial⟩
noncomputable def kb4(x:Pln):Pln:=let t1:=(Oa7 (⟨0,0,0⟩:V3) x.n);(⟨t1,W (0-x.b)⟩:Pln)
noncomputable def od8:Sum:=X6 (ba6 tP) (λx=>.ret ((one r1P).enc (kb4 x),[]))
theorem je9:g9 prog G 73 od8:=Ib6 (bd b73 Td6) λx=>v7 (by kernel_rfl)
noncomputable def ke0:List (Nat×Sum):=[(156,jc9),(162,Ic3),(84,rc0)]
theorem Td7:i9 prog G ke0:=⟨Gc5,Qc8,yc7,trivial⟩
noncomputable def Ya1(x:Pln)(y:V3):Option (b7×List b8):=let t1:=(ob3 x);let t2:=(qb2 y);let t3:=(Ga1 x.n y);(sl (ob4 x) (sl (!t1) (some (i 0,[])) (sl (qb3 y) (sl (!t2) (some (i 0,[])) (sl (decide ((W (t3-x.b))<0)) (some (i (-1),[])) (sl (decide ((W (t3-x.b))>0)) (some (i 1,[])) (some (i 0,[]))))) none)) none)
noncomputable def kb5(x:Pln)(y:V3):Int:=J8 (one r1I) (Ya1 x y)
noncomputable def Xb7(x:Pln)(y:V3):Bool:=okO (one r1I) (Ya1 x y)
noncomputable def Ac1:Sum:=oa5 (ba6 tP) (ba6 tV) (λx y=>.guard (Xb7 x y) (.ret ((one r1I).enc (kb5 x y),[])))
theorem Vc8:g9 prog G 135 Ac1:=hb8 (bd jg5 Td7) (one r1I) (o:=Ya1) λx y=>v7 (by kernel_rfl)
noncomputable def lc5:List (Nat×Sum):=[]
theorem ad1:i9 prog G lc5:=trivial
structure Fa1 where
 (f0 b9 f7 j6 X1 X2 X3 da4:Int)
structure U4 where
 is7:Int
noncomputable def Sb0(p:Fa1)(s:U4):St:=⟨ra 5 (.ptr 0 0 0 0::.ptr 1 0 0 0::i s.is7::ra 42 []),[⟨0,4,[[i p.f0,i p.b9,i p.f7,i p.j6]],true,false,0⟩,⟨0,4,[[i p.X1,i p.X2,i p.X3,i p.da4]],true,false,0⟩]⟩
noncomputable def Z6{α:Type}(k:U4->α)(e:Nat->α)(z:α)(p:Fa1)(s:U4):α:=(sl (decide (s.is7<4)) (sl (inB s.is7 4) (sl ((Nat.ble ((0+(s.is7.toNat*1))+1) 4)&&(ka1 [CK.int .i64] (j7 [i p.f0,i p.b9,i p.f7,i p.j6] (0+(s.is7.toNat*1))))) (sl (inB s.is7 4) (sl ((Nat.ble ((0+(s.is7.toNat*1))+1) 4)&&(ka1 [CK.int .i64] (j7 [i p.X1,i p.X2,i p.X3,i p.da4] (0+(s.is7.toNat*1))))) (sl (decide ((toI (hdA (j7 [i p.f0,i p.b9,i p.f7,i p.j6] (0+(s.is7.toNat*1)))))<(toI (hdA (j7 [i p.X1,i p.X2,i p.X3,i p.da4] (0+(s.is7.toNat*1))))))) (e 1) (sl (inB s.is7 4) (sl ((Nat.ble ((0+(s.is7.toNat*1))+1) 4)&&(ka1 [CK.int .i64] (j7 [i p.f0,i p.b9,i p.f7,i p.j6] (0+(s.is7.toNat*1))))) (sl (inB s.is7 4) (sl ((Nat.ble ((0+(s.is7.toNat*1))+1) 4)&&(ka1 [CK.int .i64] (j7 [i p.X1,i p.X2,i p.X3,i p.da4] (0+(s.is7.toNat*1))))) (sl (decide ((toI (hdA (j7 [i p.f0,i p.b9,i p.f7,i p.j6] (0+(s.is7.toNat*1)))))>(toI (hdA (j7 [i p.X1,i p.X2,i p.X3,i p.da4] (0+(s.is7.toNat*1))))))) (e 2) (k ⟨W (s.is7+1)⟩)) z) z) z) z)) z) z) z) z) (e 3))
noncomputable def L8(p:Fa1)(s:U4):Stp U4:=Z6 .next .exit .fail p s
noncomputable def tb7:Lo Fa1 U4:=⟨En lc5,0,Gf1,[1,1,1,0,1,4,4],[5,6,7],.p,[⟨ru2 5 (sPq 0::sPq 1::sIq::ru2 42 []),[⟨0,4,true,some [kLq 4]⟩,⟨0,4,true,some [kLq 4]⟩],λa H=>(⟨hIq H 0 0 0,hIq H 0 0 1,hIq H 0 0 2,hIq H 0 0 3,hIq H 1 0 0,hIq H 1 0 1,hIq H 1 0 2,hIq H 1 0 3⟩,⟨aIq a 7⟩)⟩],L8,[(none,λp s=>⟨[i (-1)],[]⟩),(none,λp s=>⟨[i 1],[]⟩),(some 0,λp s=>upq (Sb0 p s) [(32,i s.is7),(33,b (decide (s.is7<4)))])],Sb0⟩
theorem Qc9:tb7.Ok:=Lo.ok [] (by kernel_rfl) .nil rfl (.cons (λa H=>by kernel_rfl) .nil) λp s=>(.of @Z6 (λF _ _ _ _ _=>by unfold Z6;(repeat' apply l6 (f:=F))<;>rfl) (by kernel_rfl))
noncomputable def xa0(x:Pln)(y:Pln):Option (b7×List b8):=let t1:=(lp (L8 (⟨x.n.x,x.n.y,x.n.z,x.b,y.n.x,y.n.y,y.n.z,y.b⟩:Fa1)) (⟨0⟩:U4));(sl (Nat.beq t1.1 1) (some (i (-1),[])) (sl (Nat.beq t1.1 2) (some (i 1,[])) (sl (Nat.beq t1.1 3) (some (i 0,[])) none)))
noncomputable def fa9(x:Pln)(y:Pln):Int:=J8 (one r1I) (xa0 x y)
noncomputable def mb9(x:Pln)(y:Pln):Bool:=okO (one r1I) (xa0 x y)
noncomputable def Ob0:Sum:=oa5 (ba6 tP) (ba6 tP) (λx y=>.guard (mb9 x y) (.ret ((one r1I).enc (fa9 x y),[])))
theorem lc6:g9 prog G 182 Ob0:=hb8 (bd mg2 ad1) (one r1I) (o:=xa0) λx y=>ta7 (.s .p (.s .p (.s .p (.s (.s .p (.b (.u tb7.ls))) .p)))) [tb7.pr] (by kernel_rfl) (.cons Qc9 .nil) (by kernel_rfl)
noncomputable def qb4:List (Nat×Sum):=[(107,mb8),(135,Ac1)]
theorem Td8:i9 prog G qb4:=⟨Db1,Vc8,trivial⟩
structure Ca9 where
 i5:List V3
 (is3 is4 is5:Int)
 bs7:Bool
 (f0 b9 f7 j6:Int)
structure ma1 where
 is8:Int
noncomputable def Ob1(p:Ca9)(s:ma1):St:=⟨eL tV p.i5::.unk::.unk::i p.is3::i p.is4::i p.is5::.ptr 0 0 0 0::b p.bs7::i s.is8::ra 48 [],[⟨0,4,[[i p.f0,i p.b9,i p.f7,i p.j6]],true,false,0⟩]⟩
noncomputable def ha5{α:Type}(k:ma1->α)(e:Nat->α)(z:α)(p:Ca9)(s:ma1):α:=let t1:=(kb5 (⟨(⟨p.f0,p.b9,p.f7⟩:V3),p.j6⟩:Pln) (gL tV p.i5 s.is8.toNat));(sl (decide (s.is8<(↑(List.length p.i5):Int))) (sl p.bs7 (sl (inB s.is8 (List.length p.i5)) (sl (Xb7 (⟨(⟨p.f0,p.b9,p.f7⟩:V3),p.j6⟩:Pln) (gL tV p.i5 s.is8.toNat)) (sl (t1 != 0) (e 1) (k ⟨W (s.is8+1)⟩)) z) z) (e 2)) (e 3))
noncomputable def E8(p:Ca9)(s:ma1):Stp ma1:=ha5 .next .exit .fail p s
noncomputable def Xb8:Lo Ca9 ma1:=⟨En qb4,0,bf4,[1,0,1,4,4,1,0,4,1,4,4,1,0,4,1,4,4,1,0,4,1,1,4,4],[0,3,4,5,6,7,8],.p,[⟨sLq tV::sUq::sUq::sIq::sIq::sIq::sPq 0::sBq::sIq::ru2 48 [],[⟨0,4,true,some [kLq 4]⟩],λa H=>(⟨aLq tV a 0,aIq a 3,aIq a 4,aIq a 5,aBq a 7,hIq H 0 0 0,hIq H 0 0 1,hIq H 0 0 2,hIq H 0 0 3⟩,⟨aIq a 8⟩)⟩],E8,[(none,λp s=>⟨[b false],[]⟩),(some 6,λp s=>upq (Ob1 p s) [(41,i s.is8),(42,eL tV p.i5),(43,i (↑(List.length p.i5):Int)),(44,b (decide (s.is8<(↑(List.length p.i5):Int)))),(45,b true),(46,b p.bs7),(47,b p.bs7)]),(some 6,λp s=>upq (Ob1 p s) [(41,i s.is8),(42,eL tV p.i5),(43,i (↑(List.length p.i5):Int)),(44,b (decide (s.is8<(↑(List.length p.i5):Int)))),(45,b false),(46,u),(47,b false)])],Ob1⟩
theorem Ad4:Xb8.Ok:=Lo.ok [] (by kernel_rfl) .nil rfl (.cons (λa H=>by kernel_rfl) .nil) λp s=>(.of @ha5 (λF _ _ _ _ _=>by unfold ha5;(repeat' apply l6 (f:=F))<;>rfl) (by kernel_rfl))
structure db8 where
 (is3 is4:Int)
structure ma2 where
 i5:List V3
 is5:Int
noncomputable def uc9(p:db8)(s:ma2):St:=⟨eL tV s.i5::.unk::.unk::i p.is3::i p.is4::i s.is5::ra 51 [],[]⟩
noncomputable def pa8{α:Type}(k:ma2->α)(e:Nat->α)(z:α)(p:db8)(s:ma2):α:=let t1:=(wa8 (gL tV s.i5 p.is3.toNat) (gL tV s.i5 p.is4.toNat) (gL tV s.i5 s.is5.toNat));let t2:=(lp (E8 (⟨rt tV s.i5,p.is3,p.is4,s.is5,t1.2,t1.1.n.x,t1.1.n.y,t1.1.n.z,t1.1.b⟩:Ca9)) (⟨0⟩:ma1));(sl (decide (s.is5<p.is4)) (sl (inB p.is3 (List.length s.i5)) (sl (inB p.is4 (List.length s.i5)) (sl (inB s.is5 (List.length s.i5)) (sl (wa9 (gL tV s.i5 p.is3.toNat) (gL tV s.i5 p.is4.toNat) (gL tV s.i5 s.is5.toNat)) (sl ((cnE tV s.i5)&&true) (sl (Nat.beq t2.1 1) (e 1) (sl (Nat.beq t2.1 2) (k ⟨rt tV s.i5,W (s.is5+1)⟩) (sl (Nat.beq t2.1 3) (k ⟨rt tV s.i5,W (s.is5+1)⟩) z))) z) z) z) z) z) (e 2))
noncomputable def X8(p:db8)(s:ma2):Stp ma2:=pa8 .next .exit .fail p s
noncomputable def Xb9:Lo db8 ma2:=⟨En qb4,0,bf4,[1,0,1,4,4,1,0,4,1,4,4,1,0,4,1,4,4],[0,3,4,5],.s .p (.s (.b (.s .p (.s .p (.b (.u Xb8.ls))))) .p),[⟨sLq tV::sUq::sUq::sIq::sIq::sIq::ru2 51 [],[],λa H=>(⟨aIq a 3,aIq a 4⟩,⟨aLq tV a 0,aIq a 5⟩)⟩],X8,[(none,λp s=>⟨[b false],[]⟩),(some 4,λp s=>upq (uc9 p s) [(20,i s.is5),(21,i p.is4),(22,b (decide (s.is5<p.is4)))])],uc9⟩
theorem Ad5:Xb9.Ok:=Lo.ok [Xb8.pr] (by kernel_rfl) (.cons Ad4 .nil) rfl (.cons (λa H=>by kernel_rfl) .nil) λp s=>(.of @pa8 (λF _ _ _ _ _=>by unfold pa8;(repeat' apply l6 (f:=F))<;>rfl) (by kernel_rfl))
structure db9 where
 is3:Int
structure ma3 where
 i5:List V3
 is4:Int
noncomputable def vc0(p:db9)(s:ma3):St:=⟨eL tV s.i5::.unk::.unk::i p.is3::i s.is4::ra 52 [],[]⟩
noncomputable def pa9{α:Type}(k:ma3->α)(e:Nat->α)(z:α)(p:db9)(s:ma3):α:=let t1:=(lp (X8 (⟨p.is3,s.is4⟩:db8)) (⟨rt tV s.i5,0⟩:ma2));(sl (decide (s.is4<p.is3)) (sl ((cnE tV s.i5)&&true) (sl (Nat.beq t1.1 1) (e 1) (sl (Nat.beq t1.1 2) (k ⟨t1.2.i5,W (s.is4+1)⟩) z)) z) (e 2))
noncomputable def X9(p:db9)(s:ma3):Stp ma3:=pa9 .next .exit .fail p s
noncomputable def Yb0:Lo db9 ma3:=⟨En qb4,0,bf4,[1,0,1,4,4,1,0,4,1,4,4],[0,3,4],.s .p (.s (.b (.s .p (.b (.u Xb9.ls)))) .p),[⟨sLq tV::sUq::sUq::sIq::sIq::ru2 52 [],[],λa H=>(⟨aIq a 3⟩,⟨aLq tV a 0,aIq a 4⟩)⟩],X9,[(none,λp s=>⟨[b false],[]⟩),(some 2,λp s=>upq (vc0 p s) [(15,i s.is4),(16,i p.is3),(17,b (decide (s.is4<p.is3)))])],vc0⟩
theorem Ad6:Yb0.Ok:=Lo.ok [Xb9.pr] (by kernel_rfl) (.cons Ad5 .nil) rfl (.cons (λa H=>by kernel_rfl) .nil) λp s=>(.of @pa9 (λF _ _ _ _ _=>by unfold pa9;(repeat' apply l6 (f:=F))<;>rfl) (by kernel_rfl))
structure eb0 where
structure ma4 where
 i5:List V3
 is3:Int
noncomputable def vc1(p:eb0)(s:ma4):St:=⟨eL tV s.i5::.unk::.unk::i s.is3::ra 53 [],[]⟩
noncomputable def qa0{α:Type}(k:ma4->α)(e:Nat->α)(z:α)(p:eb0)(s:ma4):α:=let t1:=(lp (X9 (⟨s.is3⟩:db9)) (⟨rt tV s.i5,0⟩:ma3));(sl (decide (s.is3<(↑(List.length s.i5):Int))) (sl ((cnE tV s.i5)&&true) (sl (Nat.beq t1.1 1) (e 1) (sl (Nat.beq t1.1 2) (k ⟨t1.2.i5,W (s.is3+1)⟩) z)) z) (e 2))
noncomputable def Y0(p:eb0)(s:ma4):Stp ma4:=qa0 .next .exit .fail p s
noncomputable def Yb1:Lo eb0 ma4:=⟨En qb4,0,bf4,[1,0,1,4,4],[0,3],.s .p (.s (.b (.s .p (.b (.u Yb0.ls)))) .p),[⟨sLq tV::sUq::sUq::sIq::ru2 53 [],[],λa H=>(⟨⟩,⟨aLq tV a 0,aIq a 3⟩)⟩],Y0,[(none,λp s=>⟨[b false],[]⟩),(some 0,λp s=>upq (vc1 p s) [(9,i s.is3),(10,eL tV s.i5),(11,i (↑(List.length s.i5):Int)),(12,b (decide (s.is3<(↑(List.length s.i5):Int))))])],vc1⟩
theorem Ad7:Yb1.Ok:=Lo.ok [Yb0.pr] (by kernel_rfl) (.cons Ad6 .nil) rfl (.cons (λa H=>by kernel_rfl) .nil) λp s=>(.of @qa0 (λF _ _ _ _ _=>by unfold qa0;(repeat' apply l6 (f:=F))<;>rfl) (by kernel_rfl))
noncomputable def Ya2(x:List V3):Option (b7×List b8):=let t1:=(lp (Y0 (⟨⟩:eb0)) (⟨rt tV x,0⟩:ma4));(sl ((cnE tV x)&&true) (sl (Nat.beq t1.1 1) (some (b false,[])) (sl (Nat.beq t1.1 2) (some (b true,[])) none)) none)
noncomputable def Ya3(x:List V3):Bool:=J8 (one r1B) (Ya2 x)
noncomputable def kb6(x:List V3):Bool:=okO (one r1B) (Ya2 x)
noncomputable def Ac2:Sum:=X6 (O3 tV) (λx=>.guard (kb6 x) (.ret ((one r1B).enc (Ya3 x),[])))
theorem Vc9:g9 prog G 78 Ac2:=Ia9 (bd b78 Td8) (one r1B) (o:=Ya2) λx=>ta7 (.s .p (.s (.s .p (.b (.u Yb1.ls))) .p)) [Yb1.pr] (by kernel_rfl) (.cons Ad7 .nil) (by kernel_rfl)
noncomputable def Ic4:List (Nat×Sum):=[(162,Ic3),(78,Ac2)]
theorem Ad8:i9 prog G Ic4:=⟨Qc8,Vc9,trivial⟩
structure Ua1 where
 i5:List V3
structure T0 where
 is3:Int
noncomputable def lc7(p:Ua1)(s:T0):St:=⟨eL tV p.i5::.unk::.unk::i s.is3::ra 17 [],[]⟩
noncomputable def ja6{α:Type}(k:T0->α)(e:Nat->α)(z:α)(p:Ua1)(s:T0):α:=let t1:=(qb2 (gL tV p.i5 s.is3.toNat));(sl (decide (s.is3<(↑(List.length p.i5):Int))) (sl (inB s.is3 (List.length p.i5)) (sl (qb3 (gL tV p.i5 s.is3.toNat)) (sl (!t1) (e 1) (k ⟨W (s.is3+1)⟩)) z) z) (e 2))
noncomputable def ha6(p:Ua1)(s:T0):Stp T0:=ja6 .next .exit .fail p s
noncomputable def Ob2:Lo Ua1 T0:=⟨En Ic4,0,Ef9,[1,1,0,1,4,4],[0,3],.p,[⟨sLq tV::sUq::sUq::sIq::ru2 17 [],[],λa H=>(⟨aLq tV a 0⟩,⟨aIq a 3⟩)⟩],ha6,[(none,λp s=>⟨[i 3],[]⟩),(some 0,λp s=>upq (lc7 p s) [(7,i s.is3),(8,eL tV p.i5),(9,i (↑(List.length p.i5):Int)),(10,b (decide (s.is3<(↑(List.length p.i5):Int))))])],lc7⟩
theorem od9:Ob2.Ok:=Lo.ok [] (by kernel_rfl) .nil rfl (.cons (λa H=>by kernel_rfl) .nil) λp s=>(.of @ja6 (λF _ _ _ _ _=>by unfold ja6;(repeat' apply l6 (f:=F))<;>rfl) (by kernel_rfl))
noncomputable def La5(x:List V3):Option (b7×List b8):=let t1:=(lp (ha6 (⟨rt tV x⟩:Ua1)) (⟨0⟩:T0));let t2:=(Ya3 (rt tV (rt tV x)));(sl (decide ((↑(List.length x):Int)>48)) (some (i 2,[])) (sl ((cnE tV x)&&true) (sl (Nat.beq t1.1 1) (some (i 3,[])) (sl (Nat.beq t1.1 2) (sl (okE tV (rt tV x)) (sl (kb6 (rt tV (rt tV x))) (sl t2 (some (i 11,[])) (some (i 0,[]))) none) none) none)) none))
noncomputable def qb5(x:List V3):Int:=J8 (one r1I) (La5 x)
noncomputable def lc8(x:List V3):Bool:=okO (one r1I) (La5 x)
noncomputable def Wc0:Sum:=X6 (O3 tV) (λx=>.guard (lc8 x) (.ret ((one r1I).enc (qb5 x),[])))
theorem Td9:g9 prog G 125 Wc0:=Ia9 (bd jg1 Ad8) (one r1I) (o:=La5) λx=>ta7 (.s .p (.s .p (.s (.s .p (.b (.u Ob2.ls))) .p))) [Ob2.pr] (by kernel_rfl) (.cons od9 .nil) (by kernel_rfl)
noncomputable def Ic5:List (Nat×Sum):=[(135,Ac1)]
theorem Ad9:i9 prog G Ic5:=⟨Vc8,trivial⟩
structure Ua2 where
 Lb2:List V3
 (f0 b9 f7 j6:Int)
structure T1 where
 is5:Int
noncomputable def lc9(p:Ua2)(s:T1):St:=⟨.unk::eL tV p.Lb2::.ptr 0 0 0 0::.unk::.unk::i s.is5::ra 13 [],[⟨0,4,[[i p.f0,i p.b9,i p.f7,i p.j6]],true,false,0⟩]⟩
noncomputable def ja7{α:Type}(k:T1->α)(e:Nat->α)(z:α)(p:Ua2)(s:T1):α:=let t1:=(kb5 (⟨(⟨p.f0,p.b9,p.f7⟩:V3),p.j6⟩:Pln) (gL tV p.Lb2 s.is5.toNat));(sl (decide (s.is5<(↑(List.length p.Lb2):Int))) (sl (inB s.is5 (List.length p.Lb2)) (sl (Xb7 (⟨(⟨p.f0,p.b9,p.f7⟩:V3),p.j6⟩:Pln) (gL tV p.Lb2 s.is5.toNat)) (sl (decide (t1>0)) (e 1) (k ⟨W (s.is5+1)⟩)) z) z) (e 2))
noncomputable def ha7(p:Ua2)(s:T1):Stp T1:=ja7 .next .exit .fail p s
noncomputable def Ob3:Lo Ua2 T1:=⟨En Ic5,0,Ff0,[1,0,1,4,4],[1,2,5],.p,[⟨sUq::sLq tV::sPq 0::sUq::sUq::sIq::ru2 13 [],[⟨0,4,true,some [kLq 4]⟩],λa H=>(⟨aLq tV a 1,hIq H 0 0 0,hIq H 0 0 1,hIq H 0 0 2,hIq H 0 0 3⟩,⟨aIq a 5⟩)⟩],ha7,[(none,λp s=>⟨[b false],[]⟩),(some 0,λp s=>upq (lc9 p s) [(6,i s.is5),(7,eL tV p.Lb2),(8,i (↑(List.length p.Lb2):Int)),(9,b (decide (s.is5<(↑(List.length p.Lb2):Int))))])],lc9⟩
theorem pd0:Ob3.Ok:=Lo.ok [] (by kernel_rfl) .nil rfl (.cons (λa H=>by kernel_rfl) .nil) λp s=>(.of @ja7 (λF _ _ _ _ _=>by unfold ja7;(repeat' apply l6 (f:=F))<;>rfl) (by kernel_rfl))
noncomputable def La6(x:Pln)(y:List V3):Option (b7×List b8):=let t1:=(lp (ha7 (⟨rt tV y,x.n.x,x.n.y,x.n.z,x.b⟩:Ua2)) (⟨0⟩:T1));(sl ((cnE tV y)&&true) (sl (Nat.beq t1.1 1) (some (b false,[])) (sl (Nat.beq t1.1 2) (some (b true,[])) none)) none)
noncomputable def Ca0(x:Pln)(y:List V3):Bool:=J8 (one r1B) (La6 x y)
noncomputable def oa0(x:Pln)(y:List V3):Bool:=okO (one r1B) (La6 x y)
noncomputable def Wc1:Sum:=oa5 (ba6 tP) (O3 tV) (λx y=>.guard (oa0 x y) (.ret ((one r1B).enc (Ca0 x y),[])))
theorem Ud0:g9 prog G 126 Wc1:=hb8 (bd jg2 Ad9) (one r1B) (o:=La6) λx y=>ta7 (.s .p (.s (.s .p (.b (.u Ob3.ls))) .p)) [Ob3.pr] (by kernel_rfl) (.cons pd0 .nil) (by kernel_rfl)
noncomputable def pd1:List (Nat×Sum):=[(182,Ob0)]
theorem ke1:i9 prog G pd1:=⟨lc6,trivial⟩
structure qb6 where
 c9:List Pln
 (f0 b9 f7 j6:Int)
structure ha8 where
 is5:Int
noncomputable def Ic6(p:qb6)(s:ha8):St:=⟨eL tP p.c9::.unk::.unk::.ptr 0 0 0 0::.unk::i s.is5::ra 42 [],[⟨0,4,[[i p.f0,i p.b9,i p.f7,i p.j6]],true,false,0⟩]⟩
noncomputable def xa1{α:Type}(k:ha8->α)(e:Nat->α)(z:α)(p:qb6)(s:ha8):α:=let t1:=(fa9 (gL tP p.c9 s.is5.toNat) (⟨(⟨p.f0,p.b9,p.f7⟩:V3),p.j6⟩:Pln));(sl (decide (s.is5<(↑(List.length p.c9):Int))) (sl (inB s.is5 (List.length p.c9)) (sl (mb9 (gL tP p.c9 s.is5.toNat) (⟨(⟨p.f0,p.b9,p.f7⟩:V3),p.j6⟩:Pln)) (sl (decide (t1<0)) (k ⟨W (s.is5+1)⟩) (e 1)) z) z) (e 2))
noncomputable def ga0(p:qb6)(s:ha8):Stp ha8:=xa1 .next .exit .fail p s
noncomputable def mc0:Lo qb6 ha8:=⟨En pd1,0,Ff1,[1,1,0,4,4],[0,3,5],.p,[⟨sLq tP::sUq::sUq::sPq 0::sUq::sIq::ru2 42 [],[⟨0,4,true,some [kLq 4]⟩],λa H=>(⟨aLq tP a 0,hIq H 0 0 0,hIq H 0 0 1,hIq H 0 0 2,hIq H 0 0 3⟩,⟨aIq a 5⟩)⟩],ga0,[(some 0,λp s=>let t1:=(fa9 (gL tP p.c9 s.is5.toNat) (⟨(⟨p.f0,p.b9,p.f7⟩:V3),p.j6⟩:Pln));⟨eL tP p.c9::.unk::.unk::.ptr 0 0 0 0::.unk::i s.is5::.unk::i s.is5::eL tP p.c9::i (↑(List.length p.c9):Int)::b (decide (s.is5<(↑(List.length p.c9):Int)))::b true::eL tP p.c9::i s.is5::.tptr [i (gL tP p.c9 s.is5.toNat).n.x,i (gL tP p.c9 s.is5.toNat).n.y,i (gL tP p.c9 s.is5.toNat).n.z,i (gL tP p.c9 s.is5.toNat).b]::.agg [i (gL tP p.c9 s.is5.toNat).n.x,i (gL tP p.c9 s.is5.toNat).n.y,i (gL tP p.c9 s.is5.toNat).n.z,i (gL tP p.c9 s.is5.toNat).b]::.agg [i p.f0,i p.b9,i p.f7,i p.j6]::i t1::b (decide (t1<0))::b (decide (t1<0))::ra 28 [],[⟨0,4,[[i p.f0,i p.b9,i p.f7,i p.j6]],true,false,0⟩]⟩),(some 0,λp s=>upq (Ic6 p s) [(7,i s.is5),(8,eL tP p.c9),(9,i (↑(List.length p.c9):Int)),(10,b (decide (s.is5<(↑(List.length p.c9):Int)))),(11,b false),(12,u),(13,u),(14,u),(15,u),(16,u),(17,u),(18,u),(19,b false)])],Ic6⟩
theorem Ud1:mc0.Ok:=Lo.ok [] (by kernel_rfl) .nil rfl (.cons (λa H=>by kernel_rfl) .nil) λp s=>(.of @xa1 (λF _ _ _ _ _=>by unfold xa1;(repeat' apply l6 (f:=F))<;>rfl) (by kernel_rfl))
noncomputable def kb7(x:List Pln)(y:Pln):Option (b7×List b8):=let t1:=(lp (ga0 (⟨rt tP x,y.n.x,y.n.y,y.n.z,y.b⟩:qb6)) (⟨0⟩:ha8));let a0:=(p5 (λk=>(λk=>(tP).row (gL tP (rt tP x) k)) (0+k)) (List.range (t1.2.is5.toNat-0)));let a1:=(p5 (λk=>(λk=>(tP).row (gL tP (rt tP x) k)) (t1.2.is5.toNat+k)) (List.range ((List.length (rt tP x))-t1.2.is5.toNat)));let a2:=(inB t1.2.is5 ((List.length (rt tP x))+1));let a3:=(Nat.beq (0+(len a0)) (len (app [] a0))&&Nat.ble (((0+(len a0))+1)*32) room);let a4:=(((0+(len a0))+1)+(len a1));let a5:=(gL tP (rt tP x) t1.2.is5.toNat);let a6:=(Nat.beq 1 1&&Nat.ble ((1+(len a1))*32) room);let a7:=(Nat.beq 0 0&&Nat.ble ((0+(len a0))*32) room);let w0:Option (b7×List b8):=(sl a2 (sl (Nat.beq (len a0) 0) (sl a2 (sl (Nat.beq (len a1) 0) (some (.sl 0 0 1 0,[⟨73,4,[[i y.n.x,i y.n.y,i y.n.z,i y.b]],true,false,0⟩])) (sl a6 (some (.sl 0 0 (1+(len a1)) 0,[⟨73,4,app [[i y.n.x,i y.n.y,i y.n.z,i y.b]] a1,true,false,0⟩])) none)) none) (sl a7 (sl a3 (sl a2 (sl (Nat.beq (len a1) 0) (some (.sl 0 0 ((0+(len a0))+1) 0,[⟨73,4,app (app [] a0) [[i y.n.x,i y.n.y,i y.n.z,i y.b]],true,false,0⟩])) (sl (Nat.beq ((0+(len a0))+1) (len (app (app [] a0) [[i y.n.x,i y.n.y,i y.n.z,i y.b]]))&&Nat.ble (a4*32) room) (some (.sl 0 0 a4 0,[⟨73,4,app (app (app [] a0) [[i y.n.x,i y.n.y,i y.n.z,i y.b]]) a1,true,false,0⟩])) none)) none) none) none)) none);let w1:Option (b7×List b8):=(sl (decide (t1.2.is5<(↑(List.length (rt tP x)):Int))) (sl (inB t1.2.is5 (List.length (rt tP x))) (sl ((a5.n.x==y.n.x)&&((a5.n.y==y.n.y)&&((a5.n.z==y.n.z)&&((a5.b==y.b)&&true)))) (some (eL tP (rt tP x),[])) w0) none) w0);(sl ((cnE tP x)&&true) (sl (Nat.beq t1.1 1) w1 (sl (Nat.beq t1.1 2) w1 none)) none)
noncomputable def I9(x:List Pln)(y:Pln):List Pln:=J8 (one (r1L tP)) (kb7 x y)
noncomputable def ta2(x:List Pln)(y:Pln):Bool:=okO (one (r1L tP)) (kb7 x y)
noncomputable def Id8:Sum:=oa5 (O3 tP) (ba6 tP) (λx y=>.guard (ta2 x y) (.ret ((one (r1L tP)).enc (I9 x y),[])))
theorem we9:g9 prog G 127 Id8:=hb8 (bd jg3 ke1) (one (r1L tP)) (o:=kb7) λx y=>ta7 (.s .p (.s .p (.s (.b (.u mc0.ls)) .p))) [mc0.pr] (by kernel_rfl) (.cons Ud1 .nil) (by kernel_rfl)
noncomputable def wb9:List (Nat×Sum):=[(125,Wc0),(107,mb8),(126,Wc1),(127,Id8),(73,od8)]
theorem Bd0:i9 prog G wb9:=⟨Td9,Db1,Ud0,we9,je9,trivial⟩
structure ga1 where
 i5:List V3
 (is6 is7:Int)
structure A6 where
 ph:Nat
 is8:Int
 xa7:List Pln
noncomputable def cc5(p:ga1)(s:A6):St:=⟨eL tV p.i5::ra 4 (.v (.slice none 0 0)::i p.is6::i p.is7::i s.is8::ra 56 []),[]⟩
noncomputable def cc6(p:ga1)(s:A6):St:=⟨eL tV p.i5::ra 4 (eL tP s.xa7::i p.is6::i p.is7::i s.is8::ra 56 []),[]⟩
noncomputable def pd2(p:ga1)(s:A6):St:=(sel (Nat.beq s.ph 1) (cc6 p s) (cc5 p s))
noncomputable def K4{α:Type}(k:A6->α)(e:Nat->α)(z:α)(p:ga1)(s:A6):α:=let t1:=(wa8 (gL tV p.i5 p.is6.toNat) (gL tV p.i5 p.is7.toNat) (gL tV p.i5 s.is8.toNat));let t2:=(Ca0 t1.1 (rt tV p.i5));let t3:=(I9 [] t1.1);let t4:=(kb4 t1.1);let t5:=(Ca0 t4 (rt tV p.i5));let t6:=(I9 (rt tP t3) t4);let t7:=(I9 [] t4);(sl (decide (s.is8<p.is7)) (sl (inB p.is6 (List.length p.i5)) (sl (inB p.is7 (List.length p.i5)) (sl (inB s.is8 (List.length p.i5)) (sl (wa9 (gL tV p.i5 p.is6.toNat) (gL tV p.i5 p.is7.toNat) (gL tV p.i5 s.is8.toNat)) (sl (!t1.2) (k ⟨0,W (s.is8+1),[]⟩) (sl (okE tV p.i5) (sl (oa0 t1.1 (rt tV p.i5)) (sl t2 (sl (ta2 [] t1.1) (sl (okE tV p.i5) (sl (oa0 t4 (rt tV p.i5)) (sl t5 (sl (okE tP t3) (sl (ta2 (rt tP t3) t4) (k ⟨1,W (s.is8+1),t6⟩) z) z) (k ⟨1,W (s.is8+1),t3⟩)) z) z) z) (sl (okE tV p.i5) (sl (oa0 t4 (rt tV p.i5)) (sl t5 (sl (ta2 [] t4) (k ⟨1,W (s.is8+1),t7⟩) z) (k ⟨0,W (s.is8+1),[]⟩)) z) z)) z) z)) z) z) z) z) (e 1))
noncomputable def K5{α:Type}(k:A6->α)(e:Nat->α)(z:α)(p:ga1)(s:A6):α:=let t1:=(wa8 (gL tV p.i5 p.is6.toNat) (gL tV p.i5 p.is7.toNat) (gL tV p.i5 s.is8.toNat));let t2:=(Ca0 t1.1 (rt tV p.i5));let t3:=(I9 (rt tP s.xa7) t1.1);let t4:=(kb4 t1.1);let t5:=(Ca0 t4 (rt tV p.i5));let t6:=(I9 (rt tP t3) t4);let t7:=(I9 (rt tP s.xa7) t4);(sl (decide (s.is8<p.is7)) (sl (inB p.is6 (List.length p.i5)) (sl (inB p.is7 (List.length p.i5)) (sl (inB s.is8 (List.length p.i5)) (sl (wa9 (gL tV p.i5 p.is6.toNat) (gL tV p.i5 p.is7.toNat) (gL tV p.i5 s.is8.toNat)) (sl (!t1.2) (k ⟨1,W (s.is8+1),s.xa7⟩) (sl (okE tV p.i5) (sl (oa0 t1.1 (rt tV p.i5)) (sl t2 (sl (okE tP s.xa7) (sl (ta2 (rt tP s.xa7) t1.1) (sl (okE tV p.i5) (sl (oa0 t4 (rt tV p.i5)) (sl t5 (sl (okE tP t3) (sl (ta2 (rt tP t3) t4) (k ⟨1,W (s.is8+1),t6⟩) z) z) (k ⟨1,W (s.is8+1),t3⟩)) z) z) z) z) (sl (okE tV p.i5) (sl (oa0 t4 (rt tV p.i5)) (sl t5 (sl (okE tP s.xa7) (sl (ta2 (rt tP s.xa7) t4) (k ⟨1,W (s.is8+1),t7⟩) z) z) (k ⟨1,W (s.is8+1),s.xa7⟩)) z) z)) z) z)) z) z) z) z) (e 2))
noncomputable def Z7(p:ga1)(s:A6):Stp A6:=(sel (Nat.beq s.ph 1) (K5 .next .exit .fail p s) (K4 .next .exit .fail p s))
noncomputable def Ob4:Lo ga1 A6:=⟨En wb9,0,vf9,[1,1,1,1,0,1,4,4,1,0,4,1,4,4,1,0,4,1,4,4],[0,5,6,7,8],.p,[⟨sLq tV::ru2 4 (.s (.o .nil)::sIq::sIq::sIq::ru2 56 []),[],λa H=>(⟨aLq tV a 0,aIq a 6,aIq a 7⟩,⟨0,aIq a 8,[]⟩)⟩,⟨sLq tV::ru2 4 (sLq tP::sIq::sIq::sIq::ru2 56 []),[],λa H=>(⟨aLq tV a 0,aIq a 6,aIq a 7⟩,⟨1,aIq a 8,aLq tP a 5⟩)⟩],Z7,[(some 4,λp s=>upq (cc5 p s) [(27,i s.is8),(28,i p.is7),(29,b (decide (s.is8<p.is7)))]),(some 4,λp s=>upq (cc6 p s) [(27,i s.is8),(28,i p.is7),(29,b (decide (s.is8<p.is7)))])],pd2⟩
theorem pd3:Ob4.Ok:=Lo.ok [] (by kernel_rfl) .nil rfl (.cons (λa H=>by kernel_rfl) (.cons (λa H=>by kernel_rfl) .nil)) λp s=>(.sel (Nat.beq s.ph 1) (.of @K5 (λF _ _ _ _ _=>by unfold K5;(repeat' apply l6 (f:=F))<;>rfl) (by kernel_rfl)) (.of @K4 (λF _ _ _ _ _=>by unfold K4;(repeat' apply l6 (f:=F))<;>rfl) (by kernel_rfl)))
structure ga2 where
 is6:Int
structure A7 where
 ph:Nat
 i5:List V3
 is7:Int
 xa7:List Pln
noncomputable def cc7(p:ga2)(s:A7):St:=⟨eL tV s.i5::ra 4 (.v (.slice none 0 0)::i p.is6::i s.is7::ra 57 []),[]⟩
noncomputable def cc8(p:ga2)(s:A7):St:=⟨eL tV s.i5::ra 4 (eL tP s.xa7::i p.is6::i s.is7::ra 57 []),[]⟩
noncomputable def pd4(p:ga2)(s:A7):St:=(sel (Nat.beq s.ph 1) (cc8 p s) (cc7 p s))
noncomputable def K6{α:Type}(k:A7->α)(e:Nat->α)(z:α)(p:ga2)(s:A7):α:=let t1:=(lp (Z7 (⟨rt tV s.i5,p.is6,s.is7⟩:ga1)) (⟨0,0,[]⟩:A6));(sl (decide (s.is7<p.is6)) (sl ((cnE tV s.i5)&&true) (sl (Nat.beq t1.1 1) (k ⟨0,rt tV s.i5,W (s.is7+1),[]⟩) (sl (Nat.beq t1.1 2) (k ⟨1,rt tV s.i5,W (s.is7+1),t1.2.xa7⟩) z)) z) (e 1))
noncomputable def K7{α:Type}(k:A7->α)(e:Nat->α)(z:α)(p:ga2)(s:A7):α:=let t1:=(lp (Z7 (⟨rt tV s.i5,p.is6,s.is7⟩:ga1)) (⟨1,0,rt tP s.xa7⟩:A6));(sl (decide (s.is7<p.is6)) (sl ((cnE tV s.i5)&&((cnE tP s.xa7)&&true)) (sl (Nat.beq t1.1 1) (k ⟨0,rt tV s.i5,W (s.is7+1),[]⟩) (sl (Nat.beq t1.1 2) (k ⟨1,rt tV s.i5,W (s.is7+1),t1.2.xa7⟩) z)) z) (e 2))
noncomputable def Z8(p:ga2)(s:A7):Stp A7:=(sel (Nat.beq s.ph 1) (K7 .next .exit .fail p s) (K6 .next .exit .fail p s))
noncomputable def Ob5:Lo ga2 A7:=⟨En wb9,0,vf9,[1,1,1,1,0,1,4,4,1,0,4,1,4,4],[0,5,6,7],.s .p (.s (.b (.s .p (.b (.u Ob4.ls)))) .p),[⟨sLq tV::ru2 4 (.s (.o .nil)::sIq::sIq::ru2 57 []),[],λa H=>(⟨aIq a 6⟩,⟨0,aLq tV a 0,aIq a 7,[]⟩)⟩,⟨sLq tV::ru2 4 (sLq tP::sIq::sIq::ru2 57 []),[],λa H=>(⟨aIq a 6⟩,⟨1,aLq tV a 0,aIq a 7,aLq tP a 5⟩)⟩],Z8,[(some 2,λp s=>upq (cc7 p s) [(22,i s.is7),(23,i p.is6),(24,b (decide (s.is7<p.is6)))]),(some 2,λp s=>upq (cc8 p s) [(22,i s.is7),(23,i p.is6),(24,b (decide (s.is7<p.is6)))])],pd4⟩
theorem pd5:Ob5.Ok:=Lo.ok [Ob4.pr] (by kernel_rfl) (.cons pd3 .nil) rfl (.cons (λa H=>by kernel_rfl) (.cons (λa H=>by kernel_rfl) .nil)) λp s=>(.sel (Nat.beq s.ph 1) (.of @K7 (λF _ _ _ _ _=>by unfold K7;(repeat' apply l6 (f:=F))<;>rfl) (by kernel_rfl)) (.of @K6 (λF _ _ _ _ _=>by unfold K6;(repeat' apply l6 (f:=F))<;>rfl) (by kernel_rfl)))
structure oa1 where
structure C3 where
 ph:Nat
 i5:List V3
 is6:Int
 xa7:List Pln
noncomputable def cc9(p:oa1)(s:C3):St:=⟨eL tV s.i5::ra 4 (.v (.slice none 0 0)::i s.is6::ra 58 []),[]⟩
noncomputable def dc0(p:oa1)(s:C3):St:=⟨eL tV s.i5::ra 4 (eL tP s.xa7::i s.is6::ra 58 []),[]⟩
noncomputable def pd6(p:oa1)(s:C3):St:=(sel (Nat.beq s.ph 1) (dc0 p s) (cc9 p s))
noncomputable def K8{α:Type}(k:C3->α)(e:Nat->α)(z:α)(p:oa1)(s:C3):α:=let t1:=(lp (Z8 (⟨s.is6⟩:ga2)) (⟨0,rt tV s.i5,0,[]⟩:A7));(sl (decide (s.is6<(↑(List.length s.i5):Int))) (sl ((cnE tV s.i5)&&true) (sl (Nat.beq t1.1 1) (k ⟨0,t1.2.i5,W (s.is6+1),[]⟩) (sl (Nat.beq t1.1 2) (k ⟨1,t1.2.i5,W (s.is6+1),t1.2.xa7⟩) z)) z) (e 1))
noncomputable def K9{α:Type}(k:C3->α)(e:Nat->α)(z:α)(p:oa1)(s:C3):α:=let t1:=(lp (Z8 (⟨s.is6⟩:ga2)) (⟨1,rt tV s.i5,0,rt tP s.xa7⟩:A7));(sl (decide (s.is6<(↑(List.length s.i5):Int))) (sl ((cnE tV s.i5)&&((cnE tP s.xa7)&&true)) (sl (Nat.beq t1.1 1) (k ⟨0,t1.2.i5,W (s.is6+1),[]⟩) (sl (Nat.beq t1.1 2) (k ⟨1,t1.2.i5,W (s.is6+1),t1.2.xa7⟩) z)) z) (e 2))
noncomputable def Aa1(p:oa1)(s:C3):Stp C3:=(sel (Nat.beq s.ph 1) (K9 .next .exit .fail p s) (K8 .next .exit .fail p s))
noncomputable def Ob6:Lo oa1 C3:=⟨En wb9,0,vf9,[1,1,1,1,0,1,4,4],[0,5,6],.s .p (.s (.b (.s .p (.b (.u Ob5.ls)))) .p),[⟨sLq tV::ru2 4 (.s (.o .nil)::sIq::ru2 58 []),[],λa H=>(⟨⟩,⟨0,aLq tV a 0,aIq a 6,[]⟩)⟩,⟨sLq tV::ru2 4 (sLq tP::sIq::ru2 58 []),[],λa H=>(⟨⟩,⟨1,aLq tV a 0,aIq a 6,aLq tP a 5⟩)⟩],Aa1,[(some 0,λp s=>upq (cc9 p s) [(16,i s.is6),(17,eL tV s.i5),(18,i (↑(List.length s.i5):Int)),(19,b (decide (s.is6<(↑(List.length s.i5):Int))))]),(some 0,λp s=>upq (dc0 p s) [(16,i s.is6),(17,eL tV s.i5),(18,i (↑(List.length s.i5):Int)),(19,b (decide (s.is6<(↑(List.length s.i5):Int))))])],pd6⟩
theorem pd7:Ob6.Ok:=Lo.ok [Ob5.pr] (by kernel_rfl) (.cons pd5 .nil) rfl (.cons (λa H=>by kernel_rfl) (.cons (λa H=>by kernel_rfl) .nil)) λp s=>(.sel (Nat.beq s.ph 1) (.of @K9 (λF _ _ _ _ _=>by unfold K9;(repeat' apply l6 (f:=F))<;>rfl) (by kernel_rfl)) (.of @K8 (λF _ _ _ _ _=>by unfold K8;(repeat' apply l6 (f:=F))<;>rfl) (by kernel_rfl)))
noncomputable def La7(x:List V3):Option (b7×List b8):=let t1:=(qb5 (rt tV x));let t2:=(lp (Aa1 (⟨⟩:oa1)) (⟨0,rt tV x,0,[]⟩:C3));(sl (okE tV x) (sl (lc8 (rt tV x)) (sl (t1 != 0) (some (.tup [.v (.slice none 0 0),i t1],[])) (sl ((cnE tV x)&&true) (sl (Nat.beq t2.1 1) (some (.tup [.v (.slice none 0 0),i 0],[])) (sl (Nat.beq t2.1 2) (some (.tup [eL tP t2.2.xa7,i 0],[])) none)) none)) none) none)
noncomputable def mc1(x:List V3):List Pln×Int:=J8 (two (r1L tP) r1I) (La7 x)
noncomputable def Jb9(x:List V3):Bool:=okO (two (r1L tP) r1I) (La7 x)
noncomputable def Wc2:Sum:=X6 (O3 tV) (λx=>.guard (Jb9 x) (.ret ((two (r1L tP) r1I).enc (mc1 x),[])))
theorem Ud2:g9 prog G 71 Wc2:=Ia9 (bd b71 Bd0) (two (r1L tP) r1I) (o:=La7) λx=>ta7 (.s .p (.s .p (.s .p (.s .p (.s (.s .p (.b (.u Ob6.ls))) .p))))) [Ob6.pr] (by kernel_rfl) (.cons pd7 .nil) (by kernel_rfl)
noncomputable def vc2:List (Nat×Sum):=[(68,ta1),(78,Ac2)]
theorem pd8:i9 prog G vc2:=⟨Aa0,Vc9,trivial⟩
structure ha9 where
 is4:Int
structure E2 where
 ph:Nat
 is6:Int
 i8:List Int
 b9:Int
 ns5:Nat
 eh1:List (List b7)
noncomputable def Sb1(p:ha9)(s:E2):St:=⟨ra 3 (.ptr 0 0 0 0::i p.is4::.v (.slice none 0 0)::i s.is6::ra 127 []),[⟨0,2,[[eL tI s.i8,i s.b9]],true,false,0⟩]⟩
noncomputable def Sb2(p:ha9)(s:E2):St:=⟨ra 3 (.ptr 0 0 0 0::i p.is4::.sl 1 0 s.ns5 0::i s.is6::ra 127 []),[⟨0,2,[[eL tI s.i8,i s.b9]],true,false,0⟩,⟨27,3,s.eh1,true,false,0⟩]⟩
noncomputable def ad2(p:ha9)(s:E2):St:=(sel (Nat.beq s.ph 1) (Sb2 p s) (Sb1 p s))
noncomputable def Aa2{α:Type}(k:E2->α)(e:Nat->α)(z:α)(p:ha9)(s:E2):α:=let t1:=(n9 ⟨17,rt tI s.i8,s.b9⟩);let t2:=(n9 ⟨17,rt tI (rt tI s.i8),t1.b9⟩);let t3:=(n9 ⟨17,rt tI (rt tI (rt tI s.i8)),t2.b9⟩);let t4:=(n9 ⟨6,rt tI (rt tI (rt tI (rt tI s.i8))),t3.b9⟩);let w0:α:=(sl (t4.is0==3) (sl (decide (s.is6>2)) z (k ⟨1,W (s.is6+1),rt tI (rt tI (rt tI (rt tI s.i8))),t4.b9,1,[[i (W (t1.is0-8)),i (W (t2.is0-8)),i (W (t3.is0-8))]]⟩)) (k ⟨1,W (s.is6+1),rt tI (rt tI (rt tI (rt tI s.i8))),t4.b9,1,[[i (W (t1.is0-8)),i (W (t2.is0-8)),i (W (t3.is0-8))]]⟩));(sl (decide (s.is6<p.is4)) (sl ((cnE tI s.i8)&&true) (sl (Nat.beq t1.alt 1) (sl ((cnE tI (rt tI s.i8))&&true) (sl (Nat.beq t2.alt 1) (sl ((cnE tI (rt tI (rt tI s.i8)))&&true) (sl (Nat.beq t3.alt 1) (sl ((cnE tI (rt tI (rt tI (rt tI s.i8))))&&true) (sl (Nat.beq t4.alt 1) (sl (t4.is0==1) (sl (decide (s.is6>1)) z (sl (t4.is0==2) (sl (decide (s.is6>0)) z w0) w0)) (sl (t4.is0==2) (sl (decide (s.is6>0)) z w0) w0)) z) z) z) z) z) z) z) z) (e 1))
noncomputable def P5{α:Type}(k:E2->α)(e:Nat->α)(z:α)(p:ha9)(s:E2):α:=let t1:=(n9 ⟨17,rt tI s.i8,s.b9⟩);let a0:=(l9 s.eh1 (0+(W (s.is6-1)).toNat));let a1:=(Nat.beq s.ns5 (len s.eh1)&&Nat.ble ((s.ns5+1)*24) room);let a3:=(j7 (l9 s.eh1 (0+(W (s.is6-2)).toNat)) 0);let a4:=((Nat.blt (0+(W (s.is6-1)).toNat) (len s.eh1))&&(Nat.ble (2+1) (len a0)));let a5:=(i (W (Int.tdiv (W ((toI (hdA (tlA (j7 a0 0))))+(toI (hdA (tlA a3))))) 2)));let a6:=(i (W (Int.tdiv (W ((toI (hdA (j7 a0 0)))+(toI (hdA a3)))) 2)));let a7:=(app s.eh1 [[a6,a5,i (W (Int.tdiv (W ((toI (hdA (tlA (tlA (j7 a0 0)))))+(toI (hdA (tlA (tlA a3)))))) 2))]]);let a8:=(inB (W (s.is6-1)) s.ns5);let a9:=(i (toI (hdA (tlA (j7 a0 0)))));let a10:=((Nat.blt (0+(W (s.is6-1)).toNat) (len s.eh1))&&(Nat.ble (0+3) (len a0)));let a11:=(i (toI (hdA (j7 a0 0))));let a12:=(app s.eh1 [[a11,a9,i (toI (hdA (tlA (tlA (j7 a0 0)))))]]);let a13:=(i (toI (hdA (j7 a0 2))));let a14:=(rt tI (rt tI s.i8));let t2:=(n9 ⟨17,a14,t1.b9⟩);let t3:=(n9 ⟨17,rt tI a14,t2.b9⟩);let a2:=(rt tI (rt tI a14));let t4:=(n9 ⟨6,a2,t3.b9⟩);let w0:α:=(sl (t4.is0==3) (sl (decide (s.is6>2)) (sl a8 (sl (a4&&(ka1 [CK.int .i64] (j7 a0 2))) (sl a1 (k ⟨1,W (s.is6+1),a2,t4.b9,s.ns5+1,app s.eh1 [[i (W (t1.is0-8)),i (W (t2.is0-8)),a13]]⟩) z) z) z) (sl a1 (k ⟨1,W (s.is6+1),a2,t4.b9,s.ns5+1,app s.eh1 [[i (W (t1.is0-8)),i (W (t2.is0-8)),i (W (t3.is0-8))]]⟩) z)) (sl a1 (k ⟨1,W (s.is6+1),a2,t4.b9,s.ns5+1,app s.eh1 [[i (W (t1.is0-8)),i (W (t2.is0-8)),i (W (t3.is0-8))]]⟩) z));let w1:α:=(sl a8 (sl (a10&&(ka1 [CK.int .i64,CK.int .i64,CK.int .i64] (j7 a0 0))) (sl (t4.is0==3) (sl (decide (s.is6>2)) (sl a8 (sl (a4&&(ka1 [CK.int .i64] (j7 a0 2))) (sl a1 (k ⟨1,W (s.is6+1),a2,t4.b9,s.ns5+1,app s.eh1 [[a11,a9,a13]]⟩) z) z) z) (sl a1 (k ⟨1,W (s.is6+1),a2,t4.b9,s.ns5+1,a12⟩) z)) (sl a1 (k ⟨1,W (s.is6+1),a2,t4.b9,s.ns5+1,a12⟩) z)) z) z);let w2:α:=(sl (t4.is0==3) (sl (decide (s.is6>2)) (sl a8 (sl (a4&&(ka1 [CK.int .i64] (j7 a0 2))) (sl a1 (k ⟨1,W (s.is6+1),a2,t4.b9,s.ns5+1,app s.eh1 [[a6,a5,a13]]⟩) z) z) z) (sl a1 (k ⟨1,W (s.is6+1),a2,t4.b9,s.ns5+1,a7⟩) z)) (sl a1 (k ⟨1,W (s.is6+1),a2,t4.b9,s.ns5+1,a7⟩) z));(sl (decide (s.is6<p.is4)) (sl ((cnE tI s.i8)&&true) (sl (Nat.beq t1.alt 1) (sl ((cnE tI (rt tI s.i8))&&true) (sl (Nat.beq t2.alt 1) (sl ((cnE tI a14)&&true) (sl (Nat.beq t3.alt 1) (sl ((cnE tI (rt tI a14))&&true) (sl (Nat.beq t4.alt 1) (sl (t4.is0==1) (sl (decide (s.is6>1)) (sl a8 (sl (a10&&(ka1 [CK.int .i64,CK.int .i64,CK.int .i64] (j7 a0 0))) (sl (inB (W (s.is6-2)) s.ns5) (sl (((Nat.blt (0+(W (s.is6-2)).toNat) (len s.eh1))&&(Nat.ble (0+3) (len (l9 s.eh1 (0+(W (s.is6-2)).toNat)))))&&(ka1 [CK.int .i64,CK.int .i64,CK.int .i64] a3)) (sl (t4.is0==2) (sl (decide (s.is6>0)) w1 w2) w2) z) z) z) z) (sl (t4.is0==2) (sl (decide (s.is6>0)) w1 w0) w0)) (sl (t4.is0==2) (sl (decide (s.is6>0)) w1 w0) w0)) z) z) z) z) z) z) z) z) (e 2))
noncomputable def Wa2(p:ha9)(s:E2):Stp E2:=(sel (Nat.beq s.ph 1) (P5 .next .exit .fail p s) (Aa2 .next .exit .fail p s))
noncomputable def Db3:Lo ha9 E2:=⟨En vc2,0,Vf2,[1,1,1,1,0,1,4,4],[3,4,5,6],.p,[⟨ru2 3 (sPq 0::sIq::.s (.o .nil)::sIq::ru2 127 []),[⟨0,2,true,some [[.c 1 (nL tI),.o (.int .i64)]]⟩],λa H=>(⟨aIq a 4⟩,⟨0,aIq a 6,hLq tI H 0 0 0,hIq H 0 0 1,0,[]⟩)⟩,⟨ru2 3 (sPq 0::sIq::.s (.o (.sl 1 0 (some 0) none))::sIq::ru2 127 []),[⟨0,2,true,some [[.c 1 (nL tI),.o (.int .i64)]]⟩,⟨27,3,true,none⟩],λa H=>(⟨aIq a 4⟩,⟨1,aIq a 6,hLq tI H 0 0 0,hIq H 0 0 1,slN (slT a 5),elT H 1⟩)⟩],Wa2,[(some 0,λp s=>upq (Sb1 p s) [(18,i s.is6),(19,i p.is4),(20,b (decide (s.is6<p.is4)))]),(some 0,λp s=>upq (Sb2 p s) [(18,i s.is6),(19,i p.is4),(20,b (decide (s.is6<p.is4)))])],ad2⟩
theorem ad3:Db3.Ok:=Lo.ok [] (by kernel_rfl) .nil rfl (.cons (λa H=>by kernel_rfl) (.cons (λa H=>by kernel_rfl) .nil)) λp s=>(.sel (Nat.beq s.ph 1) (.of @P5 (λF _ _ _ _ _=>by unfold P5;(repeat' apply l6 (f:=F))<;>rfl) (by kernel_rfl)) (.of @Aa2 (λF _ _ _ _ _=>by unfold Aa2;(repeat' apply l6 (f:=F))<;>rfl) (by kernel_rfl)))
noncomputable def eb1(x:List Int):Option (b7×List b8):=let t1:=(n9 ⟨5,rt tI x,0⟩);let t2:=(lp (Wa2 (⟨W (4+t1.is0)⟩:ha9)) (⟨0,0,rt tI (rt tI x),t1.b9,0,[]⟩:E2));let t3:=(Ya3 []);let t4:=(Ya3 (lsL tV t2.2.ns5 (λk=>l9 t2.2.eh1 (0+k))));let a0:=(j7 (l9 t2.2.eh1 0) 0);let a1:=(i (toI (hdA (tlA (tlA a0)))));let a2:=(i (W ((toI (hdA a0))-3)));let a3:=(setAt t2.2.eh1 1 (ea5 (l9 t2.2.eh1 1) 0 [a2,i (toI (hdA (tlA a0))),a1]));let a4:=(i (W ((toI (hdA (tlA a0)))-2)));(sl ((cnE tI x)&&true) (sl (Nat.beq t1.alt 1) (sl ((cnE tI (rt tI x))&&true) (sl (Nat.beq t2.1 1) (sl (kb6 []) (sl t3 none (some (.v (.slice none 0 0),[]))) none) (sl (Nat.beq t2.1 2) (sl (okL tV t2.2.ns5 (λk=>l9 t2.2.eh1 (0+k))) (sl (kb6 (lsL tV t2.2.ns5 (λk=>l9 t2.2.eh1 (0+k)))) (sl t4 (sl (inB 0 t2.2.ns5) (sl (((Nat.blt 0 (len t2.2.eh1))&&(Nat.ble (0+3) (len (l9 t2.2.eh1 0))))&&(ka1 [CK.int .i64,CK.int .i64,CK.int .i64] a0)) (sl (inB 1 t2.2.ns5) (sl ((Nat.blt 1 (len t2.2.eh1))&&(Nat.ble (0+3) (len (l9 t2.2.eh1 1)))) (sl (inB 2 t2.2.ns5) (sl ((Nat.blt 2 (len a3))&&(Nat.ble (0+3) (len (l9 a3 2)))) (sl (inB 3 t2.2.ns5) (sl ((Nat.blt 3 (len (setAt a3 2 (ea5 (l9 a3 2) 0 [i (toI (hdA a0)),a4,a1]))))&&(Nat.ble (0+3) (len (l9 (setAt a3 2 (ea5 (l9 a3 2) 0 [i (toI (hdA a0)),a4,a1])) 3)))) (some (.sl 0 0 t2.2.ns5 0,[⟨27,3,setAt (setAt a3 2 (ea5 (l9 a3 2) 0 [i (toI (hdA a0)),a4,a1])) 3 (ea5 (l9 (setAt a3 2 (ea5 (l9 a3 2) 0 [i (toI (hdA a0)),a4,a1])) 3) 0 [i (toI (hdA a0)),i (toI (hdA (tlA a0))),i (W ((toI (hdA (tlA (tlA a0))))-1))]),true,false,0⟩])) none) none) none) none) none) none) none) none) (some (.sl 0 0 t2.2.ns5 0,[⟨27,3,t2.2.eh1,true,false,0⟩]))) none) none) none)) none) none) none)
noncomputable def ma5(x:List Int):List V3:=J8 (one (r1L tV)) (eb1 x)
noncomputable def Yb2(x:List Int):Bool:=okO (one (r1L tV)) (eb1 x)
noncomputable def Ic7:Sum:=X6 (O3 tI) (λx=>.guard (Yb2 x) (.ret ((one (r1L tV)).enc (ma5 x),[])))
theorem Bd1:g9 prog G 25 Ic7:=Ia9 (bd b25 pd8) (one (r1L tV)) (o:=eb1) λx=>ta7 (.s .p (.s .p (.s .p (.s .p (.s (.s .p (.b (.u Db3.ls))) .p))))) [Db3.pr] (by kernel_rfl) (.cons ad3 .nil) (by kernel_rfl)
noncomputable def ke2:List (Nat×Sum):=[(68,ta1),(69,rc5),(63,Pc3),(51,od7),(70,zc1),(25,Ic7),(71,Wc2)]
theorem Ud3:i9 prog G ke2:=⟨Aa0,Ac0,ld4,je7,Vc4,Bd1,Ud2,trivial⟩
noncomputable def Db4(x:List Int):Option (b7×List b8):=let t1:=(n9 ⟨4,rt tI x,0⟩);let t2:=(Oa6 ⟨6,rt tI (rt tI x),t1.b9⟩);let t3:=(n9 ⟨6,rt tI t2.i8,t2.b9⟩);let t4:=(n9 ⟨6,rt tI (rt tI t2.i8),t3.b9⟩);let t5:=(n9 ⟨6,rt tI (rt tI (rt tI t2.i8)),t4.b9⟩);let t6:=(Qb6 (⟨t2.ka8,t2.ka9,t2.la0⟩:V3) (⟨W ((W (t2.ka8+1))+t3.is0),W ((W (t2.ka9+1))+t4.is0),W ((W (t2.la0+1))+t5.is0)⟩:V3));let a0:=(if 7<(↑(List.length x):Int) then 7 else (↑(List.length x):Int));let a1:=(p5 (λk=>(tP).row (gL tP t6 k)) (List.range (List.length t6)));let a2:=(λk=>(λk=>(tI).row (gL tI x k)) (a0.toNat+k));let a3:=((List.length x)-a0.toNat);let t7:=(Db2 (lsL tI a3 a2));let t8:=(Xa7 [t7]);let t9:=(ma5 (lsL tI a3 a2));let t10:=(mc1 (rt tV t9));let t11:=(Xa7 (slR tP (app (app [] a1) [[i t7.n.x,i t7.n.y,i t7.n.z,i t7.b]]) 0 ((0+(len a1))+1)));let w0:Option (b7×List b8):=(sl (t1.is0==3) (sl (okL tI a3 a2) (sl (Yb2 (lsL tI a3 a2)) (sl (okE tV t9) (sl (Jb9 (rt tV t9)) (sl (t10.2==0) (some (eL tP t10.1,[])) (some (eL tP t6,[]))) none) none) none) none) (some (eL tP t6,[])));(sl ((cnE tI x)&&true) (sl (Nat.beq t1.alt 1) (sl ((cnE tI (rt tI x))&&true) (sl (Nat.beq t2.alt 1) (sl ((cnE tI t2.i8)&&true) (sl (Nat.beq t3.alt 1) (sl ((cnE tI (rt tI t2.i8))&&true) (sl (Nat.beq t4.alt 1) (sl ((cnE tI (rt tI (rt tI t2.i8)))&&true) (sl (Nat.beq t5.alt 1) (sl (zb1 (⟨t2.ka8,t2.ka9,t2.la0⟩:V3) (⟨W ((W (t2.ka8+1))+t3.is0),W ((W (t2.ka9+1))+t4.is0),W ((W (t2.la0+1))+t5.is0)⟩:V3)) (sl (inB a0 ((List.length x)+1)) (sl (t1.is0==2) (sl (Nat.beq (len a1) 0) (sl (okL tI a3 a2) (sl (Xb6 (lsL tI a3 a2)) (sl (Xa8 [t7]) (sl t8 (some (.sl 0 0 1 0,[⟨73,4,[[i t7.n.x,i t7.n.y,i t7.n.z,i t7.b]],true,false,0⟩])) w0) none) none) none) (sl (Nat.beq 0 0&&Nat.ble ((0+(len a1))*32) room) (sl (okL tI a3 a2) (sl (Xb6 (lsL tI a3 a2)) (sl (Nat.beq (0+(len a1)) (len (app [] a1))&&Nat.ble (((0+(len a1))+1)*32) room) (sl (okS tP (app (app [] a1) [[i t7.n.x,i t7.n.y,i t7.n.z,i t7.b]]) 0 ((0+(len a1))+1)) (sl (Xa8 (slR tP (app (app [] a1) [[i t7.n.x,i t7.n.y,i t7.n.z,i t7.b]]) 0 ((0+(len a1))+1))) (sl t11 (some (.sl 0 0 ((0+(len a1))+1) 0,[⟨73,4,app (app [] a1) [[i t7.n.x,i t7.n.y,i t7.n.z,i t7.b]],true,false,0⟩])) w0) none) none) none) none) none) none)) w0) none) none) none) none) none) none) none) none) none) none) none) none)
noncomputable def qa1(x:List Int):List Pln:=J8 (one (r1L tP)) (Db4 x)
noncomputable def Db5(x:List Int):Bool:=okO (one (r1L tP)) (Db4 x)
noncomputable def Ac3:Sum:=X6 (O3 tI) (λx=>.guard (Db5 x) (.ret ((one (r1L tP)).enc (qa1 x),[])))
theorem Wc3:g9 prog G 16 Ac3:=Ia9 (bd b16 Ud3) (one (r1L tP)) (o:=Db4) λx=>v7 (by kernel_rfl)
noncomputable def Wc4:List (Nat×Sum):=[]
theorem Ud4:i9 prog G Wc4:=trivial
structure eb2 where
 (c9 ea4:List Pln)
structure ma6 where
 is5:Int
noncomputable def vc3(p:eb2)(s:ma6):St:=⟨eL tP p.c9::eL tP p.ea4::ra 3 (i s.is5::ra 20 []),[]⟩
noncomputable def La8{α:Type}(k:ma6->α)(e:Nat->α)(z:α)(p:eb2)(s:ma6):α:=(sl (decide (s.is5<(↑(List.length p.c9):Int))) (sl (inB s.is5 (List.length p.c9)) (sl (inB s.is5 (List.length p.ea4)) (sl (!(((gL tP p.c9 s.is5.toNat).n.x==(gL tP p.ea4 s.is5.toNat).n.x)&&(((gL tP p.c9 s.is5.toNat).n.y==(gL tP p.ea4 s.is5.toNat).n.y)&&(((gL tP p.c9 s.is5.toNat).n.z==(gL tP p.ea4 s.is5.toNat).n.z)&&(((gL tP p.c9 s.is5.toNat).b==(gL tP p.ea4 s.is5.toNat).b)&&true))))) (e 1) (k ⟨W (s.is5+1)⟩)) z) z) (e 2))
noncomputable def Ua3(p:eb2)(s:ma6):Stp ma6:=La8 .next .exit .fail p s
noncomputable def Yb3:Lo eb2 ma6:=⟨En Wc4,0,Vf1,[1,1,0,1,4,4],[0,1,5],.p,[⟨sLq tP::sLq tP::ru2 3 (sIq::ru2 20 []),[],λa H=>(⟨aLq tP a 0,aLq tP a 1⟩,⟨aIq a 5⟩)⟩],Ua3,[(none,λp s=>⟨[b false],[]⟩),(some 0,λp s=>upq (vc3 p s) [(11,i s.is5),(12,eL tP p.c9),(13,i (↑(List.length p.c9):Int)),(14,b (decide (s.is5<(↑(List.length p.c9):Int))))])],vc3⟩
theorem Bd2:Yb3.Ok:=Lo.ok [] (by kernel_rfl) .nil rfl (.cons (λa H=>by kernel_rfl) .nil) λp s=>(.of @La8 (λF _ _ _ _ _=>by unfold La8;(repeat' apply l6 (f:=F))<;>rfl) (by kernel_rfl))
noncomputable def Db6(x:List Pln)(y:List Pln):Option (b7×List b8):=let t1:=(lp (Ua3 (⟨rt tP x,rt tP y⟩:eb2)) (⟨0⟩:ma6));(sl ((↑(List.length x):Int) != (↑(List.length y):Int)) (some (b false,[])) (sl ((cnE tP x)&&((cnE tP y)&&true)) (sl (Nat.beq t1.1 1) (some (b false,[])) (sl (Nat.beq t1.1 2) (some (b true,[])) none)) none))
noncomputable def Yb4(x:List Pln)(y:List Pln):Bool:=J8 (one r1B) (Db6 x y)
noncomputable def Yb5(x:List Pln)(y:List Pln):Bool:=okO (one r1B) (Db6 x y)
noncomputable def pd9:Sum:=oa5 (O3 tP) (O3 tP) (λx y=>.guard (Yb5 x y) (.ret ((one r1B).enc (Yb4 x y),[])))
theorem ke3:g9 prog G 23 pd9:=hb8 (bd b23 Ud4) (one r1B) (o:=Db6) λx y=>ta7 (.s .p (.s .p (.s (.s .p (.b (.u Yb3.ls))) .p))) [Yb3.pr] (by kernel_rfl) (.cons Bd2 .nil) (by kernel_rfl)
structure If1 where
 is6:Int
structure If2 where
 ns5:Nat
 eh0:List (List b7)
theorem ke4{Q:Pt->Prop}(r:List Pln)(p q:Pln):∀(l:List Pln) (out:List Pt),(∀s∈l,(mpt p q s).2=true->inn r (mpt p q s).1=true->Q (mpt p q s).1)->(∀x∈out,Q x)->∀x∈tb6 r p q l out,Q x
 |[],out,_,h=>h
 |s::l,out,hs,h=>ke4 r p q l (La4 r p q out s) (λt ht=>hs t (Qif _ ht)) λx hx=>by
  unfold La4 at hx
  split at hx
  ·rename_i hc;rw[Qig,Qig] at hc
   rcases Qiv.1 hx with hx|hx
   ·exact h x hx
   ·rw[List.mem_singleton] at hx;subst hx;exact hs s Qiq hc.1 hc.2.2
  ·exact h x hx
theorem ke5{Q:Pt->Prop}(r:List Pln)(p:Pln):∀(l:List Pln) (out:List Pt),(∀q∈l,∀s∈l,(mpt p q s).2=true->inn r (mpt p q s).1=true->Q (mpt p q s).1)->(∀x∈out,Q x)->∀x∈db7 r p l out,Q x
 |[],out,_,h=>h
 |q::l,out,hs,h=>ke5 r p l _ (λa ha t ht=>hs a (Qif _ ha) t (Qif _ ht)) (ke4 r p q l out (λt ht=>hs q Qiq t (Qif _ ht)) h)
theorem ke6{Q:Pt->Prop}(r:List Pln):∀(l:List Pln) (out:List Pt),(∀p∈l,∀q∈l,∀s∈l,(mpt p q s).2=true->inn r (mpt p q s).1=true->Q (mpt p q s).1)->(∀x∈out,Q x)->∀x∈Hc9 r l out,Q x
 |[],out,_,h=>h
 |p::l,out,hs,h=>ke6 r l _ (λa ha c hc t ht=>hs a (Qif _ ha) c (Qif _ hc) t (Qif _ ht)) (ke5 r p l out (λc hc t ht=>hs p Qiq c (Qif _ hc) t (Qif _ ht)) h)
theorem Ee3{Q:Pt->Prop}{r:List Pln}(hs:∀p∈r,∀q∈r,∀s∈r,(mpt p q s).2=true->inn r (mpt p q s).1=true->Q (mpt p q s).1):∀x∈cor r,Q x :=
 ke6 r r [] hs λx hx=>by cases hx
structure Okx(x:Pt):Prop where
 w1:0<x.pw
 w2:x.pw<=600000000000
 c1:Sm 300000000000000 x.px
 c2:Sm 300000000000000 x.py
 c3:Sm 300000000000000 x.pz
theorem Ic8{r:List Pln}(hb:Bds r):∀x∈cor r,Okx x:=Ee3 λp hp q hq s hs h _=>by
 obtain⟨h1,h2,h3,h4,h5⟩:=we3 (hb p hp) (hb q hq) (hb s hs) h;exact⟨h1,h5,h2,h3,h4⟩
theorem Ud5(c:List Pln):(pts c).length<=8000000:=by
 unfold pts;cases h:chk c==0 with
 |false=>exact Qie _
 |true=>exact Td1 _ (mb7 h).1 (mb7 h).2
theorem ef0{x y:Int}(hy:0<y):Int.tmod x y+y*Int.tdiv x y=x/\-y<Int.tmod x y/\Int.tmod x y<y:=by
 refine⟨Int.tmod_add_mul_tdiv x y,?_,Int.tmod_lt_of_pos x hy⟩
 have:=Int.lt_tmod_of_pos x hy
 omega
theorem ef1(x:Int){y:Int}(hy:0<y)(hy2:y<=4000000000000000000):Rb0 x y=some (i (x % y),[]):=by
 have hz:(y==0)=false:=by rw[beq_eq_false_iff_ne];omega
 obtain⟨h1,h2,h3⟩:=ef0 (x:=x) hy;unfold Rb0;rw[bfD (by omega),bf hz,bf hz,ka3 (by omega) (by omega),Int.tmod_eq_emod_of_nonneg (by omega)]
 congr 3;rw[Int.add_emod_right]
 conv=>rhs;rw[<- h1]
 rw[Int.add_mul_emod_self_left]
theorem ag6(x:Int){y:Int}(hy:0<y)(hy2:y<=4000000000000000000):Rb1 x y=x % y:=by unfold Rb1;rw[ef1 x hy hy2];rfl
theorem ef2(x:Int){y:Int}(hy:0<y)(hy2:y<=4000000000000000000):Rb2 x y=true:=by unfold Rb2;rw[ef1 x hy hy2];rfl
theorem Sm.neg{n x:Int}(h:Sm n x):Sm n (-x):=⟨by have:=h.2;omega,by have:=h.1;omega⟩
theorem ef3(x:Pln):(x.n.x==x.n.x&&(x.n.y==x.n.y&&(x.n.z==x.n.z&&(x.b==x.b&&true))))=true:=by simp
theorem Ee4(l:List Pln)(hl:l.length<=1000000000):Db6 l l=some (b true,[]):=by
 have h:=Xa3 (step:=Ua3 ⟨l,l⟩) (mk:=λj=>(⟨(j:Int)⟩:ma6)) (c:=λ_=>false) (u:=1) (fin:=2) tP l hl
  (λj hj=>by
   simp only[Ua3,La8,Int.toNat_natCast,n8 hj (by omega),ef3]
   rw[btD (f9 hj),bt (e8 hj),bt (e8 hj)]
   rfl)
  (by simp only[Ua3,La8];rw[bfD (l7 (Qic _))]) 0 (Qie _)
 rw[Qia,show (l.any λ_=>false)=false by simp] at h
 unfold Db6;simp only[g8,i7];rw[show (⟨0⟩:ma6)=⟨((0:Nat):Int)⟩ from rfl,h,bf (by simp)]
 rfl
theorem Of7(l:List Pln)(hl:l.length<=1000000000):Yb4 l l=true:=by unfold Yb4;rw[Ee4 l hl];rfl
theorem Of8(l:List Pln)(hl:l.length<=1000000000):Yb5 l l=true:=by unfold Yb5;rw[Ee4 l hl];rfl
def Nx{σ:Type}(x:Stp σ)(E:Nat->Prop)(N:σ->Prop):Prop:=(∃t,x=.exit t/\E t)\/∃s,x=.next s/\N s
theorem Nx.sl{σ:Type}{c:Bool}{t e:Stp σ}{E:Nat->Prop}{N:σ->Prop}(h1:c=true->Nx t E N)(h2:c=false->Nx e E N):Nx (sl c t e) E N:=by cases c;exact h2 rfl;exact h1 rfl
theorem Nx.ex{σ:Type}{t:Nat}{E:Nat->Prop}{N:σ->Prop}(h:E t):Nx (.exit t) E N:=.inl ⟨t,rfl,h⟩
theorem Nx.nx{σ:Type}{s:σ}{E:Nat->Prop}{N:σ->Prop}(h:N s):Nx (.next s) E N:=.inr ⟨s,rfl,h⟩
theorem S3 {σ τ : Type} {step : σ → Stp σ} {mk : Nat → τ → σ} (n : Nat) (I : Nat → τ → Prop) (E : Nat → σ → Prop) (hn : n ≤ 1000000000)
  (h:∀j a,j<n->I j a->Nx (step (mk j a)) (λt=>E t (mk j a)) (λs=>∃a',s=mk (j+1) a'/\I (j+1) a'))
  (hf:∀j a,n<=j->I j a->∃t,step (mk j a)=.exit t/\E t (mk j a)) (j0:Nat) (a:τ) (hi:I j0 a):∃t s,lp step (mk j0 a)=(t,s)/\E t s:=by
 have key:=yc3 (step:=step) (I:=λm s=>∃j a,m=n-j/\s=mk j a/\I j a) (Q:=E) (λm s ⟨j,a,hm,hs,ha⟩=>by
  subst hs;by_cases hlt:j<n
  ·rcases h j a hlt ha with h1|⟨s',h1,a',h2,h3⟩
   ·exact .inl h1
   ·subst h2;exact .inr ⟨_,n-(j+1),by omega,h1,j+1,a',rfl,rfl,h3⟩
  ·exact .inl (hf j a (by omega) ha)) (n-j0) (mk j0 a) (by omega) ⟨j0,a,rfl,rfl,hi⟩
 exact⟨_,_,rfl,key⟩
def Rd{ρ:Type}(R:RR ρ)(o:Option (b7×List b8))(P:ρ->Prop):Prop:=∃x r,o=some x/\R.rd x=some r/\P r
theorem Rd.p{ρ:Type}{R:RR ρ}{o:Option (b7×List b8)}{P:ρ->Prop}(h:Rd R o P):P (J8 R o):=by
 obtain⟨x,r,h1,h2,h3⟩:=h;rw[h1,Ga6 R h2];exact h3
theorem Rd.g{ρ:Type}{R:RR ρ}{o:Option (b7×List b8)}{P:ρ->Prop}(h:Rd R o P):okO R o=true:=by
 obtain⟨x,r,h1,h2,h3⟩:=h;rw[h1];exact Ta9 R h2
theorem Rd.sl{ρ:Type}{R:RR ρ}{c:Bool}{t e:Option (b7×List b8)}{P:ρ->Prop}(h1:c=true->Rd R t P)(h2:c=false->Rd R e P):Rd R (sl c t e) P:=by cases c;exact h2 rfl;exact h1 rfl
theorem va1 (n : Int) (l : List Int) (j : Int) (h1 : 0 ≤ j) (h2 : j ≤ 1000000) (hn : 0 < n) (hn2 : n ≤ 1000000) :
  ∃v j',n9 ⟨n,l,j⟩=⟨1,v,j'⟩/\0<=v/\v<n/\j<=j'/\j'<=j+1:=by
 unfold n9 ta0
 simp only
 by_cases h:j>=(l.length:Int)
 ·rw[btD h];exact⟨0,j,rfl,by omega,hn,by omega,by omega⟩
 ·rw[bfD h];have hW:W (W (j+1)-1)=j:=by rw[jd8,ka3 (by omega) (by omega)];omega
  have hW2:W (j+1)=j+1:=ka3 (by omega) (by omega)
  have hin:inB j l.length=true:=by rw[Qd5];exact decide_eq_true (by omega)
  rw[hW,hW2,hin,ef2 _ hn (by omega),ag6 _ hn (by omega)]
  exact⟨_,_,rfl,Int.emod_nonneg _ (by omega),Int.emod_lt_of_pos _ hn,by omega,by omega⟩
theorem mc2 (m : Int) (l : List Int) (j : Int) (h1 : 0 ≤ j) (h2 : j ≤ 900000) (hm : 0 ≤ m) (hm2 : m ≤ 100000) :
  ∃a b c j',Oa6 ⟨m,l,j⟩=⟨1,a,b,c,l,j'⟩/\Sm m a/\Sm m b/\Sm m c/\j<=j'/\j'<=j+3:=by
 unfold Oa6 zb2;simp only[g8,i7];have hW:W (W (2*m)+1)=2*m+1:=by rw[sb1,ka3 (by omega) (by omega)]
 rw[hW];obtain⟨v1,j1,e1,a1,b1,c1,d1⟩:=va1 (2*m+1) l j h1 (by omega) (by omega) (by omega)
 rw[e1];obtain⟨v2,j2,e2,a2,b2,c2,d2⟩:=va1 (2*m+1) l j1 (by omega) (by omega) (by omega) (by omega)
 simp only
 rw[e2];obtain⟨v3,j3,e3,a3,b3,c3,d3⟩:=va1 (2*m+1) l j2 (by omega) (by omega) (by omega) (by omega)
 simp only
 rw[e3];refine⟨v1-m,v2-m,v3-m,j3,?_,⟨by omega,by omega⟩,⟨by omega,by omega⟩,⟨by omega,by omega⟩,by omega,by omega⟩
 simp only
 rw[ka3 (n:=v1-m) (by omega) (by omega),ka3 (n:=v2-m) (by omega) (by omega),ka3 (n:=v3-m) (by omega) (by omega)]
 rfl
def inV(v:V3):Bool:=smb 24 v.x&&(smb 24 v.y&&smb 24 v.z)
theorem xb0(v:V3):inV v=true↔Sm 24 v.x/\Sm 24 v.y/\Sm 24 v.z:=by unfold inV;rw[Qig,Qig,wb8,wb8,wb8]
theorem ef4(v:V3):lc4 v=some (b (inV v),[]):=by
 unfold lc4 inV smb;cases h1:decide (v.x < -24)<;>cases h2:decide (v.x>24)<;>cases h3:decide (v.y < -24)<;>cases h4:decide (v.y>24)<;>cases h5:decide (v.z < -24)<;>cases h6:decide (v.z>24)<;>rfl
theorem Ee5(v:V3):qb2 v=inV v:=by unfold qb2;rw[ef4];rfl
theorem ke7(v:V3):qb3 v=true:=by unfold qb3;rw[ef4];rfl
def sub(a b:V3):V3:=⟨a.x-b.x,a.y-b.y,a.z-b.z⟩
theorem Ee6{a b:V3}(ha:inV a=true)(hb:inV b=true):Oa7 a b=sub a b/\Sm 48 (sub a b).x/\Sm 48 (sub a b).y/\Sm 48 (sub a b).z:=by
 rw[xb0] at ha hb;obtain⟨⟨a1,a2⟩,⟨a3,a4⟩,a5,a6⟩:=ha;obtain⟨⟨b1,b2⟩,⟨b3,b4⟩,b5,b6⟩:=hb;unfold Oa7 sub;rw[ka3 (by omega) (by omega),ka3 (by omega) (by omega),ka3 (by omega) (by omega)]
 exact⟨rfl,⟨by show _<=a.x-b.x;omega,by show a.x-b.x<=_;omega⟩,⟨by show _<=a.y-b.y;omega,by show a.y-b.y<=_;omega⟩,⟨by show _<=a.z-b.z;omega,by show a.z-b.z<=_;omega⟩⟩
theorem vc4 {a b c : V3} (ha : inV a = true) (hb : inV b = true) (hc : inV c = true) :
  ba1 (Oa7 b a) (Oa7 c a)=d9 (sub b a) (sub c a)/\Sm 4608 (d9 (sub b a) (sub c a)).x/\Sm 4608 (d9 (sub b a) (sub c a)).y/\Sm 4608 (d9 (sub b a) (sub c a)).z:=by
 obtain⟨e1,⟨u1,u2⟩,⟨u3,u4⟩,u5,u6⟩:=Ee6 hb ha;obtain⟨e2,⟨v1,v2⟩,⟨v3,v4⟩,v5,v6⟩:=Ee6 hc ha;rw[e1,e2,Hc7];generalize sub b a=p at *
 generalize sub c a=q at *
 have h1:=mb u3 u4 v5 v6;have h2:=mb u5 u6 v3 v4;have h3:=mb u5 u6 v1 v2;have h4:=mb u1 u2 v5 v6;have h5:=mb u1 u2 v3 v4;have h6:=mb u3 u4 v1 v2;have k:Sm 4608 (d9 p q).x/\Sm 4608 (d9 p q).y/\Sm 4608 (d9 p q).z:=by unfold Sm d9;simp only;omega
 obtain⟨k1,k2,k3⟩:=k;rw[Ja0 (k1.mono (by omega)),Ja0 (k2.mono (by omega)),Ja0 (k3.mono (by omega))]
 exact⟨rfl,k1,k2,k3⟩
def Fa2(a b c:V3):Pln×Bool :=
 if inV a&&(inV b&&inV c) then
  if g3 (d9 (sub b a) (sub c a))=0 then (⟨⟨0,0,0⟩,0⟩,false)
  else (⟨⟨Int.tdiv (d9 (sub b a) (sub c a)).x (g3 (d9 (sub b a) (sub c a))),Int.tdiv (d9 (sub b a) (sub c a)).y (g3 (d9 (sub b a) (sub c a))),Int.tdiv (d9 (sub b a) (sub c a)).z (g3 (d9 (sub b a) (sub c a)))⟩,
   dot ⟨Int.tdiv (d9 (sub b a) (sub c a)).x (g3 (d9 (sub b a) (sub c a))),Int.tdiv (d9 (sub b a) (sub c a)).y (g3 (d9 (sub b a) (sub c a))),Int.tdiv (d9 (sub b a) (sub c a)).z (g3 (d9 (sub b a) (sub c a)))⟩ a⟩,true)
 else (⟨⟨0,0,0⟩,0⟩,false)
theorem Rc0(v:V3):0<=g3 v:=by unfold g3;omega
theorem qd0(a c d:V3):Ua0 a c d=some (.tup [.agg (tP.row (Fa2 a c d).1),b (Fa2 a c d).2],[]):=by
 unfold Ua0 Fa2;simp only[Ee5,ke7];cases ha:inV a with
 |false=>rfl
 |true =>
  cases hc:inV c with
  |false=>rfl
  |true =>
   cases hd:inV d with
   |false=>rfl
   |true =>
    obtain⟨e,k1,k2,k3⟩:=vc4 ha hc hd;rw[e];generalize d9 (sub c a) (sub d a)=n at *
    have m1:=k1.mono (m:=1000000000000000000) (by omega)
    have m2:=k2.mono (m:=1000000000000000000) (by omega)
    have m3:=k3.mono (m:=1000000000000000000) (by omega)
    rw[df0 m1 m2 m3,nd2 m1 m2 m3];by_cases h0:g3 n=0
    ·rw[show (g3 n==0)=true from by rw[h0];rfl]
     simp only[Bool.and_self,if_true,h0];rfl
    ·have hp:=Rc0 n;have q1:=L3 (g:=g3 n) k1 (by omega)
     have q2:=L3 (g:=g3 n) k2 (by omega)
     have q3:=L3 (g:=g3 n) k3 (by omega)
     rw[show (g3 n==0)=false from by rw[beq_eq_false_iff_ne];exact h0,Nf6 m1 m2 m3 h0]
     simp only[Bool.and_self,if_true,h0,if_false];rw[Ja0 (q1.mono (by omega)),Ja0 (q2.mono (by omega)),Ja0 (q3.mono (by omega))]
     have hdot:Ga1 ⟨Int.tdiv n.x (g3 n),Int.tdiv n.y (g3 n),Int.tdiv n.z (g3 n)⟩ a=dot ⟨Int.tdiv n.x (g3 n),Int.tdiv n.y (g3 n),Int.tdiv n.z (g3 n)⟩ a:=by
      unfold Ga1;simp only[sb1,Vb4];obtain⟨⟨a1,a2⟩,⟨a3,a4⟩,a5,a6⟩:=(xb0 a).1 ha;have r1:=mb q1.1 q1.2 a1 a2;have r2:=mb q2.1 q2.2 a3 a4;have r3:=mb q3.1 q3.2 a5 a6;rw[ka3 (by omega) (by omega)]
      rfl
     rw[hdot];rfl
theorem Sb3(a b c:V3):wa8 a b c=Fa2 a b c:=by unfold wa8;rw[qd0];rfl
theorem Za2(a b c:V3):wa9 a b c=true:=by unfold wa9;rw[qd0];rfl
theorem xf8(l:List Int):Rd (one r1P) (Ya0 l) (λ_=>True):=by
 unfold Ya0;simp only[g8,i7];obtain⟨v1,j1,e1,a1,b1,c1,d1⟩:=va1 8 l 0 (by omega) (by omega) (by omega) (by omega)
 rw[e1]
 simp only
 obtain⟨v2,j2,e2,a2,b2,c2,d2⟩:=va1 17 l j1 (by omega) (by omega) (by omega) (by omega)
 rw[e2]
 simp only
 obtain⟨x1,x2,x3,j3,e3,_,_,_,c3,d3⟩:=mc2 8 l j2 (by omega) (by omega) (by omega) (by omega)
 rw[e3]
 simp only
 obtain⟨y1,y2,y3,j4,e4,_,_,_,c4,d4⟩:=mc2 8 l j3 (by omega) (by omega) (by omega) (by omega)
 rw[e4]
 simp only
 obtain⟨z1,z2,z3,j5,e5,_,_,_,c5,d5⟩:=mc2 8 l j4 (by omega) (by omega) (by omega) (by omega)
 rw[e5];simp only[Sb3,Za2,ef2 _ (show (0:Int)<3 by omega) (by omega),i7]
 simp only[Qik,Qil,g7];refine Rd.sl (λ_=>Rd.sl (λ_=>⟨_,_,rfl,rfl,trivial⟩) λ_=>?_) (λ_=>?_)
 ·exact Rd.sl (λ_=>⟨_,_,rfl,rfl,trivial⟩) λ_=>Rd.sl (λ_=>⟨_,_,rfl,rfl,trivial⟩) λ_=>⟨_,_,rfl,rfl,trivial⟩
 ·exact Rd.sl (λ_=>⟨_,_,rfl,rfl,trivial⟩) λ_=>Rd.sl (λ_=>⟨_,_,rfl,rfl,trivial⟩) λ_=>⟨_,_,rfl,rfl,trivial⟩
theorem xf9(l:List Int):Xb6 l=true:=(xf8 l).g
theorem yf0(p:Pln)(v:V3):Rd (one r1I) (Ya1 p v) (λ_=>True):=by
 unfold Ya1;simp only[nd3,ke7,g7];exact Rd.sl (λ_=>⟨_,_,rfl,rfl,trivial⟩) λ_=>Rd.sl (λ_=>⟨_,_,rfl,rfl,trivial⟩) λ_=>Rd.sl (λ_=>⟨_,_,rfl,rfl,trivial⟩) λ_=>Rd.sl (λ_=>⟨_,_,rfl,rfl,trivial⟩) λ_=>⟨_,_,rfl,rfl,trivial⟩
theorem Ud6(p:Pln)(v:V3):Xb7 p v=true:=(yf0 p v).g
theorem ag7(P:Ca9)(hl:P.i5.length<=1000000000):∃t s,lp (E8 P) ⟨0⟩=(t,s)/\(t=1\/t=2\/t=3):=by
 obtain⟨l,x1,x2,x3,x4,x5,x6,x7,x8⟩:=P;refine S3 (step:=E8 ⟨l,x1,x2,x3,x4,x5,x6,x7,x8⟩) (mk:=λj (_:Unit)=>(⟨(j:Int)⟩:ma1)) l.length (λ_ _=>True) (λt _=>t=1\/t=2\/t=3) hl (λj a hj _=>?_) (λj a hj _=>?_) 0 () trivial
 ·simp only[E8,ha5,Ud6,Int.toNat_natCast,n8 hj (show l.length<=4611686018427387904 from Qiy hl (by omega))]
  rw[btD (f9 hj),bt (e8 hj),g7];exact Nx.sl (λ_=>Nx.sl (λ_=>.ex (by simp)) λ_=>.nx ⟨(),rfl,trivial⟩) λ_=>.ex (by simp)
 ·simp only[E8,ha5];rw[bfD (by omega)]
  exact⟨_,rfl,by simp⟩
theorem ag8(l:List V3)(hl:l.length<=1000000000)(a c:Nat)(ha:a<l.length)(hc:c<a):∃t s,lp (X8 ⟨(a:Int),(c:Int)⟩) ⟨l,0⟩=(t,s)/\((t=1\/t=2)/\s.i5=l):=by
 refine S3 (step:=X8 ⟨(a:Int),(c:Int)⟩) (mk:=λj (_:Unit)=>(⟨l,(j:Int)⟩:ma2)) c (λ_ _=>True) (λt s=>(t=1\/t=2)/\s.i5=l) (by omega) (λj x hj _=>?_) (λj x hj _=>?_) 0 () trivial
 ·simp only[X8,pa8,Za2,Int.toNat_natCast,g8,i7,n8 hj (show c<=4611686018427387904 by omega)]
  rw[btD (f9 hj),bt (e8 ha),bt (e8 (show c<l.length by omega)),bt (e8 (show j<l.length by omega)),g7]
  generalize hP:Ca9.mk _ _ _ _ _ _ _ _ _=P3;obtain⟨t,s,h1,h2⟩:=ag7 P3 (by subst hP;exact hl)
  rw[h1]
  rcases h2 with rfl|rfl|rfl
  ·exact .ex (by simp)
  ·exact .nx ⟨(),rfl,trivial⟩
  ·exact .nx ⟨(),rfl,trivial⟩
 ·simp only[X8,pa8];rw[bfD (by omega)]
  exact⟨_,rfl,by simp⟩
theorem ag9(l:List V3)(hl:l.length<=1000000000)(a:Nat)(ha:a<l.length):∃t s,lp (X9 ⟨(a:Int)⟩) ⟨l,0⟩=(t,s)/\((t=1\/t=2)/\s.i5=l):=by
 refine S3 (step:=X9 ⟨(a:Int)⟩) (mk:=λj (_:Unit)=>(⟨l,(j:Int)⟩:ma3)) a (λ_ _=>True) (λt s=>(t=1\/t=2)/\s.i5=l) (by omega) (λj x hj _=>?_) (λj x hj _=>?_) 0 () trivial
 ·simp only[X9,pa9,g8,i7,n8 hj (show a<=4611686018427387904 by omega)]
  obtain⟨t,s,h1,h2,h3⟩:=ag8 l hl a j ha hj;rw[btD (f9 hj),h1]
  rcases h2 with rfl|rfl
  ·exact .ex (by simp)
  ·exact .nx ⟨(),by rw[h3],trivial⟩
 ·simp only[X9,pa9];rw[bfD (by omega)]
  exact⟨_,rfl,by simp⟩
theorem Ib2(l:List V3)(hl:l.length<=1000000000):Rd (one r1B) (Ya2 l) (λ_=>True):=by
 have key:∃t s,lp (Y0 ⟨⟩) ⟨l,0⟩=(t,s)/\(t=1\/t=2):=by
  refine S3 (step:=Y0 ⟨⟩) (mk:=λj (_:Unit)=>(⟨l,(j:Int)⟩:ma4)) l.length (λ_ _=>True) (λt s=>t=1\/t=2) hl (λj x hj _=>?_) (λj x hj _=>?_) 0 () trivial
  ·simp only[Y0,qa0,g8,i7,n8 hj (show l.length<=4611686018427387904 by omega)]
   obtain⟨t,s,h1,h2,h3⟩:=ag9 l hl j hj;rw[btD (f9 hj),h1]
   rcases h2 with rfl|rfl
   ·exact .ex (by simp)
   ·exact .nx ⟨(),by rw[h3],trivial⟩
  ·simp only[Y0,qa0];rw[bfD (by omega)]
   exact⟨_,rfl,by simp⟩
 obtain⟨t,s,h1,h2⟩:=key;unfold Ya2;simp only[g8,i7];rw[h1]
 rcases h2 with rfl|rfl<;>exact⟨_,_,rfl,rfl,trivial⟩
theorem xe0(l:List V3)(hl:l.length<=1000000000):kb6 l=true:=(Ib2 l hl).g
theorem xe1(l:List V3)(hl:l.length<=1000000000):Rd (one r1I) (La5 l) (λ_=>True):=by
 have h:=Xa3 (step:=ha6 ⟨l⟩) (mk:=λj=>(⟨(j:Int)⟩:T0)) (c:=λv=>!inV v) (u:=1) (fin:=2) tV l hl
  (λj hj=>by
   simp only[ha6,ja6,Int.toNat_natCast,Ee5,ke7,n8 hj (show l.length<=4611686018427387904 by omega)]
   rw[btD (f9 hj),bt (e8 hj),g7])
  (by simp only[ha6,ja6];rw[bfD (l7 (Qic _))]) 0 (Qie _)
 unfold La5;simp only[g8,i7,o5,xe0 l hl];rw[show (⟨0⟩:T0)=⟨((0:Nat):Int)⟩ from rfl,h]
 refine Rd.sl (λ_=>⟨_,_,rfl,rfl,trivial⟩) λ_=>?_
 rw[Qia];cases l.any λv=>!inV v with
 |true=>exact⟨_,_,rfl,rfl,trivial⟩
 |false =>
  show Rd (one r1I) (sl (Ya3 l) (some (i 11,[])) (some (i 0,[]))) (λ_=>True)
  exact Rd.sl (λ_=>⟨_,_,rfl,rfl,trivial⟩) λ_=>⟨_,_,rfl,rfl,trivial⟩
theorem Id9(l:List V3)(hl:l.length<=1000000000):lc8 l=true:=(xe1 l hl).g
theorem ef5(p:Pln)(l:List V3)(hl:l.length<=1000000000):Rd (one r1B) (La6 p l) (λ_=>True):=by
 have h:=Xa3 (step:=ha7 ⟨l,p.n.x,p.n.y,p.n.z,p.b⟩) (mk:=λj=>(⟨(j:Int)⟩:T1)) (c:=λv=>decide (kb5 p v>0)) (u:=1) (fin:=2) tV l hl
  (λj hj=>by
   simp only[ha7,ja7,Int.toNat_natCast,Ud6,n8 hj (show l.length<=4611686018427387904 by omega)]
   rw[btD (f9 hj),bt (e8 hj),g7])
  (by simp only[ha7,ja7];rw[bfD (l7 (Qic _))]) 0 (Qie _)
 unfold La6;simp only[g8,i7];rw[show (⟨0⟩:T1)=⟨((0:Nat):Int)⟩ from rfl,h]
 split<;>exact⟨_,_,rfl,rfl,trivial⟩
theorem Ee7(p:Pln)(l:List V3)(hl:l.length<=1000000000):oa0 p l=true:=(ef5 p l hl).g
theorem Of9(p q:Pln):Rd (one r1I) (xa0 p q) (λ_=>True):=by
 have key:∃t s,lp (L8 ⟨p.n.x,p.n.y,p.n.z,p.b,q.n.x,q.n.y,q.n.z,q.b⟩) ⟨0⟩=(t,s)/\(t=1\/t=2\/t=3):=by
  refine S3 (step:=L8 ⟨p.n.x,p.n.y,p.n.z,p.b,q.n.x,q.n.y,q.n.z,q.b⟩) (mk:=λj (_:Unit)=>(⟨(j:Int)⟩:U4)) 4 (λ_ _=>True) (λt s=>t=1\/t=2\/t=3) (by omega) (λj x hj _=>?_) (λj x hj _=>?_) 0 () trivial
  ·have hn:=n8 hj (show 4<=4611686018427387904 by omega)
   simp only[L8,Z6,Int.toNat_natCast,hn];have hlt:(j:Int)<4:=by omega
   have hin:=e8 hj;have g:∀x1 x2 x3 x4:Int,((Nat.ble ((0+(j*1))+1) 4)&&(ka1 [CK.int .i64] (j7 [i x1,i x2,i x3,i x4] (0+(j*1)))))=true:=by
    intro x1 x2 x3 x4
    match j,hj with
    |0,_=>rfl
    |1,_=>rfl
    |2,_=>rfl
    |3,_=>rfl
   rw[btD hlt];simp only[hin,g,g7];exact Nx.sl (λ_=>.ex (by simp)) λ_=>Nx.sl (λ_=>.ex (by simp)) λ_=>.nx ⟨(),rfl,trivial⟩
  ·simp only[L8,Z6];rw[bfD (by omega)]
   exact⟨_,rfl,by simp⟩
 obtain⟨t,s,h1,h2⟩:=key;unfold xa0
 simp only
 rw[h1]
 rcases h2 with rfl|rfl|rfl<;>exact⟨_,_,rfl,rfl,trivial⟩
theorem xe2(p q:Pln):mb9 p q=true:=(Of9 p q).g
theorem Ac4(l:List Pln)(n:Nat)(h:n<=l.length):p5 (λk=>(λk=>tP.row (gL tP l k)) (0+k)) (List.range (n-0))=bL tP (l.take n):=by
 rw[<- Qb0,p6,p6,Qio,Nat.min_eq_left h,Nat.sub_zero];apply Qix;intro k hk;rw[List.mem_range] at hk;show tP.row (gL tP l (0+k))=tP.row (gL tP (l.take n) k);congr 1;simp[gL,Qir,List.getElem?_take,hk]
theorem Ac5(l:List Pln)(n:Nat):p5 (λk=>(λk=>tP.row (gL tP l k)) (n+k)) (List.range (l.length-n))=bL tP (l.drop n):=by
 rw[<- Qb0,p6,p6,Qid];apply Qix;intro k hk;show tP.row (gL tP l (n+k))=tP.row (gL tP (l.drop n) k);rw[Ic1]
theorem Ic9(l:List Pln)(x1 x2 x3 x4:Int):app (bL tP l) [[i x1,i x2,i x3,i x4]]=bL tP (l++[⟨⟨x1,x2,x3⟩,x4⟩]):=Xa2 tP l [⟨⟨x1,x2,x3⟩,x4⟩]
def qb7(x:List Pln)(y:Pln)(n:Nat):List Pln:=x.take n++(y::x.drop n)
theorem Ud7{l:List Pln}{n:Nat}{r:List (List b7)}{P:List Pln->Prop}(hn:n=l.length)(hr:r=bL tP l)(h:P l):Rd (one (r1L tP)) (some (.sl 0 0 n 0,[⟨73,4,r,true,false,0⟩])) P:=by
 subst hn hr;exact⟨_,l,rfl,zc8 l,h⟩
theorem ef6(x:List Pln)(y:Pln)(hx:x.length<=1000000):Rd (one (r1L tP)) (kb7 x y) (λr=>r≠[]/\r.length<=x.length+1/\∀p∈r,p=y\/p∈x):=by
 have h:=Va6 (step:=ga0 ⟨x,y.n.x,y.n.y,y.n.z,y.b⟩) (mk:=λj=>(⟨(j:Int)⟩:ha8)) (c:=λp=>!decide (fa9 p y<0)) (u:=1) (fin:=2) tP x (by omega)
  (λj hj=>by
   simp only[ga0,xa1,Int.toNat_natCast,xe2,n8 hj (show x.length<=4611686018427387904 by omega)]
   rw[btD (f9 hj),bt (e8 hj),g7];cases decide (fa9 (gL tP x j) y<0)<;>rfl)
  (by simp only[ga0,xa1];rw[bfD (l7 (Qic _))]) 0 (Qie _)
 rw[Qia] at h;have key:∃t n,lp (ga0 ⟨x,y.n.x,y.n.y,y.n.z,y.b⟩) ⟨0⟩=(t,⟨((n:Nat):Int)⟩)/\(t=1\/t=2)/\n<=x.length:=by
  rw[show (⟨0⟩:ha8)=⟨((0:Nat):Int)⟩ from rfl,h]
  split
  ·exact⟨1,_,rfl,.inl rfl,by rw[Qij];exact List.findIdx_le_length⟩
  ·exact⟨2,_,rfl,.inr rfl,Nat.le_refl _⟩
 obtain⟨t,n,h1,h2,h3⟩:=key;have hlo:inB (n:Int) (x.length+1)=true:=e8 (by omega)
 have hd:(bL tP (x.take n)).length=n:=by rw[<- o0,U9,Qio];omega
 have hmem:∀p∈qb7 x y n,p=y\/p∈x:=λp hp=>by
  unfold qb7 at hp
  rcases Qiv.1 hp with hp|hp
  ·exact .inr (List.mem_of_mem_take hp)
  ·rcases List.mem_cons.1 hp with hp|hp
   ·exact .inl hp
   ·exact .inr (Qip hp)
 have hne:qb7 x y n≠[]:=by unfold qb7;simp
 have hlen:(qb7 x y n).length=x.length+1:=by unfold qb7;simp only[Qib,List.length_cons,Qio,Qid];omega
 have lt:len (bL tP (x.take n))=n:=by rw[o0];exact hd
 have ld:len (bL tP (x.drop n))=x.length-n:=by rw[U9,Qid]
 have b1:(Nat.beq 1 1&&Nat.ble ((1+(x.length-n))*32) room)=true:=by rw[fa4 (by omega)];rfl
 have b2:(Nat.beq 0 0&&Nat.ble ((0+n)*32) room)=true:=by rw[fa4 (by omega)];rfl
 have e0:app [] (bL tP (x.take n))=bL tP (x.take n):=rfl;have b3:(Nat.beq (0+n) n&&Nat.ble (((0+n)+1)*32) room)=true:=by rw[fa4 (by omega),Qij,Qik];rfl
 have l3:len (bL tP (x.take n++[y]))=n+1:=by rw[U9,Qib,Qio];simp only[List.length_singleton];omega
 have b4:(Nat.beq ((0+n)+1) (n+1)&&Nat.ble ((((0+n)+1)+(x.length-n))*32) room)=true:=by rw[fa4 (by omega),Qij,Qik];rfl
 have z0:∀{k:Nat},Nat.beq k 0=true->k=0:=λ{k} h=>Nat.eq_of_beq_eq_true h
 have fin:∀m r,m=x.length+1->r=bL tP (qb7 x y n)->Rd (one (r1L tP)) (some (.sl 0 0 m 0,[⟨73,4,r,true,false,0⟩])) (λr=>r≠[]/\r.length<=x.length+1/\∀p∈r,p=y\/p∈x) :=
  λm r hm hr=>Ud7 (by rw[hlen];exact hm) hr ⟨hne,by omega,hmem⟩
 have tail : Rd (one (r1L tP)) (sl (Nat.beq n 0) (sl (Nat.beq (x.length - n) 0) (some ((.sl 0 0 1 0), [⟨73, 4, [[(i y.n.x), (i y.n.y), (i y.n.z), (i y.b)]], true, false, 0⟩]))
   (some ((.sl 0 0 (1+(x.length-n)) 0),[⟨73,4,(app [[(i y.n.x),(i y.n.y),(i y.n.z),(i y.b)]] (bL tP (x.drop n))),true,false,0⟩])))
   (sl (Nat.beq (x.length-n) 0) (some (.sl 0 0 ((0+n)+1) 0,[⟨73,4,bL tP (x.take n++[y]),true,false,0⟩]))
    (some ((.sl 0 0 (((0+n)+1)+(x.length-n)) 0),[⟨73,4,(app (bL tP (x.take n++[y])) (bL tP (x.drop n))),true,false,0⟩])))) (λr=>r≠[]/\r.length<=x.length+1/\∀p∈r,p=y\/p∈x):=by
  refine Rd.sl (λq1=>Rd.sl (λq2=>?_) (λq2=>?_)) (λq1=>Rd.sl (λq2=>?_) (λq2=>?_))
  ·have:=z0 q1;have:=z0 q2
   refine fin _ _ (by omega) ?_
   have:x=[]:=List.eq_nil_of_length_eq_zero (by omega)
   subst this;rw[show n=0 by omega];rfl
  ·have:=z0 q1;subst this
   exact fin _ _ (by omega) rfl
  ·have:=z0 q2
   refine fin _ _ (by omega) ?_
   unfold qb7;rw[show x.drop n=[] from Qin (by omega)]
  ·refine fin _ _ (by omega) ?_
   rw[Xa2];unfold qb7;rw[Qis];rfl
 have same:∀p:Pln,(p.n.x==y.n.x&&(p.n.y==y.n.y&&(p.n.z==y.n.z&&(p.b==y.b&&true))))=true->n<x.length->Rd (one (r1L tP)) (some (eL tP x,[])) (λr=>r≠[]/\r.length<=x.length+1/\∀p∈r,p=y\/p∈x):=λp _ hn =>
  ⟨_,x,rfl,uc8 tP x,List.ne_nil_of_length_pos (by omega),Nat.le_succ _,λp hp=>Or.inr hp⟩
 unfold kb7;simp only[g8,i7];rw[h1];simp only[Int.toNat_natCast,Ac4 x n h3,Ac5,lt,ld,b1,b2,e0,b3,Ic9,l3,b4,hlo,g7]
 have main : Rd (one (r1L tP)) (sl (decide ((n : Int) < (x.length : Int))) (sl (inB (n : Int) x.length) (sl (((gL tP x n).n.x == y.n.x) && (((gL tP x n).n.y == y.n.y) && (((gL tP x n).n.z == y.n.z) && (((gL tP x n).b == y.b) && true)))) (some (eL tP x, []))
   (sl (Nat.beq n 0) (sl (Nat.beq (x.length-n) 0) (some (.sl 0 0 1 0,[⟨73,4,[[i y.n.x,i y.n.y,i y.n.z,i y.b]],true,false,0⟩]))
   (some ((.sl 0 0 (1+(x.length-n)) 0),[⟨73,4,(app [[(i y.n.x),(i y.n.y),(i y.n.z),(i y.b)]] (bL tP (x.drop n))),true,false,0⟩])))
   (sl (Nat.beq (x.length-n) 0) (some (.sl 0 0 ((0+n)+1) 0,[⟨73,4,bL tP (x.take n++[y]),true,false,0⟩]))
    (some ((.sl 0 0 (((0+n)+1)+(x.length-n)) 0),[⟨73,4,(app (bL tP (x.take n++[y])) (bL tP (x.drop n))),true,false,0⟩]))))) none)
   (sl (Nat.beq n 0) (sl (Nat.beq (x.length-n) 0) (some (.sl 0 0 1 0,[⟨73,4,[[i y.n.x,i y.n.y,i y.n.z,i y.b]],true,false,0⟩]))
   (some ((.sl 0 0 (1+(x.length-n)) 0),[⟨73,4,(app [[(i y.n.x),(i y.n.y),(i y.n.z),(i y.b)]] (bL tP (x.drop n))),true,false,0⟩])))
   (sl (Nat.beq (x.length-n) 0) (some (.sl 0 0 ((0+n)+1) 0,[⟨73,4,bL tP (x.take n++[y]),true,false,0⟩]))
    (some ((.sl 0 0 (((0+n)+1)+(x.length-n)) 0),[⟨73,4,(app (bL tP (x.take n++[y])) (bL tP (x.drop n))),true,false,0⟩]))))) (λr=>r≠[]/\r.length<=x.length+1/\∀p∈r,p=y\/p∈x):=by
  by_cases hn:n<x.length
  ·rw[btD (f9 hn),bt (e8 hn)];exact Rd.sl (λq=>same _ q hn) λ_=>tail
  ·rw[bfD (l7 hn)];exact tail
 rcases h2 with rfl|rfl
 ·exact main
 ·exact main
end Go.Ev.Ce
