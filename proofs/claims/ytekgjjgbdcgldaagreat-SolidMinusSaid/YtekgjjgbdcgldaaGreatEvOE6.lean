/- Own work. -/
import Derived.Test.YtekgjjgbdcgldaaGreatEvOE1
set_option linter.all false
def Qia:=@List.drop_zero
def Qib:=@List.length_append
def Qic:=@Nat.lt_irrefl
def Qid:=@List.length_drop
def Qie:=@Nat.zero_le
def Qif:=@List.mem_cons_of_mem
def Qig:=@Bool.and_eq_true
def Qih:=@List.getElem_mem
def Qii:=@List.not_all_eq_any_not
def Qij:=@Nat.zero_add
def Qik:=@Nat.beq_refl
def Qil:=@Bool.and_true
def Qim:=@List.drop_eq_getElem_cons
def Qin:=@List.drop_eq_nil_of_le
def Qio:=@List.length_take
def Qip:=@List.mem_of_mem_drop
def Qiq:=@List.mem_cons_self
def Qir:=@List.getD_eq_getElem?_getD
def Qis:=@List.append_assoc
def Qit:=@Bool.not_eq_true
def Qiu:=@List.all_eq_true
def Qiv:=@List.mem_append
def Qiw:=@Bool.not_false
def Qix:=@List.map_congr_left
def Qiy:=@Nat.le_trans
namespace Go.Ev.Ce
open Go Go.Ev Go.Ev.L Go.Proofs
noncomputable def inn(l:List Pln)(x:Pt):Bool:=l.all λp=>!decide (rm p x<0)
theorem ye5(l:List Pln)(x:Pt):inn l x=!l.any λp=>decide (rm p x<0):=by unfold inn;rw[List.not_any_eq_all_not]
theorem Wf4(p:Pln)(x:Pt):sb0 ⟨p.n.x,p.n.y,p.n.z,p.b,x.px,x.py,x.pz,x.pw⟩=⟨decide (rm p x<0)⟩:=by
 show Da9.mk (decide (Ba2 p x<0))=_;rw[Pd7]
theorem sf0(l:List Pln)(x:Pt)(hl:l.length<=1000000000):ba9 ⟨l,x.px,x.py,x.pz,x.pw⟩=⟨1,if l.any (λp=>decide (rm p x<0)) then ((l.findIdx (λp=>decide (rm p x<0)):Nat):Int) else -1⟩:=by
 have h:=Na8 (step:=J7 ⟨l,(l.length:Int),x.px,x.py,x.pz,x.pw⟩) (mk:=λj=>(⟨(j:Int)⟩:p6)) (c:=λp=>decide (rm p x<0)) (u:=1) (fin:=2) tP l hl
  (λj hj=>by
   simp only[J7,G9,Int.toNat_natCast,Wf4,n8 hj (by omega)]
   rw[bt (fc7 hj),bt (f0 hj)])
  (by simp only[J7,G9];rw[bf (Tb8 (Qic _))]) 0 (Qie _)
 rw[Qia] at h;unfold ba9 I4;simp only[i5,i8];rw[show (⟨0⟩:p6)=⟨((0:Nat):Int)⟩ from rfl,h]
 split
 ·simp only[Qij];rfl
 ·rfl
theorem Fd2(l:List Pln)(x:Pt)(hl:l.length<=1000000000):Sa7 l x=some (b (inn l x),[]):=by
 unfold Sa7 ja0 D5;simp only[i5,i8,sf0 l x hl,ye5];split
 ·rename_i h;rw[h,show decide (((l.findIdx (λp=>decide (rm p x<0)):Nat):Int)>=0)=true from decide_eq_true (by omega)];rfl
 ·rename_i h;rw[Qit] at h;rw[h];rfl
theorem de4(l:List Pln)(x:Pt)(hl:l.length<=1000000000):na5 l x=inn l x:=by unfold na5;rw[Fd2 l x hl];rfl
theorem de5(l:List Pln)(x:Pt)(hl:l.length<=1000000000):na6 l x=true:=by unfold na6;rw[Fd2 l x hl];rfl
theorem Df5(l:List Pln)(x:Pt)(hl:l.length<=1000000000):gc9 l x=some (b (inn l x),[]):=by
 have h:=hb9 (step:=nb1 ⟨l,x.px,x.py,x.pz,x.pw⟩) (mk:=λj=>(⟨(j:Int)⟩:Ca1)) (c:=λp=>decide (rm p x<0)) (u:=1) (fin:=2) tP l hl
  (λj hj=>by
   simp only[nb1,ab7,Int.toNat_natCast,cd0,n8 hj (by omega)]
   rw[bt (fc7 hj),bt (f0 hj)])
  (by simp only[nb1,ab7];rw[bf (Tb8 (Qic _))]) 0 (Qie _)
 rw[Qia] at h;unfold gc9;simp only[i5,i8,ye5];rw[show (⟨0⟩:Ca1)=⟨((0:Nat):Int)⟩ from rfl,h]
 split
 ·rename_i h;rw[h];rfl
 ·rename_i h;rw[Qit] at h;rw[h];rfl
theorem kg3(l:List Pln)(x:Pt)(hl:l.length<=1000000000):Pb2 l x=inn l x:=by unfold Pb2;rw[Df5 l x hl];rfl
theorem kg4(l:List Pln)(x:Pt)(hl:l.length<=1000000000):Pb3 l x=true:=by unfold Pb3;rw[Df5 l x hl];rfl
def eqX(x q:Pt):Bool:=q.px==x.px&&(q.py==x.py&&(q.pz==x.pz&&(q.pw==x.pw&&true)))
theorem ye6(x q:Pt):eqX x q=true↔q=x:=by
 unfold eqX;simp only[Qil,Qig,beq_iff_eq];exact⟨λ⟨h1,h2,h3,h4⟩=>by cases q;cases x;simp_all,λh=>by subst h;exact⟨rfl,rfl,rfl,rfl⟩⟩
def jc0(l:List Pt)(x:Pt):Bool:=l.any (eqX x)
theorem Xe8(l:List Pt)(x:Pt):jc0 l x=true↔x∈l:=by
 unfold jc0;rw[List.any_eq_true];exact⟨λ⟨q,h,e⟩=>(ye6 x q).1 e ▸ h,λh=>⟨x,h,(ye6 x x).2 rfl⟩⟩
theorem de6(l:List Pt)(x:Pt)(hl:l.length<=1000000000):nb2 l x=some (b (jc0 l x),[]):=by
 have h:=hb9 (step:=Ja5 ⟨l,x.px,x.py,x.pz,x.pw⟩) (mk:=λj=>(⟨(j:Int)⟩:fa1)) (c:=eqX x) (u:=1) (fin:=2) tX l hl
  (λj hj=>by
   simp only[Ja5,Da7,Int.toNat_natCast,n8 hj (by omega)]
   rw[bt (fc7 hj),bt (f0 hj)]
   rfl)
  (by simp only[Ja5,Da7];rw[bf (Tb8 (Qic _))]) 0 (Qie _)
 rw[Qia] at h;unfold nb2;simp only[i5,i8];rw[show (⟨0⟩:fa1)=⟨((0:Nat):Int)⟩ from rfl,h]
 unfold jc0;split
 ·rename_i h;rw[h];rfl
 ·rename_i h;rw[Qit] at h;rw[h];rfl
theorem sf1(l:List Pt)(x:Pt)(hl:l.length<=1000000000):Ya3 l x=jc0 l x:=by unfold Ya3;rw[de6 l x hl];rfl
theorem sf2(l:List Pt)(x:Pt)(hl:l.length<=1000000000):Ya4 l x=true:=by unfold Ya4;rw[de6 l x hl];rfl
def smb(n x:Int):Bool:=!decide (x < -n)&&!decide (x>n)
theorem wb6(n x:Int):smb n x=true↔Sm n x:=by unfold smb Sm;simp only[Qig,Bool.not_eq_true',decide_eq_false_iff_not];omega
theorem ld1(n:Int)(l:List Int)(hn:0<=n/\n<=1000000000)(hl:l.length<=1000000000):Ka4 n l=some (b (l.all (smb n)),[]):=by
 have hW:W (0-n)=-n:=by rw[ka2 (by omega) (by omega)];omega
 have h:=hb9 (step:=ua1 ⟨n,l,(l.length:Int)⟩) (mk:=λj=>(⟨(j:Int)⟩:P4)) (c:=λx=>!smb n x) (u:=1) (fin:=2) tI l hl
  (λj hj=>by
   simp only[ua1,oa7,Int.toNat_natCast,n8 hj (by omega),hW]
   rw[bt (fc7 hj),bt (f0 hj)];unfold smb;cases decide (gL tI l j < -n)<;>cases decide (gL tI l j>n)<;>rfl)
  (by simp only[ua1,oa7];rw[bf (Tb8 (Qic _))]) 0 (Qie _)
 rw[Qia] at h;unfold Ka4;simp only[i5,i8];rw[show (⟨0⟩:P4)=⟨((0:Nat):Int)⟩ from rfl,h]
 have e:(l.any λx=>!smb n x)=!l.all (smb n):=by rw[Qii]
 rw[e];cases l.all (smb n)<;>rfl
theorem Fd3(n:Int)(l:List Int)(hn:0<=n/\n<=1000000000)(hl:l.length<=1000000000):Ka5 n l=l.all (smb n):=by unfold Ka5;rw[ld1 n l hn hl];rfl
theorem Fd4(n:Int)(l:List Int)(hn:0<=n/\n<=1000000000)(hl:l.length<=1000000000):Ka6 n l=true:=by unfold Ka6;rw[ld1 n l hn hl];rfl
theorem de7{n:Int}(h:Sm 1000000000000000000 n):Oa1 n=(n.natAbs:Int):=by
 unfold Oa1;obtain⟨h1,h2⟩:=h;rw[ka2 (by omega) (by omega)]
 split<;>omega
theorem Gc3{n:Int}(h:Sm 1000000000000000000 n):Ja6 n=some (i (n.natAbs:Int),[]):=by
 unfold Ja6;obtain⟨h1,h2⟩:=h;rw[ka2 (by omega) (by omega)]
 by_cases h:n<0
 ·rw[bt (decide_eq_true h)];congr 3;omega
 ·rw[bf (decide_eq_false h)];congr 3;omega
theorem jc1{n:Int}(h:Sm 1000000000000000000 n):ya8 n=(n.natAbs:Int):=by unfold ya8;rw[Gc3 h];rfl
theorem jc2{n:Int}(h:Sm 1000000000000000000 n):ya9 n=true:=by unfold ya9;rw[Gc3 h];rfl
def g3(v:V3):Int:=(Nat.gcd (Nat.gcd v.x.natAbs v.y.natAbs) v.z.natAbs:Nat)
theorem Xe9(g n:Nat):eu (g:Int) (n:Int)=(Nat.gcd g n:Nat):=by rw[Te2 (by omega) (by omega)];rfl
theorem xd5(P:ia1)(g n:Nat)(hn:n<=1000000000000000000):lp (ea5 P) ⟨(g:Int),(n:Int)⟩=(1,⟨(Nat.gcd g n:Nat),0⟩):=by
 have:=Sc9 (step:=ea5 P) (mk:=λg n=>(⟨g,n⟩:R7)) (λg n h=>by
  have h0:n≠0:=by omega
  simp[ea5,ka3,Ab1,h,h0]) (λg=>by simp[ea5,ka3,Ab1]) (g:Int) (n:Int) (by omega) (by omega) (by omega)
 rw[this,Xe9]
theorem re7(l:List Int)(hl:l.length<=1000000000)(hb:∀x∈l,Sm 1000000000000000000 x):Ea3 l=some (i (l.foldl (λg x=>Nat.gcd g x.natAbs) 0:Nat),[]):=by
 have h := Dc6 (step := oa8 ⟨(l.length : Int)⟩) (mk := fun j (a : Nat) => (⟨(a : Int), l, (j : Int)⟩ : M4)) (f := fun g x => Nat.gcd g x.natAbs) (fin := 2) tI l (fun _ _ => True) hl (fun j a hj _ => ⟨by
   have hm:=hb _ (va9 tI hj);have hne:(gL tI l j==(-9223372036854775808:Int))=false:=by
    have:=hm.1
    rw[beq_eq_false_iff_ne];omega
   have hs:(gL tI l j).natAbs<=1000000000000000000:=by obtain⟨h1,h2⟩:=hm;omega
   simp only[oa8,ka4,Int.toNat_natCast,i5,i8,de7 hm,xd5 _ _ _ hs,n8 hj (by omega)]
   rw[bt (fc7 hj),bt (f0 hj),bf hne]
   rfl,trivial⟩) (λa _=>by simp only[oa8,ka4];rw[bf (Tb8 (Qic _))]) 0 (Qie _) 0 trivial
 have h:=h.1;rw[Qia] at h;unfold Ea3;simp only[i5,i8];rw[show (⟨0,l,0⟩:M4)=⟨((0:Nat):Int),l,((0:Nat):Int)⟩ from rfl,h]
 rfl
def okp(p:Pln):Bool:=[p.n.x,p.n.y,p.n.z].all (smb 4608)&&(g3 p.n==1&&[p.b].all (smb 2097152))
theorem Jf7(p:Pln):Bd p↔[p.n.x,p.n.y,p.n.z].all (smb 4608)=true/\[p.b].all (smb 2097152)=true:=by
 simp only[List.all_cons,List.all_nil,Qil,Qig,wb6,Sm];exact⟨λh=>⟨⟨⟨h.x1,h.x2⟩,⟨h.y1,h.y2⟩,h.z1,h.z2⟩,h.b1,h.b2⟩,λ⟨⟨⟨a,b⟩,⟨c,d⟩,e,f⟩,g,h⟩=>⟨a,b,c,d,e,f,g,h⟩⟩
theorem jc3{p:Pln}(h:okp p=true):Bd p:=by
 unfold okp at h;rw[Qig,Qig] at h;exact (Jf7 p).2 ⟨h.1,h.2.2⟩
theorem sm3{v:V3}(h:[v.x,v.y,v.z].all (smb 4608)=true):Sm 4608 v.x/\Sm 4608 v.y/\Sm 4608 v.z:=by
 simpa only[List.all_cons,List.all_nil,Qil,Qig,wb6] using h
theorem de8(p:Pln):Sa9 p=some (b (okp p),[]):=by
 unfold Sa9 okp;have l3:[p.n.x,p.n.y,p.n.z].length<=1000000000:=by simp
 have l1:[p.b].length<=1000000000:=by simp
 simp only[Fd3 4608 _ (by omega) l3,Fd4 4608 _ (by omega) l3,Fd3 2097152 _ (by omega) l1,Fd4 2097152 _ (by omega) l1]
 cases hw:[p.n.x,p.n.y,p.n.z].all (smb 4608) with
 |false=>rfl
 |true =>
  obtain⟨h1,h2,h3⟩:=sm3 hw;have hd:=re7 [p.n.x,p.n.y,p.n.z] l3 (by
   intro x hx;simp only[List.mem_cons,List.not_mem_nil,or_false] at hx
   rcases hx with rfl|rfl|rfl
   ·exact h1.mono (by omega)
   ·exact h2.mono (by omega)
   ·exact h3.mono (by omega))
  have hg:([p.n.x,p.n.y,p.n.z].foldl (λg x=>Nat.gcd g x.natAbs) 0:Nat)=Nat.gcd (Nat.gcd p.n.x.natAbs p.n.y.natAbs) p.n.z.natAbs:=by
   simp only[List.foldl_cons,List.foldl_nil,Nat.gcd_zero_left]
  have hp:Va4 [p.n.x,p.n.y,p.n.z]=g3 p.n:=by unfold Va4;rw[hd,hg];rfl
  have hgd:Va5 [p.n.x,p.n.y,p.n.z]=true:=by unfold Va5;rw[hd];rfl
  rw[hp,hgd];cases g3 p.n==1<;>rfl
theorem sf3(p:Pln):lb2 p=okp p:=by unfold lb2;rw[de8 p];rfl
theorem sf4(p:Pln):lb3 p=true:=by unfold lb3;rw[de8 p];rfl
theorem Oc3(P:ta6)(g n:Nat)(hn:n<=1000000000000000000):lp (na4 P) ⟨(g:Int),(n:Int)⟩=(1,⟨(Nat.gcd g n:Nat),0⟩):=by
 have:=Sc9 (step:=na4 P) (mk:=λg n=>(⟨g,n⟩:Z0)) (λg n h=>by
  have h0:n≠0:=by omega
  simp[na4,Ja7,Ab1,h,h0]) (λg=>by simp[na4,Ja7,Ab1]) (g:Int) (n:Int) (by omega) (by omega) (by omega)
 rw[this,Xe9]
theorem Pd8 {v : V3} (h1 : Sm 1000000000000000000 v.x) (h2 : Sm 1000000000000000000 v.y) (h3 : Sm 1000000000000000000 v.z) :
  Bb4 v=if g3 v=0 then some (.tup [.agg (tV.row ⟨0,0,0⟩),i 0],[]) else some (.tup [.agg (tV.row ⟨W (Int.tdiv v.x (g3 v)),W (Int.tdiv v.y (g3 v)),W (Int.tdiv v.z (g3 v))⟩),i (g3 v)],[]):=by
 have ne:∀{x:Int},Sm 1000000000000000000 x->(x==(-9223372036854775808:Int))=false:=λ{x} h=>by
  have:=h.1
  rw[beq_eq_false_iff_ne];omega
 have bd:∀{x:Int},Sm 1000000000000000000 x->x.natAbs<=1000000000000000000:=λ{x} h=>by obtain⟨h1,h2⟩:=h;omega
 have l1:=Oc3 ⟨0,v.x,v.y,v.z,v.x,v.y,v.z⟩ 0 v.x.natAbs (bd h1);rw[Nat.gcd_zero_left] at l1;have l2:=Oc3 ⟨1,v.x,v.y,v.z,v.x,v.y,v.z⟩ v.x.natAbs v.y.natAbs (bd h2);have l3:=Oc3 ⟨2,v.x,v.y,v.z,v.x,v.y,v.z⟩ (Nat.gcd v.x.natAbs v.y.natAbs) v.z.natAbs (bd h3);unfold Bb4;simp only[jc1 h1,jc1 h2,jc1 h3,jc2 h1,jc2 h2,jc2 h3];rw[show (⟨0,(v.x.natAbs:Int)⟩:Z0)=⟨((0:Nat):Int),(v.x.natAbs:Int)⟩ from rfl]
 simp only[l1,l2,l3,ne h1,ne h2,ne h3];rw[show ((Nat.gcd (Nat.gcd v.x.natAbs v.y.natAbs) v.z.natAbs:Nat):Int)=g3 v from rfl]
 by_cases h:g3 v=0
 ·rw[if_pos h,show (g3 v==0)=true from by rw[h];rfl];rfl
 ·rw[if_neg h,show (g3 v==0)=false from by rw[beq_eq_false_iff_ne];exact h];rfl
theorem ld2{v:V3}(h1:Sm 1000000000000000000 v.x)(h2:Sm 1000000000000000000 v.y)(h3:Sm 1000000000000000000 v.z):(Xa1 v).2=g3 v:=by
 unfold Xa1;rw[Pd8 h1 h2 h3];split
 ·rename_i h;rw[h];rfl
 ·rfl
theorem Jf8{v:V3}(h1:Sm 1000000000000000000 v.x)(h2:Sm 1000000000000000000 v.y)(h3:Sm 1000000000000000000 v.z)(h:g3 v≠0):Xa1 v=(⟨W (Int.tdiv v.x (g3 v)),W (Int.tdiv v.y (g3 v)),W (Int.tdiv v.z (g3 v))⟩,g3 v):=by
 unfold Xa1;rw[Pd8 h1 h2 h3,if_neg h];rfl
theorem Ye0{v:V3}(h1:Sm 1000000000000000000 v.x)(h2:Sm 1000000000000000000 v.y)(h3:Sm 1000000000000000000 v.z):Bb5 v=true:=by
 unfold Bb5;rw[Pd8 h1 h2 h3]
 split<;>rfl
theorem Fd5(p:Pln):nb3 p=some (b (okp p),[]):=by
 unfold nb3 okp;cases hw:[p.n.x,p.n.y,p.n.z].all (smb 4608) with
 |false =>
  simp only[List.all_cons,List.all_nil,Qil,smb] at hw;cases h1:decide (p.n.x < -4608)<;>cases h2:decide (p.n.x>4608)<;>cases h3:decide (p.n.y < -4608)<;>cases h4:decide (p.n.y>4608)<;>cases h5:decide (p.n.z < -4608)<;>cases h6:decide (p.n.z>4608)<;>simp only[h1,h2,h3,h4,h5,h6] at hw ⊢<;>first | rfl | cases hw
 |true =>
  obtain⟨h1,h2,h3⟩:=sm3 hw;rw[bf (decide_eq_false (by have:=h1.1;omega)),bf (decide_eq_false (by have:=h1.2;omega)),bf (decide_eq_false (by have:=h2.1;omega)),bf (decide_eq_false (by have:=h2.2;omega)),bf (decide_eq_false (by have:=h3.1;omega)),bf (decide_eq_false (by have:=h3.2;omega))]
  have k1:=h1.mono (m:=1000000000000000000) (by omega)
  have k2:=h2.mono (m:=1000000000000000000) (by omega)
  have k3:=h3.mono (m:=1000000000000000000) (by omega)
  rw[bt (Ye0 k1 k2 k3),ld2 k1 k2 k3];cases g3 p.n==1 with
  |false=>rfl
  |true =>
   simp only[List.all_cons,List.all_nil,Qil,smb,Bool.true_and];rw[f9];by_cases ha:p.b < -2097152
   ·rw[bf (decide_eq_false (by omega)),show decide (p.b < -2097152)=true from decide_eq_true ha];rfl
   ·rw[bt (decide_eq_true (by omega)),show decide (p.b < -2097152)=false from decide_eq_false ha]
    congr 3;by_cases hc:p.b<=2097152
    ·rw[decide_eq_true hc,decide_eq_false (by omega)];rfl
    ·rw[decide_eq_false hc,decide_eq_true (by omega)];rfl
theorem de9(p:Pln):nb4 p=okp p:=by unfold nb4;rw[Fd5 p];rfl
theorem ld3(p:Pln):nb5 p=true:=by unfold nb5;rw[Fd5 p];rfl
def chk(l:List Pln):Int:=if (l.length:Int)>48 then 2 else if l.all okp then 0 else 12
theorem ee0(l:List Pln)(hl:l.length<=1000000000):cb0 l=some (i (chk l),[]):=by
 have hk1:∀p,Ka7 p=some (b (!okp p),[]):=λp=>by unfold Ka7;rw[sf4,sf3];rfl
 have hp1:∀p,bb8 p=!okp p:=λp=>by unfold bb8;rw[hk1];rfl
 have hg1:∀p,bb9 p=true:=λp=>by unfold bb9;rw[hk1];rfl
 have h:=Na8 (step:=J8 ⟨l,(l.length:Int)⟩) (mk:=λj=>(⟨(j:Int)⟩:p7)) (c:=λp=>!okp p) (u:=1) (fin:=2) tP l hl
  (λj hj=>by
   simp only[J8,H4,Int.toNat_natCast,hp1,hg1,n8 hj (by omega)]
   rw[bt (fc7 hj),bt (f0 hj),f9])
  (by simp only[J8,H4];rw[bf (Tb8 (Qic _))]) 0 (Qie _)
 rw[Qia] at h;have e:(l.any λx=>!okp x)=!l.all okp:=by rw[Qii]
 unfold cb0 ja1 D6 ra9 I5 chk;simp only[i5,i8];rw[show (⟨0⟩:p7)=⟨((0:Nat):Int)⟩ from rfl,h,e]
 by_cases hn:(l.length:Int)>48
 ·rw[bt (decide_eq_true hn),if_pos hn]
 ·rw[bf (decide_eq_false hn),if_neg hn];cases l.all okp with
  |true=>rfl
  |false =>
   simp only[Qiw,if_true,Qij];show sl true (sl (Nat.beq 1 1) (sl (decide (((l.findIdx λp=>!okp p:Nat):Int)>=0)) _ _) _) _=_
   rw[show decide (((l.findIdx λp=>!okp p:Nat):Int)>=0)=true from decide_eq_true (by omega)]
   rfl
theorem cd2(l:List Pln)(hl:l.length<=1000000000):ua3 l=chk l:=by unfold ua3;rw[ee0 l hl];rfl
theorem Pd9(l:List Pln)(hl:l.length<=1000000000):Oa2 l=true:=by unfold Oa2;rw[ee0 l hl];rfl
theorem Fd6(l:List Pln)(hl:l.length<=1000000000):nb6 l=some (i (chk l),[]):=by
 have h:=hb9 (step:=Ja8 ⟨l⟩) (mk:=λj=>(⟨(j:Int)⟩:fa2)) (c:=λp=>!okp p) (u:=1) (fin:=2) tP l hl
  (λj hj=>by
   simp only[Ja8,Da8,Int.toNat_natCast,de9,ld3,n8 hj (by omega)]
   rw[bt (fc7 hj),bt (f0 hj),f9])
  (by simp only[Ja8,Da8];rw[bf (Tb8 (Qic _))]) 0 (Qie _)
 rw[Qia] at h;have e:(l.any λx=>!okp x)=!l.all okp:=by rw[Qii]
 unfold nb6 chk;simp only[i5,i8];rw[show (⟨0⟩:fa2)=⟨((0:Nat):Int)⟩ from rfl,h,e]
 by_cases hn:(l.length:Int)>48
 ·rw[bt (decide_eq_true hn),if_pos hn]
 ·rw[bf (decide_eq_false hn),if_neg hn];cases l.all okp<;>rfl
theorem ee1(l:List Pln)(hl:l.length<=1000000000):nb7 l=chk l:=by unfold nb7;rw[Fd6 l hl];rfl
theorem ee2(l:List Pln)(hl:l.length<=1000000000):nb8 l=true:=by unfold nb8;rw[Fd6 l hl];rfl
theorem cb8{l:List Pln}:chk l=0↔l.length<=48/\∀p∈l,okp p=true:=by
 unfold chk;by_cases hn:(l.length:Int)>48
 ·rw[if_pos hn];exact⟨λh=>absurd h (by decide),λh=>by omega⟩
 ·rw[if_neg hn];cases h:l.all okp with
  |true=>exact⟨λ_=>⟨by omega,Qiu.1 h⟩,λ_=>rfl⟩
  |false=>exact⟨λh=>absurd h (by decide),λh'=>by rw[Qiu.2 h'.2] at h;cases h⟩
theorem btD{p:Prop}{inst:Decidable p}(h:p){α:Type}(t e:α):sl (@decide p inst) t e=t:=bt (decide_eq_true h) t e
theorem bfD{p:Prop}{inst:Decidable p}(h:¬ p){α:Type}(t e:α):sl (@decide p inst) t e=e:=bf (decide_eq_false h) t e
theorem g7{j n:Nat}(h:j<n):(j:Int)<(n:Int):=Int.ofNat_lt.2 h
theorem l9{j n:Nat}(h:¬ j<n):¬ (j:Int)<(n:Int):=λh'=>h (Int.ofNat_lt.1 h')
theorem cb9 {σ τ α : Type} {step : σ → Stp σ} {mk : Nat → τ → σ} {f : α → List α → τ → τ} {g : List α → τ → τ} {fin : τ → Nat} (l : List α) (I : Nat → τ → Prop) (hl : l.length ≤ 1000000000)
  (g0:∀a,g [] a=a) (g1:∀x r a,g (x::r) a=g r (f x r a))
  (h:∀j a (hj:j<l.length),I j a->step (mk j a)=.next (mk (j+1) (f l[j] (l.drop (j+1)) a))/\I (j+1) (f l[j] (l.drop (j+1)) a))
  (hf:∀j a,l.length<=j->I j a->step (mk j a)=.exit (fin a)) (j0:Nat) (a:τ) (hi:I j0 a) :
  lp step (mk j0 a)=(fin (g (l.drop j0) a),mk (max j0 l.length) (g (l.drop j0) a))/\I (max j0 l.length) (g (l.drop j0) a):=by
 have key:=wc2 (step:=step) (I:=λm s=>∃j b,m=l.length-j/\max j l.length=max j0 l.length/\s=mk j b/\I j b/\g (l.drop j) b=g (l.drop j0) a)
  (Q:=λu s=>u=fin (g (l.drop j0) a)/\s=mk (max j0 l.length) (g (l.drop j0) a)/\I (max j0 l.length) (g (l.drop j0) a)) (λm s ⟨j,b,hm,hj,hs,hb,he⟩=>by
   subst hs;by_cases hlt:j<l.length
   ·obtain⟨h1,h2⟩:=h j b hlt hb;refine .inr ⟨_,l.length-(j+1),by omega,h1,j+1,_,rfl,by omega,rfl,h2,?_⟩
    rw[<- he,Qim hlt,g1]
   ·have hd:l.drop j=[]:=Qin (by omega)
    rw[hd,g0] at he;have hj':j=max j0 l.length:=by omega
    subst he;rw[<- hj'];exact .inl ⟨_,hf j _ (by omega) hb,rfl,rfl,hb⟩) (l.length-j0) (mk j0 a) (by omega) ⟨j0,a,rfl,rfl,rfl,hi,rfl⟩
 exact⟨Prod.ext key.1 key.2.1,key.2.2⟩
noncomputable def La3(r:List Pln)(p q:Pln)(out:List Pt)(s:Pln):List Pt :=
 if (mpt p q s).2&&(!jc0 out (mpt p q s).1&&inn r (mpt p q s).1) then out++[(mpt p q s).1] else out
noncomputable def tb1(r:List Pln)(p q:Pln)(l:List Pln)(out:List Pt):List Pt:=l.foldl (La3 r p q) out
noncomputable def db0(r:List Pln)(p:Pln):List Pln->List Pt->List Pt
 |[],out=>out
 |q::l,out=>db0 r p l (tb1 r p q l out)
noncomputable def Gc4(r:List Pln):List Pln->List Pt->List Pt
 |[],out=>out
 |p::l,out=>Gc4 r l (db0 r p l out)
noncomputable def cor(r:List Pln):List Pt:=Gc4 r r []
def Bds(r:List Pln):Prop:=∀p∈r,Bd p
theorem Oc4(r:List Pln)(p q:Pln)(out:List Pt)(s:Pln):(La3 r p q out s).length<=out.length+1:=by
 unfold La3;split
 ·simp
 ·omega
theorem Gc5(r:List Pln)(p q:Pln):∀(l:List Pln) (out:List Pt),(tb1 r p q l out).length<=out.length+l.length
 |[],out=>Nat.le_refl _
 |s::l,out=>by
  have h1:=Oc4 r p q out s;have h2:=Gc5 r p q l (La3 r p q out s);show (tb1 r p q l (La3 r p q out s)).length<=_;simp only[List.length_cons];omega
theorem ld4(r:List Pln)(p:Pln):∀(l:List Pln) (out:List Pt),l.length<=200->(db0 r p l out).length<=out.length+200*l.length
 |[],out,_=>by simp[db0]
 |q::l,out,h=>by
  simp only[List.length_cons] at h ⊢;have h1:=Gc5 r p q l out;have h2:=ld4 r p l (tb1 r p q l out) (by omega)
  show (db0 r p l (tb1 r p q l out)).length<=_;omega
theorem ee3(r:List Pln):∀(l:List Pln) (out:List Pt),l.length<=200->(Gc4 r l out).length<=out.length+40000*l.length
 |[],out,_=>by simp[Gc4]
 |p::l,out,h=>by
  simp only[List.length_cons] at h ⊢;have h1:=ld4 r p l out (by omega)
  have h2:=ee3 r l (db0 r p l out) (by omega)
  show (Gc4 r l (db0 r p l out)).length<=_;omega
theorem Qd0(r:List Pln)(_:Bds r)(hr:r.length<=200):(cor r).length<=8000000:=by
 have:=ee3 r r [] hr
 rw[List.length_nil] at this;show (Gc4 r r []).length<=_;omega
noncomputable def ph(out:List Pt):Nat:=match out with
 |[]=>0
 |_::_=>1
theorem ee4(x:Pt):jc0 [] x=false:=rfl
theorem Gc6{α:Type}(t:Ty α)(l:List α)(n k:Nat):gL t (l.drop n) k=gL t l (n+k):=by simp[gL,Qir,List.getElem?_drop]
theorem ee5{n:Nat}{l:List Pt}(hn:n=l.length)(h:l.length<=1000000000):(Nat.beq n (len (bL tX l))&&Nat.ble ((n+1)*32) room)=true:=by
 subst hn;rw[S6,Qik,Bool.true_and];exact fa0 (by omega)
theorem ye7(l:List Pt)(x:Pt):app (bL tX l) [[i x.px,i x.py,i x.pz,i x.pw]]=bL tX (l++[x]):=Ra1 tX l [x]
@[reducible] noncomputable def qc4(k:Nat)(out:List Pt):w6:=⟨ph out,(k:Int),out.length,bL tX out⟩
theorem Jf9(l:List Pt):slR tX (bL tX l) 0 l.length=l:=fc2 tX l
theorem sf5 (r : List Pln) (hb : Bds r) (hr : r.length ≤ 200) (a c k : Nat) (ha : a < r.length) (hc : c < r.length) (out : List Pt) (ho : out.length ≤ 1000000000) (hk : k < r.length) :
  V2 ⟨r,a,c⟩ (qc4 k out)=.next (qc4 (k+1) (La3 r r[a] r[c] out r[k])):=by
 have hin:∀x,Pb2 r x=inn r x:=λx=>kg3 r x (by omega)
 have hig:∀x,Pb3 r x=true:=λx=>kg4 r x (by omega)
 have hth:∀x,Ya3 out x=jc0 out x:=λx=>sf1 out x ho
 have htg:∀x,Ya4 out x=true:=λx=>sf2 out x ho
 have hme:=rf8 (hb _ (Qih ha)) (hb _ (Qih hc)) (hb _ (Qih hk));have hmg:=rf9 (hb _ (Qih ha)) (hb _ (Qih hc)) (hb _ (Qih hk));unfold V2;cases out with
 |nil =>
  show Y4 Stp.next Stp.exit Stp.fail _ (qc4 k [])=_;simp only[Y4,qc4,Int.toNat_natCast,i5,o5,Ya2 tP ha,Ya2 tP hc,Ya2 tP hk,hme,hmg,hin,hig,hth,htg,n8 hk (by omega)]
  rw[btD (g7 hk),bt (f0 ha),bt (f0 hc),bt (f0 hk),f9];unfold La3;rw[ee4];cases (mpt r[a] r[c] r[k]).2 with
  |false=>rfl
  |true =>
   cases inn r (mpt r[a] r[c] r[k]).1 with
   |false=>rfl
   |true=>rfl
 |cons o os =>
  show Y5 Stp.next Stp.exit Stp.fail _ (qc4 k (o::os))=_;simp only[Y5,qc4,Int.toNat_natCast,i5,o5,Ya2 tP ha,Ya2 tP hc,Ya2 tP hk,hme,hmg,hin,hig,Jf9,fc3,hth,htg,n8 hk (by omega)]
  rw[btD (g7 hk),bt (f0 ha),bt (f0 hc),bt (f0 hk),f9,ee5 rfl ho,ye7];unfold La3;cases (mpt r[a] r[c] r[k]).2 with
  |false=>rfl
  |true =>
   cases inn r (mpt r[a] r[c] r[k]).1 with
   |false=>cases jc0 (o::os) (mpt r[a] r[c] r[k]).1<;>rfl
   |true =>
    cases jc0 (o::os) (mpt r[a] r[c] r[k]).1 with
    |true=>rfl
    |false =>
     show Stp.next (⟨1,((k+1:Nat):Int),(o::os).length+1,bL tX (o::os++[(mpt r[a] r[c] r[k]).1])⟩:w6)=_;simp[ph]
theorem Kf0(r:List Pln)(a c k:Nat)(out:List Pt)(hk:r.length<=k):V2 ⟨r,a,c⟩ (qc4 k out)=.exit (ph out+1):=by
 unfold V2;have this:¬ ((k:Int)<(r.length:Int)):=by omega
 cases out with
 |nil =>
  show Y4 Stp.next Stp.exit Stp.fail _ (qc4 k [])=_;simp only[Y4,qc4];rw[bfD this];rfl
 |cons o os =>
  show Y5 Stp.next Stp.exit Stp.fail _ (qc4 k (o::os))=_;simp only[Y5,qc4];rw[bfD this];rfl
theorem sf6 (r : List Pln) (hb : Bds r) (hr : r.length ≤ 200) (a c : Nat) (ha : a < r.length) (hc : c < r.length) (k : Nat) (out : List Pt) (ho : out.length ≤ 100000000) :
  ∃m,lp (V2 ⟨r,a,c⟩) (qc4 k out)=(ph (tb1 r r[a] r[c] (r.drop k) out)+1,qc4 m (tb1 r r[a] r[c] (r.drop k) out)) :=
 ⟨_,(cb9 (mk:=qc4) (f:=λs _ out=>La3 r r[a] r[c] out s) (g:=λl out=>tb1 r r[a] r[c] l out) (fin:=λout=>ph out+1) r (λj o=>o.length+k<=out.length+j) (by omega)
  (λ_=>rfl) (λ_ _ _=>rfl) (λj o hj hi=>⟨sf5 r hb hr a c j ha hc o (by omega) hj,by have:=Oc4 r r[a] r[c] o r[j];show (La3 r r[a] r[c] o r[j]).length+k<=out.length+(j+1);omega⟩)
  (λj o hj _=>Kf0 r a c j o hj) k out (by omega)).1⟩
@[reducible] noncomputable def qc5(r:List Pln)(j:Nat)(out:List Pt):y8:=⟨ph out,r,(j:Int),out.length,bL tX out⟩
theorem sf7 (r : List Pln) (hb : Bds r) (hr : r.length ≤ 200) (a j : Nat) (ha : a < r.length) (out : List Pt) (ho : out.length ≤ 100000000) (hj : j < r.length) :
  P1 ⟨a⟩ (qc5 r j out)=.next (qc5 r (j+1) (tb1 r r[a] r[j] (r.drop (j+1)) out)):=by
 obtain⟨m,hm⟩:=sf6 r hb hr a j ha hj (j+1) out ho;unfold P1;generalize tb1 r r[a] r[j] (r.drop (j+1)) out=res at *
 cases out with
 |nil =>
  show Y6 Stp.next Stp.exit Stp.fail _ (qc5 r j [])=_;simp only[Y6,qc5,i5,i8,n8 hj (by omega)]
  rw[show (⟨0,((j+1:Nat):Int),0,[]⟩:w6)=qc4 (j+1) [] from rfl,hm,btD (g7 hj)]
  cases res<;>rfl
 |cons o os =>
  show Y7 Stp.next Stp.exit Stp.fail _ (qc5 r j (o::os))=_;simp only[Y7,qc5,i5,i8,n8 hj (by omega)]
  rw[show (⟨1,((j+1:Nat):Int),(o::os).length,bL tX (o::os)⟩:w6)=qc4 (j+1) (o::os) from rfl,hm,btD (g7 hj)]
  cases res<;>rfl
theorem Kf1(r:List Pln)(a j:Nat)(out:List Pt)(hj:r.length<=j):P1 ⟨a⟩ (qc5 r j out)=.exit (ph out+1):=by
 unfold P1;have this:¬ ((j:Int)<(r.length:Int)):=by omega
 cases out with
 |nil =>
  show Y6 Stp.next Stp.exit Stp.fail _ (qc5 r j [])=_;simp only[Y6,qc5];rw[bfD this];rfl
 |cons o os =>
  show Y7 Stp.next Stp.exit Stp.fail _ (qc5 r j (o::os))=_;simp only[Y7,qc5];rw[bfD this];rfl
theorem sf8 (r : List Pln) (hb : Bds r) (hr : r.length ≤ 200) (a : Nat) (ha : a < r.length) (j : Nat) (out : List Pt) (ho : out.length ≤ 40000 * a) :
  ∃m,lp (P1 ⟨a⟩) (qc5 r j out)=(ph (db0 r r[a] (r.drop j) out)+1,qc5 r m (db0 r r[a] (r.drop j) out))/\(db0 r r[a] (r.drop j) out).length<=40000*(a+1):=by
 have hk:=cb9 (step:=P1 ⟨a⟩) (mk:=qc5 r) (f:=λq l out=>tb1 r r[a] q l out) (g:=λl out=>db0 r r[a] l out) (fin:=λout=>ph out+1) r (λk o=>o.length<=40000*a+200*(k-j)/\j<=k/\k<=j+r.length) (by omega)
  (λ_=>rfl) (λ_ _ _=>rfl) (λk o hj hi=>⟨sf7 r hb hr a k ha o (by omega) hj,by
   have:=Gc5 r r[a] r[k] (r.drop (k+1)) o
   rw[Qid] at this;show (tb1 r r[a] r[k] (r.drop (k+1)) o).length<=40000*a+200*(k+1-j)/\j<=k+1/\k+1<=j+r.length
   omega⟩)
  (λk o hj _=>Kf1 r a k o hj) j out (by omega)
 exact⟨_,hk.1,by have:=hk.2;omega⟩
@[reducible] noncomputable def xc5(r:List Pln)(j:Nat)(out:List Pt):D4:=⟨ph out,r,(j:Int),out.length,bL tX out⟩
theorem ye8 (r : List Pln) (hb : Bds r) (hr : r.length ≤ 200) (a : Nat) (ha : a < r.length) (out : List Pt) (ho : out.length ≤ 40000 * a) :
  V4 ⟨⟩ (xc5 r a out)=.next (xc5 r (a+1) (db0 r r[a] (r.drop (a+1)) out))/\(db0 r r[a] (r.drop (a+1)) out).length<=40000*(a+1):=by
 obtain⟨m,hm,hl⟩:=sf8 r hb hr a ha (a+1) out ho;refine⟨?_,hl⟩
 clear hl
 unfold V4;generalize db0 r r[a] (r.drop (a+1)) out=res at *
 cases out with
 |nil =>
  show Y8 Stp.next Stp.exit Stp.fail _ (xc5 r a [])=_;simp only[Y8,xc5,i5,i8,n8 ha (by omega)]
  rw[show (⟨0,r,((a+1:Nat):Int),0,[]⟩:y8)=qc5 r (a+1) [] from rfl,hm,btD (g7 ha)]
  cases res<;>rfl
 |cons o os =>
  show Y9 Stp.next Stp.exit Stp.fail _ (xc5 r a (o::os))=_;simp only[Y9,xc5,i5,i8,n8 ha (by omega)]
  rw[show (⟨1,r,((a+1:Nat):Int),(o::os).length,bL tX (o::os)⟩:y8)=qc5 r (a+1) (o::os) from rfl,hm,btD (g7 ha)]
  cases res<;>rfl
theorem Kf2(r:List Pln)(j:Nat)(out:List Pt)(hj:r.length<=j):V4 ⟨⟩ (xc5 r j out)=.exit (ph out+1):=by
 unfold V4;have this:¬ ((j:Int)<(r.length:Int)):=by omega
 cases out with
 |nil =>
  show Y8 Stp.next Stp.exit Stp.fail _ (xc5 r j [])=_;simp only[Y8,xc5];rw[bfD this];rfl
 |cons o os =>
  show Y9 Stp.next Stp.exit Stp.fail _ (xc5 r j (o::os))=_;simp only[Y9,xc5];rw[bfD this];rfl
theorem sf9(r:List Pln)(hb:Bds r)(hr:r.length<=200):∃m,lp (V4 ⟨⟩) (xc5 r 0 [])=(ph (cor r)+1,xc5 r m (cor r))/\(cor r).length<=8000000:=by
 have hk:=cb9 (step:=V4 ⟨⟩) (mk:=xc5 r) (f:=λq l out=>db0 r q l out) (g:=λl out=>Gc4 r l out) (fin:=λout=>ph out+1) r (λk o=>o.length<=40000*k/\k<=r.length) (by omega)
  (λ_=>rfl) (λ_ _ _=>rfl) (λk o hj hi=>⟨(ye8 r hb hr k hj o hi.1).1,(ye8 r hb hr k hj o hi.1).2,hj⟩)
  (λk o hj _=>Kf2 r k o hj) 0 [] (by simp)
 exact⟨_,hk.1,by have:=hk.2;rw[show max 0 r.length=r.length by omega] at this;have h1:=this.1;show (Gc4 r r []).length<=_;rw[Qia] at h1;omega⟩
noncomputable def slX(l:List Pt):b7×List b8:=match l with
 |[]=>(.v (.slice none 0 0),[])
 |_::_=>(.sl 0 0 l.length 0,[⟨136,4,bL tX l,true,false,0⟩])
theorem Qd1(l:List Pt):(one (r1L tX)).rd (slX l)=some l:=by
 cases l with
 |nil=>rfl
 |cons x l =>
  show Bool.rec (motive:=λ_=>Option (List Pt)) none (some (slR tX (bL tX (x::l)) 0 (x::l).length)) (Bool.and true (okS tX (bL tX (x::l)) 0 (x::l).length))=_
  rw[fc2,fc3];rfl
theorem Tc9(r:List Pln)(hb:Bds r)(hr:r.length<=200):Sa1 r=some (slX (cor r)):=by
 obtain⟨m,hm,_⟩:=sf9 r hb hr;unfold Sa1;simp only[i5,i8];rw[show (⟨0,r,0,0,[]⟩:D4)=xc5 r 0 [] from rfl,hm]
 cases cor r<;>rfl
theorem Ga7{ρ:Type}(R:RR ρ){x:b7×List b8}{r:ρ}(h:R.rd x=some r):N6 R (some x)=r:=by
 show Option.rec (motive:=λ_=>ρ) R.d (λx=>x) (R.rd x)=r
 rw[h]
theorem Ta4{ρ:Type}(R:RR ρ){x:b7×List b8}{r:ρ}(h:R.rd x=some r):okO R (some x)=true:=by
 show Option.rec (motive:=λ_=>Bool) false (λ_=>true) (R.rd x)=true
 rw[h]
theorem ld5(r:List Pln)(hb:Bds r)(hr:r.length<=200):Sa2 r=cor r:=by unfold Sa2;rw[Tc9 r hb hr];exact Ga7 _ (Qd1 _)
theorem ld6(r:List Pln)(hb:Bds r)(hr:r.length<=200):Sa3 r=true:=by unfold Sa3;rw[Tc9 r hb hr];exact Ta4 _ (Qd1 _)
noncomputable def xd6(x:Pt):List b7:=[i x.px,i x.py,i x.pz,i x.pw,b true]
noncomputable def Zb5(l:List Pt):List (List b7):=l.map xd6
@[reducible] noncomputable def flK:List (Nat×CK):=[(0,.int .i64),(1,.int .i64),(2,.int .i64),(3,.int .i64)]
theorem ee6(x q:Pt):pc9 flK [i x.px,i x.py,i x.pz,i x.pw] (xd6 q)=eqX x q:=by
 show Bool.and (decide (x.px=q.px)) (Bool.and (decide (x.py=q.py)) (Bool.and (decide (x.pz=q.pz)) (Bool.and (decide (x.pw=q.pw)) true)))=_;unfold eqX;have h:∀a c:Int,decide (a=c)=(c==a):=λa c=>by rw[Bool.eq_iff_iff,decide_eq_true_eq,beq_iff_eq];exact eq_comm
 rw[h,h,h,h]
theorem ld7(x:Pt):∀l,Ac9 4 flK [i x.px,i x.py,i x.pz,i x.pw] (Zb5 l)=jc0 l x
 |[]=>rfl
 |q::l=>by
  have ih:=ld7 x l;unfold Ac9 at ih ⊢;show Option.rec (motive:=λ_=>Bool) false (λr=>toB (hdA (l0 r 4))) (Bool.rec (motive:=λ_=>Option (List b7)) (Sc1 flK [i x.px,i x.py,i x.pz,i x.pw] (Zb5 l)) (some (xd6 q)) (pc9 flK [i x.px,i x.py,i x.pz,i x.pw] (xd6 q)))=jc0 (q::l) x
  rw[ee6];unfold jc0 at ih ⊢;rw[List.any_cons];cases eqX x q with
  |true=>rfl
  |false=>exact ih
theorem Fd7(x:Pt):∀l,jc0 l x=false->Kb5 flK [i x.px,i x.py,i x.pz,i x.pw] (xd6 x) (Zb5 l)=Zb5 (l++[x])
 |[],_=>rfl
 |q::l,h=>by
  unfold jc0 at h;rw[List.any_cons,Bool.or_eq_false_iff] at h;show Bool.rec (motive:=λ_=>List (List b7)) (xd6 q::Kb5 flK [i x.px,i x.py,i x.pz,i x.pw] (xd6 x) (Zb5 l)) (xd6 x::Zb5 l) (pc9 flK [i x.px,i x.py,i x.pz,i x.pw] (xd6 q))=_
  rw[ee6,h.1,Fd7 x l h.2];rfl
@[reducible] noncomputable def qc6(k:Nat)(out:List Pt):k8:=⟨ph out,(k:Int),out.length,bL tX out,Zb5 out⟩
structure C2(P:j9)(r:List Pln)(p q:Pln)(lo:Nat):Prop where
 ns:P.jf9=(r.drop lo).length
 gs:P.Fb4=λk=>tP.row (gL tP r (lo+k))
 is:P.ve4=((r.drop lo).length:Int)
 p1:(⟨⟨P.W9,P.X0,P.X1⟩,P.da5⟩:Pln)=p
 q1:(⟨⟨P.fb4,P.fb5,P.fb6⟩,P.Yb3⟩:Pln)=q
 r1:P.Pa0=r
theorem Qd2(s:Pln):(⟨⟨toI (hdA (tP.row s)),toI (hdA (tlA (tP.row s))),toI (hdA (tlA (tlA (tP.row s))))⟩,toI (hdA (tlA (tlA (tlA (tP.row s)))))⟩:Pln)=s:=rfl
theorem Qd3(s:Pln):((Nat.ble 4 (len (tP.row s)))&&(ra7 [CK.int .i64,CK.int .i64,CK.int .i64,CK.int .i64] (tP.row s)))=true:=rfl
theorem tf0 {P : j9} {r : List Pln} {p q : Pln} {lo : Nat} (h : C2 P r p q lo) (hb : Bds r) (hr : r.length ≤ 200) (hp : Bd p) (hq : Bd q) (k : Nat) (out : List Pt) (ho : out.length ≤ 1000000000) (hk : k < (r.drop lo).length) :
  A5 P (qc6 k out)=.next (qc6 (k+1) (La3 r p q out (r.drop lo)[k])):=by
 have hwi:∀x,na5 r x=inn r x:=λx=>de4 r x (by omega)
 have hwg:∀x,na6 r x=true:=λx=>de5 r x (by omega)
 have hs:gL tP r (lo+k)=(r.drop lo)[k]:=by rw[<- Gc6,Ya2 tP hk]
 have hbs:Bd (r.drop lo)[k]:=hb _ (Qip (Qih hk));have hd:(r.drop lo).length<=200:=by rw[Qid];omega
 have hme:=Jf5 hp hq hbs;have hmg:=Jf6 hp hq hbs;obtain⟨x1,x2,x3,x4,x5,x6,x7,x8,x9,x10,x11,x12,x13,x14,x15,x16,x17,x18,x19,x20,x21⟩:=P;obtain⟨ns,gs,is,p1,q1,r1⟩:=h
 simp only at ns gs is p1 q1 r1
 have r1:=r1.symm;subst ns gs is r1;unfold A5;cases out with
 |nil =>
  show C6 Stp.next Stp.exit Stp.fail _ (qc6 k [])=_;simp only[C6,qc6,Int.toNat_natCast,i5,o5,p1,q1,hs,Qd2,Qd3,hme,hmg,hwi,hwg,n8 hk (by omega)]
  rw[btD (g7 hk),bt (f0 hk),f9,f9];unfold La3;rw[ee4];cases (mpt p q (r.drop lo)[k]).2 with
  |false=>rfl
  |true =>
   cases inn r (mpt p q (r.drop lo)[k]).1 with
   |false=>rfl
   |true=>rfl
 |cons o os =>
  show C7 Stp.next Stp.exit Stp.fail _ (qc6 k (o::os))=_;simp only[C7,qc6,Int.toNat_natCast,i5,o5,p1,q1,hs,Qd2,Qd3,hme,hmg,hwi,hwg,n8 hk (by omega),ld7]
  rw[btD (g7 hk),bt (f0 hk),f9,f9,ee5 rfl ho,ye7];unfold La3;cases (mpt p q (r.drop lo)[k]).2 with
  |false=>rfl
  |true =>
   cases hx:jc0 (o::os) (mpt p q (r.drop lo)[k]).1 with
   |true=>rfl
   |false =>
    cases inn r (mpt p q (r.drop lo)[k]).1 with
    |false=>rfl
    |true =>
     show Stp.next (⟨1,((k+1:Nat):Int),(o::os).length+1,bL tX (o::os++[(mpt p q (r.drop lo)[k]).1]),Kb5 flK [i (mpt p q (r.drop lo)[k]).1.px,i (mpt p q (r.drop lo)[k]).1.py,i (mpt p q (r.drop lo)[k]).1.pz,i (mpt p q (r.drop lo)[k]).1.pw] (xd6 (mpt p q (r.drop lo)[k]).1) (Zb5 (o::os))⟩:k8)=_;rw[Fd7 _ _ hx];simp[ph]
theorem Kf3{P:j9}{r:List Pln}{p q:Pln}{lo:Nat}(h:C2 P r p q lo)(k:Nat)(out:List Pt)(hk:(r.drop lo).length<=k):A5 P (qc6 k out)=.exit (ph out+1):=by
 obtain⟨x1,x2,x3,x4,x5,x6,x7,x8,x9,x10,x11,x12,x13,x14,x15,x16,x17,x18,x19,x20,x21⟩:=P;obtain⟨ns,gs,is,p1,q1,r1⟩:=h
 simp only at ns gs is p1 q1 r1
 have r1:=r1.symm;subst ns gs is r1;unfold A5;have this:¬ ((k:Int)<((r.drop lo).length:Int)):=by omega
 cases out with
 |nil =>
  show C6 Stp.next Stp.exit Stp.fail _ (qc6 k [])=_;simp only[C6,qc6];rw[bfD this];rfl
 |cons o os =>
  show C7 Stp.next Stp.exit Stp.fail _ (qc6 k (o::os))=_;simp only[C7,qc6];rw[bfD this];rfl
theorem tf1 {P : j9} {r : List Pln} {p q : Pln} {lo : Nat} (h : C2 P r p q lo) (hb : Bds r) (hr : r.length ≤ 200) (hp : Bd p) (hq : Bd q) (out : List Pt) (ho : out.length ≤ 100000000) :
  ∃m,lp (A5 P) (qc6 0 out)=(ph (tb1 r p q (r.drop lo) out)+1,qc6 m (tb1 r p q (r.drop lo) out)):=by
 have hd:(r.drop lo).length<=200:=by rw[Qid];omega
 exact⟨_,(cb9 (mk:=qc6) (f:=λs _ out=>La3 r p q out s) (g:=λl out=>tb1 r p q l out) (fin:=λout=>ph out+1) (r.drop lo) (λj o=>o.length<=out.length+j) (by omega)
  (λ_=>rfl) (λ_ _ _=>rfl) (λj o hj hi=>⟨tf0 h hb hr hp hq j o (by omega) hj,by have:=Oc4 r p q o (r.drop lo)[j];show (La3 r p q o (r.drop lo)[j]).length<=out.length+(j+1);omega⟩)
  (λj o hj _=>Kf3 h j o hj) 0 out (by omega)).1⟩
@[reducible] noncomputable def qc7(r:List Pln)(j:Nat)(out:List Pt):l7:=⟨ph out,r,(j:Int),r,r,out.length,bL tX out,Zb5 out⟩
structure C1(P:k9)(r:List Pln)(p:Pln)(a:Nat):Prop where
 i3:P.is3=(a:Int)
 ns:P.Bd1=(r.drop (a+1)).length
 gs:P.Sb3=λk=>tP.row (gL tP r (a+1+k))
 is:P.Sc0=((r.drop (a+1)).length:Int)
 p1:(⟨⟨P.W9,P.X0,P.X1⟩,P.da5⟩:Pln)=p
theorem tf2 {P : k9} {r : List Pln} {p : Pln} {a : Nat} (h : C1 P r p a) (hb : Bds r) (hr : r.length ≤ 200) (hp : Bd p) (j : Nat) (out : List Pt) (ho : out.length ≤ 100000000) (hj : j < (r.drop (a + 1)).length) :
  A6 P (qc7 r j out)=.next (qc7 r (j+1) (tb1 r p (r.drop (a+1))[j] ((r.drop (a+1)).drop (j+1)) out)):=by
 have hs:gL tP r (a+1+j)=(r.drop (a+1))[j]:=by rw[<- Gc6,Ya2 tP hj]
 have hbs:Bd (r.drop (a+1))[j]:=hb _ (Qip (Qih hj));have hd:=hj;rw[Qid] at hd;have hW:W (W ((a:Int)+(j:Int))+2)=((a+1+(j+1):Nat):Int):=by rw[Ab3,ka2 (by omega) (by omega)];omega
 have hdl:(r.drop (a+1)).length<=4611686018427387904:=by rw[Qid];omega
 have hlo:inB ((a+1+(j+1):Nat):Int) (r.length+1)=true:=f0 (by omega)
 rw[List.drop_drop];generalize hq:(r.drop (a+1))[j]=q at *
 obtain⟨x1,x2,x3,x4,x5,x6,x7,x8,x9,x10⟩:=P;obtain⟨i3,ns,gs,is,p1⟩:=h
 simp only at i3 ns gs is p1
 subst i3 ns gs is;unfold A6;have key:∀(P2:j9),C2 P2 r p q (a+1+(j+1))->_:=λP2 h2=>tf1 h2 hb hr hp hbs out ho
 cases out with
 |nil =>
  show C8 Stp.next Stp.exit Stp.fail _ (qc7 r j [])=_;simp only[C8,qc7,i5,i8,n8 hj hdl,hW,Int.toNat_natCast,hs,Qd3,hlo];rw[show (⟨0,0,0,[],[]⟩:k8)=qc6 0 [] from rfl]
  generalize hP:j9.mk _ _ _ _ _ _ _ _ _ _ _ _ _ _ _ _ _ _ _ _ _=P2;obtain⟨m,hm⟩:=key P2 (by
   subst hP;exact⟨by simp,rfl,by simp,p1,Qd2 q,rfl⟩)
  rw[hm,btD (g7 hj),bt (f0 hj)];cases tb1 r p q (r.drop (a+1+(j+1))) []<;>rfl
 |cons o os =>
  show C9 Stp.next Stp.exit Stp.fail _ (qc7 r j (o::os))=_;simp only[C9,qc7,i5,i8,n8 hj hdl,hW,Int.toNat_natCast,hs,Qd3,hlo];rw[show (⟨1,0,(o::os).length,bL tX (o::os),Zb5 (o::os)⟩:k8)=qc6 0 (o::os) from rfl]
  generalize hP:j9.mk _ _ _ _ _ _ _ _ _ _ _ _ _ _ _ _ _ _ _ _ _=P2;obtain⟨m,hm⟩:=key P2 (by
   subst hP;exact⟨by simp,rfl,by simp,p1,Qd2 q,rfl⟩)
  rw[hm,btD (g7 hj),bt (f0 hj)];cases tb1 r p q (r.drop (a+1+(j+1))) (o::os)<;>rfl
theorem Kf4{P:k9}{r:List Pln}{p:Pln}{a:Nat}(h:C1 P r p a)(j:Nat)(out:List Pt)(hj:(r.drop (a+1)).length<=j):A6 P (qc7 r j out)=.exit (ph out+1):=by
 obtain⟨x1,x2,x3,x4,x5,x6,x7,x8,x9,x10⟩:=P;obtain⟨i3,ns,gs,is,p1⟩:=h
 simp only at i3 ns gs is p1
 subst i3 ns gs is;unfold A6;have this:¬ ((j:Int)<((r.drop (a+1)).length:Int)):=by omega
 cases out with
 |nil =>
  show C8 Stp.next Stp.exit Stp.fail _ (qc7 r j [])=_;simp only[C8,qc7];rw[bfD this];rfl
 |cons o os =>
  show C9 Stp.next Stp.exit Stp.fail _ (qc7 r j (o::os))=_;simp only[C9,qc7];rw[bfD this];rfl
theorem tf3 {P : k9} {r : List Pln} {p : Pln} {a : Nat} (h : C1 P r p a) (hb : Bds r) (hr : r.length ≤ 200) (hp : Bd p) (out : List Pt) (ho : out.length ≤ 10000000) :
  ∃m,lp (A6 P) (qc7 r 0 out)=(ph (db0 r p (r.drop (a+1)) out)+1,qc7 r m (db0 r p (r.drop (a+1)) out)):=by
 have hd:(r.drop (a+1)).length<=200:=by rw[Qid];omega
 exact⟨_,(cb9 (mk:=qc7 r) (f:=λq l out=>tb1 r p q l out) (g:=λl out=>db0 r p l out) (fin:=λout=>ph out+1) (r.drop (a+1)) (λk o=>o.length<=out.length+200*k) (by omega)
  (λ_=>rfl) (λ_ _ _=>rfl) (λk o hj hi=>⟨tf2 h hb hr hp k o (by omega) hj,by
   have:=Gc5 r p (r.drop (a+1))[k] ((r.drop (a+1)).drop (k+1)) o
   rw[Qid] at this;show (tb1 r p (r.drop (a+1))[k] ((r.drop (a+1)).drop (k+1)) o).length<=out.length+200*(k+1)
   omega⟩)
  (λk o hj _=>Kf4 h k o hj) 0 out (by omega)).1⟩
@[reducible] noncomputable def xc6(r:List Pln)(j:Nat)(out:List Pt):n9:=⟨ph out,r,(j:Int),r,r,out.length,bL tX out,Zb5 out⟩
theorem tf4 {P : s8} (r : List Pln) (h : P.na2 = (r.length : Int)) (hb : Bds r) (hr : r.length ≤ 200) (a : Nat) (ha : a < r.length) (out : List Pt) (ho : out.length ≤ 40000 * a) :
  A7 P (xc6 r a out)=.next (xc6 r (a+1) (db0 r r[a] (r.drop (a+1)) out)):=by
 have hbs:Bd r[a]:=hb _ (Qih ha);have hlo:inB ((a+1:Nat):Int) (r.length+1)=true:=f0 (by omega)
 have key:∀(P2:k9),C1 P2 r r[a] a->_:=λP2 h2=>tf3 h2 hb hr hbs out (by omega)
 obtain⟨x1⟩:=P
 simp only at h
 subst h;unfold A7;cases out with
 |nil =>
  show D0 Stp.next Stp.exit Stp.fail _ (xc6 r a [])=_;simp only[D0,xc6,i5,i8,n8 ha (by omega),Int.toNat_natCast,hlo,Ya2 tP ha]
  rw[show (⟨0,r,0,r,r,0,[],[]⟩:l7)=qc7 r 0 [] from rfl]
  generalize hP:k9.mk _ _ _ _ _ _ _ _ _ _=P2;obtain⟨m,hm⟩:=key P2 (by
   subst hP;exact⟨rfl,by simp,rfl,by simp,rfl⟩)
  rw[hm,btD (g7 ha),bt (f0 ha)];cases db0 r r[a] (r.drop (a+1)) []<;>rfl
 |cons o os =>
  show D1 Stp.next Stp.exit Stp.fail _ (xc6 r a (o::os))=_;simp only[D1,xc6,i5,i8,n8 ha (by omega),Int.toNat_natCast,hlo,Ya2 tP ha]
  rw[show (⟨1,r,0,r,r,(o::os).length,bL tX (o::os),Zb5 (o::os)⟩:l7)=qc7 r 0 (o::os) from rfl]
  generalize hP:k9.mk _ _ _ _ _ _ _ _ _ _=P2;obtain⟨m,hm⟩:=key P2 (by
   subst hP;exact⟨rfl,by simp,rfl,by simp,rfl⟩)
  rw[hm,btD (g7 ha),bt (f0 ha)];cases db0 r r[a] (r.drop (a+1)) (o::os)<;>rfl
theorem Kf5{P:s8}(r:List Pln)(h:P.na2=(r.length:Int))(j:Nat)(out:List Pt)(hj:r.length<=j):A7 P (xc6 r j out)=.exit (ph out+1):=by
 obtain⟨x1⟩:=P
 simp only at h
 subst h;unfold A7;have this:¬ ((j:Int)<(r.length:Int)):=by omega
 cases out with
 |nil =>
  show D0 Stp.next Stp.exit Stp.fail _ (xc6 r j [])=_;simp only[D0,xc6];rw[bfD this];rfl
 |cons o os =>
  show D1 Stp.next Stp.exit Stp.fail _ (xc6 r j (o::os))=_;simp only[D1,xc6];rw[bfD this];rfl
theorem tf5(r:List Pln)(hb:Bds r)(hr:r.length<=200):∃m,lp (A7 ⟨(r.length:Int)⟩) (xc6 r 0 [])=(ph (cor r)+1,xc6 r m (cor r)) :=
 ⟨_,(cb9 (step:=A7 ⟨(r.length:Int)⟩) (mk:=xc6 r) (f:=λq l out=>db0 r q l out) (g:=λl out=>Gc4 r l out) (fin:=λout=>ph out+1) r (λk o=>o.length<=40000*k) (by omega)
  (λ_=>rfl) (λ_ _ _=>rfl) (λk o hj hi=>⟨tf4 r rfl hb hr k hj o hi,by
   have h1:=ld4 r r[k] (r.drop (k+1)) o (by rw[Qid];omega)
   rw[Qid] at h1;show (db0 r r[k] (r.drop (k+1)) o).length<=40000*(k+1)
   omega⟩)
  (λk o hj _=>Kf5 r rfl k o hj) 0 [] (by simp)).1⟩
theorem ld8(r:List Pln)(hb:Bds r)(hr:r.length<=200):da6 r=some (slX (cor r)):=by
 obtain⟨m,hm⟩:=tf5 r hb hr;unfold da6;simp only[i5,i8];rw[show (⟨0,r,0,r,r,0,[],[]⟩:n9)=xc6 r 0 [] from rfl,hm]
 cases cor r<;>rfl
theorem Fd8(r:List Pln)(hb:Bds r)(hr:r.length<=200):da7 r=cor r:=by unfold da7;rw[ld8 r hb hr];exact Ga7 _ (Qd1 _)
theorem Fd9(r:List Pln)(hb:Bds r)(hr:r.length<=200):da8 r=true:=by unfold da8;rw[ld8 r hb hr];exact Ta4 _ (Qd1 _)
noncomputable def slP(l:List Pln):b7×List b8:=(.sl 0 0 l.length 0,[⟨73,4,bL tP l,true,false,0⟩])
theorem xc7(l:List Pln):(one (r1L tP)).rd (slP l)=some l:=by
 show Bool.rec (motive:=λ_=>Option (List Pln)) none (some (slR tP (bL tP l) 0 l.length)) (Bool.and true (okS tP (bL tP l) 0 l.length))=_
 rw[fc2,fc3];rfl
theorem sc8{α:Type}(t:Ty α)(l:List α):(one (r1L t)).rd (eL t l,[])=some l:=by
 show Bool.rec (motive:=λ_=>Option (List α)) none (some (rt t l)) (Bool.and (Nat.beq t.es t.es) (okE t l))=_
 rw[i5,o5,Qik];rfl
noncomputable def ws:List Pln:=[⟨⟨1,0,0⟩,24⟩,⟨⟨-1,0,0⟩,24⟩,⟨⟨0,1,0⟩,24⟩,⟨⟨0,-1,0⟩,24⟩,⟨⟨0,0,1⟩,24⟩,⟨⟨0,0,-1⟩,24⟩]
theorem Df6:Bds ws:=by
 intro p hp
 have:okp p=true:=by
  have h:ws.all okp=true:=by decide
  exact Qiu.1 h p hp
 exact jc3 this
noncomputable def xd7(lo hi:V3):List Pln:=[⟨⟨1,0,0⟩,hi.x⟩,⟨⟨-1,0,0⟩,W (0-lo.x)⟩,⟨⟨0,1,0⟩,hi.y⟩,⟨⟨0,-1,0⟩,W (0-lo.y)⟩,⟨⟨0,0,1⟩,hi.z⟩,⟨⟨0,0,-1⟩,W (0-lo.z)⟩]
theorem Ye1(lo hi:V3):oc8 lo hi=some (slP (xd7 lo hi)):=rfl
theorem Df7(lo hi:V3):Pb4 lo hi=xd7 lo hi:=by unfold Pb4;rw[Ye1];exact Ga7 _ (xc7 _)
theorem Df8(lo hi:V3):yb6 lo hi=true:=by unfold yb6;rw[Ye1];exact Ta4 _ (xc7 _)
theorem Kf6:xd7 ⟨-24,-24,-24⟩ ⟨24,24,24⟩=ws:=by
 simp only[xd7,ws];rw[show W (0 - -24)=24 from by rw[Se8];rfl]
theorem tf6{l:List Pln}:Nat.beq (len (bL tP l)) 0=l.isEmpty:=by rw[S6];cases l<;>rfl
theorem Ye2(c:List Pln)(hc:c.length<=1000000000):Pb5 c=some (slP (c++ws)):=by
 unfold Pb5;simp only[Ab2,Df7,Df8,Kf6,tf6];have h6:(0+len (bL tP c))=c.length:=by rw[S6];omega
 have hw:len (bL tP ws)=6:=rfl;rw[h6,hw];have e1:Nat.ble (c.length*32) room=true:=fa0 (by omega)
 have e2:Nat.ble ((c.length+6)*32) room=true:=fa0 (by omega)
 have e3:app (app [] (bL tP c)) (bL tP ws)=bL tP (c++ws):=Ra1 tP c ws;have e4:Nat.beq c.length (len (app [] (bL tP c)))=true:=by
  rw[show app [] (bL tP c)=bL tP c from rfl,S6,Qik]
 rw[e1,e2,e3,e4];cases c with
 |nil=>rfl
 |cons p c =>
  show some (b7.sl 0 0 ((p::c).length+6) 0,[(⟨73,4,bL tP (p::c++ws),true,false,0⟩:b8)])=_;unfold slP;rw[Qib];rfl
theorem Df9(c:List Pln)(hc:c.length<=1000000000):Pb6 c=c++ws:=by unfold Pb6;rw[Ye2 c hc];exact Ga7 _ (xc7 _)
theorem Ef0(c:List Pln)(hc:c.length<=1000000000):Pb7 c=true:=by unfold Pb7;rw[Ye2 c hc];exact Ta4 _ (xc7 _)
theorem Ye3{l:List (List Pln)}{j:Nat}(h:j<l.length):gL (tLs tP) l j=l[j]:=Ya2 (tLs tP) h
theorem ee7(ls:List (List Pln))(hn:ls.length<=1000000000)(hl:ls.flatten.length<=1000000000):∃m,lp (L4 ⟨ls,ls,(ls.length:Int)⟩) ⟨0,0⟩=(1,⟨(ls.flatten.length:Int),m⟩):=by
 have h:=cb9 (step:=L4 ⟨ls,ls,(ls.length:Int)⟩) (mk:=λj (n:Nat)=>(⟨(n:Int),(j:Int)⟩:s9)) (f:=λl _ n=>n+l.length) (g:=λl n=>n+l.flatten.length) (fin:=λ_=>1) ls
  (λj n=>n+(ls.drop j).flatten.length=ls.flatten.length) hn (λ_=>rfl) (λx r a=>by simp only[List.flatten_cons,Qib];omega)
  (λj n hj hi=>by
   rw[Qim hj,List.flatten_cons,Qib] at hi;have hW:W ((n:Int)+(ls[j].length:Int))=((n+ls[j].length:Nat):Int):=by rw[ka2 (by omega) (by omega)];omega
   refine⟨?_,by show n+ls[j].length+(ls.drop (j+1)).flatten.length=_;omega⟩
   simp only[L4,R3,Int.toNat_natCast,Ye3 hj,hW,n8 hj (by omega)]
   rw[btD (g7 hj),bt (f0 hj),bfD (by omega)])
  (λj n hj _=>by
   simp only[L4,R3];rw[bfD (by omega)]) 0 0 (by simp)
 have h:=h.1;rw[Qia,Qij] at h;exact⟨_,h⟩
theorem Ye4{ls:List (List Pln)}(h:ls.flatten=[]){j:Nat}(hj:j<ls.length):ls[j]=[]:=by
 rw[List.flatten_eq_nil_iff] at h;exact h _ (Qih hj)
theorem ye9(ls:List (List Pln))(hn:ls.length<=1000000000)(hl:ls.flatten=[]):∃s,lp (E7 ⟨ls,(ls.length:Int)⟩) ⟨0,0,0,[]⟩=(1,s):=by
 have h:=cb9 (step:=E7 ⟨ls,(ls.length:Int)⟩) (mk:=λj (_:Unit)=>(⟨0,(j:Int),0,[]⟩:n5)) (f:=λ_ _ n=>n) (g:=λ_ n=>n) (fin:=λ_=>1) ls
  (λ_ _=>True) hn (λ_=>rfl) (λx r a=>rfl)
  (λj n hj hi=>by
   refine⟨?_,trivial⟩;show D2 Stp.next Stp.exit Stp.fail _ _=_;simp only[D2,Int.toNat_natCast,Ye3 hj,Ye4 hl hj,n8 hj (by omega)]
   rw[btD (g7 hj),bt (f0 hj)]
   rfl)
  (λj n hj _=>by
   show D2 Stp.next Stp.exit Stp.fail _ _=_;simp only[D2];rw[bfD (by omega)]) 0 () trivial
 exact⟨_,h.1⟩
noncomputable def Mb8(t:Nat)(d:List Pln):List (List b7):=app (bL tP d) (List.replicate (t-d.length) Pd5)
theorem Ye5(t:Nat)(d:List Pln)(h:d.length<=t):len (Mb8 t d)=t:=by
 unfold Mb8;rw[G7,n7,Qib,<- n7,S6,List.length_replicate];omega
theorem Ye6(t:Nat)(d l:List Pln)(h:d.length+l.length<=t):app (N8 (Mb8 t d) d.length) (app (bL tP l) (l0 (Mb8 t d) (d.length+len (bL tP l))))=Mb8 t (d++l):=by
 have hd:(bL tP d).length=d.length:=by rw[<- n7,S6]
 unfold Mb8;rw[S6,<- Ra1];simp only[G7,N9,O0];rw[List.take_left' hd,Qis];congr 2;rw[List.drop_append,Qin (by omega),List.nil_append,hd,List.drop_replicate,Qib]
 congr 1;omega
theorem ee8(ls:List (List Pln))(hn:ls.length<=1000000000):∃m,lp (E7 ⟨ls,(ls.length:Int)⟩) ⟨1,0,0,List.replicate ls.flatten.length Pd5⟩=(2,⟨1,m,ls.flatten.length,bL tP ls.flatten⟩):=by
 have h:=cb9 (step:=E7 ⟨ls,(ls.length:Int)⟩) (mk:=λj (d:List Pln)=>(⟨1,(j:Int),d.length,Mb8 ls.flatten.length d⟩:n5)) (f:=λl _ d=>d++l) (g:=λl d=>d++l.flatten) (fin:=λ_=>2) ls
  (λj d=>d.length+(ls.drop j).flatten.length=ls.flatten.length) hn (λ_=>by simp) (λx r a=>by simp)
  (λj d hj hi=>by
   rw[Qim hj,List.flatten_cons,Qib] at hi;refine⟨?_,by show (d++ls[j]).length+(ls.drop (j+1)).flatten.length=_;rw[Qib];omega⟩
   show D3 Stp.next Stp.exit Stp.fail _ _=_;simp only[D3,Int.toNat_natCast,Ye3 hj,n8 hj (by omega),Ab2]
   rw[Ye6 _ _ _ (by omega),Ye5 _ _ (by omega),S6,btD (g7 hj),bt (f0 hj),bt (by rw[Nat.ble_eq];omega),Qib])
  (λj d hj _=>by
   show D3 Stp.next Stp.exit Stp.fail _ _=_;simp only[D3];rw[bfD (by omega)]) 0 [] (by simp)
 have h:=h.1;rw[Qia,List.nil_append] at h;have e:Mb8 ls.flatten.length ls.flatten=bL tP ls.flatten:=by unfold Mb8;rw[Nat.sub_self,G7];simp
 rw[e] at h;exact⟨_,h⟩
theorem Ef1(ls:List (List Pln))(hn:ls.length<=1000000000)(hl:ls.flatten.length<=1000000000):Qb5 ls=some (slP (ls.flatten++ws)):=by
 have hc:u8 ls=if ls.flatten=[] then ⟨1,0,[]⟩ else ⟨2,ls.flatten.length,bL tP ls.flatten⟩:=by
  unfold u8 M1;simp only[i5,i8];obtain⟨m,hm⟩:=ee7 ls hn hl;rw[hm];by_cases h0:ls.flatten=[]
  ·obtain⟨s,hs⟩:=ye9 ls hn h0;rw[if_pos h0,hs];rw[show (⟨(ls.flatten.length:Int),m⟩:s9)=⟨0,m⟩ by rw[h0];rfl]
   rfl
  ·obtain⟨m',hm'⟩:=ee8 ls hn;rw[if_neg h0];simp only[Int.toNat_natCast];rw[hm'];have h1:0<ls.flatten.length:=List.length_pos_iff.2 h0;have e1:((ls.flatten.length:Int)==0)=false:=by rw[beq_eq_false_iff_ne];omega
   have e2:Bool.and (decide ((0:Int)<(ls.flatten.length:Int))) (Nat.ble (ls.flatten.length*32) room)=true:=by
    rw[fa0 (by omega),decide_eq_true (by omega)]
    rfl
   rw[e1,e2];rfl
 unfold Qb5;simp only[i5,o5,hc];by_cases h0:ls.flatten=[]
 ·rw[if_pos h0,h0];rfl
 ·rw[if_neg h0];generalize ls.flatten=c at *
  have e:∀(d:List Pln) (p:Pln),app (bL tP d) [[i p.n.x,i p.n.y,i p.n.z,i p.b]]=bL tP (d++[p]):=λd p=>Ra1 tP d [p]
  have c1:=e c ⟨⟨1,0,0⟩,24⟩;have c2:=e (c++[⟨⟨1,0,0⟩,24⟩]) ⟨⟨-1,0,0⟩,24⟩;have c3:=e (c++[⟨⟨1,0,0⟩,24⟩]++[⟨⟨-1,0,0⟩,24⟩]) ⟨⟨0,1,0⟩,24⟩;have c4:=e (c++[⟨⟨1,0,0⟩,24⟩]++[⟨⟨-1,0,0⟩,24⟩]++[⟨⟨0,1,0⟩,24⟩]) ⟨⟨0,-1,0⟩,24⟩;have c5:=e (c++[⟨⟨1,0,0⟩,24⟩]++[⟨⟨-1,0,0⟩,24⟩]++[⟨⟨0,1,0⟩,24⟩]++[⟨⟨0,-1,0⟩,24⟩]) ⟨⟨0,0,1⟩,24⟩;have c6:=e (c++[⟨⟨1,0,0⟩,24⟩]++[⟨⟨-1,0,0⟩,24⟩]++[⟨⟨0,1,0⟩,24⟩]++[⟨⟨0,-1,0⟩,24⟩]++[⟨⟨0,0,1⟩,24⟩]) ⟨⟨0,0,-1⟩,24⟩
  simp only at c1 c2 c3 c4 c5 c6
  simp only[c1,c2,c3,c4,c5,c6,S6,Qib,List.length_singleton];have g:∀n:Nat,n<=1000000010->(Nat.beq n n&&Nat.ble ((n+1)*32) room)=true:=λn h=>by rw[Qik,fa0 (by omega)];rfl
  rw[g _ (by omega),g _ (by omega),g _ (by omega),g _ (by omega),g _ (by omega),g _ (by omega)]
  show some (b7.sl 0 0 (c.length+1+1+1+1+1+1) 0,[(⟨73,4,bL tP _,true,false,0⟩:b8)])=_;unfold slP;rw[Qib];simp only[Qis];rfl
theorem Wf5(ls:List (List Pln))(hn:ls.length<=1000000000)(hl:ls.flatten.length<=1000000000):ib5 ls=ls.flatten++ws:=by unfold ib5;rw[Ef1 ls hn hl];exact Ga7 _ (xc7 _)
theorem Wf6(ls:List (List Pln))(hn:ls.length<=1000000000)(hl:ls.flatten.length<=1000000000):ib6 ls=true:=by unfold ib6;rw[Ef1 ls hn hl];exact Ta4 _ (xc7 _)
theorem Ef2(c:List Pln)(hc:c.length<=1000000000):ib5 [c]=c++ws:=by
 have:[c].flatten=c:=by simp
 rw[Wf5 [c] (by simp) (by rw[this];exact hc),this]
theorem Ef3(c:List Pln)(hc:c.length<=1000000000):ib6 [c]=true:=by
 have:[c].flatten=c:=by simp
 exact Wf6 [c] (by simp) (by rw[this];exact hc)
theorem Gd0(ls:List (List Pln))(hn:ls.length<=1000000000)(hl:∀c∈ls,c.length<=1000000000):cb4 ls=some (b (ls.all λc=>chk c==0),[]):=by
 have hv:∀c∈ls,cb1 c=!(chk c==0)/\cb2 c=true:=λc hc=>by
  have:Ka9 c=some (b (!(chk c==0)),[]):=by
   unfold Ka9;simp only[i5,o5,cd2 c (hl c hc),Pd9 c (hl c hc)];rfl
  unfold cb1 cb2;rw[this];exact⟨rfl,rfl⟩
 have h:=Na8 (step:=J9 ⟨ls,(ls.length:Int)⟩) (mk:=λj=>(⟨(j:Int)⟩:p8)) (c:=λc=>!(chk c==0)) (u:=1) (fin:=2) (tLs tP) ls hn
  (λj hj=>by
   have hm:=hv _ (va9 (tLs tP) hj);simp only[J9,H5,Int.toNat_natCast,i5,o5,hm.1,hm.2,n8 hj (by omega)]
   rw[btD (g7 hj),bt (f0 hj),f9,f9])
  (by simp only[J9,H5];rw[bfD (l9 (Qic _))]) 0 (Qie _)
 rw[Qia] at h;have e:(ls.any λc=>!(chk c==0))=!ls.all λc=>chk c==0:=by rw[Qii]
 unfold cb4 ja2 D7 sa0 I6;simp only[i5,i8];rw[show (⟨0⟩:p8)=⟨((0:Nat):Int)⟩ from rfl,h,e]
 cases ls.all λc=>chk c==0 with
 |true=>rfl
 |false =>
  simp only[Qiw,if_true,Qij];show sl true (sl (Nat.beq 1 1) (some (b (!(decide (((ls.findIdx λc=>!(chk c==0):Nat):Int)>=0))),[])) _) _=_
  rw[show decide (((ls.findIdx λc=>!(chk c==0):Nat):Int)>=0)=true from decide_eq_true (by omega)]
  rfl
theorem ee9(ls:List (List Pln))(hn:ls.length<=1000000000)(hl:∀c∈ls,c.length<=1000000000):ua4 ls=ls.all λc=>chk c==0:=by unfold ua4;rw[Gd0 ls hn hl];rfl
theorem fe0(ls:List (List Pln))(hn:ls.length<=1000000000)(hl:∀c∈ls,c.length<=1000000000):ua5 ls=true:=by unfold ua5;rw[Gd0 ls hn hl];rfl
theorem ld9(c:List Pln)(hc:c.length<=1000000000):ua4 [c]=(chk c==0):=by
 rw[ee9 [c] (by simp) (by simpa using hc)]
 simp
theorem md0(c:List Pln)(hc:c.length<=1000000000):ua5 [c]=true:=fe0 [c] (by simp) (by simpa using hc)
noncomputable def pos(X:List Pt)(p:Pln):Bool:=X.any λx=>decide (rm p x>0)
noncomputable def Yc2(r:List Pln):Bool:=r.all (pos (cor r))
theorem Ye7(p:Pln)(X:List Pt)(hX:X.length<=1000000000):ua7 ⟨p.n.x,p.n.y,p.n.z,p.b,X⟩=⟨1,!pos X p⟩:=by
 have hw:∀x:Pt,Ca4 ⟨x.px,x.py,x.pz,x.pw,p.n.x,p.n.y,p.n.z,p.b⟩=⟨decide (rm p x>0)⟩:=λx=>by
  show Z1.mk (decide (Ba2 p x>0))=_;rw[Pd7]
 have h:=Na8 (step:=M7 ⟨X,(X.length:Int),p.n.x,p.n.y,p.n.z,p.b⟩) (mk:=λj=>(⟨(j:Int)⟩:r5)) (c:=λx=>decide (rm p x>0)) (u:=1) (fin:=2) tX X hX
  (λj hj=>by
   simp only[M7,K0,Int.toNat_natCast,hw,n8 hj (by omega)]
   rw[btD (g7 hj),bt (f0 hj)])
  (by simp only[M7,K0];rw[bfD (l9 (Qic _))]) 0 (Qie _)
 rw[Qia] at h;unfold ua7 V6 la4 F4 wa2 L5 pos;simp only[i5,i8];rw[show (⟨0⟩:r5)=⟨((0:Nat):Int)⟩ from rfl,h]
 cases X.any λx=>decide (rm p x>0) with
 |false=>rfl
 |true =>
  simp only[if_true,Qij];show ga7.mk 1 (!(decide (((X.findIdx λx=>decide (rm p x>0):Nat):Int)>=0)))=_
  rw[show decide (((X.findIdx λx=>decide (rm p x>0):Nat):Int)>=0)=true from decide_eq_true (by omega)]
theorem ze0(r:List Pln)(hb:Bds r)(hr:r.length<=200):pa3 r=some (b (Yc2 r),[]):=by
 have hX:(cor r).length<=1000000000:=Qiy (Qd0 r hb hr) (by omega)
 have h:=Na8 (step:=K1 ⟨r,(r.length:Int)⟩) (mk:=λj=>(⟨(j:Int),cor r⟩:p9)) (c:=λp=>!pos (cor r) p) (u:=1) (fin:=2) tP r (by omega)
  (λj hj=>by
   simp only[K1,H6,Int.toNat_natCast,i5,i8,Ye7 _ _ hX,n8 hj (by omega)]
   rw[btD (g7 hj),bt (f0 hj)]
   rfl)
  (by simp only[K1,H6];rw[bfD (l9 (Qic _))]) 0 (Qie _)
 rw[Qia] at h;have e:(r.any λp=>!pos (cor r) p)=!r.all (pos (cor r)):=by rw[Qii]
 unfold pa3 ja4 D8 sa2 I7 Yc2;simp only[i5,i8,o5,Fd8 r hb hr,Fd9 r hb hr];rw[show (⟨0,cor r⟩:p9)=⟨((0:Nat):Int),cor r⟩ from rfl,h,e]
 cases r.all (pos (cor r)) with
 |true=>rfl
 |false =>
  simp only[Qiw,if_true,Qij];show some (b (!(decide (((r.findIdx λp=>!pos (cor r) p:Nat):Int)>=0))),[])=_
  rw[show decide (((r.findIdx λp=>!pos (cor r) p:Nat):Int)>=0)=true from decide_eq_true (by omega)]
  rfl
theorem Ye8(r:List Pln)(hb:Bds r)(hr:r.length<=200):pa4 r=Yc2 r:=by unfold pa4;rw[ze0 r hb hr];rfl
theorem Ye9(r:List Pln)(hb:Bds r)(hr:r.length<=200):pa5 r=true:=by unfold pa5;rw[ze0 r hb hr];rfl
theorem re8(r:List Pln)(X:List Pt)(hr:r.length<=200)(hX:X.length<=1000000000)(a:Nat)(ha:a<r.length):∃m,lp (Ga5 ⟨r,X,(a:Int)⟩) ⟨false,0⟩=(1,⟨pos X r[a],m⟩):=by
 have h:=Dc6 (step:=Ga5 ⟨r,X,(a:Int)⟩) (mk:=λj (c:Bool)=>(⟨c,(j:Int)⟩:ta7)) (f:=λc x=>c||decide (rm r[a] x>0)) (fin:=1) tX X (λ_ _=>True) hX
  (λj c hj _=>⟨by
   simp only[Ga5,Ja9,Int.toNat_natCast,cd0,n8 hj (by omega),Ya2 tP ha,f0 ha,f0 hj]
   rw[btD (g7 hj)];cases c<;>rfl,trivial⟩)
  (λc _=>by simp only[Ga5,Ja9];rw[bfD (l9 (Qic _))]) 0 (Qie _) false trivial
 have h:=h.1;rw[Qia] at h;have e:∀(l:List Pt) (c:Bool),l.foldl (λc x=>c||decide (rm r[a] x>0)) c=(c||l.any λx=>decide (rm r[a] x>0)):=by
  intro l
  induction l with
  |nil=>intro c;simp
  |cons x l ih=>intro c;rw[List.foldl_cons,ih,List.any_cons,Bool.or_assoc]
 rw[e,Bool.false_or] at h;exact⟨_,h⟩
theorem ze1(r:List Pln)(hb:Bds r)(hr:r.length<=200):Bb6 r=some (b (Yc2 r),[]):=by
 have hX:(cor r).length<=1000000000:=Qiy (Qd0 r hb hr) (by omega)
 have h:=hb9 (step:=Sa5 ⟨⟩) (mk:=λj=>(⟨r,cor r,(j:Int)⟩:ka8)) (c:=λp=>!pos (cor r) p) (u:=1) (fin:=2) tP r (by omega)
  (λj hj=>by
   obtain⟨m,hm⟩:=re8 r (cor r) hr hX j hj;simp only[Sa5,Ka0,i5,i8,hm,n8 hj (by omega),Ya2 tP hj]
   rw[btD (g7 hj)]
   rfl)
  (by simp only[Sa5,Ka0];rw[bfD (l9 (Qic _))]) 0 (Qie _)
 rw[Qia] at h;have e:(r.any λp=>!pos (cor r) p)=!r.all (pos (cor r)):=by rw[Qii]
 unfold Bb6 Yc2;simp only[i5,i8,o5,ld5 r hb hr,ld6 r hb hr];rw[show (⟨r,cor r,0⟩:ka8)=⟨r,cor r,((0:Nat):Int)⟩ from rfl,h,e]
 cases r.all (pos (cor r))<;>rfl
theorem Kf7(r:List Pln)(hb:Bds r)(hr:r.length<=200):Ub8 r=Yc2 r:=by unfold Ub8;rw[ze1 r hb hr];rfl
theorem Kf8(r:List Pln)(hb:Bds r)(hr:r.length<=200):Ub9 r=true:=by unfold Ub9;rw[ze1 r hb hr];rfl
theorem db1{c:List Pln}(h:(chk c==0)=true):Bds (c++ws)/\(c++ws).length<=200:=by
 rw[beq_iff_eq,cb8] at h;refine⟨λp hp=>?_,by rw[Qib,show ws.length=6 from rfl];omega⟩
 rcases Qiv.1 hp with hp|hp
 ·exact jc3 (h.2 p hp)
 ·exact Df6 p hp
noncomputable def pts(c:List Pln):List Pt:=if chk c==0 then cor (c++ws) else []
noncomputable def ful(c:List Pln):Bool:=(chk c==0)&&Yc2 (c++ws)
theorem fe1{c:List Pln}(hc:c.length<=1000000000):∃x,Ta2 c=some x/\(one (r1L tX)).rd x=some (pts c):=by
 unfold Ta2 pts;simp only[i5,o5,ld9 c hc,md0 c hc,Ef2 c hc,Ef3 c hc];cases h:chk c==0 with
 |false=>exact⟨_,rfl,rfl⟩
 |true =>
  obtain⟨h1,h2⟩:=db1 h;rw[Fd8 _ h1 h2,Fd9 _ h1 h2];exact⟨_,rfl,sc8 tX _⟩
theorem Gc7{c:List Pln}(hc:c.length<=1000000000):wa3 c=pts c:=by
 obtain⟨x,h1,h2⟩:=fe1 hc;unfold wa3;rw[h1];exact Ga7 _ h2
theorem Gc8{c:List Pln}(hc:c.length<=1000000000):wa4 c=true:=by
 obtain⟨x,h1,h2⟩:=fe1 hc;unfold wa4;rw[h1];exact Ta4 _ h2
theorem Gd1{c:List Pln}(hc:c.length<=1000000000):∃x,bb0 c=some x/\(one (r1L tX)).rd x=some (pts c):=by
 unfold bb0 pts;simp only[i5,o5,ee1 c hc,ee2 c hc,Df9 c hc,Ef0 c hc];have e:(chk c != 0)=!(chk c==0):=rfl;rw[e];cases h:chk c==0 with
 |false=>exact⟨_,rfl,rfl⟩
 |true =>
  obtain⟨h1,h2⟩:=db1 h;rw[ld5 _ h1 h2,ld6 _ h1 h2];exact⟨_,rfl,sc8 tX _⟩
theorem Ie8{c:List Pln}(hc:c.length<=1000000000):vb7 c=pts c:=by
 obtain⟨x,h1,h2⟩:=Gd1 hc;unfold vb7;rw[h1];exact Ga7 _ h2
theorem Ie9{c:List Pln}(hc:c.length<=1000000000):vb8 c=true:=by
 obtain⟨x,h1,h2⟩:=Gd1 hc;unfold vb8;rw[h1];exact Ta4 _ h2
theorem ze2{c:List Pln}(hc:c.length<=1000000000):pb2 c=some (b (ful c),[]):=by
 unfold pb2 ful;simp only[i5,o5,ld9 c hc,md0 c hc,Ef2 c hc,Ef3 c hc];cases h:chk c==0 with
 |false=>rfl
 |true =>
  obtain⟨h1,h2⟩:=db1 h;rw[Ye8 _ h1 h2,Ye9 _ h1 h2];rfl
theorem xc8{c:List Pln}(hc:c.length<=1000000000):na7 c=ful c:=by unfold na7;rw[ze2 hc];rfl
theorem xc9{c:List Pln}(hc:c.length<=1000000000):na8 c=true:=by unfold na8;rw[ze2 hc];rfl
theorem fe2{c:List Pln}(hc:c.length<=1000000000):Bb7 c=some (b (ful c),[]):=by
 unfold Bb7 ful;simp only[i5,o5,ee1 c hc,ee2 c hc,Df9 c hc,Ef0 c hc];cases h:chk c==0 with
 |false=>rfl
 |true =>
  obtain⟨h1,h2⟩:=db1 h;rw[Kf7 _ h1 h2,Kf8 _ h1 h2];rfl
theorem ze3{c:List Pln}(hc:c.length<=1000000000):Xa2 c=ful c:=by unfold Xa2;rw[fe2 hc];rfl
theorem ze4{c:List Pln}(hc:c.length<=1000000000):Xa3 c=true:=by unfold Xa3;rw[fe2 hc];rfl
set_option maxRecDepth 100000
structure Va6 where
 is1:Int
 m0:List Int
 d8:Int
noncomputable def Oc5:List (Nat×Sum):=[(27,Nc6)]
theorem Gc9:i7 prog G Oc5:=⟨jd7,trivial⟩
structure Va7 where
 alt:Nat
 (is0 d8:Int)
noncomputable def sa9{α:Type}(kk:Va7->α)(x:Va6):α:=let t1:=(Pb9 (gL tI x.m0 (W ((W (x.d8+1))-1)).toNat) x.is1);(sl (decide (x.d8>=(↑(List.length x.m0):Int))) (kk ⟨1,0,x.d8⟩) (sl (inB (W ((W (x.d8+1))-1)) (List.length x.m0)) (sl (Qb0 (gL tI x.m0 (W ((W (x.d8+1))-1)).toNat) x.is1) (kk ⟨1,t1,W (x.d8+1)⟩) (kk ⟨0,0,0⟩)) (kk ⟨0,0,0⟩)))
noncomputable def o3(x:Va6):Va7:=sa9 (λr=>r) x
noncomputable def ib9(x:Va6)(r:Va7):DT (b7×List b8):=(.ite (Nat.beq r.alt 1) (.ret (i r.is0,[⟨0,2,[[eL tI x.m0,i r.d8]],true,false,0⟩])) .fail)
theorem Yc3{α β:Type}(F:α->β)(kk:Va7->α)(x:Va6):F (sa9 kk x)=sa9 (λr=>F (kk r)) x:=by unfold sa9;(repeat' apply l6 (f:=F))<;>rfl
noncomputable def Fa0:Sum:=Ra9 ⟨[sPq 0,sIq],[⟨0,2,true,some [[.c 1 (nL tI),.o (.int .i64)]]⟩],λa H=>(⟨aIq a 1,hLq tI H 0 0 0,hIq H 0 0 1⟩,())⟩ (λx=>ib9 x (o3 x))
theorem Oa3:g9 prog G 68 Fa0:=J4 (enc:=λx=>⟨[.ptr 0 0 0 0,i x.is1],[⟨0,2,[[eL tI x.m0,i x.d8]],true,false,0⟩]⟩) (λa H=>by kernel_rfl) (bd b68 Gc9) λx=>v8 (Eq.trans (b:=sa9 (λr=>(ib9 x r).run) x) (by kernel_rfl) (Yc3 (λr=>(ib9 x r).run) (λr=>r) x).symm)
structure pc0 where
 is1:Int
 m0:List Int
 d8:Int
noncomputable def re9:List (Nat×Sum):=[(68,Fa0)]
theorem fe3:i7 prog G re9:=⟨Oa3,trivial⟩
structure pc1 where
 alt:Nat
 (ia5 ia6 ia7:Int)
 m0:List Int
 d8:Int
noncomputable def yb7{α:Type}(kk:pc1->α)(x:pc0):α:=let t1:=(o3 ⟨W ((W (2*x.is1))+1),rt tI x.m0,x.d8⟩);let t2:=(o3 ⟨W ((W (2*x.is1))+1),rt tI (rt tI x.m0),t1.d8⟩);let t3:=(o3 ⟨W ((W (2*x.is1))+1),rt tI (rt tI (rt tI x.m0)),t2.d8⟩);(sl ((cnE tI x.m0)&&true) (sl (Nat.beq t1.alt 1) (sl ((cnE tI (rt tI x.m0))&&true) (sl (Nat.beq t2.alt 1) (sl ((cnE tI (rt tI (rt tI x.m0)))&&true) (sl (Nat.beq t3.alt 1) (kk ⟨1,W (t1.is0-x.is1),W (t2.is0-x.is1),W (t3.is0-x.is1),rt tI (rt tI (rt tI x.m0)),t3.d8⟩) (kk ⟨0,0,0,0,[],0⟩)) (kk ⟨0,0,0,0,[],0⟩)) (kk ⟨0,0,0,0,[],0⟩)) (kk ⟨0,0,0,0,[],0⟩)) (kk ⟨0,0,0,0,[],0⟩)) (kk ⟨0,0,0,0,[],0⟩))
noncomputable def jb0(x:pc0):pc1:=yb7 (λr=>r) x
noncomputable def yc0(x:pc0)(r:pc1):DT (b7×List b8):=(.ite (Nat.beq r.alt 1) (.ret (.agg [i r.ia5,i r.ia6,i r.ia7],[⟨0,2,[[eL tI r.m0,i r.d8]],true,false,0⟩])) .fail)
theorem Je0{α β:Type}(F:α->β)(kk:pc1->α)(x:pc0):F (yb7 kk x)=yb7 (λr=>F (kk r)) x:=by unfold yb7;(repeat' apply l6 (f:=F))<;>rfl
noncomputable def Oc6:Sum:=Ra9 ⟨[sPq 0,sIq],[⟨0,2,true,some [[.c 1 (nL tI),.o (.int .i64)]]⟩],λa H=>(⟨aIq a 1,hLq tI H 0 0 0,hIq H 0 0 1⟩,())⟩ (λx=>yc0 x (jb0 x))
theorem md1:g9 prog G 69 Oc6:=J4 (enc:=λx=>⟨[.ptr 0 0 0 0,i x.is1],[⟨0,2,[[eL tI x.m0,i x.d8]],true,false,0⟩]⟩) (λa H=>by kernel_rfl) (bd b69 fe3) λx=>v8 (Eq.trans (b:=yb7 (λr=>(yc0 x r).run) x) (by kernel_rfl) (Je0 (λr=>(yc0 x r).run) (λr=>r) x).symm)
noncomputable def se0:List (Nat×Sum):=[]
theorem fe4:i7 prog G se0:=trivial
noncomputable def Oa4(x:V3)(y:V3):V3:=(⟨W (x.x-y.x),W (x.y-y.y),W (x.z-y.z)⟩:V3)
noncomputable def Oc7:Sum:=oa3 (ia0 tV) (ia0 tV) (λx y=>.ret ((one r1V).enc (Oa4 x y),[]))
theorem md2:g9 prog G 128 Oc7:=Ha8 (bd fg4 fe4) λx y=>v8 (by kernel_rfl)
noncomputable def Je1:List (Nat×Sum):=[(191,Na9)]
theorem se1:i7 prog G Je1:=⟨ab9,trivial⟩
noncomputable def jc4(x:V3):Option (b7×List b8):=(sl (decide (x.x<(-24))) (some (b false,[])) (sl (decide (x.x>24)) (some (b false,[])) (sl (decide (x.y<(-24))) (some (b false,[])) (sl (decide (x.y>24)) (some (b false,[])) (sl (decide (x.z<(-24))) (some (b false,[])) (sl (decide (x.z>24)) (some (b false,[])) (some (b true,[]))))))))
noncomputable def pb3(x:V3):Bool:=N6 (one r1B) (jc4 x)
noncomputable def pb4(x:V3):Bool:=okO (one r1B) (jc4 x)
noncomputable def Hc0:Sum:=Y0 (ia0 tV) (λx=>.guard (pb4 x) (.ret ((one r1B).enc (pb3 x),[])))
theorem Oc8:g9 prog G 162 Hc0:=Ja3 (bd gg8 se1) (one r1B) (o:=jc4) λx=>v8 (by kernel_rfl)
noncomputable def md3:List (Nat×Sum):=[(162,Hc0),(128,Oc7),(164,gc8),(163,wc9),(84,oc7)]
theorem Yc4:i7 prog G md3:=⟨Oc8,md2,Ec5,Tc5,wc6,trivial⟩
noncomputable def Ta5(x:V3)(y:V3)(z:V3):Option (b7×List b8):=let t1:=(pb3 x);let t2:=(pb3 y);let t3:=(pb3 z);let t4:=(Oa4 y x);let t5:=(Oa4 z x);let t6:=(ba1 t4 t5);let t7:=(Xa1 t6);let t8:=(Ga4 t7.1 x);(sl (pb4 x) (sl (!t1) (some (.tup [.agg [i 0,i 0,i 0,i 0],b false],[])) (sl (pb4 y) (sl (!t2) (some (.tup [.agg [i 0,i 0,i 0,i 0],b false],[])) (sl (pb4 z) (sl (!t3) (some (.tup [.agg [i 0,i 0,i 0,i 0],b false],[])) (sl (Bb5 t6) (sl (t7.2==0) (some (.tup [.agg [i 0,i 0,i 0,i 0],b false],[])) (some (.tup [.agg [i t7.1.x,i t7.1.y,i t7.1.z,i t8],b true],[]))) none)) none)) none)) none)
noncomputable def wa5(x:V3)(y:V3)(z:V3):Pln×Bool:=N6 (two r1P r1B) (Ta5 x y z)
noncomputable def wa6(x:V3)(y:V3)(z:V3):Bool:=okO (two r1P r1B) (Ta5 x y z)
noncomputable def lb5:Sum:=Wc7 (ia0 tV) (ia0 tV) (ia0 tV) (λx y z=>.guard (wa6 x y z) (.ret ((two r1P r1B).enc (wa5 x y z),[])))
theorem Cb6:g9 prog G 107 lb5:=Se4 (bd dg8 Yc4) (two r1P r1B) (o:=Ta5) λx y z=>v8 (by kernel_rfl)
noncomputable def fe5:List (Nat×Sum):=[(68,Fa0),(69,Oc6),(107,lb5),(27,Nc6)]
theorem Qd4:i7 prog G fe5:=⟨Oa3,md1,Cb6,jd7,trivial⟩
noncomputable def Xa5(x:List Int):Option (b7×List b8):=let t1:=(o3 ⟨8,rt tI x,0⟩);let t2:=(o3 ⟨17,rt tI (rt tI x),t1.d8⟩);let t3:=(jb0 ⟨8,rt tI (rt tI (rt tI x)),t2.d8⟩);let t4:=(jb0 ⟨8,rt tI t3.m0,t3.d8⟩);let t5:=(jb0 ⟨8,rt tI t4.m0,t4.d8⟩);let t6:=(wa5 (⟨t3.ia5,t3.ia6,t3.ia7⟩:V3) (⟨t4.ia5,t4.ia6,t4.ia7⟩:V3) (⟨t5.ia5,t5.ia6,t5.ia7⟩:V3));let t7:=(Pb9 (W (t2.is0-8)) 3);let w0:Option (b7×List b8):=(sl (Qb0 (W (t2.is0-8)) 3) (sl (t7==1) (some (.agg [i 0,i (W (1-(W (2*(Int.tmod t1.is0 2))))),i 0,i (W (t2.is0-8))],[])) (sl (t7==2) (some (.agg [i 0,i 0,i (W (1-(W (2*(Int.tmod t1.is0 2))))),i (W (t2.is0-8))],[])) (some (.agg [i (W (1-(W (2*(Int.tmod t1.is0 2))))),i 0,i 0,i (W (t2.is0-8))],[])))) none);(sl ((cnE tI x)&&true) (sl (Nat.beq t1.alt 1) (sl ((cnE tI (rt tI x))&&true) (sl (Nat.beq t2.alt 1) (sl ((cnE tI (rt tI (rt tI x)))&&true) (sl (Nat.beq t3.alt 1) (sl ((cnE tI t3.m0)&&true) (sl (Nat.beq t4.alt 1) (sl ((cnE tI t4.m0)&&true) (sl (Nat.beq t5.alt 1) (sl (wa6 (⟨t3.ia5,t3.ia6,t3.ia7⟩:V3) (⟨t4.ia5,t4.ia6,t4.ia7⟩:V3) (⟨t5.ia5,t5.ia6,t5.ia7⟩:V3)) (sl (decide (t1.is0>1)) (sl t6.2 (some (.agg [i t6.1.n.x,i t6.1.n.y,i t6.1.n.z,i t6.1.b],[])) w0) w0) none) none) none) none) none) none) none) none) none) none) none)
noncomputable def Cb7(x:List Int):Pln:=N6 (one r1P) (Xa5 x)
noncomputable def Vb8(x:List Int):Bool:=okO (one r1P) (Xa5 x)
noncomputable def md4:Sum:=Y0 (P0 tI) (λx=>.guard (Vb8 x) (.ret ((one r1P).enc (Cb7 x),[])))
theorem fe6:g9 prog G 51 md4:=Ja3 (bd b51 Qd4) (one r1P) (o:=Xa5) λx=>v8 (by kernel_rfl)
noncomputable def fe7:List (Nat×Sum):=[(128,Oc7)]
theorem Qd5:i7 prog G fe7:=⟨md2,trivial⟩
noncomputable def jb1(x:Pln):Pln:=let t1:=(Oa4 (⟨0,0,0⟩:V3) x.n);(⟨t1,W (0-x.b)⟩:Pln)
noncomputable def md5:Sum:=Y0 (ia0 tP) (λx=>.ret ((one r1P).enc (jb1 x),[]))
theorem fe8:g9 prog G 73 md5:=Hb9 (bd b73 Qd5) λx=>v8 (by kernel_rfl)
noncomputable def fe9:List (Nat×Sum):=[(156,hc7),(162,Hc0),(84,oc7)]
theorem Qd6:i7 prog G fe9:=⟨Ec9,Oc8,wc6,trivial⟩
noncomputable def Xa6(x:Pln)(y:V3):Option (b7×List b8):=let t1:=(nb4 x);let t2:=(pb3 y);let t3:=(Ga4 x.n y);(sl (nb5 x) (sl (!t1) (some (i 0,[])) (sl (pb4 y) (sl (!t2) (some (i 0,[])) (sl (decide ((W (t3-x.b))<0)) (some (i (-1),[])) (sl (decide ((W (t3-x.b))>0)) (some (i 1,[])) (some (i 0,[]))))) none)) none)
noncomputable def jb2(x:Pln)(y:V3):Int:=N6 (one r1I) (Xa6 x y)
noncomputable def Vb9(x:Pln)(y:V3):Bool:=okO (one r1I) (Xa6 x y)
noncomputable def yc1:Sum:=oa3 (ia0 tP) (ia0 tV) (λx y=>.guard (Vb9 x y) (.ret ((one r1I).enc (jb2 x y),[])))
theorem Uc0:g9 prog G 135 yc1:=mb9 (bd fg5 Qd6) (one r1I) (o:=Xa6) λx y=>v8 (by kernel_rfl)
noncomputable def jc5:List (Nat×Sum):=[]
theorem Yc5:i7 prog G jc5:=trivial
structure Fa1 where
 (f7 d8 f8 i9 W9 X0 X1 da5:Int)
structure U2 where
 is7:Int
noncomputable def Qb8(p:Fa1)(s:U2):St:=⟨ra 5 (.ptr 0 0 0 0::.ptr 1 0 0 0::i s.is7::ra 42 []),[⟨0,4,[[i p.f7,i p.d8,i p.f8,i p.i9]],true,false,0⟩,⟨0,4,[[i p.W9,i p.X0,i p.X1,i p.da5]],true,false,0⟩]⟩
noncomputable def Z3{α:Type}(k:U2->α)(e:Nat->α)(z:α)(p:Fa1)(s:U2):α:=(sl (decide (s.is7<4)) (sl (inB s.is7 4) (sl ((Nat.ble ((0+(s.is7.toNat*1))+1) 4)&&(ra7 [CK.int .i64] (l0 [i p.f7,i p.d8,i p.f8,i p.i9] (0+(s.is7.toNat*1))))) (sl (inB s.is7 4) (sl ((Nat.ble ((0+(s.is7.toNat*1))+1) 4)&&(ra7 [CK.int .i64] (l0 [i p.W9,i p.X0,i p.X1,i p.da5] (0+(s.is7.toNat*1))))) (sl (decide ((toI (hdA (l0 [i p.f7,i p.d8,i p.f8,i p.i9] (0+(s.is7.toNat*1)))))<(toI (hdA (l0 [i p.W9,i p.X0,i p.X1,i p.da5] (0+(s.is7.toNat*1))))))) (e 1) (sl (inB s.is7 4) (sl ((Nat.ble ((0+(s.is7.toNat*1))+1) 4)&&(ra7 [CK.int .i64] (l0 [i p.f7,i p.d8,i p.f8,i p.i9] (0+(s.is7.toNat*1))))) (sl (inB s.is7 4) (sl ((Nat.ble ((0+(s.is7.toNat*1))+1) 4)&&(ra7 [CK.int .i64] (l0 [i p.W9,i p.X0,i p.X1,i p.da5] (0+(s.is7.toNat*1))))) (sl (decide ((toI (hdA (l0 [i p.f7,i p.d8,i p.f8,i p.i9] (0+(s.is7.toNat*1)))))>(toI (hdA (l0 [i p.W9,i p.X0,i p.X1,i p.da5] (0+(s.is7.toNat*1))))))) (e 2) (k ⟨W (s.is7+1)⟩)) z) z) z) z)) z) z) z) z) (e 3))
noncomputable def L6(p:Fa1)(s:U2):Stp U2:=Z3 .next .exit .fail p s
noncomputable def tb2:Lo Fa1 U2:=⟨En jc5,0,Cf4,[1,1,1,0,1,4,4],[5,6,7],.p,[⟨ru2 5 (sPq 0::sPq 1::sIq::ru2 42 []),[⟨0,4,true,some [kLq 4]⟩,⟨0,4,true,some [kLq 4]⟩],λa H=>(⟨hIq H 0 0 0,hIq H 0 0 1,hIq H 0 0 2,hIq H 0 0 3,hIq H 1 0 0,hIq H 1 0 1,hIq H 1 0 2,hIq H 1 0 3⟩,⟨aIq a 7⟩)⟩],L6,[(none,λp s=>⟨[i (-1)],[]⟩),(none,λp s=>⟨[i 1],[]⟩),(some 0,λp s=>upq (Qb8 p s) [(32,i s.is7),(33,b (decide (s.is7<4)))])],Qb8⟩
theorem Oc9:tb2.Ok:=Lo.ok [] (by kernel_rfl) .nil rfl (.cons (λa H=>by kernel_rfl) .nil) λp s=>(.of @Z3 (λF _ _ _ _ _=>by unfold Z3;(repeat' apply l6 (f:=F))<;>rfl) (by kernel_rfl))
noncomputable def wa7(x:Pln)(y:Pln):Option (b7×List b8):=let t1:=(lp (L6 (⟨x.n.x,x.n.y,x.n.z,x.b,y.n.x,y.n.y,y.n.z,y.b⟩:Fa1)) (⟨0⟩:U2));(sl (Nat.beq t1.1 1) (some (i (-1),[])) (sl (Nat.beq t1.1 2) (some (i 1,[])) (sl (Nat.beq t1.1 3) (some (i 0,[])) none)))
noncomputable def fa5(x:Pln)(y:Pln):Int:=N6 (one r1I) (wa7 x y)
noncomputable def lb6(x:Pln)(y:Pln):Bool:=okO (one r1I) (wa7 x y)
noncomputable def Mb9:Sum:=oa3 (ia0 tP) (ia0 tP) (λx y=>.guard (lb6 x y) (.ret ((one r1I).enc (fa5 x y),[])))
theorem jc6:g9 prog G 182 Mb9:=mb9 (bd ig4 Yc5) (one r1I) (o:=wa7) λx y=>wa1 (.s .p (.s .p (.s .p (.s (.s .p (.b (.u tb2.ls))) .p)))) [tb2.pr] (by kernel_rfl) (.cons Oc9 .nil) (by kernel_rfl)
noncomputable def pb5:List (Nat×Sum):=[(107,lb5),(135,yc1)]
theorem Qd7:i7 prog G pb5:=⟨Cb6,Uc0,trivial⟩
structure Ca6 where
 g8:List V3
 (is3 is4 is5:Int)
 bs7:Bool
 (f7 d8 f8 i9:Int)
structure la6 where
 is8:Int
noncomputable def Nb0(p:Ca6)(s:la6):St:=⟨eL tV p.g8::.unk::.unk::i p.is3::i p.is4::i p.is5::.ptr 0 0 0 0::b p.bs7::i s.is8::ra 48 [],[⟨0,4,[[i p.f7,i p.d8,i p.f8,i p.i9]],true,false,0⟩]⟩
noncomputable def ga9{α:Type}(k:la6->α)(e:Nat->α)(z:α)(p:Ca6)(s:la6):α:=let t1:=(jb2 (⟨(⟨p.f7,p.d8,p.f8⟩:V3),p.i9⟩:Pln) (gL tV p.g8 s.is8.toNat));(sl (decide (s.is8<(↑(List.length p.g8):Int))) (sl p.bs7 (sl (inB s.is8 (List.length p.g8)) (sl (Vb9 (⟨(⟨p.f7,p.d8,p.f8⟩:V3),p.i9⟩:Pln) (gL tV p.g8 s.is8.toNat)) (sl (t1 != 0) (e 1) (k ⟨W (s.is8+1)⟩)) z) z) (e 2)) (e 3))
noncomputable def E8(p:Ca6)(s:la6):Stp la6:=ga9 .next .exit .fail p s
noncomputable def Wb0:Lo Ca6 la6:=⟨En pb5,0,We3,[1,0,1,4,4,1,0,4,1,4,4,1,0,4,1,4,4,1,0,4,1,1,4,4],[0,3,4,5,6,7,8],.p,[⟨sLq tV::sUq::sUq::sIq::sIq::sIq::sPq 0::sBq::sIq::ru2 48 [],[⟨0,4,true,some [kLq 4]⟩],λa H=>(⟨aLq tV a 0,aIq a 3,aIq a 4,aIq a 5,aBq a 7,hIq H 0 0 0,hIq H 0 0 1,hIq H 0 0 2,hIq H 0 0 3⟩,⟨aIq a 8⟩)⟩],E8,[(none,λp s=>⟨[b false],[]⟩),(some 6,λp s=>upq (Nb0 p s) [(41,i s.is8),(42,eL tV p.g8),(43,i (↑(List.length p.g8):Int)),(44,b (decide (s.is8<(↑(List.length p.g8):Int)))),(45,b true),(46,b p.bs7),(47,b p.bs7)]),(some 6,λp s=>upq (Nb0 p s) [(41,i s.is8),(42,eL tV p.g8),(43,i (↑(List.length p.g8):Int)),(44,b (decide (s.is8<(↑(List.length p.g8):Int)))),(45,b false),(46,u),(47,b false)])],Nb0⟩
theorem xd8:Wb0.Ok:=Lo.ok [] (by kernel_rfl) .nil rfl (.cons (λa H=>by kernel_rfl) .nil) λp s=>(.of @ga9 (λF _ _ _ _ _=>by unfold ga9;(repeat' apply l6 (f:=F))<;>rfl) (by kernel_rfl))
structure db2 where
 (is3 is4:Int)
structure la7 where
 g8:List V3
 is5:Int
noncomputable def sc9(p:db2)(s:la7):St:=⟨eL tV s.g8::.unk::.unk::i p.is3::i p.is4::i s.is5::ra 51 [],[]⟩
noncomputable def pa6{α:Type}(k:la7->α)(e:Nat->α)(z:α)(p:db2)(s:la7):α:=let t1:=(wa5 (gL tV s.g8 p.is3.toNat) (gL tV s.g8 p.is4.toNat) (gL tV s.g8 s.is5.toNat));let t2:=(lp (E8 (⟨rt tV s.g8,p.is3,p.is4,s.is5,t1.2,t1.1.n.x,t1.1.n.y,t1.1.n.z,t1.1.b⟩:Ca6)) (⟨0⟩:la6));(sl (decide (s.is5<p.is4)) (sl (inB p.is3 (List.length s.g8)) (sl (inB p.is4 (List.length s.g8)) (sl (inB s.is5 (List.length s.g8)) (sl (wa6 (gL tV s.g8 p.is3.toNat) (gL tV s.g8 p.is4.toNat) (gL tV s.g8 s.is5.toNat)) (sl ((cnE tV s.g8)&&true) (sl (Nat.beq t2.1 1) (e 1) (sl (Nat.beq t2.1 2) (k ⟨rt tV s.g8,W (s.is5+1)⟩) (sl (Nat.beq t2.1 3) (k ⟨rt tV s.g8,W (s.is5+1)⟩) z))) z) z) z) z) z) (e 2))
noncomputable def X4(p:db2)(s:la7):Stp la7:=pa6 .next .exit .fail p s
noncomputable def Wb1:Lo db2 la7:=⟨En pb5,0,We3,[1,0,1,4,4,1,0,4,1,4,4,1,0,4,1,4,4],[0,3,4,5],.s .p (.s (.b (.s .p (.s .p (.b (.u Wb0.ls))))) .p),[⟨sLq tV::sUq::sUq::sIq::sIq::sIq::ru2 51 [],[],λa H=>(⟨aIq a 3,aIq a 4⟩,⟨aLq tV a 0,aIq a 5⟩)⟩],X4,[(none,λp s=>⟨[b false],[]⟩),(some 4,λp s=>upq (sc9 p s) [(20,i s.is5),(21,i p.is4),(22,b (decide (s.is5<p.is4)))])],sc9⟩
theorem xd9:Wb1.Ok:=Lo.ok [Wb0.pr] (by kernel_rfl) (.cons xd8 .nil) rfl (.cons (λa H=>by kernel_rfl) .nil) λp s=>(.of @pa6 (λF _ _ _ _ _=>by unfold pa6;(repeat' apply l6 (f:=F))<;>rfl) (by kernel_rfl))
structure db3 where
 is3:Int
structure la8 where
 g8:List V3
 is4:Int
noncomputable def tc0(p:db3)(s:la8):St:=⟨eL tV s.g8::.unk::.unk::i p.is3::i s.is4::ra 52 [],[]⟩
noncomputable def pa7{α:Type}(k:la8->α)(e:Nat->α)(z:α)(p:db3)(s:la8):α:=let t1:=(lp (X4 (⟨p.is3,s.is4⟩:db2)) (⟨rt tV s.g8,0⟩:la7));(sl (decide (s.is4<p.is3)) (sl ((cnE tV s.g8)&&true) (sl (Nat.beq t1.1 1) (e 1) (sl (Nat.beq t1.1 2) (k ⟨t1.2.g8,W (s.is4+1)⟩) z)) z) (e 2))
noncomputable def X5(p:db3)(s:la8):Stp la8:=pa7 .next .exit .fail p s
noncomputable def Wb2:Lo db3 la8:=⟨En pb5,0,We3,[1,0,1,4,4,1,0,4,1,4,4],[0,3,4],.s .p (.s (.b (.s .p (.b (.u Wb1.ls)))) .p),[⟨sLq tV::sUq::sUq::sIq::sIq::ru2 52 [],[],λa H=>(⟨aIq a 3⟩,⟨aLq tV a 0,aIq a 4⟩)⟩],X5,[(none,λp s=>⟨[b false],[]⟩),(some 2,λp s=>upq (tc0 p s) [(15,i s.is4),(16,i p.is3),(17,b (decide (s.is4<p.is3)))])],tc0⟩
theorem yd0:Wb2.Ok:=Lo.ok [Wb1.pr] (by kernel_rfl) (.cons xd9 .nil) rfl (.cons (λa H=>by kernel_rfl) .nil) λp s=>(.of @pa7 (λF _ _ _ _ _=>by unfold pa7;(repeat' apply l6 (f:=F))<;>rfl) (by kernel_rfl))
structure db4 where
structure la9 where
 g8:List V3
 is3:Int
noncomputable def tc1(p:db4)(s:la9):St:=⟨eL tV s.g8::.unk::.unk::i s.is3::ra 53 [],[]⟩
noncomputable def pa8{α:Type}(k:la9->α)(e:Nat->α)(z:α)(p:db4)(s:la9):α:=let t1:=(lp (X5 (⟨s.is3⟩:db3)) (⟨rt tV s.g8,0⟩:la8));(sl (decide (s.is3<(↑(List.length s.g8):Int))) (sl ((cnE tV s.g8)&&true) (sl (Nat.beq t1.1 1) (e 1) (sl (Nat.beq t1.1 2) (k ⟨t1.2.g8,W (s.is3+1)⟩) z)) z) (e 2))
noncomputable def X6(p:db4)(s:la9):Stp la9:=pa8 .next .exit .fail p s
noncomputable def Wb3:Lo db4 la9:=⟨En pb5,0,We3,[1,0,1,4,4],[0,3],.s .p (.s (.b (.s .p (.b (.u Wb2.ls)))) .p),[⟨sLq tV::sUq::sUq::sIq::ru2 53 [],[],λa H=>(⟨⟩,⟨aLq tV a 0,aIq a 3⟩)⟩],X6,[(none,λp s=>⟨[b false],[]⟩),(some 0,λp s=>upq (tc1 p s) [(9,i s.is3),(10,eL tV s.g8),(11,i (↑(List.length s.g8):Int)),(12,b (decide (s.is3<(↑(List.length s.g8):Int))))])],tc1⟩
theorem yd1:Wb3.Ok:=Lo.ok [Wb2.pr] (by kernel_rfl) (.cons yd0 .nil) rfl (.cons (λa H=>by kernel_rfl) .nil) λp s=>(.of @pa8 (λF _ _ _ _ _=>by unfold pa8;(repeat' apply l6 (f:=F))<;>rfl) (by kernel_rfl))
noncomputable def Xa7(x:List V3):Option (b7×List b8):=let t1:=(lp (X6 (⟨⟩:db4)) (⟨rt tV x,0⟩:la9));(sl ((cnE tV x)&&true) (sl (Nat.beq t1.1 1) (some (b false,[])) (sl (Nat.beq t1.1 2) (some (b true,[])) none)) none)
noncomputable def Xa8(x:List V3):Bool:=N6 (one r1B) (Xa7 x)
noncomputable def jb3(x:List V3):Bool:=okO (one r1B) (Xa7 x)
noncomputable def yc2:Sum:=Y0 (P0 tV) (λx=>.guard (jb3 x) (.ret ((one r1B).enc (Xa8 x),[])))
theorem Uc1:g9 prog G 78 yc2:=Ja3 (bd b78 Qd7) (one r1B) (o:=Xa7) λx=>wa1 (.s .p (.s (.s .p (.b (.u Wb3.ls))) .p)) [Wb3.pr] (by kernel_rfl) (.cons yd1 .nil) (by kernel_rfl)
noncomputable def Hc1:List (Nat×Sum):=[(162,Hc0),(78,yc2)]
theorem yd2:i7 prog G Hc1:=⟨Oc8,Uc1,trivial⟩
structure Ta6 where
 g8:List V3
structure S7 where
 is3:Int
noncomputable def jc7(p:Ta6)(s:S7):St:=⟨eL tV p.g8::.unk::.unk::i s.is3::ra 17 [],[]⟩
noncomputable def ja5{α:Type}(k:S7->α)(e:Nat->α)(z:α)(p:Ta6)(s:S7):α:=let t1:=(pb3 (gL tV p.g8 s.is3.toNat));(sl (decide (s.is3<(↑(List.length p.g8):Int))) (sl (inB s.is3 (List.length p.g8)) (sl (pb4 (gL tV p.g8 s.is3.toNat)) (sl (!t1) (e 1) (k ⟨W (s.is3+1)⟩)) z) z) (e 2))
noncomputable def ha0(p:Ta6)(s:S7):Stp S7:=ja5 .next .exit .fail p s
noncomputable def Nb1:Lo Ta6 S7:=⟨En Hc1,0,Bf3,[1,1,0,1,4,4],[0,3],.p,[⟨sLq tV::sUq::sUq::sIq::ru2 17 [],[],λa H=>(⟨aLq tV a 0⟩,⟨aIq a 3⟩)⟩],ha0,[(none,λp s=>⟨[i 3],[]⟩),(some 0,λp s=>upq (jc7 p s) [(7,i s.is3),(8,eL tV p.g8),(9,i (↑(List.length p.g8):Int)),(10,b (decide (s.is3<(↑(List.length p.g8):Int))))])],jc7⟩
theorem md6:Nb1.Ok:=Lo.ok [] (by kernel_rfl) .nil rfl (.cons (λa H=>by kernel_rfl) .nil) λp s=>(.of @ja5 (λF _ _ _ _ _=>by unfold ja5;(repeat' apply l6 (f:=F))<;>rfl) (by kernel_rfl))
noncomputable def La4(x:List V3):Option (b7×List b8):=let t1:=(lp (ha0 (⟨rt tV x⟩:Ta6)) (⟨0⟩:S7));let t2:=(Xa8 (rt tV (rt tV x)));(sl (decide ((↑(List.length x):Int)>48)) (some (i 2,[])) (sl ((cnE tV x)&&true) (sl (Nat.beq t1.1 1) (some (i 3,[])) (sl (Nat.beq t1.1 2) (sl (okE tV (rt tV x)) (sl (jb3 (rt tV (rt tV x))) (sl t2 (some (i 11,[])) (some (i 0,[]))) none) none) none)) none))
noncomputable def pb6(x:List V3):Int:=N6 (one r1I) (La4 x)
noncomputable def jc8(x:List V3):Bool:=okO (one r1I) (La4 x)
noncomputable def Uc2:Sum:=Y0 (P0 tV) (λx=>.guard (jc8 x) (.ret ((one r1I).enc (pb6 x),[])))
theorem Qd8:g9 prog G 125 Uc2:=Ja3 (bd fg1 yd2) (one r1I) (o:=La4) λx=>wa1 (.s .p (.s .p (.s (.s .p (.b (.u Nb1.ls))) .p))) [Nb1.pr] (by kernel_rfl) (.cons md6 .nil) (by kernel_rfl)
noncomputable def Hc2:List (Nat×Sum):=[(135,yc1)]
theorem yd3:i7 prog G Hc2:=⟨Uc0,trivial⟩
structure Ta7 where
 Kb3:List V3
 (f7 d8 f8 i9:Int)
structure S8 where
 is5:Int
noncomputable def jc9(p:Ta7)(s:S8):St:=⟨.unk::eL tV p.Kb3::.ptr 0 0 0 0::.unk::.unk::i s.is5::ra 13 [],[⟨0,4,[[i p.f7,i p.d8,i p.f8,i p.i9]],true,false,0⟩]⟩
noncomputable def ja6{α:Type}(k:S8->α)(e:Nat->α)(z:α)(p:Ta7)(s:S8):α:=let t1:=(jb2 (⟨(⟨p.f7,p.d8,p.f8⟩:V3),p.i9⟩:Pln) (gL tV p.Kb3 s.is5.toNat));(sl (decide (s.is5<(↑(List.length p.Kb3):Int))) (sl (inB s.is5 (List.length p.Kb3)) (sl (Vb9 (⟨(⟨p.f7,p.d8,p.f8⟩:V3),p.i9⟩:Pln) (gL tV p.Kb3 s.is5.toNat)) (sl (decide (t1>0)) (e 1) (k ⟨W (s.is5+1)⟩)) z) z) (e 2))
noncomputable def ha3(p:Ta7)(s:S8):Stp S8:=ja6 .next .exit .fail p s
noncomputable def Nb2:Lo Ta7 S8:=⟨En Hc2,0,Bf4,[1,0,1,4,4],[1,2,5],.p,[⟨sUq::sLq tV::sPq 0::sUq::sUq::sIq::ru2 13 [],[⟨0,4,true,some [kLq 4]⟩],λa H=>(⟨aLq tV a 1,hIq H 0 0 0,hIq H 0 0 1,hIq H 0 0 2,hIq H 0 0 3⟩,⟨aIq a 5⟩)⟩],ha3,[(none,λp s=>⟨[b false],[]⟩),(some 0,λp s=>upq (jc9 p s) [(6,i s.is5),(7,eL tV p.Kb3),(8,i (↑(List.length p.Kb3):Int)),(9,b (decide (s.is5<(↑(List.length p.Kb3):Int))))])],jc9⟩
theorem md7:Nb2.Ok:=Lo.ok [] (by kernel_rfl) .nil rfl (.cons (λa H=>by kernel_rfl) .nil) λp s=>(.of @ja6 (λF _ _ _ _ _=>by unfold ja6;(repeat' apply l6 (f:=F))<;>rfl) (by kernel_rfl))
noncomputable def La5(x:Pln)(y:List V3):Option (b7×List b8):=let t1:=(lp (ha3 (⟨rt tV y,x.n.x,x.n.y,x.n.z,x.b⟩:Ta7)) (⟨0⟩:S8));(sl ((cnE tV y)&&true) (sl (Nat.beq t1.1 1) (some (b false,[])) (sl (Nat.beq t1.1 2) (some (b true,[])) none)) none)
noncomputable def Ba4(x:Pln)(y:List V3):Bool:=N6 (one r1B) (La5 x y)
noncomputable def na9(x:Pln)(y:List V3):Bool:=okO (one r1B) (La5 x y)
noncomputable def Uc3:Sum:=oa3 (ia0 tP) (P0 tV) (λx y=>.guard (na9 x y) (.ret ((one r1B).enc (Ba4 x y),[])))
theorem Qd9:g9 prog G 126 Uc3:=mb9 (bd fg2 yd3) (one r1B) (o:=La5) λx y=>wa1 (.s .p (.s (.s .p (.b (.u Nb2.ls))) .p)) [Nb2.pr] (by kernel_rfl) (.cons md7 .nil) (by kernel_rfl)
noncomputable def md8:List (Nat×Sum):=[(182,Mb9)]
theorem ge0:i7 prog G md8:=⟨jc6,trivial⟩
structure pb7 where
 b9:List Pln
 (f7 d8 f8 i9:Int)
structure ha4 where
 is5:Int
noncomputable def Hc3(p:pb7)(s:ha4):St:=⟨eL tP p.b9::.unk::.unk::.ptr 0 0 0 0::.unk::i s.is5::ra 42 [],[⟨0,4,[[i p.f7,i p.d8,i p.f8,i p.i9]],true,false,0⟩]⟩
noncomputable def wa8{α:Type}(k:ha4->α)(e:Nat->α)(z:α)(p:pb7)(s:ha4):α:=let t1:=(fa5 (gL tP p.b9 s.is5.toNat) (⟨(⟨p.f7,p.d8,p.f8⟩:V3),p.i9⟩:Pln));(sl (decide (s.is5<(↑(List.length p.b9):Int))) (sl (inB s.is5 (List.length p.b9)) (sl (lb6 (gL tP p.b9 s.is5.toNat) (⟨(⟨p.f7,p.d8,p.f8⟩:V3),p.i9⟩:Pln)) (sl (decide (t1<0)) (k ⟨W (s.is5+1)⟩) (e 1)) z) z) (e 2))
noncomputable def fa6(p:pb7)(s:ha4):Stp ha4:=wa8 .next .exit .fail p s
noncomputable def kc0:Lo pb7 ha4:=⟨En md8,0,Bf5,[1,1,0,4,4],[0,3,5],.p,[⟨sLq tP::sUq::sUq::sPq 0::sUq::sIq::ru2 42 [],[⟨0,4,true,some [kLq 4]⟩],λa H=>(⟨aLq tP a 0,hIq H 0 0 0,hIq H 0 0 1,hIq H 0 0 2,hIq H 0 0 3⟩,⟨aIq a 5⟩)⟩],fa6,[(some 0,λp s=>let t1:=(fa5 (gL tP p.b9 s.is5.toNat) (⟨(⟨p.f7,p.d8,p.f8⟩:V3),p.i9⟩:Pln));⟨eL tP p.b9::.unk::.unk::.ptr 0 0 0 0::.unk::i s.is5::.unk::i s.is5::eL tP p.b9::i (↑(List.length p.b9):Int)::b (decide (s.is5<(↑(List.length p.b9):Int)))::b true::eL tP p.b9::i s.is5::.tptr [i (gL tP p.b9 s.is5.toNat).n.x,i (gL tP p.b9 s.is5.toNat).n.y,i (gL tP p.b9 s.is5.toNat).n.z,i (gL tP p.b9 s.is5.toNat).b]::.agg [i (gL tP p.b9 s.is5.toNat).n.x,i (gL tP p.b9 s.is5.toNat).n.y,i (gL tP p.b9 s.is5.toNat).n.z,i (gL tP p.b9 s.is5.toNat).b]::.agg [i p.f7,i p.d8,i p.f8,i p.i9]::i t1::b (decide (t1<0))::b (decide (t1<0))::ra 28 [],[⟨0,4,[[i p.f7,i p.d8,i p.f8,i p.i9]],true,false,0⟩]⟩),(some 0,λp s=>upq (Hc3 p s) [(7,i s.is5),(8,eL tP p.b9),(9,i (↑(List.length p.b9):Int)),(10,b (decide (s.is5<(↑(List.length p.b9):Int)))),(11,b false),(12,u),(13,u),(14,u),(15,u),(16,u),(17,u),(18,u),(19,b false)])],Hc3⟩
theorem Rd0:kc0.Ok:=Lo.ok [] (by kernel_rfl) .nil rfl (.cons (λa H=>by kernel_rfl) .nil) λp s=>(.of @wa8 (λF _ _ _ _ _=>by unfold wa8;(repeat' apply l6 (f:=F))<;>rfl) (by kernel_rfl))
noncomputable def jb4(x:List Pln)(y:Pln):Option (b7×List b8):=let t1:=(lp (fa6 (⟨rt tP x,y.n.x,y.n.y,y.n.z,y.b⟩:pb7)) (⟨0⟩:ha4));let a0:=(o8 (λk=>(λk=>(tP).row (gL tP (rt tP x) k)) (0+k)) (List.range (t1.2.is5.toNat-0)));let a1:=(o8 (λk=>(λk=>(tP).row (gL tP (rt tP x) k)) (t1.2.is5.toNat+k)) (List.range ((List.length (rt tP x))-t1.2.is5.toNat)));let a2:=(inB t1.2.is5 ((List.length (rt tP x))+1));let a3:=(Nat.beq (0+(len a0)) (len (app [] a0))&&Nat.ble (((0+(len a0))+1)*32) room);let a4:=(((0+(len a0))+1)+(len a1));let a5:=(gL tP (rt tP x) t1.2.is5.toNat);let a6:=(Nat.beq 1 1&&Nat.ble ((1+(len a1))*32) room);let a7:=(Nat.beq 0 0&&Nat.ble ((0+(len a0))*32) room);let w0:Option (b7×List b8):=(sl a2 (sl (Nat.beq (len a0) 0) (sl a2 (sl (Nat.beq (len a1) 0) (some (.sl 0 0 1 0,[⟨73,4,[[i y.n.x,i y.n.y,i y.n.z,i y.b]],true,false,0⟩])) (sl a6 (some (.sl 0 0 (1+(len a1)) 0,[⟨73,4,app [[i y.n.x,i y.n.y,i y.n.z,i y.b]] a1,true,false,0⟩])) none)) none) (sl a7 (sl a3 (sl a2 (sl (Nat.beq (len a1) 0) (some (.sl 0 0 ((0+(len a0))+1) 0,[⟨73,4,app (app [] a0) [[i y.n.x,i y.n.y,i y.n.z,i y.b]],true,false,0⟩])) (sl (Nat.beq ((0+(len a0))+1) (len (app (app [] a0) [[i y.n.x,i y.n.y,i y.n.z,i y.b]]))&&Nat.ble (a4*32) room) (some (.sl 0 0 a4 0,[⟨73,4,app (app (app [] a0) [[i y.n.x,i y.n.y,i y.n.z,i y.b]]) a1,true,false,0⟩])) none)) none) none) none)) none);let w1:Option (b7×List b8):=(sl (decide (t1.2.is5<(↑(List.length (rt tP x)):Int))) (sl (inB t1.2.is5 (List.length (rt tP x))) (sl ((a5.n.x==y.n.x)&&((a5.n.y==y.n.y)&&((a5.n.z==y.n.z)&&((a5.b==y.b)&&true)))) (some (eL tP (rt tP x),[])) w0) none) w0);(sl ((cnE tP x)&&true) (sl (Nat.beq t1.1 1) w1 (sl (Nat.beq t1.1 2) w1 none)) none)
noncomputable def I8(x:List Pln)(y:Pln):List Pln:=N6 (one (r1L tP)) (jb4 x y)
noncomputable def ta0(x:List Pln)(y:Pln):Bool:=okO (one (r1L tP)) (jb4 x y)
noncomputable def Gd2:Sum:=oa3 (P0 tP) (ia0 tP) (λx y=>.guard (ta0 x y) (.ret ((one (r1L tP)).enc (I8 x y),[])))
theorem se2:g9 prog G 127 Gd2:=mb9 (bd fg3 ge0) (one (r1L tP)) (o:=jb4) λx y=>wa1 (.s .p (.s .p (.s (.b (.u kc0.ls)) .p))) [kc0.pr] (by kernel_rfl) (.cons Rd0 .nil) (by kernel_rfl)
noncomputable def wb7:List (Nat×Sum):=[(125,Uc2),(107,lb5),(126,Uc3),(127,Gd2),(73,md5)]
theorem yd4:i7 prog G wb7:=⟨Qd8,Cb6,Qd9,se2,fe8,trivial⟩
structure fa7 where
 g8:List V3
 (is6 is7:Int)
structure A8 where
 ph:Nat
 is8:Int
 xa9:List Pln
noncomputable def Zb6(p:fa7)(s:A8):St:=⟨eL tV p.g8::ra 4 (.v (.slice none 0 0)::i p.is6::i p.is7::i s.is8::ra 56 []),[]⟩
noncomputable def Zb7(p:fa7)(s:A8):St:=⟨eL tV p.g8::ra 4 (eL tP s.xa9::i p.is6::i p.is7::i s.is8::ra 56 []),[]⟩
noncomputable def md9(p:fa7)(s:A8):St:=(sel (Nat.beq s.ph 1) (Zb7 p s) (Zb6 p s))
noncomputable def K2{α:Type}(k:A8->α)(e:Nat->α)(z:α)(p:fa7)(s:A8):α:=let t1:=(wa5 (gL tV p.g8 p.is6.toNat) (gL tV p.g8 p.is7.toNat) (gL tV p.g8 s.is8.toNat));let t2:=(Ba4 t1.1 (rt tV p.g8));let t3:=(I8 [] t1.1);let t4:=(jb1 t1.1);let t5:=(Ba4 t4 (rt tV p.g8));let t6:=(I8 (rt tP t3) t4);let t7:=(I8 [] t4);(sl (decide (s.is8<p.is7)) (sl (inB p.is6 (List.length p.g8)) (sl (inB p.is7 (List.length p.g8)) (sl (inB s.is8 (List.length p.g8)) (sl (wa6 (gL tV p.g8 p.is6.toNat) (gL tV p.g8 p.is7.toNat) (gL tV p.g8 s.is8.toNat)) (sl (!t1.2) (k ⟨0,W (s.is8+1),[]⟩) (sl (okE tV p.g8) (sl (na9 t1.1 (rt tV p.g8)) (sl t2 (sl (ta0 [] t1.1) (sl (okE tV p.g8) (sl (na9 t4 (rt tV p.g8)) (sl t5 (sl (okE tP t3) (sl (ta0 (rt tP t3) t4) (k ⟨1,W (s.is8+1),t6⟩) z) z) (k ⟨1,W (s.is8+1),t3⟩)) z) z) z) (sl (okE tV p.g8) (sl (na9 t4 (rt tV p.g8)) (sl t5 (sl (ta0 [] t4) (k ⟨1,W (s.is8+1),t7⟩) z) (k ⟨0,W (s.is8+1),[]⟩)) z) z)) z) z)) z) z) z) z) (e 1))
noncomputable def K3{α:Type}(k:A8->α)(e:Nat->α)(z:α)(p:fa7)(s:A8):α:=let t1:=(wa5 (gL tV p.g8 p.is6.toNat) (gL tV p.g8 p.is7.toNat) (gL tV p.g8 s.is8.toNat));let t2:=(Ba4 t1.1 (rt tV p.g8));let t3:=(I8 (rt tP s.xa9) t1.1);let t4:=(jb1 t1.1);let t5:=(Ba4 t4 (rt tV p.g8));let t6:=(I8 (rt tP t3) t4);let t7:=(I8 (rt tP s.xa9) t4);(sl (decide (s.is8<p.is7)) (sl (inB p.is6 (List.length p.g8)) (sl (inB p.is7 (List.length p.g8)) (sl (inB s.is8 (List.length p.g8)) (sl (wa6 (gL tV p.g8 p.is6.toNat) (gL tV p.g8 p.is7.toNat) (gL tV p.g8 s.is8.toNat)) (sl (!t1.2) (k ⟨1,W (s.is8+1),s.xa9⟩) (sl (okE tV p.g8) (sl (na9 t1.1 (rt tV p.g8)) (sl t2 (sl (okE tP s.xa9) (sl (ta0 (rt tP s.xa9) t1.1) (sl (okE tV p.g8) (sl (na9 t4 (rt tV p.g8)) (sl t5 (sl (okE tP t3) (sl (ta0 (rt tP t3) t4) (k ⟨1,W (s.is8+1),t6⟩) z) z) (k ⟨1,W (s.is8+1),t3⟩)) z) z) z) z) (sl (okE tV p.g8) (sl (na9 t4 (rt tV p.g8)) (sl t5 (sl (okE tP s.xa9) (sl (ta0 (rt tP s.xa9) t4) (k ⟨1,W (s.is8+1),t7⟩) z) z) (k ⟨1,W (s.is8+1),s.xa9⟩)) z) z)) z) z)) z) z) z) z) (e 2))
noncomputable def Z4(p:fa7)(s:A8):Stp A8:=(sel (Nat.beq s.ph 1) (K3 .next .exit .fail p s) (K2 .next .exit .fail p s))
noncomputable def Nb3:Lo fa7 A8:=⟨En wb7,0,rf6,[1,1,1,1,0,1,4,4,1,0,4,1,4,4,1,0,4,1,4,4],[0,5,6,7,8],.p,[⟨sLq tV::ru2 4 (.s (.o .nil)::sIq::sIq::sIq::ru2 56 []),[],λa H=>(⟨aLq tV a 0,aIq a 6,aIq a 7⟩,⟨0,aIq a 8,[]⟩)⟩,⟨sLq tV::ru2 4 (sLq tP::sIq::sIq::sIq::ru2 56 []),[],λa H=>(⟨aLq tV a 0,aIq a 6,aIq a 7⟩,⟨1,aIq a 8,aLq tP a 5⟩)⟩],Z4,[(some 4,λp s=>upq (Zb6 p s) [(27,i s.is8),(28,i p.is7),(29,b (decide (s.is8<p.is7)))]),(some 4,λp s=>upq (Zb7 p s) [(27,i s.is8),(28,i p.is7),(29,b (decide (s.is8<p.is7)))])],md9⟩
theorem nd0:Nb3.Ok:=Lo.ok [] (by kernel_rfl) .nil rfl (.cons (λa H=>by kernel_rfl) (.cons (λa H=>by kernel_rfl) .nil)) λp s=>(.sel (Nat.beq s.ph 1) (.of @K3 (λF _ _ _ _ _=>by unfold K3;(repeat' apply l6 (f:=F))<;>rfl) (by kernel_rfl)) (.of @K2 (λF _ _ _ _ _=>by unfold K2;(repeat' apply l6 (f:=F))<;>rfl) (by kernel_rfl)))
structure fa8 where
 is6:Int
structure A9 where
 ph:Nat
 g8:List V3
 is7:Int
 xa9:List Pln
noncomputable def Zb8(p:fa8)(s:A9):St:=⟨eL tV s.g8::ra 4 (.v (.slice none 0 0)::i p.is6::i s.is7::ra 57 []),[]⟩
noncomputable def Zb9(p:fa8)(s:A9):St:=⟨eL tV s.g8::ra 4 (eL tP s.xa9::i p.is6::i s.is7::ra 57 []),[]⟩
noncomputable def nd1(p:fa8)(s:A9):St:=(sel (Nat.beq s.ph 1) (Zb9 p s) (Zb8 p s))
noncomputable def K4{α:Type}(k:A9->α)(e:Nat->α)(z:α)(p:fa8)(s:A9):α:=let t1:=(lp (Z4 (⟨rt tV s.g8,p.is6,s.is7⟩:fa7)) (⟨0,0,[]⟩:A8));(sl (decide (s.is7<p.is6)) (sl ((cnE tV s.g8)&&true) (sl (Nat.beq t1.1 1) (k ⟨0,rt tV s.g8,W (s.is7+1),[]⟩) (sl (Nat.beq t1.1 2) (k ⟨1,rt tV s.g8,W (s.is7+1),t1.2.xa9⟩) z)) z) (e 1))
noncomputable def K5{α:Type}(k:A9->α)(e:Nat->α)(z:α)(p:fa8)(s:A9):α:=let t1:=(lp (Z4 (⟨rt tV s.g8,p.is6,s.is7⟩:fa7)) (⟨1,0,rt tP s.xa9⟩:A8));(sl (decide (s.is7<p.is6)) (sl ((cnE tV s.g8)&&((cnE tP s.xa9)&&true)) (sl (Nat.beq t1.1 1) (k ⟨0,rt tV s.g8,W (s.is7+1),[]⟩) (sl (Nat.beq t1.1 2) (k ⟨1,rt tV s.g8,W (s.is7+1),t1.2.xa9⟩) z)) z) (e 2))
noncomputable def Z5(p:fa8)(s:A9):Stp A9:=(sel (Nat.beq s.ph 1) (K5 .next .exit .fail p s) (K4 .next .exit .fail p s))
noncomputable def Nb4:Lo fa8 A9:=⟨En wb7,0,rf6,[1,1,1,1,0,1,4,4,1,0,4,1,4,4],[0,5,6,7],.s .p (.s (.b (.s .p (.b (.u Nb3.ls)))) .p),[⟨sLq tV::ru2 4 (.s (.o .nil)::sIq::sIq::ru2 57 []),[],λa H=>(⟨aIq a 6⟩,⟨0,aLq tV a 0,aIq a 7,[]⟩)⟩,⟨sLq tV::ru2 4 (sLq tP::sIq::sIq::ru2 57 []),[],λa H=>(⟨aIq a 6⟩,⟨1,aLq tV a 0,aIq a 7,aLq tP a 5⟩)⟩],Z5,[(some 2,λp s=>upq (Zb8 p s) [(22,i s.is7),(23,i p.is6),(24,b (decide (s.is7<p.is6)))]),(some 2,λp s=>upq (Zb9 p s) [(22,i s.is7),(23,i p.is6),(24,b (decide (s.is7<p.is6)))])],nd1⟩
theorem nd2:Nb4.Ok:=Lo.ok [Nb3.pr] (by kernel_rfl) (.cons nd0 .nil) rfl (.cons (λa H=>by kernel_rfl) (.cons (λa H=>by kernel_rfl) .nil)) λp s=>(.sel (Nat.beq s.ph 1) (.of @K5 (λF _ _ _ _ _=>by unfold K5;(repeat' apply l6 (f:=F))<;>rfl) (by kernel_rfl)) (.of @K4 (λF _ _ _ _ _=>by unfold K4;(repeat' apply l6 (f:=F))<;>rfl) (by kernel_rfl)))
structure oa0 where
structure C0 where
 ph:Nat
 g8:List V3
 is6:Int
 xa9:List Pln
noncomputable def ac0(p:oa0)(s:C0):St:=⟨eL tV s.g8::ra 4 (.v (.slice none 0 0)::i s.is6::ra 58 []),[]⟩
noncomputable def ac4(p:oa0)(s:C0):St:=⟨eL tV s.g8::ra 4 (eL tP s.xa9::i s.is6::ra 58 []),[]⟩
noncomputable def nd3(p:oa0)(s:C0):St:=(sel (Nat.beq s.ph 1) (ac4 p s) (ac0 p s))
noncomputable def K6{α:Type}(k:C0->α)(e:Nat->α)(z:α)(p:oa0)(s:C0):α:=let t1:=(lp (Z5 (⟨s.is6⟩:fa8)) (⟨0,rt tV s.g8,0,[]⟩:A9));(sl (decide (s.is6<(↑(List.length s.g8):Int))) (sl ((cnE tV s.g8)&&true) (sl (Nat.beq t1.1 1) (k ⟨0,t1.2.g8,W (s.is6+1),[]⟩) (sl (Nat.beq t1.1 2) (k ⟨1,t1.2.g8,W (s.is6+1),t1.2.xa9⟩) z)) z) (e 1))
noncomputable def K7{α:Type}(k:C0->α)(e:Nat->α)(z:α)(p:oa0)(s:C0):α:=let t1:=(lp (Z5 (⟨s.is6⟩:fa8)) (⟨1,rt tV s.g8,0,rt tP s.xa9⟩:A9));(sl (decide (s.is6<(↑(List.length s.g8):Int))) (sl ((cnE tV s.g8)&&((cnE tP s.xa9)&&true)) (sl (Nat.beq t1.1 1) (k ⟨0,t1.2.g8,W (s.is6+1),[]⟩) (sl (Nat.beq t1.1 2) (k ⟨1,t1.2.g8,W (s.is6+1),t1.2.xa9⟩) z)) z) (e 2))
noncomputable def za7(p:oa0)(s:C0):Stp C0:=(sel (Nat.beq s.ph 1) (K7 .next .exit .fail p s) (K6 .next .exit .fail p s))
noncomputable def Nb5:Lo oa0 C0:=⟨En wb7,0,rf6,[1,1,1,1,0,1,4,4],[0,5,6],.s .p (.s (.b (.s .p (.b (.u Nb4.ls)))) .p),[⟨sLq tV::ru2 4 (.s (.o .nil)::sIq::ru2 58 []),[],λa H=>(⟨⟩,⟨0,aLq tV a 0,aIq a 6,[]⟩)⟩,⟨sLq tV::ru2 4 (sLq tP::sIq::ru2 58 []),[],λa H=>(⟨⟩,⟨1,aLq tV a 0,aIq a 6,aLq tP a 5⟩)⟩],za7,[(some 0,λp s=>upq (ac0 p s) [(16,i s.is6),(17,eL tV s.g8),(18,i (↑(List.length s.g8):Int)),(19,b (decide (s.is6<(↑(List.length s.g8):Int))))]),(some 0,λp s=>upq (ac4 p s) [(16,i s.is6),(17,eL tV s.g8),(18,i (↑(List.length s.g8):Int)),(19,b (decide (s.is6<(↑(List.length s.g8):Int))))])],nd3⟩
theorem nd4:Nb5.Ok:=Lo.ok [Nb4.pr] (by kernel_rfl) (.cons nd2 .nil) rfl (.cons (λa H=>by kernel_rfl) (.cons (λa H=>by kernel_rfl) .nil)) λp s=>(.sel (Nat.beq s.ph 1) (.of @K7 (λF _ _ _ _ _=>by unfold K7;(repeat' apply l6 (f:=F))<;>rfl) (by kernel_rfl)) (.of @K6 (λF _ _ _ _ _=>by unfold K6;(repeat' apply l6 (f:=F))<;>rfl) (by kernel_rfl)))
noncomputable def La6(x:List V3):Option (b7×List b8):=let t1:=(pb6 (rt tV x));let t2:=(lp (za7 (⟨⟩:oa0)) (⟨0,rt tV x,0,[]⟩:C0));(sl (okE tV x) (sl (jc8 (rt tV x)) (sl (t1 != 0) (some (.tup [.v (.slice none 0 0),i t1],[])) (sl ((cnE tV x)&&true) (sl (Nat.beq t2.1 1) (some (.tup [.v (.slice none 0 0),i 0],[])) (sl (Nat.beq t2.1 2) (some (.tup [eL tP t2.2.xa9,i 0],[])) none)) none)) none) none)
noncomputable def kc1(x:List V3):List Pln×Int:=N6 (two (r1L tP) r1I) (La6 x)
noncomputable def Jb1(x:List V3):Bool:=okO (two (r1L tP) r1I) (La6 x)
noncomputable def Uc4:Sum:=Y0 (P0 tV) (λx=>.guard (Jb1 x) (.ret ((two (r1L tP) r1I).enc (kc1 x),[])))
theorem Rd1:g9 prog G 71 Uc4:=Ja3 (bd b71 yd4) (two (r1L tP) r1I) (o:=La6) λx=>wa1 (.s .p (.s .p (.s .p (.s .p (.s (.s .p (.b (.u Nb5.ls))) .p))))) [Nb5.pr] (by kernel_rfl) (.cons nd4 .nil) (by kernel_rfl)
noncomputable def tc2:List (Nat×Sum):=[(68,Fa0),(78,yc2)]
theorem nd5:i7 prog G tc2:=⟨Oa3,Uc1,trivial⟩
structure ha5 where
 is4:Int
structure E2 where
 ph:Nat
 is6:Int
 m0:List Int
 d8:Int
 ns5:Nat
 eh1:List (List b7)
noncomputable def Qb9(p:ha5)(s:E2):St:=⟨ra 3 (.ptr 0 0 0 0::i p.is4::.v (.slice none 0 0)::i s.is6::ra 127 []),[⟨0,2,[[eL tI s.m0,i s.d8]],true,false,0⟩]⟩
noncomputable def Rb0(p:ha5)(s:E2):St:=⟨ra 3 (.ptr 0 0 0 0::i p.is4::.sl 1 0 s.ns5 0::i s.is6::ra 127 []),[⟨0,2,[[eL tI s.m0,i s.d8]],true,false,0⟩,⟨27,3,s.eh1,true,false,0⟩]⟩
noncomputable def Yc6(p:ha5)(s:E2):St:=(sel (Nat.beq s.ph 1) (Rb0 p s) (Qb9 p s))
noncomputable def za8{α:Type}(k:E2->α)(e:Nat->α)(z:α)(p:ha5)(s:E2):α:=let t1:=(o3 ⟨17,rt tI s.m0,s.d8⟩);let t2:=(o3 ⟨17,rt tI (rt tI s.m0),t1.d8⟩);let t3:=(o3 ⟨17,rt tI (rt tI (rt tI s.m0)),t2.d8⟩);let t4:=(o3 ⟨6,rt tI (rt tI (rt tI (rt tI s.m0))),t3.d8⟩);let w0:α:=(sl (t4.is0==3) (sl (decide (s.is6>2)) z (k ⟨1,W (s.is6+1),rt tI (rt tI (rt tI (rt tI s.m0))),t4.d8,1,[[i (W (t1.is0-8)),i (W (t2.is0-8)),i (W (t3.is0-8))]]⟩)) (k ⟨1,W (s.is6+1),rt tI (rt tI (rt tI (rt tI s.m0))),t4.d8,1,[[i (W (t1.is0-8)),i (W (t2.is0-8)),i (W (t3.is0-8))]]⟩));(sl (decide (s.is6<p.is4)) (sl ((cnE tI s.m0)&&true) (sl (Nat.beq t1.alt 1) (sl ((cnE tI (rt tI s.m0))&&true) (sl (Nat.beq t2.alt 1) (sl ((cnE tI (rt tI (rt tI s.m0)))&&true) (sl (Nat.beq t3.alt 1) (sl ((cnE tI (rt tI (rt tI (rt tI s.m0))))&&true) (sl (Nat.beq t4.alt 1) (sl (t4.is0==1) (sl (decide (s.is6>1)) z (sl (t4.is0==2) (sl (decide (s.is6>0)) z w0) w0)) (sl (t4.is0==2) (sl (decide (s.is6>0)) z w0) w0)) z) z) z) z) z) z) z) z) (e 1))
noncomputable def P5{α:Type}(k:E2->α)(e:Nat->α)(z:α)(p:ha5)(s:E2):α:=let t1:=(o3 ⟨17,rt tI s.m0,s.d8⟩);let a0:=(l5 s.eh1 (0+(W (s.is6-1)).toNat));let a1:=(Nat.beq s.ns5 (len s.eh1)&&Nat.ble ((s.ns5+1)*24) room);let a3:=(l0 (l5 s.eh1 (0+(W (s.is6-2)).toNat)) 0);let a4:=((Nat.blt (0+(W (s.is6-1)).toNat) (len s.eh1))&&(Nat.ble (2+1) (len a0)));let a5:=(i (W (Int.tdiv (W ((toI (hdA (tlA (l0 a0 0))))+(toI (hdA (tlA a3))))) 2)));let a6:=(i (W (Int.tdiv (W ((toI (hdA (l0 a0 0)))+(toI (hdA a3)))) 2)));let a7:=(app s.eh1 [[a6,a5,i (W (Int.tdiv (W ((toI (hdA (tlA (tlA (l0 a0 0)))))+(toI (hdA (tlA (tlA a3)))))) 2))]]);let a8:=(inB (W (s.is6-1)) s.ns5);let a9:=(i (toI (hdA (tlA (l0 a0 0)))));let a10:=((Nat.blt (0+(W (s.is6-1)).toNat) (len s.eh1))&&(Nat.ble (0+3) (len a0)));let a11:=(i (toI (hdA (l0 a0 0))));let a12:=(app s.eh1 [[a11,a9,i (toI (hdA (tlA (tlA (l0 a0 0)))))]]);let a13:=(i (toI (hdA (l0 a0 2))));let a14:=(rt tI (rt tI s.m0));let t2:=(o3 ⟨17,a14,t1.d8⟩);let t3:=(o3 ⟨17,rt tI a14,t2.d8⟩);let a2:=(rt tI (rt tI a14));let t4:=(o3 ⟨6,a2,t3.d8⟩);let w0:α:=(sl (t4.is0==3) (sl (decide (s.is6>2)) (sl a8 (sl (a4&&(ra7 [CK.int .i64] (l0 a0 2))) (sl a1 (k ⟨1,W (s.is6+1),a2,t4.d8,s.ns5+1,app s.eh1 [[i (W (t1.is0-8)),i (W (t2.is0-8)),a13]]⟩) z) z) z) (sl a1 (k ⟨1,W (s.is6+1),a2,t4.d8,s.ns5+1,app s.eh1 [[i (W (t1.is0-8)),i (W (t2.is0-8)),i (W (t3.is0-8))]]⟩) z)) (sl a1 (k ⟨1,W (s.is6+1),a2,t4.d8,s.ns5+1,app s.eh1 [[i (W (t1.is0-8)),i (W (t2.is0-8)),i (W (t3.is0-8))]]⟩) z));let w1:α:=(sl a8 (sl (a10&&(ra7 [CK.int .i64,CK.int .i64,CK.int .i64] (l0 a0 0))) (sl (t4.is0==3) (sl (decide (s.is6>2)) (sl a8 (sl (a4&&(ra7 [CK.int .i64] (l0 a0 2))) (sl a1 (k ⟨1,W (s.is6+1),a2,t4.d8,s.ns5+1,app s.eh1 [[a11,a9,a13]]⟩) z) z) z) (sl a1 (k ⟨1,W (s.is6+1),a2,t4.d8,s.ns5+1,a12⟩) z)) (sl a1 (k ⟨1,W (s.is6+1),a2,t4.d8,s.ns5+1,a12⟩) z)) z) z);let w2:α:=(sl (t4.is0==3) (sl (decide (s.is6>2)) (sl a8 (sl (a4&&(ra7 [CK.int .i64] (l0 a0 2))) (sl a1 (k ⟨1,W (s.is6+1),a2,t4.d8,s.ns5+1,app s.eh1 [[a6,a5,a13]]⟩) z) z) z) (sl a1 (k ⟨1,W (s.is6+1),a2,t4.d8,s.ns5+1,a7⟩) z)) (sl a1 (k ⟨1,W (s.is6+1),a2,t4.d8,s.ns5+1,a7⟩) z));(sl (decide (s.is6<p.is4)) (sl ((cnE tI s.m0)&&true) (sl (Nat.beq t1.alt 1) (sl ((cnE tI (rt tI s.m0))&&true) (sl (Nat.beq t2.alt 1) (sl ((cnE tI a14)&&true) (sl (Nat.beq t3.alt 1) (sl ((cnE tI (rt tI a14))&&true) (sl (Nat.beq t4.alt 1) (sl (t4.is0==1) (sl (decide (s.is6>1)) (sl a8 (sl (a10&&(ra7 [CK.int .i64,CK.int .i64,CK.int .i64] (l0 a0 0))) (sl (inB (W (s.is6-2)) s.ns5) (sl (((Nat.blt (0+(W (s.is6-2)).toNat) (len s.eh1))&&(Nat.ble (0+3) (len (l5 s.eh1 (0+(W (s.is6-2)).toNat)))))&&(ra7 [CK.int .i64,CK.int .i64,CK.int .i64] a3)) (sl (t4.is0==2) (sl (decide (s.is6>0)) w1 w2) w2) z) z) z) z) (sl (t4.is0==2) (sl (decide (s.is6>0)) w1 w0) w0)) (sl (t4.is0==2) (sl (decide (s.is6>0)) w1 w0) w0)) z) z) z) z) z) z) z) z) (e 2))
noncomputable def Va8(p:ha5)(s:E2):Stp E2:=(sel (Nat.beq s.ph 1) (P5 .next .exit .fail p s) (za8 .next .exit .fail p s))
noncomputable def Cb8:Lo ha5 E2:=⟨En tc2,0,Rf2,[1,1,1,1,0,1,4,4],[3,4,5,6],.p,[⟨ru2 3 (sPq 0::sIq::.s (.o .nil)::sIq::ru2 127 []),[⟨0,2,true,some [[.c 1 (nL tI),.o (.int .i64)]]⟩],λa H=>(⟨aIq a 4⟩,⟨0,aIq a 6,hLq tI H 0 0 0,hIq H 0 0 1,0,[]⟩)⟩,⟨ru2 3 (sPq 0::sIq::.s (.o (.sl 1 0 (some 0) none))::sIq::ru2 127 []),[⟨0,2,true,some [[.c 1 (nL tI),.o (.int .i64)]]⟩,⟨27,3,true,none⟩],λa H=>(⟨aIq a 4⟩,⟨1,aIq a 6,hLq tI H 0 0 0,hIq H 0 0 1,slN (slT a 5),elT H 1⟩)⟩],Va8,[(some 0,λp s=>upq (Qb9 p s) [(18,i s.is6),(19,i p.is4),(20,b (decide (s.is6<p.is4)))]),(some 0,λp s=>upq (Rb0 p s) [(18,i s.is6),(19,i p.is4),(20,b (decide (s.is6<p.is4)))])],Yc6⟩
theorem Yc7:Cb8.Ok:=Lo.ok [] (by kernel_rfl) .nil rfl (.cons (λa H=>by kernel_rfl) (.cons (λa H=>by kernel_rfl) .nil)) λp s=>(.sel (Nat.beq s.ph 1) (.of @P5 (λF _ _ _ _ _=>by unfold P5;(repeat' apply l6 (f:=F))<;>rfl) (by kernel_rfl)) (.of @za8 (λF _ _ _ _ _=>by unfold za8;(repeat' apply l6 (f:=F))<;>rfl) (by kernel_rfl)))
noncomputable def db5(x:List Int):Option (b7×List b8):=let t1:=(o3 ⟨5,rt tI x,0⟩);let t2:=(lp (Va8 (⟨W (4+t1.is0)⟩:ha5)) (⟨0,0,rt tI (rt tI x),t1.d8,0,[]⟩:E2));let t3:=(Xa8 []);let t4:=(Xa8 (lsL tV t2.2.ns5 (λk=>l5 t2.2.eh1 (0+k))));let a0:=(l0 (l5 t2.2.eh1 0) 0);let a1:=(i (toI (hdA (tlA (tlA a0)))));let a2:=(i (W ((toI (hdA a0))-3)));let a3:=(setAt t2.2.eh1 1 (ea2 (l5 t2.2.eh1 1) 0 [a2,i (toI (hdA (tlA a0))),a1]));let a4:=(i (W ((toI (hdA (tlA a0)))-2)));(sl ((cnE tI x)&&true) (sl (Nat.beq t1.alt 1) (sl ((cnE tI (rt tI x))&&true) (sl (Nat.beq t2.1 1) (sl (jb3 []) (sl t3 none (some (.v (.slice none 0 0),[]))) none) (sl (Nat.beq t2.1 2) (sl (okL tV t2.2.ns5 (λk=>l5 t2.2.eh1 (0+k))) (sl (jb3 (lsL tV t2.2.ns5 (λk=>l5 t2.2.eh1 (0+k)))) (sl t4 (sl (inB 0 t2.2.ns5) (sl (((Nat.blt 0 (len t2.2.eh1))&&(Nat.ble (0+3) (len (l5 t2.2.eh1 0))))&&(ra7 [CK.int .i64,CK.int .i64,CK.int .i64] a0)) (sl (inB 1 t2.2.ns5) (sl ((Nat.blt 1 (len t2.2.eh1))&&(Nat.ble (0+3) (len (l5 t2.2.eh1 1)))) (sl (inB 2 t2.2.ns5) (sl ((Nat.blt 2 (len a3))&&(Nat.ble (0+3) (len (l5 a3 2)))) (sl (inB 3 t2.2.ns5) (sl ((Nat.blt 3 (len (setAt a3 2 (ea2 (l5 a3 2) 0 [i (toI (hdA a0)),a4,a1]))))&&(Nat.ble (0+3) (len (l5 (setAt a3 2 (ea2 (l5 a3 2) 0 [i (toI (hdA a0)),a4,a1])) 3)))) (some (.sl 0 0 t2.2.ns5 0,[⟨27,3,setAt (setAt a3 2 (ea2 (l5 a3 2) 0 [i (toI (hdA a0)),a4,a1])) 3 (ea2 (l5 (setAt a3 2 (ea2 (l5 a3 2) 0 [i (toI (hdA a0)),a4,a1])) 3) 0 [i (toI (hdA a0)),i (toI (hdA (tlA a0))),i (W ((toI (hdA (tlA (tlA a0))))-1))]),true,false,0⟩])) none) none) none) none) none) none) none) none) (some (.sl 0 0 t2.2.ns5 0,[⟨27,3,t2.2.eh1,true,false,0⟩]))) none) none) none)) none) none) none)
noncomputable def ma0(x:List Int):List V3:=N6 (one (r1L tV)) (db5 x)
noncomputable def Wb4(x:List Int):Bool:=okO (one (r1L tV)) (db5 x)
noncomputable def Hc4:Sum:=Y0 (P0 tI) (λx=>.guard (Wb4 x) (.ret ((one (r1L tV)).enc (ma0 x),[])))
theorem yd5:g9 prog G 25 Hc4:=Ja3 (bd b25 nd5) (one (r1L tV)) (o:=db5) λx=>wa1 (.s .p (.s .p (.s .p (.s .p (.s (.s .p (.b (.u Cb8.ls))) .p))))) [Cb8.pr] (by kernel_rfl) (.cons Yc7 .nil) (by kernel_rfl)
noncomputable def ge1:List (Nat×Sum):=[(68,Fa0),(69,Oc6),(63,Nc4),(51,md4),(70,xc0),(25,Hc4),(71,Uc4)]
theorem Rd2:i7 prog G ge1:=⟨Oa3,md1,jd3,fe6,Tc6,yd5,Rd1,trivial⟩
noncomputable def Cb9(x:List Int):Option (b7×List b8):=let t1:=(o3 ⟨4,rt tI x,0⟩);let t2:=(jb0 ⟨6,rt tI (rt tI x),t1.d8⟩);let t3:=(o3 ⟨6,rt tI t2.m0,t2.d8⟩);let t4:=(o3 ⟨6,rt tI (rt tI t2.m0),t3.d8⟩);let t5:=(o3 ⟨6,rt tI (rt tI (rt tI t2.m0)),t4.d8⟩);let t6:=(Pb4 (⟨t2.ia5,t2.ia6,t2.ia7⟩:V3) (⟨W ((W (t2.ia5+1))+t3.is0),W ((W (t2.ia6+1))+t4.is0),W ((W (t2.ia7+1))+t5.is0)⟩:V3));let a0:=(if 7<(↑(List.length x):Int) then 7 else (↑(List.length x):Int));let a1:=(o8 (λk=>(tP).row (gL tP t6 k)) (List.range (List.length t6)));let a2:=(λk=>(λk=>(tI).row (gL tI x k)) (a0.toNat+k));let a3:=((List.length x)-a0.toNat);let t7:=(Cb7 (lsL tI a3 a2));let t8:=(Xa2 [t7]);let t9:=(ma0 (lsL tI a3 a2));let t10:=(kc1 (rt tV t9));let t11:=(Xa2 (slR tP (app (app [] a1) [[i t7.n.x,i t7.n.y,i t7.n.z,i t7.b]]) 0 ((0+(len a1))+1)));let w0:Option (b7×List b8):=(sl (t1.is0==3) (sl (okL tI a3 a2) (sl (Wb4 (lsL tI a3 a2)) (sl (okE tV t9) (sl (Jb1 (rt tV t9)) (sl (t10.2==0) (some (eL tP t10.1,[])) (some (eL tP t6,[]))) none) none) none) none) (some (eL tP t6,[])));(sl ((cnE tI x)&&true) (sl (Nat.beq t1.alt 1) (sl ((cnE tI (rt tI x))&&true) (sl (Nat.beq t2.alt 1) (sl ((cnE tI t2.m0)&&true) (sl (Nat.beq t3.alt 1) (sl ((cnE tI (rt tI t2.m0))&&true) (sl (Nat.beq t4.alt 1) (sl ((cnE tI (rt tI (rt tI t2.m0)))&&true) (sl (Nat.beq t5.alt 1) (sl (yb6 (⟨t2.ia5,t2.ia6,t2.ia7⟩:V3) (⟨W ((W (t2.ia5+1))+t3.is0),W ((W (t2.ia6+1))+t4.is0),W ((W (t2.ia7+1))+t5.is0)⟩:V3)) (sl (inB a0 ((List.length x)+1)) (sl (t1.is0==2) (sl (Nat.beq (len a1) 0) (sl (okL tI a3 a2) (sl (Vb8 (lsL tI a3 a2)) (sl (Xa3 [t7]) (sl t8 (some (.sl 0 0 1 0,[⟨73,4,[[i t7.n.x,i t7.n.y,i t7.n.z,i t7.b]],true,false,0⟩])) w0) none) none) none) (sl (Nat.beq 0 0&&Nat.ble ((0+(len a1))*32) room) (sl (okL tI a3 a2) (sl (Vb8 (lsL tI a3 a2)) (sl (Nat.beq (0+(len a1)) (len (app [] a1))&&Nat.ble (((0+(len a1))+1)*32) room) (sl (okS tP (app (app [] a1) [[i t7.n.x,i t7.n.y,i t7.n.z,i t7.b]]) 0 ((0+(len a1))+1)) (sl (Xa3 (slR tP (app (app [] a1) [[i t7.n.x,i t7.n.y,i t7.n.z,i t7.b]]) 0 ((0+(len a1))+1))) (sl t11 (some (.sl 0 0 ((0+(len a1))+1) 0,[⟨73,4,app (app [] a1) [[i t7.n.x,i t7.n.y,i t7.n.z,i t7.b]],true,false,0⟩])) w0) none) none) none) none) none) none)) w0) none) none) none) none) none) none) none) none) none) none) none) none)
noncomputable def pa9(x:List Int):List Pln:=N6 (one (r1L tP)) (Cb9 x)
noncomputable def Db0(x:List Int):Bool:=okO (one (r1L tP)) (Cb9 x)
noncomputable def yc3:Sum:=Y0 (P0 tI) (λx=>.guard (Db0 x) (.ret ((one (r1L tP)).enc (pa9 x),[])))
theorem Uc5:g9 prog G 16 yc3:=Ja3 (bd b16 Rd2) (one (r1L tP)) (o:=Cb9) λx=>v8 (by kernel_rfl)
noncomputable def Uc6:List (Nat×Sum):=[]
theorem Rd3:i7 prog G Uc6:=trivial
structure db6 where
 (b9 ea1:List Pln)
structure ma1 where
 is5:Int
noncomputable def tc3(p:db6)(s:ma1):St:=⟨eL tP p.b9::eL tP p.ea1::ra 3 (i s.is5::ra 20 []),[]⟩
noncomputable def La7{α:Type}(k:ma1->α)(e:Nat->α)(z:α)(p:db6)(s:ma1):α:=(sl (decide (s.is5<(↑(List.length p.b9):Int))) (sl (inB s.is5 (List.length p.b9)) (sl (inB s.is5 (List.length p.ea1)) (sl (!(((gL tP p.b9 s.is5.toNat).n.x==(gL tP p.ea1 s.is5.toNat).n.x)&&(((gL tP p.b9 s.is5.toNat).n.y==(gL tP p.ea1 s.is5.toNat).n.y)&&(((gL tP p.b9 s.is5.toNat).n.z==(gL tP p.ea1 s.is5.toNat).n.z)&&(((gL tP p.b9 s.is5.toNat).b==(gL tP p.ea1 s.is5.toNat).b)&&true))))) (e 1) (k ⟨W (s.is5+1)⟩)) z) z) (e 2))
noncomputable def Ta8(p:db6)(s:ma1):Stp ma1:=La7 .next .exit .fail p s
noncomputable def Wb5:Lo db6 ma1:=⟨En Uc6,0,Rf1,[1,1,0,1,4,4],[0,1,5],.p,[⟨sLq tP::sLq tP::ru2 3 (sIq::ru2 20 []),[],λa H=>(⟨aLq tP a 0,aLq tP a 1⟩,⟨aIq a 5⟩)⟩],Ta8,[(none,λp s=>⟨[b false],[]⟩),(some 0,λp s=>upq (tc3 p s) [(11,i s.is5),(12,eL tP p.b9),(13,i (↑(List.length p.b9):Int)),(14,b (decide (s.is5<(↑(List.length p.b9):Int))))])],tc3⟩
theorem yd6:Wb5.Ok:=Lo.ok [] (by kernel_rfl) .nil rfl (.cons (λa H=>by kernel_rfl) .nil) λp s=>(.of @La7 (λF _ _ _ _ _=>by unfold La7;(repeat' apply l6 (f:=F))<;>rfl) (by kernel_rfl))
noncomputable def Db1(x:List Pln)(y:List Pln):Option (b7×List b8):=let t1:=(lp (Ta8 (⟨rt tP x,rt tP y⟩:db6)) (⟨0⟩:ma1));(sl ((↑(List.length x):Int) != (↑(List.length y):Int)) (some (b false,[])) (sl ((cnE tP x)&&((cnE tP y)&&true)) (sl (Nat.beq t1.1 1) (some (b false,[])) (sl (Nat.beq t1.1 2) (some (b true,[])) none)) none))
noncomputable def Wb6(x:List Pln)(y:List Pln):Bool:=N6 (one r1B) (Db1 x y)
noncomputable def Wb7(x:List Pln)(y:List Pln):Bool:=okO (one r1B) (Db1 x y)
noncomputable def nd6:Sum:=oa3 (P0 tP) (P0 tP) (λx y=>.guard (Wb7 x y) (.ret ((one r1B).enc (Wb6 x y),[])))
theorem ge2:g9 prog G 23 nd6:=mb9 (bd b23 Rd3) (one r1B) (o:=Db1) λx y=>wa1 (.s .p (.s .p (.s (.s .p (.b (.u Wb5.ls))) .p))) [Wb5.pr] (by kernel_rfl) (.cons yd6 .nil) (by kernel_rfl)
structure Ef4 where
 is6:Int
structure Ef5 where
 ns5:Nat
 eh0:List (List b7)
theorem ge3{Q:Pt->Prop}(r:List Pln)(p q:Pln):∀(l:List Pln) (out:List Pt),(∀s∈l,(mpt p q s).2=true->inn r (mpt p q s).1=true->Q (mpt p q s).1)->(∀x∈out,Q x)->∀x∈tb1 r p q l out,Q x
 |[],out,_,h=>h
 |s::l,out,hs,h=>ge3 r p q l (La3 r p q out s) (λt ht=>hs t (Qif _ ht)) λx hx=>by
  unfold La3 at hx
  split at hx
  ·rename_i hc;rw[Qig,Qig] at hc
   rcases Qiv.1 hx with hx|hx
   ·exact h x hx
   ·rw[List.mem_singleton] at hx;subst hx;exact hs s Qiq hc.1 hc.2.2
  ·exact h x hx
theorem ge4{Q:Pt->Prop}(r:List Pln)(p:Pln):∀(l:List Pln) (out:List Pt),(∀q∈l,∀s∈l,(mpt p q s).2=true->inn r (mpt p q s).1=true->Q (mpt p q s).1)->(∀x∈out,Q x)->∀x∈db0 r p l out,Q x
 |[],out,_,h=>h
 |q::l,out,hs,h=>ge4 r p l _ (λa ha t ht=>hs a (Qif _ ha) t (Qif _ ht)) (ge3 r p q l out (λt ht=>hs q Qiq t (Qif _ ht)) h)
theorem ge5{Q:Pt->Prop}(r:List Pln):∀(l:List Pln) (out:List Pt),(∀p∈l,∀q∈l,∀s∈l,(mpt p q s).2=true->inn r (mpt p q s).1=true->Q (mpt p q s).1)->(∀x∈out,Q x)->∀x∈Gc4 r l out,Q x
 |[],out,_,h=>h
 |p::l,out,hs,h=>ge5 r l _ (λa ha c hc t ht=>hs a (Qif _ ha) c (Qif _ hc) t (Qif _ ht)) (ge4 r p l out (λc hc t ht=>hs p Qiq c (Qif _ hc) t (Qif _ ht)) h)
theorem ze5{Q:Pt->Prop}{r:List Pln}(hs:∀p∈r,∀q∈r,∀s∈r,(mpt p q s).2=true->inn r (mpt p q s).1=true->Q (mpt p q s).1):∀x∈cor r,Q x :=
 ge5 r r [] hs λx hx=>by cases hx
structure Okx(x:Pt):Prop where
 w1:0<x.pw
 w2:x.pw<=600000000000
 c1:Sm 300000000000000 x.px
 c2:Sm 300000000000000 x.py
 c3:Sm 300000000000000 x.pz
theorem pc2{r:List Pln}(hb:Bds r):∀x∈cor r,Okx x:=ze5 λp hp q hq s hs h _=>by
 obtain⟨h1,h2,h3,h4,h5⟩:=re6 (hb p hp) (hb q hq) (hb s hs) h;exact⟨h1,h5,h2,h3,h4⟩
theorem tf7{c:List Pln}:∀x∈pts c,Okx x:=by
 unfold pts;cases h:chk c==0 with
 |false=>intro x hx;cases hx
 |true=>exact pc2 (db1 h).1
theorem cd3(c:List Pln):(pts c).length<=8000000:=by
 unfold pts;cases h:chk c==0 with
 |false=>exact Qie _
 |true=>exact Qd0 _ (db1 h).1 (db1 h).2
theorem Ze0{x y:Int}(hy:0<y):Int.tmod x y+y*Int.tdiv x y=x/\-y<Int.tmod x y/\Int.tmod x y<y:=by
 refine⟨Int.tmod_add_mul_tdiv x y,?_,Int.tmod_lt_of_pos x hy⟩
 have:=Int.lt_tmod_of_pos x hy
 omega
theorem Ze1(x:Int){y:Int}(hy:0<y)(hy2:y<=4000000000000000000):Pb8 x y=some (i (x % y),[]):=by
 have hz:(y==0)=false:=by rw[beq_eq_false_iff_ne];omega
 obtain⟨h1,h2,h3⟩:=Ze0 (x:=x) hy;unfold Pb8;rw[bfD (by omega),bf hz,bf hz,ka2 (by omega) (by omega),Int.tmod_eq_emod_of_nonneg (by omega)]
 congr 3;rw[Int.add_emod_right]
 conv=>rhs;rw[<- h1]
 rw[Int.add_mul_emod_self_left]
theorem Wf7(x:Int){y:Int}(hy:0<y)(hy2:y<=4000000000000000000):Pb9 x y=x % y:=by unfold Pb9;rw[Ze1 x hy hy2];rfl
theorem Ze2(x:Int){y:Int}(hy:0<y)(hy2:y<=4000000000000000000):Qb0 x y=true:=by unfold Qb0;rw[Ze1 x hy hy2];rfl
theorem Sm.neg{n x:Int}(h:Sm n x):Sm n (-x):=⟨by have:=h.2;omega,by have:=h.1;omega⟩
theorem Ze3(x:Pln):(x.n.x==x.n.x&&(x.n.y==x.n.y&&(x.n.z==x.n.z&&(x.b==x.b&&true))))=true:=by simp
theorem ze6(l:List Pln)(hl:l.length<=1000000000):Db1 l l=some (b true,[]):=by
 have h:=hb9 (step:=Ta8 ⟨l,l⟩) (mk:=λj=>(⟨(j:Int)⟩:ma1)) (c:=λ_=>false) (u:=1) (fin:=2) tP l hl
  (λj hj=>by
   simp only[Ta8,La7,Int.toNat_natCast,n8 hj (by omega),Ze3]
   rw[btD (g7 hj),bt (f0 hj),bt (f0 hj)]
   rfl)
  (by simp only[Ta8,La7];rw[bfD (l9 (Qic _))]) 0 (Qie _)
 rw[Qia,show (l.any λ_=>false)=false by simp] at h
 unfold Db1;simp only[i5,i8];rw[show (⟨0⟩:ma1)=⟨((0:Nat):Int)⟩ from rfl,h,bf (by simp)]
 rfl
theorem Kf9(l:List Pln)(hl:l.length<=1000000000):Wb6 l l=true:=by unfold Wb6;rw[ze6 l hl];rfl
theorem Lf0(l:List Pln)(hl:l.length<=1000000000):Wb7 l l=true:=by unfold Wb7;rw[ze6 l hl];rfl
def Nx{σ:Type}(x:Stp σ)(E:Nat->Prop)(N:σ->Prop):Prop:=(∃t,x=.exit t/\E t)\/∃s,x=.next s/\N s
theorem Nx.sl{σ:Type}{c:Bool}{t e:Stp σ}{E:Nat->Prop}{N:σ->Prop}(h1:c=true->Nx t E N)(h2:c=false->Nx e E N):Nx (sl c t e) E N:=by cases c;exact h2 rfl;exact h1 rfl
theorem Nx.ex{σ:Type}{t:Nat}{E:Nat->Prop}{N:σ->Prop}(h:E t):Nx (.exit t) E N:=.inl ⟨t,rfl,h⟩
theorem Nx.nx{σ:Type}{s:σ}{E:Nat->Prop}{N:σ->Prop}(h:N s):Nx (.next s) E N:=.inr ⟨s,rfl,h⟩
theorem Z6 {σ τ : Type} {step : σ → Stp σ} {mk : Nat → τ → σ} (n : Nat) (I : Nat → τ → Prop) (E : Nat → σ → Prop) (hn : n ≤ 1000000000)
  (h:∀j a,j<n->I j a->Nx (step (mk j a)) (λt=>E t (mk j a)) (λs=>∃a',s=mk (j+1) a'/\I (j+1) a'))
  (hf:∀j a,n<=j->I j a->∃t,step (mk j a)=.exit t/\E t (mk j a)) (j0:Nat) (a:τ) (hi:I j0 a):∃t s,lp step (mk j0 a)=(t,s)/\E t s:=by
 have key:=wc2 (step:=step) (I:=λm s=>∃j a,m=n-j/\s=mk j a/\I j a) (Q:=E) (λm s ⟨j,a,hm,hs,ha⟩=>by
  subst hs;by_cases hlt:j<n
  ·rcases h j a hlt ha with h1|⟨s',h1,a',h2,h3⟩
   ·exact .inl h1
   ·subst h2;exact .inr ⟨_,n-(j+1),by omega,h1,j+1,a',rfl,rfl,h3⟩
  ·exact .inl (hf j a (by omega) ha)) (n-j0) (mk j0 a) (by omega) ⟨j0,a,rfl,rfl,hi⟩
 exact⟨_,_,rfl,key⟩
def Rd{ρ:Type}(R:RR ρ)(o:Option (b7×List b8))(P:ρ->Prop):Prop:=∃x r,o=some x/\R.rd x=some r/\P r
theorem Rd.p{ρ:Type}{R:RR ρ}{o:Option (b7×List b8)}{P:ρ->Prop}(h:Rd R o P):P (N6 R o):=by
 obtain⟨x,r,h1,h2,h3⟩:=h;rw[h1,Ga7 R h2];exact h3
theorem Rd.g{ρ:Type}{R:RR ρ}{o:Option (b7×List b8)}{P:ρ->Prop}(h:Rd R o P):okO R o=true:=by
 obtain⟨x,r,h1,h2,h3⟩:=h;rw[h1];exact Ta4 R h2
theorem Rd.sl{ρ:Type}{R:RR ρ}{c:Bool}{t e:Option (b7×List b8)}{P:ρ->Prop}(h1:c=true->Rd R t P)(h2:c=false->Rd R e P):Rd R (sl c t e) P:=by cases c;exact h2 rfl;exact h1 rfl
theorem ya3 (n : Int) (l : List Int) (j : Int) (h1 : 0 ≤ j) (h2 : j ≤ 1000000) (hn : 0 < n) (hn2 : n ≤ 1000000) :
  ∃v j',o3 ⟨n,l,j⟩=⟨1,v,j'⟩/\0<=v/\v<n/\j<=j'/\j'<=j+1:=by
 unfold o3 sa9
 simp only
 by_cases h:j>=(l.length:Int)
 ·rw[btD h];exact⟨0,j,rfl,by omega,hn,by omega,by omega⟩
 ·rw[bfD h];have hW:W (W (j+1)-1)=j:=by rw[hd5,ka2 (by omega) (by omega)];omega
  have hW2:W (j+1)=j+1:=ka2 (by omega) (by omega)
  have hin:inB j l.length=true:=by rw[Nd4];exact decide_eq_true (by omega)
  rw[hW,hW2,hin,Ze2 _ hn (by omega),Wf7 _ hn (by omega)]
  exact⟨_,_,rfl,Int.emod_nonneg _ (by omega),Int.emod_lt_of_pos _ hn,by omega,by omega⟩
theorem yc4 (m : Int) (l : List Int) (j : Int) (h1 : 0 ≤ j) (h2 : j ≤ 900000) (hm : 0 ≤ m) (hm2 : m ≤ 100000) :
  ∃a b c j',jb0 ⟨m,l,j⟩=⟨1,a,b,c,l,j'⟩/\Sm m a/\Sm m b/\Sm m c/\j<=j'/\j'<=j+3:=by
 unfold jb0 yb7;simp only[i5,i8];have hW:W (W (2*m)+1)=2*m+1:=by rw[Ab3,ka2 (by omega) (by omega)]
 rw[hW];obtain⟨v1,j1,e1,a1,b1,c1,d1⟩:=ya3 (2*m+1) l j h1 (by omega) (by omega) (by omega)
 rw[e1];obtain⟨v2,j2,e2,a2,b2,c2,d2⟩:=ya3 (2*m+1) l j1 (by omega) (by omega) (by omega) (by omega)
 simp only
 rw[e2];obtain⟨v3,j3,e3,a3,b3,c3,d3⟩:=ya3 (2*m+1) l j2 (by omega) (by omega) (by omega) (by omega)
 simp only
 rw[e3];refine⟨v1-m,v2-m,v3-m,j3,?_,⟨by omega,by omega⟩,⟨by omega,by omega⟩,⟨by omega,by omega⟩,by omega,by omega⟩
 simp only
 rw[ka2 (n:=v1-m) (by omega) (by omega),ka2 (n:=v2-m) (by omega) (by omega),ka2 (n:=v3-m) (by omega) (by omega)]
 rfl
def inV(v:V3):Bool:=smb 24 v.x&&(smb 24 v.y&&smb 24 v.z)
theorem Jb2(v:V3):inV v=true↔Sm 24 v.x/\Sm 24 v.y/\Sm 24 v.z:=by unfold inV;rw[Qig,Qig,wb6,wb6,wb6]
theorem Ze4(v:V3):jc4 v=some (b (inV v),[]):=by
 unfold jc4 inV smb;cases h1:decide (v.x < -24)<;>cases h2:decide (v.x>24)<;>cases h3:decide (v.y < -24)<;>cases h4:decide (v.y>24)<;>cases h5:decide (v.z < -24)<;>cases h6:decide (v.z>24)<;>rfl
theorem ze7(v:V3):pb3 v=inV v:=by unfold pb3;rw[Ze4];rfl
theorem ge6(v:V3):pb4 v=true:=by unfold pb4;rw[Ze4];rfl
def sub(a b:V3):V3:=⟨a.x-b.x,a.y-b.y,a.z-b.z⟩
theorem ze8{a b:V3}(ha:inV a=true)(hb:inV b=true):Oa4 a b=sub a b/\Sm 48 (sub a b).x/\Sm 48 (sub a b).y/\Sm 48 (sub a b).z:=by
 rw[Jb2] at ha hb;obtain⟨⟨a1,a2⟩,⟨a3,a4⟩,a5,a6⟩:=ha;obtain⟨⟨b1,b2⟩,⟨b3,b4⟩,b5,b6⟩:=hb;unfold Oa4 sub;rw[ka2 (by omega) (by omega),ka2 (by omega) (by omega),ka2 (by omega) (by omega)]
 exact⟨rfl,⟨by show _<=a.x-b.x;omega,by show a.x-b.x<=_;omega⟩,⟨by show _<=a.y-b.y;omega,by show a.y-b.y<=_;omega⟩,⟨by show _<=a.z-b.z;omega,by show a.z-b.z<=_;omega⟩⟩
theorem tc4 {a b c : V3} (ha : inV a = true) (hb : inV b = true) (hc : inV c = true) :
  ba1 (Oa4 b a) (Oa4 c a)=d9 (sub b a) (sub c a)/\Sm 4608 (d9 (sub b a) (sub c a)).x/\Sm 4608 (d9 (sub b a) (sub c a)).y/\Sm 4608 (d9 (sub b a) (sub c a)).z:=by
 obtain⟨e1,⟨u1,u2⟩,⟨u3,u4⟩,u5,u6⟩:=ze8 hb ha;obtain⟨e2,⟨v1,v2⟩,⟨v3,v4⟩,v5,v6⟩:=ze8 hc ha;rw[e1,e2,Gc2];generalize sub b a=p at *
 generalize sub c a=q at *
 have h1:=mb u3 u4 v5 v6;have h2:=mb u5 u6 v3 v4;have h3:=mb u5 u6 v1 v2;have h4:=mb u1 u2 v5 v6;have h5:=mb u1 u2 v3 v4;have h6:=mb u3 u4 v1 v2;have k:Sm 4608 (d9 p q).x/\Sm 4608 (d9 p q).y/\Sm 4608 (d9 p q).z:=by unfold Sm d9;simp only;omega
 obtain⟨k1,k2,k3⟩:=k;rw[La2 (k1.mono (by omega)),La2 (k2.mono (by omega)),La2 (k3.mono (by omega))]
 exact⟨rfl,k1,k2,k3⟩
def Fa2(a b c:V3):Pln×Bool :=
 if inV a&&(inV b&&inV c) then
  if g3 (d9 (sub b a) (sub c a))=0 then (⟨⟨0,0,0⟩,0⟩,false)
  else (⟨⟨Int.tdiv (d9 (sub b a) (sub c a)).x (g3 (d9 (sub b a) (sub c a))),Int.tdiv (d9 (sub b a) (sub c a)).y (g3 (d9 (sub b a) (sub c a))),Int.tdiv (d9 (sub b a) (sub c a)).z (g3 (d9 (sub b a) (sub c a)))⟩,
   dot ⟨Int.tdiv (d9 (sub b a) (sub c a)).x (g3 (d9 (sub b a) (sub c a))),Int.tdiv (d9 (sub b a) (sub c a)).y (g3 (d9 (sub b a) (sub c a))),Int.tdiv (d9 (sub b a) (sub c a)).z (g3 (d9 (sub b a) (sub c a)))⟩ a⟩,true)
 else (⟨⟨0,0,0⟩,0⟩,false)
theorem Pc0(v:V3):0<=g3 v:=by unfold g3;omega
theorem nd7(a c d:V3):Ta5 a c d=some (.tup [.agg (tP.row (Fa2 a c d).1),b (Fa2 a c d).2],[]):=by
 unfold Ta5 Fa2;simp only[ze7,ge6];cases ha:inV a with
 |false=>rfl
 |true =>
  cases hc:inV c with
  |false=>rfl
  |true =>
   cases hd:inV d with
   |false=>rfl
   |true =>
    obtain⟨e,k1,k2,k3⟩:=tc4 ha hc hd;rw[e];generalize d9 (sub c a) (sub d a)=n at *
    have m1:=k1.mono (m:=1000000000000000000) (by omega)
    have m2:=k2.mono (m:=1000000000000000000) (by omega)
    have m3:=k3.mono (m:=1000000000000000000) (by omega)
    rw[Ye0 m1 m2 m3,ld2 m1 m2 m3];by_cases h0:g3 n=0
    ·rw[show (g3 n==0)=true from by rw[h0];rfl]
     simp only[Bool.and_self,if_true,h0];rfl
    ·have hp:=Pc0 n;have q1:=L1 (g:=g3 n) k1 (by omega)
     have q2:=L1 (g:=g3 n) k2 (by omega)
     have q3:=L1 (g:=g3 n) k3 (by omega)
     rw[show (g3 n==0)=false from by rw[beq_eq_false_iff_ne];exact h0,Jf8 m1 m2 m3 h0]
     simp only[Bool.and_self,if_true,h0,if_false];rw[La2 (q1.mono (by omega)),La2 (q2.mono (by omega)),La2 (q3.mono (by omega))]
     have hdot:Ga4 ⟨Int.tdiv n.x (g3 n),Int.tdiv n.y (g3 n),Int.tdiv n.z (g3 n)⟩ a=dot ⟨Int.tdiv n.x (g3 n),Int.tdiv n.y (g3 n),Int.tdiv n.z (g3 n)⟩ a:=by
      unfold Ga4;simp only[Ab3,fc6];obtain⟨⟨a1,a2⟩,⟨a3,a4⟩,a5,a6⟩:=(Jb2 a).1 ha;have r1:=mb q1.1 q1.2 a1 a2;have r2:=mb q2.1 q2.2 a3 a4;have r3:=mb q3.1 q3.2 a5 a6;rw[ka2 (by omega) (by omega)]
      rfl
     rw[hdot];rfl
theorem Rb1(a b c:V3):wa5 a b c=Fa2 a b c:=by unfold wa5;rw[nd7];rfl
theorem Ya7(a b c:V3):wa6 a b c=true:=by unfold wa6;rw[nd7];rfl
theorem tf8(l:List Int):Rd (one r1P) (Xa5 l) (λ_=>True):=by
 unfold Xa5;simp only[i5,i8];obtain⟨v1,j1,e1,a1,b1,c1,d1⟩:=ya3 8 l 0 (by omega) (by omega) (by omega) (by omega)
 rw[e1]
 simp only
 obtain⟨v2,j2,e2,a2,b2,c2,d2⟩:=ya3 17 l j1 (by omega) (by omega) (by omega) (by omega)
 rw[e2]
 simp only
 obtain⟨x1,x2,x3,j3,e3,_,_,_,c3,d3⟩:=yc4 8 l j2 (by omega) (by omega) (by omega) (by omega)
 rw[e3]
 simp only
 obtain⟨y1,y2,y3,j4,e4,_,_,_,c4,d4⟩:=yc4 8 l j3 (by omega) (by omega) (by omega) (by omega)
 rw[e4]
 simp only
 obtain⟨z1,z2,z3,j5,e5,_,_,_,c5,d5⟩:=yc4 8 l j4 (by omega) (by omega) (by omega) (by omega)
 rw[e5];simp only[Rb1,Ya7,Ze2 _ (show (0:Int)<3 by omega) (by omega),i8]
 simp only[Qik,Qil,f9];refine Rd.sl (λ_=>Rd.sl (λ_=>⟨_,_,rfl,rfl,trivial⟩) λ_=>?_) (λ_=>?_)
 ·exact Rd.sl (λ_=>⟨_,_,rfl,rfl,trivial⟩) λ_=>Rd.sl (λ_=>⟨_,_,rfl,rfl,trivial⟩) λ_=>⟨_,_,rfl,rfl,trivial⟩
 ·exact Rd.sl (λ_=>⟨_,_,rfl,rfl,trivial⟩) λ_=>Rd.sl (λ_=>⟨_,_,rfl,rfl,trivial⟩) λ_=>⟨_,_,rfl,rfl,trivial⟩
theorem tf9(l:List Int):Vb8 l=true:=(tf8 l).g
theorem uf0(p:Pln)(v:V3):Rd (one r1I) (Xa6 p v) (λ_=>True):=by
 unfold Xa6;simp only[ld3,ge6,f9];exact Rd.sl (λ_=>⟨_,_,rfl,rfl,trivial⟩) λ_=>Rd.sl (λ_=>⟨_,_,rfl,rfl,trivial⟩) λ_=>Rd.sl (λ_=>⟨_,_,rfl,rfl,trivial⟩) λ_=>Rd.sl (λ_=>⟨_,_,rfl,rfl,trivial⟩) λ_=>⟨_,_,rfl,rfl,trivial⟩
theorem Rd4(p:Pln)(v:V3):Vb9 p v=true:=(uf0 p v).g
theorem Wf8(P:Ca6)(hl:P.g8.length<=1000000000):∃t s,lp (E8 P) ⟨0⟩=(t,s)/\(t=1\/t=2\/t=3):=by
 obtain⟨l,x1,x2,x3,x4,x5,x6,x7,x8⟩:=P;refine Z6 (step:=E8 ⟨l,x1,x2,x3,x4,x5,x6,x7,x8⟩) (mk:=λj (_:Unit)=>(⟨(j:Int)⟩:la6)) l.length (λ_ _=>True) (λt _=>t=1\/t=2\/t=3) hl (λj a hj _=>?_) (λj a hj _=>?_) 0 () trivial
 ·simp only[E8,ga9,Rd4,Int.toNat_natCast,n8 hj (show l.length<=4611686018427387904 from Qiy hl (by omega))]
  rw[btD (g7 hj),bt (f0 hj),f9];exact Nx.sl (λ_=>Nx.sl (λ_=>.ex (by simp)) λ_=>.nx ⟨(),rfl,trivial⟩) λ_=>.ex (by simp)
 ·simp only[E8,ga9];rw[bfD (by omega)]
  exact⟨_,rfl,by simp⟩
theorem Wf9(l:List V3)(hl:l.length<=1000000000)(a c:Nat)(ha:a<l.length)(hc:c<a):∃t s,lp (X4 ⟨(a:Int),(c:Int)⟩) ⟨l,0⟩=(t,s)/\((t=1\/t=2)/\s.g8=l):=by
 refine Z6 (step:=X4 ⟨(a:Int),(c:Int)⟩) (mk:=λj (_:Unit)=>(⟨l,(j:Int)⟩:la7)) c (λ_ _=>True) (λt s=>(t=1\/t=2)/\s.g8=l) (by omega) (λj x hj _=>?_) (λj x hj _=>?_) 0 () trivial
 ·simp only[X4,pa6,Ya7,Int.toNat_natCast,i5,i8,n8 hj (show c<=4611686018427387904 by omega)]
  rw[btD (g7 hj),bt (f0 ha),bt (f0 (show c<l.length by omega)),bt (f0 (show j<l.length by omega)),f9]
  generalize hP:Ca6.mk _ _ _ _ _ _ _ _ _=P3;obtain⟨t,s,h1,h2⟩:=Wf8 P3 (by subst hP;exact hl)
  rw[h1]
  rcases h2 with rfl|rfl|rfl
  ·exact .ex (by simp)
  ·exact .nx ⟨(),rfl,trivial⟩
  ·exact .nx ⟨(),rfl,trivial⟩
 ·simp only[X4,pa6];rw[bfD (by omega)]
  exact⟨_,rfl,by simp⟩
theorem Xf0(l:List V3)(hl:l.length<=1000000000)(a:Nat)(ha:a<l.length):∃t s,lp (X5 ⟨(a:Int)⟩) ⟨l,0⟩=(t,s)/\((t=1\/t=2)/\s.g8=l):=by
 refine Z6 (step:=X5 ⟨(a:Int)⟩) (mk:=λj (_:Unit)=>(⟨l,(j:Int)⟩:la8)) a (λ_ _=>True) (λt s=>(t=1\/t=2)/\s.g8=l) (by omega) (λj x hj _=>?_) (λj x hj _=>?_) 0 () trivial
 ·simp only[X5,pa7,i5,i8,n8 hj (show a<=4611686018427387904 by omega)]
  obtain⟨t,s,h1,h2,h3⟩:=Wf9 l hl a j ha hj;rw[btD (g7 hj),h1]
  rcases h2 with rfl|rfl
  ·exact .ex (by simp)
  ·exact .nx ⟨(),by rw[h3],trivial⟩
 ·simp only[X5,pa7];rw[bfD (by omega)]
  exact⟨_,rfl,by simp⟩
theorem Hb5(l:List V3)(hl:l.length<=1000000000):Rd (one r1B) (Xa7 l) (λ_=>True):=by
 have key:∃t s,lp (X6 ⟨⟩) ⟨l,0⟩=(t,s)/\(t=1\/t=2):=by
  refine Z6 (step:=X6 ⟨⟩) (mk:=λj (_:Unit)=>(⟨l,(j:Int)⟩:la9)) l.length (λ_ _=>True) (λt s=>t=1\/t=2) hl (λj x hj _=>?_) (λj x hj _=>?_) 0 () trivial
  ·simp only[X6,pa8,i5,i8,n8 hj (show l.length<=4611686018427387904 by omega)]
   obtain⟨t,s,h1,h2,h3⟩:=Xf0 l hl j hj;rw[btD (g7 hj),h1]
   rcases h2 with rfl|rfl
   ·exact .ex (by simp)
   ·exact .nx ⟨(),by rw[h3],trivial⟩
  ·simp only[X6,pa8];rw[bfD (by omega)]
   exact⟨_,rfl,by simp⟩
 obtain⟨t,s,h1,h2⟩:=key;unfold Xa7;simp only[i5,i8];rw[h1]
 rcases h2 with rfl|rfl<;>exact⟨_,_,rfl,rfl,trivial⟩
theorem se3(l:List V3)(hl:l.length<=1000000000):jb3 l=true:=(Hb5 l hl).g
theorem se4(l:List V3)(hl:l.length<=1000000000):Rd (one r1I) (La4 l) (λ_=>True):=by
 have h:=hb9 (step:=ha0 ⟨l⟩) (mk:=λj=>(⟨(j:Int)⟩:S7)) (c:=λv=>!inV v) (u:=1) (fin:=2) tV l hl
  (λj hj=>by
   simp only[ha0,ja5,Int.toNat_natCast,ze7,ge6,n8 hj (show l.length<=4611686018427387904 by omega)]
   rw[btD (g7 hj),bt (f0 hj),f9])
  (by simp only[ha0,ja5];rw[bfD (l9 (Qic _))]) 0 (Qie _)
 unfold La4;simp only[i5,i8,o5,se3 l hl];rw[show (⟨0⟩:S7)=⟨((0:Nat):Int)⟩ from rfl,h]
 refine Rd.sl (λ_=>⟨_,_,rfl,rfl,trivial⟩) λ_=>?_
 rw[Qia];cases l.any λv=>!inV v with
 |true=>exact⟨_,_,rfl,rfl,trivial⟩
 |false =>
  show Rd (one r1I) (sl (Xa8 l) (some (i 11,[])) (some (i 0,[]))) (λ_=>True)
  exact Rd.sl (λ_=>⟨_,_,rfl,rfl,trivial⟩) λ_=>⟨_,_,rfl,rfl,trivial⟩
theorem Gd3(l:List V3)(hl:l.length<=1000000000):jc8 l=true:=(se4 l hl).g
theorem Ze5(p:Pln)(l:List V3)(hl:l.length<=1000000000):Rd (one r1B) (La5 p l) (λ_=>True):=by
 have h:=hb9 (step:=ha3 ⟨l,p.n.x,p.n.y,p.n.z,p.b⟩) (mk:=λj=>(⟨(j:Int)⟩:S8)) (c:=λv=>decide (jb2 p v>0)) (u:=1) (fin:=2) tV l hl
  (λj hj=>by
   simp only[ha3,ja6,Int.toNat_natCast,Rd4,n8 hj (show l.length<=4611686018427387904 by omega)]
   rw[btD (g7 hj),bt (f0 hj),f9])
  (by simp only[ha3,ja6];rw[bfD (l9 (Qic _))]) 0 (Qie _)
 unfold La5;simp only[i5,i8];rw[show (⟨0⟩:S8)=⟨((0:Nat):Int)⟩ from rfl,h]
 split<;>exact⟨_,_,rfl,rfl,trivial⟩
theorem ze9(p:Pln)(l:List V3)(hl:l.length<=1000000000):na9 p l=true:=(Ze5 p l hl).g
theorem Lf1(p q:Pln):Rd (one r1I) (wa7 p q) (λ_=>True):=by
 have key:∃t s,lp (L6 ⟨p.n.x,p.n.y,p.n.z,p.b,q.n.x,q.n.y,q.n.z,q.b⟩) ⟨0⟩=(t,s)/\(t=1\/t=2\/t=3):=by
  refine Z6 (step:=L6 ⟨p.n.x,p.n.y,p.n.z,p.b,q.n.x,q.n.y,q.n.z,q.b⟩) (mk:=λj (_:Unit)=>(⟨(j:Int)⟩:U2)) 4 (λ_ _=>True) (λt s=>t=1\/t=2\/t=3) (by omega) (λj x hj _=>?_) (λj x hj _=>?_) 0 () trivial
  ·have hn:=n8 hj (show 4<=4611686018427387904 by omega)
   simp only[L6,Z3,Int.toNat_natCast,hn];have hlt:(j:Int)<4:=by omega
   have hin:=f0 hj;have g:∀x1 x2 x3 x4:Int,((Nat.ble ((0+(j*1))+1) 4)&&(ra7 [CK.int .i64] (l0 [i x1,i x2,i x3,i x4] (0+(j*1)))))=true:=by
    intro x1 x2 x3 x4
    match j,hj with
    |0,_=>rfl
    |1,_=>rfl
    |2,_=>rfl
    |3,_=>rfl
   rw[btD hlt];simp only[hin,g,f9];exact Nx.sl (λ_=>.ex (by simp)) λ_=>Nx.sl (λ_=>.ex (by simp)) λ_=>.nx ⟨(),rfl,trivial⟩
  ·simp only[L6,Z3];rw[bfD (by omega)]
   exact⟨_,rfl,by simp⟩
 obtain⟨t,s,h1,h2⟩:=key;unfold wa7
 simp only
 rw[h1]
 rcases h2 with rfl|rfl|rfl<;>exact⟨_,_,rfl,rfl,trivial⟩
theorem se5(p q:Pln):lb6 p q=true:=(Lf1 p q).g
theorem yc5(l:List Pln)(n:Nat)(h:n<=l.length):o8 (λk=>(λk=>tP.row (gL tP l k)) (0+k)) (List.range (n-0))=bL tP (l.take n):=by
 rw[<- Ab2,p5,p5,Qio,Nat.min_eq_left h,Nat.sub_zero];apply Qix;intro k hk;rw[List.mem_range] at hk;show tP.row (gL tP l (0+k))=tP.row (gL tP (l.take n) k);congr 1;simp[gL,Qir,List.getElem?_take,hk]
theorem yc6(l:List Pln)(n:Nat):o8 (λk=>(λk=>tP.row (gL tP l k)) (n+k)) (List.range (l.length-n))=bL tP (l.drop n):=by
 rw[<- Ab2,p5,p5,Qid];apply Qix;intro k hk;show tP.row (gL tP l (n+k))=tP.row (gL tP (l.drop n) k);rw[Gc6]
theorem Hc5(l:List Pln)(x1 x2 x3 x4:Int):app (bL tP l) [[i x1,i x2,i x3,i x4]]=bL tP (l++[⟨⟨x1,x2,x3⟩,x4⟩]):=Ra1 tP l [⟨⟨x1,x2,x3⟩,x4⟩]
def pb8(x:List Pln)(y:Pln)(n:Nat):List Pln:=x.take n++(y::x.drop n)
theorem Rd5{l:List Pln}{n:Nat}{r:List (List b7)}{P:List Pln->Prop}(hn:n=l.length)(hr:r=bL tP l)(h:P l):Rd (one (r1L tP)) (some (.sl 0 0 n 0,[⟨73,4,r,true,false,0⟩])) P:=by
 subst hn hr;exact⟨_,l,rfl,xc7 l,h⟩
theorem Ze6(x:List Pln)(y:Pln)(hx:x.length<=1000000):Rd (one (r1L tP)) (jb4 x y) (λr=>r≠[]/\r.length<=x.length+1/\∀p∈r,p=y\/p∈x):=by
 have h:=Na8 (step:=fa6 ⟨x,y.n.x,y.n.y,y.n.z,y.b⟩) (mk:=λj=>(⟨(j:Int)⟩:ha4)) (c:=λp=>!decide (fa5 p y<0)) (u:=1) (fin:=2) tP x (by omega)
  (λj hj=>by
   simp only[fa6,wa8,Int.toNat_natCast,se5,n8 hj (show x.length<=4611686018427387904 by omega)]
   rw[btD (g7 hj),bt (f0 hj),f9];cases decide (fa5 (gL tP x j) y<0)<;>rfl)
  (by simp only[fa6,wa8];rw[bfD (l9 (Qic _))]) 0 (Qie _)
 rw[Qia] at h;have key:∃t n,lp (fa6 ⟨x,y.n.x,y.n.y,y.n.z,y.b⟩) ⟨0⟩=(t,⟨((n:Nat):Int)⟩)/\(t=1\/t=2)/\n<=x.length:=by
  rw[show (⟨0⟩:ha4)=⟨((0:Nat):Int)⟩ from rfl,h]
  split
  ·exact⟨1,_,rfl,.inl rfl,by rw[Qij];exact List.findIdx_le_length⟩
  ·exact⟨2,_,rfl,.inr rfl,Nat.le_refl _⟩
 obtain⟨t,n,h1,h2,h3⟩:=key;have hlo:inB (n:Int) (x.length+1)=true:=f0 (by omega)
 have hd:(bL tP (x.take n)).length=n:=by rw[<- n7,S6,Qio];omega
 have hmem:∀p∈pb8 x y n,p=y\/p∈x:=λp hp=>by
  unfold pb8 at hp
  rcases Qiv.1 hp with hp|hp
  ·exact .inr (List.mem_of_mem_take hp)
  ·rcases List.mem_cons.1 hp with hp|hp
   ·exact .inl hp
   ·exact .inr (Qip hp)
 have hne:pb8 x y n≠[]:=by unfold pb8;simp
 have hlen:(pb8 x y n).length=x.length+1:=by unfold pb8;simp only[Qib,List.length_cons,Qio,Qid];omega
 have lt:len (bL tP (x.take n))=n:=by rw[n7];exact hd
 have ld:len (bL tP (x.drop n))=x.length-n:=by rw[S6,Qid]
 have b1:(Nat.beq 1 1&&Nat.ble ((1+(x.length-n))*32) room)=true:=by rw[fa0 (by omega)];rfl
 have b2:(Nat.beq 0 0&&Nat.ble ((0+n)*32) room)=true:=by rw[fa0 (by omega)];rfl
 have e0:app [] (bL tP (x.take n))=bL tP (x.take n):=rfl;have b3:(Nat.beq (0+n) n&&Nat.ble (((0+n)+1)*32) room)=true:=by rw[fa0 (by omega),Qij,Qik];rfl
 have l3:len (bL tP (x.take n++[y]))=n+1:=by rw[S6,Qib,Qio];simp only[List.length_singleton];omega
 have b4:(Nat.beq ((0+n)+1) (n+1)&&Nat.ble ((((0+n)+1)+(x.length-n))*32) room)=true:=by rw[fa0 (by omega),Qij,Qik];rfl
 have z0:∀{k:Nat},Nat.beq k 0=true->k=0:=λ{k} h=>Nat.eq_of_beq_eq_true h
 have fin:∀m r,m=x.length+1->r=bL tP (pb8 x y n)->Rd (one (r1L tP)) (some (.sl 0 0 m 0,[⟨73,4,r,true,false,0⟩])) (λr=>r≠[]/\r.length<=x.length+1/\∀p∈r,p=y\/p∈x) :=
  λm r hm hr=>Rd5 (by rw[hlen];exact hm) hr ⟨hne,by omega,hmem⟩
 have tail : Rd (one (r1L tP)) (sl (Nat.beq n 0) (sl (Nat.beq (x.length - n) 0) (some ((.sl 0 0 1 0), [⟨73, 4, [[(i y.n.x), (i y.n.y), (i y.n.z), (i y.b)]], true, false, 0⟩]))
   (some ((.sl 0 0 (1+(x.length-n)) 0),[⟨73,4,(app [[(i y.n.x),(i y.n.y),(i y.n.z),(i y.b)]] (bL tP (x.drop n))),true,false,0⟩])))
   (sl (Nat.beq (x.length-n) 0) (some (.sl 0 0 ((0+n)+1) 0,[⟨73,4,bL tP (x.take n++[y]),true,false,0⟩]))
    (some ((.sl 0 0 (((0+n)+1)+(x.length-n)) 0),[⟨73,4,(app (bL tP (x.take n++[y])) (bL tP (x.drop n))),true,false,0⟩])))) (λr=>r≠[]/\r.length<=x.length+1/\∀p∈r,p=y\/p∈x):=by
  refine Rd.sl (λq1=>Rd.sl (λq2=>?_) (λq2=>?_)) (λq1=>Rd.sl (λq2=>?_) (λq2=>?_))
  ·have:=z0 q1;have:=z0 q2
   refine fin _ _ (by omega) ?_
   have:x=[]:=List.eq_nil_of_length_eq_zero (by omega)
   subst this;rw[show n=0 by omega];rfl
  ·have:=z0 q1;subst this
   exact fin _ _ (by omega) rfl
  ·have:=z0 q2
   refine fin _ _ (by omega) ?_
   unfold pb8;rw[show x.drop n=[] from Qin (by omega)]
  ·refine fin _ _ (by omega) ?_
   rw[Ra1];unfold pb8;rw[Qis];rfl
 have same:∀p:Pln,(p.n.x==y.n.x&&(p.n.y==y.n.y&&(p.n.z==y.n.z&&(p.b==y.b&&true))))=true->n<x.length->Rd (one (r1L tP)) (some (eL tP x,[])) (λr=>r≠[]/\r.length<=x.length+1/\∀p∈r,p=y\/p∈x):=λp _ hn =>
  ⟨_,x,rfl,sc8 tP x,List.ne_nil_of_length_pos (by omega),Nat.le_succ _,λp hp=>Or.inr hp⟩
 unfold jb4;simp only[i5,i8];rw[h1];simp only[Int.toNat_natCast,yc5 x n h3,yc6,lt,ld,b1,b2,e0,b3,Hc5,l3,b4,hlo,f9]
 have main : Rd (one (r1L tP)) (sl (decide ((n : Int) < (x.length : Int))) (sl (inB (n : Int) x.length) (sl (((gL tP x n).n.x == y.n.x) && (((gL tP x n).n.y == y.n.y) && (((gL tP x n).n.z == y.n.z) && (((gL tP x n).b == y.b) && true)))) (some (eL tP x, []))
   (sl (Nat.beq n 0) (sl (Nat.beq (x.length-n) 0) (some (.sl 0 0 1 0,[⟨73,4,[[i y.n.x,i y.n.y,i y.n.z,i y.b]],true,false,0⟩]))
   (some ((.sl 0 0 (1+(x.length-n)) 0),[⟨73,4,(app [[(i y.n.x),(i y.n.y),(i y.n.z),(i y.b)]] (bL tP (x.drop n))),true,false,0⟩])))
   (sl (Nat.beq (x.length-n) 0) (some (.sl 0 0 ((0+n)+1) 0,[⟨73,4,bL tP (x.take n++[y]),true,false,0⟩]))
    (some ((.sl 0 0 (((0+n)+1)+(x.length-n)) 0),[⟨73,4,(app (bL tP (x.take n++[y])) (bL tP (x.drop n))),true,false,0⟩]))))) none)
   (sl (Nat.beq n 0) (sl (Nat.beq (x.length-n) 0) (some (.sl 0 0 1 0,[⟨73,4,[[i y.n.x,i y.n.y,i y.n.z,i y.b]],true,false,0⟩]))
   (some ((.sl 0 0 (1+(x.length-n)) 0),[⟨73,4,(app [[(i y.n.x),(i y.n.y),(i y.n.z),(i y.b)]] (bL tP (x.drop n))),true,false,0⟩])))
   (sl (Nat.beq (x.length-n) 0) (some (.sl 0 0 ((0+n)+1) 0,[⟨73,4,bL tP (x.take n++[y]),true,false,0⟩]))
    (some ((.sl 0 0 (((0+n)+1)+(x.length-n)) 0),[⟨73,4,(app (bL tP (x.take n++[y])) (bL tP (x.drop n))),true,false,0⟩]))))) (λr=>r≠[]/\r.length<=x.length+1/\∀p∈r,p=y\/p∈x):=by
  by_cases hn:n<x.length
  ·rw[btD (g7 hn),bt (f0 hn)];exact Rd.sl (λq=>same _ q hn) λ_=>tail
  ·rw[bfD (l9 hn)];exact tail
 rcases h2 with rfl|rfl
 ·exact main
 ·exact main
end Go.Ev.Ce
