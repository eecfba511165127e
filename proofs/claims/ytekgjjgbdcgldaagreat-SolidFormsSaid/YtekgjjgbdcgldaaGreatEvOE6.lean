/- Own work. -/
import Derived.Test.YtekgjjgbdcgldaaGreatEvOE1
set_option linter.all false
def Qia:=@List.drop_zero
def Qib:=@List.length_append
def Qic:=@Nat.lt_irrefl
def Qid:=@List.length_drop
def Qie:=@Nat.zero_le
def Qif:=@List.mem_cons_of_mem
def Qig:=@Bool.and_eq_true
def Qih:=@List.getElem_mem
def Qii:=@List.not_all_eq_any_not
def Qij:=@Nat.zero_add
def Qik:=@Nat.beq_refl
def Qil:=@Bool.and_true
def Qim:=@List.drop_eq_getElem_cons
def Qin:=@List.length_take
def Qio:=@List.mem_of_mem_drop
def Qip:=@List.mem_cons_self
def Qiq:=@List.getD_eq_getElem?_getD
def Qir:=@List.append_assoc
def Qis:=@Bool.not_eq_true
def Qit:=@List.all_eq_true
def Qiu:=@List.mem_append
def Qiv:=@List.drop_eq_nil_of_le
def Qiw:=@Bool.not_false
def Qix:=@List.map_congr_left
def Qiy:=@Nat.le_trans
namespace Go.Ev.Ce
open Go Go.Ev Go.Ev.L Go.Proofs
noncomputable def inn(l:List Pln)(x:Pt):Bool:=l.all λp=>!decide (rm p x<0)
theorem Ie5(l:List Pln)(x:Pt):inn l x=!l.any λp=>decide (rm p x<0):=by unfold inn;rw[List.not_any_eq_all_not]
theorem Xf7(p:Pln)(x:Pt):wb9 ⟨p.n.x,p.n.y,p.n.z,p.b,x.px,x.py,x.pz,x.pw⟩=⟨decide (rm p x<0)⟩:=by
 show Fa5.mk (decide (Ca4 p x<0))=_;rw[ae0]
theorem uf8(l:List Pln)(x:Pt)(hl:l.length<=1000000000):ea3 ⟨l,x.px,x.py,x.pz,x.pw⟩=⟨1,if l.any (λp=>decide (rm p x<0)) then ((l.findIdx (λp=>decide (rm p x<0)):Nat):Int) else -1⟩:=by
 have h:=za2 (step:=M5 ⟨l,(l.length:Int),x.px,x.py,x.pz,x.pw⟩) (mk:=λj=>(⟨(j:Int)⟩:p9)) (c:=λp=>decide (rm p x<0)) (u:=1) (fin:=2) tP l hl
  (λj hj=>by
   simp only[M5,K0,Int.toNat_natCast,Xf7,n8 hj (by omega)]
   rw[bt (oc0 hj),bt (d9 hj)])
  (by simp only[M5,K0];rw[bf (bc7 (Qic _))]) 0 (Qie _)
 rw[Qia] at h;unfold ea3 L0;simp only[i5,i9];rw[show (⟨0⟩:p9)=⟨((0:Nat):Int)⟩ from rfl,h]
 split
 ·simp only[Qij];rfl
 ·rfl
theorem Od8(l:List Pln)(x:Pt)(hl:l.length<=1000000000):Wa3 l x=some (b (inn l x),[]):=by
 unfold Wa3 la2 F7;simp only[i5,i9,uf8 l x hl,Ie5];split
 ·rename_i h;rw[h,show decide (((l.findIdx (λp=>decide (rm p x<0)):Nat):Int)>=0)=true from decide_eq_true (by omega)];rfl
 ·rename_i h;rw[Qis] at h;rw[h];rfl
theorem ef1(l:List Pln)(x:Pt)(hl:l.length<=1000000000):Ia9 l x=inn l x:=by unfold Ia9;rw[Od8 l x hl];rfl
theorem ef2(l:List Pln)(x:Pt)(hl:l.length<=1000000000):Ja0 l x=true:=by unfold Ja0;rw[Od8 l x hl];rfl
theorem Ff7(l:List Pln)(x:Pt)(hl:l.length<=1000000000):pc3 l x=some (b (inn l x),[]):=by
 have h:=fb0 (step:=sb1 ⟨l,x.px,x.py,x.pz,x.pw⟩) (mk:=λj=>(⟨(j:Int)⟩:Da4)) (c:=λp=>decide (rm p x<0)) (u:=1) (fin:=2) tP l hl
  (λj hj=>by
   simp only[sb1,fb2,Int.toNat_natCast,md2,n8 hj (by omega)]
   rw[bt (oc0 hj),bt (d9 hj)])
  (by simp only[sb1,fb2];rw[bf (bc7 (Qic _))]) 0 (Qie _)
 rw[Qia] at h;unfold pc3;simp only[i5,i9,Ie5];rw[show (⟨0⟩:Da4)=⟨((0:Nat):Int)⟩ from rfl,h]
 split
 ·rename_i h;rw[h];rfl
 ·rename_i h;rw[Qis] at h;rw[h];rfl
theorem mg0(l:List Pln)(x:Pt)(hl:l.length<=1000000000):Wb8 l x=inn l x:=by unfold Wb8;rw[Ff7 l x hl];rfl
theorem mg1(l:List Pln)(x:Pt)(hl:l.length<=1000000000):Wb9 l x=true:=by unfold Wb9;rw[Ff7 l x hl];rfl
def eqX(x q:Pt):Bool:=q.px==x.px&&(q.py==x.py&&(q.pz==x.pz&&(q.pw==x.pw&&true)))
theorem Ie6(x q:Pt):eqX x q=true↔q=x:=by
 unfold eqX;simp only[Qil,Qig,beq_iff_eq];exact⟨λ⟨h1,h2,h3,h4⟩=>by cases q;cases x;simp_all,λh=>by subst h;exact⟨rfl,rfl,rfl,rfl⟩⟩
def qc8(l:List Pt)(x:Pt):Bool:=l.any (eqX x)
theorem ef3(l:List Pt)(x:Pt):qc8 l x=true↔x∈l:=by
 unfold qc8;rw[List.any_eq_true];exact⟨λ⟨q,h,e⟩=>(Ie6 x q).1 e ▸ h,λh=>⟨x,h,(Ie6 x x).2 rfl⟩⟩
theorem ne8(l:List Pt)(x:Pt)(hl:l.length<=1000000000):sb2 l x=some (b (qc8 l x),[]):=by
 have h:=fb0 (step:=Ma3 ⟨l,x.px,x.py,x.pz,x.pw⟩) (mk:=λj=>(⟨(j:Int)⟩:ha7)) (c:=eqX x) (u:=1) (fin:=2) tX l hl
  (λj hj=>by
   simp only[Ma3,Fa3,Int.toNat_natCast,n8 hj (by omega)]
   rw[bt (oc0 hj),bt (d9 hj)]
   rfl)
  (by simp only[Ma3,Fa3];rw[bf (bc7 (Qic _))]) 0 (Qie _)
 rw[Qia] at h;unfold sb2;simp only[i5,i9];rw[show (⟨0⟩:ha7)=⟨((0:Nat):Int)⟩ from rfl,h]
 unfold qc8;split
 ·rename_i h;rw[h];rfl
 ·rename_i h;rw[Qis] at h;rw[h];rfl
theorem uf9(l:List Pt)(x:Pt)(hl:l.length<=1000000000):cb0 l x=qc8 l x:=by unfold cb0;rw[ne8 l x hl];rfl
theorem vf0(l:List Pt)(x:Pt)(hl:l.length<=1000000000):cb1 l x=true:=by unfold cb1;rw[ne8 l x hl];rfl
def smb(n x:Int):Bool:=!decide (x < -n)&&!decide (x>n)
theorem Bb3(n x:Int):smb n x=true↔Sm n x:=by unfold smb Sm;simp only[Qig,Bool.not_eq_true',decide_eq_false_iff_not];omega
theorem ud6(n:Int)(l:List Int)(hn:0<=n/\n<=1000000000)(hl:l.length<=1000000000):Na4 n l=some (b (l.all (smb n)),[]):=by
 have hW:W (0-n)=-n:=by rw[ka5 (by omega) (by omega)];omega
 have h:=fb0 (step:=va7 ⟨n,l,(l.length:Int)⟩) (mk:=λj=>(⟨(j:Int)⟩:S6)) (c:=λx=>!smb n x) (u:=1) (fin:=2) tI l hl
  (λj hj=>by
   simp only[va7,qa3,Int.toNat_natCast,n8 hj (by omega),hW]
   rw[bt (oc0 hj),bt (d9 hj)];unfold smb;cases decide (gL tI l j < -n)<;>cases decide (gL tI l j>n)<;>rfl)
  (by simp only[va7,qa3];rw[bf (bc7 (Qic _))]) 0 (Qie _)
 rw[Qia] at h;unfold Na4;simp only[i5,i9];rw[show (⟨0⟩:S6)=⟨((0:Nat):Int)⟩ from rfl,h]
 have e:(l.any λx=>!smb n x)=!l.all (smb n):=by rw[Qii]
 rw[e];cases l.all (smb n)<;>rfl
theorem Od9(n:Int)(l:List Int)(hn:0<=n/\n<=1000000000)(hl:l.length<=1000000000):Na5 n l=l.all (smb n):=by unfold Na5;rw[ud6 n l hn hl];rfl
theorem Pd0(n:Int)(l:List Int)(hn:0<=n/\n<=1000000000)(hl:l.length<=1000000000):Na6 n l=true:=by unfold Na6;rw[ud6 n l hn hl];rfl
theorem ne9{n:Int}(h:Sm 1000000000000000000 n):Ra7 n=(n.natAbs:Int):=by
 unfold Ra7;obtain⟨h1,h2⟩:=h;rw[ka5 (by omega) (by omega)]
 split<;>omega
theorem Pc5{n:Int}(h:Sm 1000000000000000000 n):Ma4 n=some (i (n.natAbs:Int),[]):=by
 unfold Ma4;obtain⟨h1,h2⟩:=h;rw[ka5 (by omega) (by omega)]
 by_cases h:n<0
 ·rw[bt (decide_eq_true h)];congr 3;omega
 ·rw[bf (decide_eq_false h)];congr 3;omega
theorem qc9{n:Int}(h:Sm 1000000000000000000 n):za8 n=(n.natAbs:Int):=by unfold za8;rw[Pc5 h];rfl
theorem rc0{n:Int}(h:Sm 1000000000000000000 n):za9 n=true:=by unfold za9;rw[Pc5 h];rfl
def g3(v:V3):Int:=(Nat.gcd (Nat.gcd v.x.natAbs v.y.natAbs) v.z.natAbs:Nat)
theorem ef4(g n:Nat):eu (g:Int) (n:Int)=(Nat.gcd g n:Nat):=by rw[Ze6 (by omega) (by omega)];rfl
theorem Gd6(P:ka6)(g n:Nat)(hn:n<=1000000000000000000):lp (ga9 P) ⟨(g:Int),(n:Int)⟩=(1,⟨(Nat.gcd g n:Nat),0⟩):=by
 have:=cd2 (step:=ga9 P) (mk:=λg n=>(⟨g,n⟩:U6)) (λg n h=>by
  have h0:n≠0:=by omega
  simp[ga9,ma6,Eb8,h,h0]) (λg=>by simp[ga9,ma6,Eb8]) (g:Int) (n:Int) (by omega) (by omega) (by omega)
 rw[this,ef4]
theorem Ce0(l:List Int)(hl:l.length<=1000000000)(hb:∀x∈l,Sm 1000000000000000000 x):Fa9 l=some (i (l.foldl (λg x=>Nat.gcd g x.natAbs) 0:Nat),[]):=by
 have h := Mc9 (step := qa4 ⟨(l.length : Int)⟩) (mk := fun j (a : Nat) => (⟨(a : Int), l, (j : Int)⟩ : P6)) (f := fun g x => Nat.gcd g x.natAbs) (fin := 2) tI l (fun _ _ => True) hl (fun j a hj _ => ⟨by
   have hm:=hb _ (Y0 tI hj);have hne:(gL tI l j==(-9223372036854775808:Int))=false:=by
    have:=hm.1
    rw[beq_eq_false_iff_ne];omega
   have hs:(gL tI l j).natAbs<=1000000000000000000:=by obtain⟨h1,h2⟩:=hm;omega
   simp only[qa4,ma7,Int.toNat_natCast,i5,i9,ne9 hm,Gd6 _ _ _ hs,n8 hj (by omega)]
   rw[bt (oc0 hj),bt (d9 hj),bf hne]
   rfl,trivial⟩) (λa _=>by simp only[qa4,ma7];rw[bf (bc7 (Qic _))]) 0 (Qie _) 0 trivial
 have h:=h.1;rw[Qia] at h;unfold Fa9;simp only[i5,i9];rw[show (⟨0,l,0⟩:P6)=⟨((0:Nat):Int),l,((0:Nat):Int)⟩ from rfl,h]
 rfl
def okp(p:Pln):Bool:=[p.n.x,p.n.y,p.n.z].all (smb 4608)&&(g3 p.n==1&&[p.b].all (smb 2097152))
theorem Lf1(p:Pln):Bd p↔[p.n.x,p.n.y,p.n.z].all (smb 4608)=true/\[p.b].all (smb 2097152)=true:=by
 simp only[List.all_cons,List.all_nil,Qil,Qig,Bb3,Sm];exact⟨λh=>⟨⟨⟨h.x1,h.x2⟩,⟨h.y1,h.y2⟩,h.z1,h.z2⟩,h.b1,h.b2⟩,λ⟨⟨⟨a,b⟩,⟨c,d⟩,e,f⟩,g,h⟩=>⟨a,b,c,d,e,f,g,h⟩⟩
theorem rc1{p:Pln}(h:okp p=true):Bd p:=by
 unfold okp at h;rw[Qig,Qig] at h;exact (Lf1 p).2 ⟨h.1,h.2.2⟩
theorem sm3{v:V3}(h:[v.x,v.y,v.z].all (smb 4608)=true):Sm 4608 v.x/\Sm 4608 v.y/\Sm 4608 v.z:=by
 simpa only[List.all_cons,List.all_nil,Qil,Qig,Bb3] using h
theorem oe0(p:Pln):Wa5 p=some (b (okp p),[]):=by
 unfold Wa5 okp;have l3:[p.n.x,p.n.y,p.n.z].length<=1000000000:=by simp
 have l1:[p.b].length<=1000000000:=by simp
 simp only[Od9 4608 _ (by omega) l3,Pd0 4608 _ (by omega) l3,Od9 2097152 _ (by omega) l1,Pd0 2097152 _ (by omega) l1]
 cases hw:[p.n.x,p.n.y,p.n.z].all (smb 4608) with
 |false=>rfl
 |true =>
  obtain⟨h1,h2,h3⟩:=sm3 hw;have hd:=Ce0 [p.n.x,p.n.y,p.n.z] l3 (by
   intro x hx;simp only[List.mem_cons,List.not_mem_nil,or_false] at hx
   rcases hx with rfl|rfl|rfl
   ·exact h1.mono (by omega)
   ·exact h2.mono (by omega)
   ·exact h3.mono (by omega))
  have hg:([p.n.x,p.n.y,p.n.z].foldl (λg x=>Nat.gcd g x.natAbs) 0:Nat)=Nat.gcd (Nat.gcd p.n.x.natAbs p.n.y.natAbs) p.n.z.natAbs:=by
   simp only[List.foldl_cons,List.foldl_nil,Nat.gcd_zero_left]
  have hp:Za4 [p.n.x,p.n.y,p.n.z]=g3 p.n:=by unfold Za4;rw[hd,hg];rfl
  have hgd:Za5 [p.n.x,p.n.y,p.n.z]=true:=by unfold Za5;rw[hd];rfl
  rw[hp,hgd];cases g3 p.n==1<;>rfl
theorem vf1(p:Pln):qb2 p=okp p:=by unfold qb2;rw[oe0 p];rfl
theorem vf2(p:Pln):qb3 p=true:=by unfold qb3;rw[oe0 p];rfl
theorem Xc6(P:va1)(g n:Nat)(hn:n<=1000000000000000000):lp (pa5 P) ⟨(g:Int),(n:Int)⟩=(1,⟨(Nat.gcd g n:Nat),0⟩):=by
 have:=cd2 (step:=pa5 P) (mk:=λg n=>(⟨g,n⟩:ba0)) (λg n h=>by
  have h0:n≠0:=by omega
  simp[pa5,Ma5,Eb8,h,h0]) (λg=>by simp[pa5,Ma5,Eb8]) (g:Int) (n:Int) (by omega) (by omega) (by omega)
 rw[this,ef4]
theorem ae1 {v : V3} (h1 : Sm 1000000000000000000 v.x) (h2 : Sm 1000000000000000000 v.y) (h3 : Sm 1000000000000000000 v.z) :
  Gb1 v=if g3 v=0 then some (.tup [.agg (tV.row ⟨0,0,0⟩),i 0],[]) else some (.tup [.agg (tV.row ⟨W (Int.tdiv v.x (g3 v)),W (Int.tdiv v.y (g3 v)),W (Int.tdiv v.z (g3 v))⟩),i (g3 v)],[]):=by
 have ne:∀{x:Int},Sm 1000000000000000000 x->(x==(-9223372036854775808:Int))=false:=λ{x} h=>by
  have:=h.1
  rw[beq_eq_false_iff_ne];omega
 have bd:∀{x:Int},Sm 1000000000000000000 x->x.natAbs<=1000000000000000000:=λ{x} h=>by obtain⟨h1,h2⟩:=h;omega
 have l1:=Xc6 ⟨0,v.x,v.y,v.z,v.x,v.y,v.z⟩ 0 v.x.natAbs (bd h1);rw[Nat.gcd_zero_left] at l1;have l2:=Xc6 ⟨1,v.x,v.y,v.z,v.x,v.y,v.z⟩ v.x.natAbs v.y.natAbs (bd h2);have l3:=Xc6 ⟨2,v.x,v.y,v.z,v.x,v.y,v.z⟩ (Nat.gcd v.x.natAbs v.y.natAbs) v.z.natAbs (bd h3);unfold Gb1;simp only[qc9 h1,qc9 h2,qc9 h3,rc0 h1,rc0 h2,rc0 h3];rw[show (⟨0,(v.x.natAbs:Int)⟩:ba0)=⟨((0:Nat):Int),(v.x.natAbs:Int)⟩ from rfl]
 simp only[l1,l2,l3,ne h1,ne h2,ne h3];rw[show ((Nat.gcd (Nat.gcd v.x.natAbs v.y.natAbs) v.z.natAbs:Nat):Int)=g3 v from rfl]
 by_cases h:g3 v=0
 ·rw[if_pos h,show (g3 v==0)=true from by rw[h];rfl];rfl
 ·rw[if_neg h,show (g3 v==0)=false from by rw[beq_eq_false_iff_ne];exact h];rfl
theorem ud7{v:V3}(h1:Sm 1000000000000000000 v.x)(h2:Sm 1000000000000000000 v.y)(h3:Sm 1000000000000000000 v.z):(ab9 v).2=g3 v:=by
 unfold ab9;rw[ae1 h1 h2 h3];split
 ·rename_i h;rw[h];rfl
 ·rfl
theorem Lf2{v:V3}(h1:Sm 1000000000000000000 v.x)(h2:Sm 1000000000000000000 v.y)(h3:Sm 1000000000000000000 v.z)(h:g3 v≠0):ab9 v=(⟨W (Int.tdiv v.x (g3 v)),W (Int.tdiv v.y (g3 v)),W (Int.tdiv v.z (g3 v))⟩,g3 v):=by
 unfold ab9;rw[ae1 h1 h2 h3,if_neg h];rfl
theorem ef5{v:V3}(h1:Sm 1000000000000000000 v.x)(h2:Sm 1000000000000000000 v.y)(h3:Sm 1000000000000000000 v.z):Gb2 v=true:=by
 unfold Gb2;rw[ae1 h1 h2 h3]
 split<;>rfl
theorem Pd1(p:Pln):sb3 p=some (b (okp p),[]):=by
 unfold sb3 okp;cases hw:[p.n.x,p.n.y,p.n.z].all (smb 4608) with
 |false =>
  simp only[List.all_cons,List.all_nil,Qil,smb] at hw;cases h1:decide (p.n.x < -4608)<;>cases h2:decide (p.n.x>4608)<;>cases h3:decide (p.n.y < -4608)<;>cases h4:decide (p.n.y>4608)<;>cases h5:decide (p.n.z < -4608)<;>cases h6:decide (p.n.z>4608)<;>simp only[h1,h2,h3,h4,h5,h6] at hw ⊢<;>first | rfl | cases hw
 |true =>
  obtain⟨h1,h2,h3⟩:=sm3 hw;rw[bf (decide_eq_false (by have:=h1.1;omega)),bf (decide_eq_false (by have:=h1.2;omega)),bf (decide_eq_false (by have:=h2.1;omega)),bf (decide_eq_false (by have:=h2.2;omega)),bf (decide_eq_false (by have:=h3.1;omega)),bf (decide_eq_false (by have:=h3.2;omega))]
  have k1:=h1.mono (m:=1000000000000000000) (by omega)
  have k2:=h2.mono (m:=1000000000000000000) (by omega)
  have k3:=h3.mono (m:=1000000000000000000) (by omega)
  rw[bt (ef5 k1 k2 k3),ud7 k1 k2 k3];cases g3 p.n==1 with
  |false=>rfl
  |true =>
   simp only[List.all_cons,List.all_nil,Qil,smb,Bool.true_and];rw[f0];by_cases ha:p.b < -2097152
   ·rw[bf (decide_eq_false (by omega)),show decide (p.b < -2097152)=true from decide_eq_true ha];rfl
   ·rw[bt (decide_eq_true (by omega)),show decide (p.b < -2097152)=false from decide_eq_false ha]
    congr 3;by_cases hc:p.b<=2097152
    ·rw[decide_eq_true hc,decide_eq_false (by omega)];rfl
    ·rw[decide_eq_false hc,decide_eq_true (by omega)];rfl
theorem oe1(p:Pln):sb4 p=okp p:=by unfold sb4;rw[Pd1 p];rfl
theorem ud8(p:Pln):sb5 p=true:=by unfold sb5;rw[Pd1 p];rfl
def chk(l:List Pln):Int:=if (l.length:Int)>48 then 2 else if l.all okp then 0 else 12
theorem oe2(l:List Pln)(hl:l.length<=1000000000):gb6 l=some (i (chk l),[]):=by
 have hk1:∀p,Na7 p=some (b (!okp p),[]):=λp=>by unfold Na7;rw[vf2,vf1];rfl
 have hp1:∀p,gb4 p=!okp p:=λp=>by unfold gb4;rw[hk1];rfl
 have hg1:∀p,gb5 p=true:=λp=>by unfold gb5;rw[hk1];rfl
 have h:=za2 (step:=M6 ⟨l,(l.length:Int)⟩) (mk:=λj=>(⟨(j:Int)⟩:q7)) (c:=λp=>!okp p) (u:=1) (fin:=2) tP l hl
  (λj hj=>by
   simp only[M6,K1,Int.toNat_natCast,hp1,hg1,n8 hj (by omega)]
   rw[bt (oc0 hj),bt (d9 hj),f0])
  (by simp only[M6,K1];rw[bf (bc7 (Qic _))]) 0 (Qie _)
 rw[Qia] at h;have e:(l.any λx=>!okp x)=!l.all okp:=by rw[Qii]
 unfold gb6 la3 F8 ta6 L1 chk;simp only[i5,i9];rw[show (⟨0⟩:q7)=⟨((0:Nat):Int)⟩ from rfl,h,e]
 by_cases hn:(l.length:Int)>48
 ·rw[bt (decide_eq_true hn),if_pos hn]
 ·rw[bf (decide_eq_false hn),if_neg hn];cases l.all okp with
  |true=>rfl
  |false =>
   simp only[Qiw,if_true,Qij];show sl true (sl (Nat.beq 1 1) (sl (decide (((l.findIdx λp=>!okp p:Nat):Int)>=0)) _ _) _) _=_
   rw[show decide (((l.findIdx λp=>!okp p:Nat):Int)>=0)=true from decide_eq_true (by omega)]
   rfl
theorem md4(l:List Pln)(hl:l.length<=1000000000):va9 l=chk l:=by unfold va9;rw[oe2 l hl];rfl
theorem ae2(l:List Pln)(hl:l.length<=1000000000):Ra8 l=true:=by unfold Ra8;rw[oe2 l hl];rfl
theorem Pd2(l:List Pln)(hl:l.length<=1000000000):sb6 l=some (i (chk l),[]):=by
 have h:=fb0 (step:=Ma6 ⟨l⟩) (mk:=λj=>(⟨(j:Int)⟩:ha8)) (c:=λp=>!okp p) (u:=1) (fin:=2) tP l hl
  (λj hj=>by
   simp only[Ma6,Fa4,Int.toNat_natCast,oe1,ud8,n8 hj (by omega)]
   rw[bt (oc0 hj),bt (d9 hj),f0])
  (by simp only[Ma6,Fa4];rw[bf (bc7 (Qic _))]) 0 (Qie _)
 rw[Qia] at h;have e:(l.any λx=>!okp x)=!l.all okp:=by rw[Qii]
 unfold sb6 chk;simp only[i5,i9];rw[show (⟨0⟩:ha8)=⟨((0:Nat):Int)⟩ from rfl,h,e]
 by_cases hn:(l.length:Int)>48
 ·rw[bt (decide_eq_true hn),if_pos hn]
 ·rw[bf (decide_eq_false hn),if_neg hn];cases l.all okp<;>rfl
theorem Hb7(l:List Pln)(hl:l.length<=1000000000):ja2 l=chk l:=by unfold ja2;rw[Pd2 l hl];rfl
theorem Yb2(l:List Pln)(hl:l.length<=1000000000):va2 l=true:=by unfold va2;rw[Pd2 l hl];rfl
theorem Hb8{l:List Pln}:chk l=0↔l.length<=48/\∀p∈l,okp p=true:=by
 unfold chk;by_cases hn:(l.length:Int)>48
 ·rw[if_pos hn];exact⟨λh=>absurd h (by decide),λh=>by omega⟩
 ·rw[if_neg hn];cases h:l.all okp with
  |true=>exact⟨λ_=>⟨by omega,Qit.1 h⟩,λ_=>rfl⟩
  |false=>exact⟨λh=>absurd h (by decide),λh'=>by rw[Qit.2 h'.2] at h;cases h⟩
theorem btD{p:Prop}{inst:Decidable p}(h:p){α:Type}(t e:α):sl (@decide p inst) t e=t:=bt (decide_eq_true h) t e
theorem bfD{p:Prop}{inst:Decidable p}(h:¬ p){α:Type}(t e:α):sl (@decide p inst) t e=e:=bf (decide_eq_false h) t e
theorem g9{j n:Nat}(h:j<n):(j:Int)<(n:Int):=Int.ofNat_lt.2 h
theorem l0{j n:Nat}(h:¬ j<n):¬ (j:Int)<(n:Int):=λh'=>h (Int.ofNat_lt.1 h')
theorem hb8 {σ τ α : Type} {step : σ → Stp σ} {mk : Nat → τ → σ} {f : α → List α → τ → τ} {g : List α → τ → τ} {fin : τ → Nat} (l : List α) (I : Nat → τ → Prop) (hl : l.length ≤ 1000000000)
  (g0:∀a,g [] a=a) (g1:∀x r a,g (x::r) a=g r (f x r a))
  (h:∀j a (hj:j<l.length),I j a->step (mk j a)=.next (mk (j+1) (f l[j] (l.drop (j+1)) a))/\I (j+1) (f l[j] (l.drop (j+1)) a))
  (hf:∀j a,l.length<=j->I j a->step (mk j a)=.exit (fin a)) (j0:Nat) (a:τ) (hi:I j0 a) :
  lp step (mk j0 a)=(fin (g (l.drop j0) a),mk (max j0 l.length) (g (l.drop j0) a))/\I (max j0 l.length) (g (l.drop j0) a):=by
 have key:=oc1 (step:=step) (I:=λm s=>∃j b,m=l.length-j/\max j l.length=max j0 l.length/\s=mk j b/\I j b/\g (l.drop j) b=g (l.drop j0) a)
  (Q:=λu s=>u=fin (g (l.drop j0) a)/\s=mk (max j0 l.length) (g (l.drop j0) a)/\I (max j0 l.length) (g (l.drop j0) a)) (λm s ⟨j,b,hm,hj,hs,hb,he⟩=>by
   subst hs;by_cases hlt:j<l.length
   ·obtain⟨h1,h2⟩:=h j b hlt hb;refine .inr ⟨_,l.length-(j+1),by omega,h1,j+1,_,rfl,by omega,rfl,h2,?_⟩
    rw[<- he,Qim hlt,g1]
   ·have hd:l.drop j=[]:=Qiv (by omega)
    rw[hd,g0] at he;have hj':j=max j0 l.length:=by omega
    subst he;rw[<- hj'];exact .inl ⟨_,hf j _ (by omega) hb,rfl,rfl,hb⟩) (l.length-j0) (mk j0 a) (by omega) ⟨j0,a,rfl,rfl,rfl,hi,rfl⟩
 exact⟨Prod.ext key.1 key.2.1,key.2.2⟩
noncomputable def Oa3(r:List Pln)(p q:Pln)(out:List Pt)(s:Pln):List Pt :=
 if (mpt p q s).2&&(!qc8 out (mpt p q s).1&&inn r (mpt p q s).1) then out++[(mpt p q s).1] else out
noncomputable def yb0(r:List Pln)(p q:Pln)(l:List Pln)(out:List Pt):List Pt:=l.foldl (Oa3 r p q) out
noncomputable def hb9(r:List Pln)(p:Pln):List Pln->List Pt->List Pt
 |[],out=>out
 |q::l,out=>hb9 r p l (yb0 r p q l out)
noncomputable def Pc6(r:List Pln):List Pln->List Pt->List Pt
 |[],out=>out
 |p::l,out=>Pc6 r l (hb9 r p l out)
noncomputable def cor(r:List Pln):List Pt:=Pc6 r r []
def Bds(r:List Pln):Prop:=∀p∈r,Bd p
theorem Xc7(r:List Pln)(p q:Pln)(out:List Pt)(s:Pln):(Oa3 r p q out s).length<=out.length+1:=by
 unfold Oa3;split
 ·simp
 ·omega
theorem Pc7(r:List Pln)(p q:Pln):∀(l:List Pln) (out:List Pt),(yb0 r p q l out).length<=out.length+l.length
 |[],out=>Nat.le_refl _
 |s::l,out=>by
  have h1:=Xc7 r p q out s;have h2:=Pc7 r p q l (Oa3 r p q out s);show (yb0 r p q l (Oa3 r p q out s)).length<=_;simp only[List.length_cons];omega
theorem ud9(r:List Pln)(p:Pln):∀(l:List Pln) (out:List Pt),l.length<=200->(hb9 r p l out).length<=out.length+200*l.length
 |[],out,_=>by simp[hb9]
 |q::l,out,h=>by
  simp only[List.length_cons] at h ⊢;have h1:=Pc7 r p q l out;have h2:=ud9 r p l (yb0 r p q l out) (by omega)
  show (hb9 r p l (yb0 r p q l out)).length<=_;omega
theorem oe3(r:List Pln):∀(l:List Pln) (out:List Pt),l.length<=200->(Pc6 r l out).length<=out.length+40000*l.length
 |[],out,_=>by simp[Pc6]
 |p::l,out,h=>by
  simp only[List.length_cons] at h ⊢;have h1:=ud9 r p l out (by omega)
  have h2:=oe3 r l (hb9 r p l out) (by omega)
  show (Pc6 r l (hb9 r p l out)).length<=_;omega
theorem ae3(r:List Pln)(_:Bds r)(hr:r.length<=200):(cor r).length<=8000000:=by
 have:=oe3 r r [] hr
 rw[List.length_nil] at this;show (Pc6 r r []).length<=_;omega
noncomputable def ph(out:List Pt):Nat:=match out with
 |[]=>0
 |_::_=>1
theorem oe4(x:Pt):qc8 [] x=false:=rfl
theorem Pc8{α:Type}(t:Ty α)(l:List α)(n k:Nat):gL t (l.drop n) k=gL t l (n+k):=by simp[gL,Qiq,List.getElem?_drop]
theorem oe5{n:Nat}{l:List Pt}(hn:n=l.length)(h:l.length<=1000000000):(Nat.beq n (len (bL tX l))&&Nat.ble ((n+1)*32) room)=true:=by
 subst hn;rw[H7,Qik,Bool.true_and];exact S4 (by omega)
theorem Ie7(l:List Pt)(x:Pt):app (bL tX l) [[i x.px,i x.py,i x.pz,i x.pw]]=bL tX (l++[x]):=Da3 tX l [x]
@[reducible] noncomputable def zc4(k:Nat)(out:List Pt):A1:=⟨ph out,(k:Int),out.length,bL tX out⟩
theorem Lf3(l:List Pt):slR tX (bL tX l) 0 l.length=l:=Sb1 tX l
theorem vf3 (r : List Pln) (hb : Bds r) (hr : r.length ≤ 200) (a c k : Nat) (ha : a < r.length) (hc : c < r.length) (out : List Pt) (ho : out.length ≤ 1000000000) (hk : k < r.length) :
  Y3 ⟨r,a,c⟩ (zc4 k out)=.next (zc4 (k+1) (Oa3 r r[a] r[c] out r[k])):=by
 have hin:∀x,Wb8 r x=inn r x:=λx=>mg0 r x (by omega)
 have hig:∀x,Wb9 r x=true:=λx=>mg1 r x (by omega)
 have hth:∀x,cb0 out x=qc8 out x:=λx=>uf9 out x ho
 have htg:∀x,cb1 out x=true:=λx=>vf0 out x ho
 have hme:=uf6 (hb _ (Qih ha)) (hb _ (Qih hc)) (hb _ (Qih hk));have hmg:=uf7 (hb _ (Qih ha)) (hb _ (Qih hc)) (hb _ (Qih hk));unfold Y3;cases out with
 |nil =>
  show aa4 Stp.next Stp.exit Stp.fail _ (zc4 k [])=_;simp only[aa4,zc4,Int.toNat_natCast,i5,j9,bb9 tP ha,bb9 tP hc,bb9 tP hk,hme,hmg,hin,hig,hth,htg,n8 hk (by omega)]
  rw[btD (g9 hk),bt (d9 ha),bt (d9 hc),bt (d9 hk),f0];unfold Oa3;rw[oe4];cases (mpt r[a] r[c] r[k]).2 with
  |false=>rfl
  |true =>
   cases inn r (mpt r[a] r[c] r[k]).1 with
   |false=>rfl
   |true=>rfl
 |cons o os =>
  show aa5 Stp.next Stp.exit Stp.fail _ (zc4 k (o::os))=_;simp only[aa5,zc4,Int.toNat_natCast,i5,j9,bb9 tP ha,bb9 tP hc,bb9 tP hk,hme,hmg,hin,hig,Lf3,Sb2,hth,htg,n8 hk (by omega)]
  rw[btD (g9 hk),bt (d9 ha),bt (d9 hc),bt (d9 hk),f0,oe5 rfl ho,Ie7];unfold Oa3;cases (mpt r[a] r[c] r[k]).2 with
  |false=>rfl
  |true =>
   cases inn r (mpt r[a] r[c] r[k]).1 with
   |false=>cases qc8 (o::os) (mpt r[a] r[c] r[k]).1<;>rfl
   |true =>
    cases qc8 (o::os) (mpt r[a] r[c] r[k]).1 with
    |true=>rfl
    |false =>
     show Stp.next (⟨1,((k+1:Nat):Int),(o::os).length+1,bL tX (o::os++[(mpt r[a] r[c] r[k]).1])⟩:A1)=_;simp[ph]
theorem Lf4(r:List Pln)(a c k:Nat)(out:List Pt)(hk:r.length<=k):Y3 ⟨r,a,c⟩ (zc4 k out)=.exit (ph out+1):=by
 unfold Y3;have this:¬ ((k:Int)<(r.length:Int)):=by omega
 cases out with
 |nil =>
  show aa4 Stp.next Stp.exit Stp.fail _ (zc4 k [])=_;simp only[aa4,zc4];rw[bfD this];rfl
 |cons o os =>
  show aa5 Stp.next Stp.exit Stp.fail _ (zc4 k (o::os))=_;simp only[aa5,zc4];rw[bfD this];rfl
theorem vf4 (r : List Pln) (hb : Bds r) (hr : r.length ≤ 200) (a c : Nat) (ha : a < r.length) (hc : c < r.length) (k : Nat) (out : List Pt) (ho : out.length ≤ 100000000) :
  ∃m,lp (Y3 ⟨r,a,c⟩) (zc4 k out)=(ph (yb0 r r[a] r[c] (r.drop k) out)+1,zc4 m (yb0 r r[a] r[c] (r.drop k) out)) :=
 ⟨_,(hb8 (mk:=zc4) (f:=λs _ out=>Oa3 r r[a] r[c] out s) (g:=λl out=>yb0 r r[a] r[c] l out) (fin:=λout=>ph out+1) r (λj o=>o.length+k<=out.length+j) (by omega)
  (λ_=>rfl) (λ_ _ _=>rfl) (λj o hj hi=>⟨vf3 r hb hr a c j ha hc o (by omega) hj,by have:=Xc7 r r[a] r[c] o r[j];show (Oa3 r r[a] r[c] o r[j]).length+k<=out.length+(j+1);omega⟩)
  (λj o hj _=>Lf4 r a c j o hj) k out (by omega)).1⟩
@[reducible] noncomputable def zc5(r:List Pln)(j:Nat)(out:List Pt):B8:=⟨ph out,r,(j:Int),out.length,bL tX out⟩
theorem vf5 (r : List Pln) (hb : Bds r) (hr : r.length ≤ 200) (a j : Nat) (ha : a < r.length) (out : List Pt) (ho : out.length ≤ 100000000) (hj : j < r.length) :
  S5 ⟨a⟩ (zc5 r j out)=.next (zc5 r (j+1) (yb0 r r[a] r[j] (r.drop (j+1)) out)):=by
 obtain⟨m,hm⟩:=vf4 r hb hr a j ha hj (j+1) out ho;unfold S5;generalize yb0 r r[a] r[j] (r.drop (j+1)) out=res at *
 cases out with
 |nil =>
  show aa6 Stp.next Stp.exit Stp.fail _ (zc5 r j [])=_;simp only[aa6,zc5,i5,i9,n8 hj (by omega)]
  rw[show (⟨0,((j+1:Nat):Int),0,[]⟩:A1)=zc4 (j+1) [] from rfl,hm,btD (g9 hj)]
  cases res<;>rfl
 |cons o os =>
  show aa7 Stp.next Stp.exit Stp.fail _ (zc5 r j (o::os))=_;simp only[aa7,zc5,i5,i9,n8 hj (by omega)]
  rw[show (⟨1,((j+1:Nat):Int),(o::os).length,bL tX (o::os)⟩:A1)=zc4 (j+1) (o::os) from rfl,hm,btD (g9 hj)]
  cases res<;>rfl
theorem Lf5(r:List Pln)(a j:Nat)(out:List Pt)(hj:r.length<=j):S5 ⟨a⟩ (zc5 r j out)=.exit (ph out+1):=by
 unfold S5;have this:¬ ((j:Int)<(r.length:Int)):=by omega
 cases out with
 |nil =>
  show aa6 Stp.next Stp.exit Stp.fail _ (zc5 r j [])=_;simp only[aa6,zc5];rw[bfD this];rfl
 |cons o os =>
  show aa7 Stp.next Stp.exit Stp.fail _ (zc5 r j (o::os))=_;simp only[aa7,zc5];rw[bfD this];rfl
theorem vf6 (r : List Pln) (hb : Bds r) (hr : r.length ≤ 200) (a : Nat) (ha : a < r.length) (j : Nat) (out : List Pt) (ho : out.length ≤ 40000 * a) :
  ∃m,lp (S5 ⟨a⟩) (zc5 r j out)=(ph (hb9 r r[a] (r.drop j) out)+1,zc5 r m (hb9 r r[a] (r.drop j) out))/\(hb9 r r[a] (r.drop j) out).length<=40000*(a+1):=by
 have hk:=hb8 (step:=S5 ⟨a⟩) (mk:=zc5 r) (f:=λq l out=>yb0 r r[a] q l out) (g:=λl out=>hb9 r r[a] l out) (fin:=λout=>ph out+1) r (λk o=>o.length<=40000*a+200*(k-j)/\j<=k/\k<=j+r.length) (by omega)
  (λ_=>rfl) (λ_ _ _=>rfl) (λk o hj hi=>⟨vf5 r hb hr a k ha o (by omega) hj,by
   have:=Pc7 r r[a] r[k] (r.drop (k+1)) o
   rw[Qid] at this;show (yb0 r r[a] r[k] (r.drop (k+1)) o).length<=40000*a+200*(k+1-j)/\j<=k+1/\k+1<=j+r.length
   omega⟩)
  (λk o hj _=>Lf5 r a k o hj) j out (by omega)
 exact⟨_,hk.1,by have:=hk.2;omega⟩
@[reducible] noncomputable def Hc2(r:List Pln)(j:Nat)(out:List Pt):F6:=⟨ph out,r,(j:Int),out.length,bL tX out⟩
theorem Ie8 (r : List Pln) (hb : Bds r) (hr : r.length ≤ 200) (a : Nat) (ha : a < r.length) (out : List Pt) (ho : out.length ≤ 40000 * a) :
  Y4 ⟨⟩ (Hc2 r a out)=.next (Hc2 r (a+1) (hb9 r r[a] (r.drop (a+1)) out))/\(hb9 r r[a] (r.drop (a+1)) out).length<=40000*(a+1):=by
 obtain⟨m,hm,hl⟩:=vf6 r hb hr a ha (a+1) out ho;refine⟨?_,hl⟩
 clear hl
 unfold Y4;generalize hb9 r r[a] (r.drop (a+1)) out=res at *
 cases out with
 |nil =>
  show aa8 Stp.next Stp.exit Stp.fail _ (Hc2 r a [])=_;simp only[aa8,Hc2,i5,i9,n8 ha (by omega)]
  rw[show (⟨0,r,((a+1:Nat):Int),0,[]⟩:B8)=zc5 r (a+1) [] from rfl,hm,btD (g9 ha)]
  cases res<;>rfl
 |cons o os =>
  show aa9 Stp.next Stp.exit Stp.fail _ (Hc2 r a (o::os))=_;simp only[aa9,Hc2,i5,i9,n8 ha (by omega)]
  rw[show (⟨1,r,((a+1:Nat):Int),(o::os).length,bL tX (o::os)⟩:B8)=zc5 r (a+1) (o::os) from rfl,hm,btD (g9 ha)]
  cases res<;>rfl
theorem Lf6(r:List Pln)(j:Nat)(out:List Pt)(hj:r.length<=j):Y4 ⟨⟩ (Hc2 r j out)=.exit (ph out+1):=by
 unfold Y4;have this:¬ ((j:Int)<(r.length:Int)):=by omega
 cases out with
 |nil =>
  show aa8 Stp.next Stp.exit Stp.fail _ (Hc2 r j [])=_;simp only[aa8,Hc2];rw[bfD this];rfl
 |cons o os =>
  show aa9 Stp.next Stp.exit Stp.fail _ (Hc2 r j (o::os))=_;simp only[aa9,Hc2];rw[bfD this];rfl
theorem vf7(r:List Pln)(hb:Bds r)(hr:r.length<=200):∃m,lp (Y4 ⟨⟩) (Hc2 r 0 [])=(ph (cor r)+1,Hc2 r m (cor r))/\(cor r).length<=8000000:=by
 have hk:=hb8 (step:=Y4 ⟨⟩) (mk:=Hc2 r) (f:=λq l out=>hb9 r q l out) (g:=λl out=>Pc6 r l out) (fin:=λout=>ph out+1) r (λk o=>o.length<=40000*k/\k<=r.length) (by omega)
  (λ_=>rfl) (λ_ _ _=>rfl) (λk o hj hi=>⟨(Ie8 r hb hr k hj o hi.1).1,(Ie8 r hb hr k hj o hi.1).2,hj⟩)
  (λk o hj _=>Lf6 r k o hj) 0 [] (by simp)
 exact⟨_,hk.1,by have:=hk.2;rw[show max 0 r.length=r.length by omega] at this;have h1:=this.1;show (Pc6 r r []).length<=_;rw[Qia] at h1;omega⟩
noncomputable def slX(l:List Pt):b8×List b9:=match l with
 |[]=>(.v (.slice none 0 0),[])
 |_::_=>(.sl 0 0 l.length 0,[⟨136,4,bL tX l,true,false,0⟩])
theorem ae4(l:List Pt):(one (r1L tX)).rd (slX l)=some l:=by
 cases l with
 |nil=>rfl
 |cons x l =>
  show Bool.rec (motive:=λ_=>Option (List Pt)) none (some (slR tX (bL tX (x::l)) 0 (x::l).length)) (Bool.and true (okS tX (bL tX (x::l)) 0 (x::l).length))=_
  rw[Sb1,Sb2];rfl
theorem dd2(r:List Pln)(hb:Bds r)(hr:r.length<=200):Va7 r=some (slX (cor r)):=by
 obtain⟨m,hm,_⟩:=vf7 r hb hr;unfold Va7;simp only[i5,i9];rw[show (⟨0,r,0,0,[]⟩:F6)=Hc2 r 0 [] from rfl,hm]
 cases cor r<;>rfl
theorem Ja3{ρ:Type}(R:RR ρ){x:b8×List b9}{r:ρ}(h:R.rd x=some r):I6 R (some x)=r:=by
 show Option.rec (motive:=λ_=>ρ) R.d (λx=>x) (R.rd x)=r
 rw[h]
theorem Wa9{ρ:Type}(R:RR ρ){x:b8×List b9}{r:ρ}(h:R.rd x=some r):okO R (some x)=true:=by
 show Option.rec (motive:=λ_=>Bool) false (λ_=>true) (R.rd x)=true
 rw[h]
theorem vd0(r:List Pln)(hb:Bds r)(hr:r.length<=200):Va8 r=cor r:=by unfold Va8;rw[dd2 r hb hr];exact Ja3 _ (ae4 _)
theorem vd1(r:List Pln)(hb:Bds r)(hr:r.length<=200):Va9 r=true:=by unfold Va9;rw[dd2 r hb hr];exact Wa9 _ (ae4 _)
noncomputable def Gd7(x:Pt):List b8:=[i x.px,i x.py,i x.pz,i x.pw,b true]
noncomputable def ic0(l:List Pt):List (List b8):=l.map Gd7
@[reducible] noncomputable def flK:List (Nat×CK):=[(0,.int .i64),(1,.int .i64),(2,.int .i64),(3,.int .i64)]
theorem oe6(x q:Pt):yc9 flK [i x.px,i x.py,i x.pz,i x.pw] (Gd7 q)=eqX x q:=by
 show Bool.and (decide (x.px=q.px)) (Bool.and (decide (x.py=q.py)) (Bool.and (decide (x.pz=q.pz)) (Bool.and (decide (x.pw=q.pw)) true)))=_;unfold eqX;have h:∀a c:Int,decide (a=c)=(c==a):=λa c=>by rw[Bool.eq_iff_iff,decide_eq_true_eq,beq_iff_eq];exact eq_comm
 rw[h,h,h,h]
theorem vd2(x:Pt):∀l,Kc1 4 flK [i x.px,i x.py,i x.pz,i x.pw] (ic0 l)=qc8 l x
 |[]=>rfl
 |q::l=>by
  have ih:=vd2 x l;unfold Kc1 at ih ⊢;show Option.rec (motive:=λ_=>Bool) false (λr=>toB (hdA (f8 r 4))) (Bool.rec (motive:=λ_=>Option (List b8)) (bd4 flK [i x.px,i x.py,i x.pz,i x.pw] (ic0 l)) (some (Gd7 q)) (yc9 flK [i x.px,i x.py,i x.pz,i x.pw] (Gd7 q)))=qc8 (q::l) x
  rw[oe6];unfold qc8 at ih ⊢;rw[List.any_cons];cases eqX x q with
  |true=>rfl
  |false=>exact ih
theorem Pd3(x:Pt):∀l,qc8 l x=false->Rb5 flK [i x.px,i x.py,i x.pz,i x.pw] (Gd7 x) (ic0 l)=ic0 (l++[x])
 |[],_=>rfl
 |q::l,h=>by
  unfold qc8 at h;rw[List.any_cons,Bool.or_eq_false_iff] at h;show Bool.rec (motive:=λ_=>List (List b8)) (Gd7 q::Rb5 flK [i x.px,i x.py,i x.pz,i x.pw] (Gd7 x) (ic0 l)) (Gd7 x::ic0 l) (yc9 flK [i x.px,i x.py,i x.pz,i x.pw] (Gd7 q))=_
  rw[oe6,h.1,Pd3 x l h.2];rfl
@[reducible] noncomputable def zc6(k:Nat)(out:List Pt):m8:=⟨ph out,(k:Int),out.length,bL tX out,ic0 out⟩
structure C2(P:m0)(r:List Pln)(p q:Pln)(lo:Nat):Prop where
 ns:P.of7=(r.drop lo).length
 gs:P.Lb6=λk=>tP.row (gL tP r (lo+k))
 is:P.Fe3=((r.drop lo).length:Int)
 p1:(⟨⟨P.fa7,P.fa8,P.fa9⟩,P.ga0⟩:Pln)=p
 q1:(⟨⟨P.rb5,P.rb6,P.rb7⟩,P.gc6⟩:Pln)=q
 r1:P.Sa6=r
theorem ae5(s:Pln):(⟨⟨toI (hdA (tP.row s)),toI (hdA (tlA (tP.row s))),toI (hdA (tlA (tlA (tP.row s))))⟩,toI (hdA (tlA (tlA (tlA (tP.row s)))))⟩:Pln)=s:=rfl
theorem ae6(s:Pln):((Nat.ble 4 (len (tP.row s)))&&(Y1 [CK.int .i64,CK.int .i64,CK.int .i64,CK.int .i64] (tP.row s)))=true:=rfl
theorem vf8 {P : m0} {r : List Pln} {p q : Pln} {lo : Nat} (h : C2 P r p q lo) (hb : Bds r) (hr : r.length ≤ 200) (hp : Bd p) (hq : Bd q) (k : Nat) (out : List Pt) (ho : out.length ≤ 1000000000) (hk : k < (r.drop lo).length) :
  C7 P (zc6 k out)=.next (zc6 (k+1) (Oa3 r p q out (r.drop lo)[k])):=by
 have hwi:∀x,Ia9 r x=inn r x:=λx=>ef1 r x (by omega)
 have hwg:∀x,Ja0 r x=true:=λx=>ef2 r x (by omega)
 have hs:gL tP r (lo+k)=(r.drop lo)[k]:=by rw[<- Pc8,bb9 tP hk]
 have hbs:Bd (r.drop lo)[k]:=hb _ (Qio (Qih hk));have hd:(r.drop lo).length<=200:=by rw[Qid];omega
 have hme:=Kf9 hp hq hbs;have hmg:=Lf0 hp hq hbs;obtain⟨x1,x2,x3,x4,x5,x6,x7,x8,x9,x10,x11,x12,x13,x14,x15,x16,x17,x18,x19,x20,x21⟩:=P;obtain⟨ns,gs,is,p1,q1,r1⟩:=h
 simp only at ns gs is p1 q1 r1
 have r1:=r1.symm;subst ns gs is r1;unfold C7;cases out with
 |nil =>
  show E4 Stp.next Stp.exit Stp.fail _ (zc6 k [])=_;simp only[E4,zc6,Int.toNat_natCast,i5,j9,p1,q1,hs,ae5,ae6,hme,hmg,hwi,hwg,n8 hk (by omega)]
  rw[btD (g9 hk),bt (d9 hk),f0,f0];unfold Oa3;rw[oe4];cases (mpt p q (r.drop lo)[k]).2 with
  |false=>rfl
  |true =>
   cases inn r (mpt p q (r.drop lo)[k]).1 with
   |false=>rfl
   |true=>rfl
 |cons o os =>
  show E5 Stp.next Stp.exit Stp.fail _ (zc6 k (o::os))=_;simp only[E5,zc6,Int.toNat_natCast,i5,j9,p1,q1,hs,ae5,ae6,hme,hmg,hwi,hwg,n8 hk (by omega),vd2]
  rw[btD (g9 hk),bt (d9 hk),f0,f0,oe5 rfl ho,Ie7];unfold Oa3;cases (mpt p q (r.drop lo)[k]).2 with
  |false=>rfl
  |true =>
   cases hx:qc8 (o::os) (mpt p q (r.drop lo)[k]).1 with
   |true=>rfl
   |false =>
    cases inn r (mpt p q (r.drop lo)[k]).1 with
    |false=>rfl
    |true =>
     show Stp.next (⟨1,((k+1:Nat):Int),(o::os).length+1,bL tX (o::os++[(mpt p q (r.drop lo)[k]).1]),Rb5 flK [i (mpt p q (r.drop lo)[k]).1.px,i (mpt p q (r.drop lo)[k]).1.py,i (mpt p q (r.drop lo)[k]).1.pz,i (mpt p q (r.drop lo)[k]).1.pw] (Gd7 (mpt p q (r.drop lo)[k]).1) (ic0 (o::os))⟩:m8)=_;rw[Pd3 _ _ hx];simp[ph]
theorem Lf7{P:m0}{r:List Pln}{p q:Pln}{lo:Nat}(h:C2 P r p q lo)(k:Nat)(out:List Pt)(hk:(r.drop lo).length<=k):C7 P (zc6 k out)=.exit (ph out+1):=by
 obtain⟨x1,x2,x3,x4,x5,x6,x7,x8,x9,x10,x11,x12,x13,x14,x15,x16,x17,x18,x19,x20,x21⟩:=P;obtain⟨ns,gs,is,p1,q1,r1⟩:=h
 simp only at ns gs is p1 q1 r1
 have r1:=r1.symm;subst ns gs is r1;unfold C7;have this:¬ ((k:Int)<((r.drop lo).length:Int)):=by omega
 cases out with
 |nil =>
  show E4 Stp.next Stp.exit Stp.fail _ (zc6 k [])=_;simp only[E4,zc6];rw[bfD this];rfl
 |cons o os =>
  show E5 Stp.next Stp.exit Stp.fail _ (zc6 k (o::os))=_;simp only[E5,zc6];rw[bfD this];rfl
theorem vf9 {P : m0} {r : List Pln} {p q : Pln} {lo : Nat} (h : C2 P r p q lo) (hb : Bds r) (hr : r.length ≤ 200) (hp : Bd p) (hq : Bd q) (out : List Pt) (ho : out.length ≤ 100000000) :
  ∃m,lp (C7 P) (zc6 0 out)=(ph (yb0 r p q (r.drop lo) out)+1,zc6 m (yb0 r p q (r.drop lo) out)):=by
 have hd:(r.drop lo).length<=200:=by rw[Qid];omega
 exact⟨_,(hb8 (mk:=zc6) (f:=λs _ out=>Oa3 r p q out s) (g:=λl out=>yb0 r p q l out) (fin:=λout=>ph out+1) (r.drop lo) (λj o=>o.length<=out.length+j) (by omega)
  (λ_=>rfl) (λ_ _ _=>rfl) (λj o hj hi=>⟨vf8 h hb hr hp hq j o (by omega) hj,by have:=Xc7 r p q o (r.drop lo)[j];show (Oa3 r p q o (r.drop lo)[j]).length<=out.length+(j+1);omega⟩)
  (λj o hj _=>Lf7 h j o hj) 0 out (by omega)).1⟩
@[reducible] noncomputable def zc7(r:List Pln)(j:Nat)(out:List Pt):n7:=⟨ph out,r,(j:Int),r,r,out.length,bL tX out,ic0 out⟩
structure C1(P:m9)(r:List Pln)(p:Pln)(a:Nat):Prop where
 i3:P.is3=(a:Int)
 ns:P.Kd8=(r.drop (a+1)).length
 gs:P.ac4=λk=>tP.row (gL tP r (a+1+k))
 is:P.bd3=((r.drop (a+1)).length:Int)
 p1:(⟨⟨P.fa7,P.fa8,P.fa9⟩,P.ga0⟩:Pln)=p
theorem wf0 {P : m9} {r : List Pln} {p : Pln} {a : Nat} (h : C1 P r p a) (hb : Bds r) (hr : r.length ≤ 200) (hp : Bd p) (j : Nat) (out : List Pt) (ho : out.length ≤ 100000000) (hj : j < (r.drop (a + 1)).length) :
  C8 P (zc7 r j out)=.next (zc7 r (j+1) (yb0 r p (r.drop (a+1))[j] ((r.drop (a+1)).drop (j+1)) out)):=by
 have hs:gL tP r (a+1+j)=(r.drop (a+1))[j]:=by rw[<- Pc8,bb9 tP hj]
 have hbs:Bd (r.drop (a+1))[j]:=hb _ (Qio (Qih hj));have hd:=hj;rw[Qid] at hd;have hW:W (W ((a:Int)+(j:Int))+2)=((a+1+(j+1):Nat):Int):=by rw[Fb0,ka5 (by omega) (by omega)];omega
 have hdl:(r.drop (a+1)).length<=4611686018427387904:=by rw[Qid];omega
 have hlo:inB ((a+1+(j+1):Nat):Int) (r.length+1)=true:=d9 (by omega)
 rw[List.drop_drop];generalize hq:(r.drop (a+1))[j]=q at *
 obtain⟨x1,x2,x3,x4,x5,x6,x7,x8,x9,x10⟩:=P;obtain⟨i3,ns,gs,is,p1⟩:=h
 simp only at i3 ns gs is p1
 subst i3 ns gs is;unfold C8;have key:∀(P2:m0),C2 P2 r p q (a+1+(j+1))->_:=λP2 h2=>vf9 h2 hb hr hp hbs out ho
 cases out with
 |nil =>
  show E6 Stp.next Stp.exit Stp.fail _ (zc7 r j [])=_;simp only[E6,zc7,i5,i9,n8 hj hdl,hW,Int.toNat_natCast,hs,ae6,hlo];rw[show (⟨0,0,0,[],[]⟩:m8)=zc6 0 [] from rfl]
  generalize hP:m0.mk _ _ _ _ _ _ _ _ _ _ _ _ _ _ _ _ _ _ _ _ _=P2;obtain⟨m,hm⟩:=key P2 (by
   subst hP;exact⟨by simp,rfl,by simp,p1,ae5 q,rfl⟩)
  rw[hm,btD (g9 hj),bt (d9 hj)];cases yb0 r p q (r.drop (a+1+(j+1))) []<;>rfl
 |cons o os =>
  show E7 Stp.next Stp.exit Stp.fail _ (zc7 r j (o::os))=_;simp only[E7,zc7,i5,i9,n8 hj hdl,hW,Int.toNat_natCast,hs,ae6,hlo];rw[show (⟨1,0,(o::os).length,bL tX (o::os),ic0 (o::os)⟩:m8)=zc6 0 (o::os) from rfl]
  generalize hP:m0.mk _ _ _ _ _ _ _ _ _ _ _ _ _ _ _ _ _ _ _ _ _=P2;obtain⟨m,hm⟩:=key P2 (by
   subst hP;exact⟨by simp,rfl,by simp,p1,ae5 q,rfl⟩)
  rw[hm,btD (g9 hj),bt (d9 hj)];cases yb0 r p q (r.drop (a+1+(j+1))) (o::os)<;>rfl
theorem Lf8{P:m9}{r:List Pln}{p:Pln}{a:Nat}(h:C1 P r p a)(j:Nat)(out:List Pt)(hj:(r.drop (a+1)).length<=j):C8 P (zc7 r j out)=.exit (ph out+1):=by
 obtain⟨x1,x2,x3,x4,x5,x6,x7,x8,x9,x10⟩:=P;obtain⟨i3,ns,gs,is,p1⟩:=h
 simp only at i3 ns gs is p1
 subst i3 ns gs is;unfold C8;have this:¬ ((j:Int)<((r.drop (a+1)).length:Int)):=by omega
 cases out with
 |nil =>
  show E6 Stp.next Stp.exit Stp.fail _ (zc7 r j [])=_;simp only[E6,zc7];rw[bfD this];rfl
 |cons o os =>
  show E7 Stp.next Stp.exit Stp.fail _ (zc7 r j (o::os))=_;simp only[E7,zc7];rw[bfD this];rfl
theorem wf1 {P : m9} {r : List Pln} {p : Pln} {a : Nat} (h : C1 P r p a) (hb : Bds r) (hr : r.length ≤ 200) (hp : Bd p) (out : List Pt) (ho : out.length ≤ 10000000) :
  ∃m,lp (C8 P) (zc7 r 0 out)=(ph (hb9 r p (r.drop (a+1)) out)+1,zc7 r m (hb9 r p (r.drop (a+1)) out)):=by
 have hd:(r.drop (a+1)).length<=200:=by rw[Qid];omega
 exact⟨_,(hb8 (mk:=zc7 r) (f:=λq l out=>yb0 r p q l out) (g:=λl out=>hb9 r p l out) (fin:=λout=>ph out+1) (r.drop (a+1)) (λk o=>o.length<=out.length+200*k) (by omega)
  (λ_=>rfl) (λ_ _ _=>rfl) (λk o hj hi=>⟨wf0 h hb hr hp k o (by omega) hj,by
   have:=Pc7 r p (r.drop (a+1))[k] ((r.drop (a+1)).drop (k+1)) o
   rw[Qid] at this;show (yb0 r p (r.drop (a+1))[k] ((r.drop (a+1)).drop (k+1)) o).length<=out.length+200*(k+1)
   omega⟩)
  (λk o hj _=>Lf8 h k o hj) 0 out (by omega)).1⟩
@[reducible] noncomputable def Hc3(r:List Pln)(j:Nat)(out:List Pt):o5:=⟨ph out,r,(j:Int),r,r,out.length,bL tX out,ic0 out⟩
theorem wf2 {P : v8} (r : List Pln) (h : P.xa2 = (r.length : Int)) (hb : Bds r) (hr : r.length ≤ 200) (a : Nat) (ha : a < r.length) (out : List Pt) (ho : out.length ≤ 40000 * a) :
  C9 P (Hc3 r a out)=.next (Hc3 r (a+1) (hb9 r r[a] (r.drop (a+1)) out)):=by
 have hbs:Bd r[a]:=hb _ (Qih ha);have hlo:inB ((a+1:Nat):Int) (r.length+1)=true:=d9 (by omega)
 have key:∀(P2:m9),C1 P2 r r[a] a->_:=λP2 h2=>wf1 h2 hb hr hbs out (by omega)
 obtain⟨x1⟩:=P
 simp only at h
 subst h;unfold C9;cases out with
 |nil =>
  show E8 Stp.next Stp.exit Stp.fail _ (Hc3 r a [])=_;simp only[E8,Hc3,i5,i9,n8 ha (by omega),Int.toNat_natCast,hlo,bb9 tP ha]
  rw[show (⟨0,r,0,r,r,0,[],[]⟩:n7)=zc7 r 0 [] from rfl]
  generalize hP:m9.mk _ _ _ _ _ _ _ _ _ _=P2;obtain⟨m,hm⟩:=key P2 (by
   subst hP;exact⟨rfl,by simp,rfl,by simp,rfl⟩)
  rw[hm,btD (g9 ha),bt (d9 ha)];cases hb9 r r[a] (r.drop (a+1)) []<;>rfl
 |cons o os =>
  show E9 Stp.next Stp.exit Stp.fail _ (Hc3 r a (o::os))=_;simp only[E9,Hc3,i5,i9,n8 ha (by omega),Int.toNat_natCast,hlo,bb9 tP ha]
  rw[show (⟨1,r,0,r,r,(o::os).length,bL tX (o::os),ic0 (o::os)⟩:n7)=zc7 r 0 (o::os) from rfl]
  generalize hP:m9.mk _ _ _ _ _ _ _ _ _ _=P2;obtain⟨m,hm⟩:=key P2 (by
   subst hP;exact⟨rfl,by simp,rfl,by simp,rfl⟩)
  rw[hm,btD (g9 ha),bt (d9 ha)];cases hb9 r r[a] (r.drop (a+1)) (o::os)<;>rfl
theorem Lf9{P:v8}(r:List Pln)(h:P.xa2=(r.length:Int))(j:Nat)(out:List Pt)(hj:r.length<=j):C9 P (Hc3 r j out)=.exit (ph out+1):=by
 obtain⟨x1⟩:=P
 simp only at h
 subst h;unfold C9;have this:¬ ((j:Int)<(r.length:Int)):=by omega
 cases out with
 |nil =>
  show E8 Stp.next Stp.exit Stp.fail _ (Hc3 r j [])=_;simp only[E8,Hc3];rw[bfD this];rfl
 |cons o os =>
  show E9 Stp.next Stp.exit Stp.fail _ (Hc3 r j (o::os))=_;simp only[E9,Hc3];rw[bfD this];rfl
theorem wf3(r:List Pln)(hb:Bds r)(hr:r.length<=200):∃m,lp (C9 ⟨(r.length:Int)⟩) (Hc3 r 0 [])=(ph (cor r)+1,Hc3 r m (cor r)) :=
 ⟨_,(hb8 (step:=C9 ⟨(r.length:Int)⟩) (mk:=Hc3 r) (f:=λq l out=>hb9 r q l out) (g:=λl out=>Pc6 r l out) (fin:=λout=>ph out+1) r (λk o=>o.length<=40000*k) (by omega)
  (λ_=>rfl) (λ_ _ _=>rfl) (λk o hj hi=>⟨wf2 r rfl hb hr k hj o hi,by
   have h1:=ud9 r r[k] (r.drop (k+1)) o (by rw[Qid];omega)
   rw[Qid] at h1;show (hb9 r r[k] (r.drop (k+1)) o).length<=40000*(k+1)
   omega⟩)
  (λk o hj _=>Lf9 r rfl k o hj) 0 [] (by simp)).1⟩
theorem vd3(r:List Pln)(hb:Bds r)(hr:r.length<=200):ga2 r=some (slX (cor r)):=by
 obtain⟨m,hm⟩:=wf3 r hb hr;unfold ga2;simp only[i5,i9];rw[show (⟨0,r,0,r,r,0,[],[]⟩:o5)=Hc3 r 0 [] from rfl,hm]
 cases cor r<;>rfl
theorem Pd4(r:List Pln)(hb:Bds r)(hr:r.length<=200):ga3 r=cor r:=by unfold ga3;rw[vd3 r hb hr];exact Ja3 _ (ae4 _)
theorem Pd5(r:List Pln)(hb:Bds r)(hr:r.length<=200):ga4 r=true:=by unfold ga4;rw[vd3 r hb hr];exact Wa9 _ (ae4 _)
noncomputable def slP(l:List Pln):b8×List b9:=(.sl 0 0 l.length 0,[⟨73,4,bL tP l,true,false,0⟩])
theorem Hc4(l:List Pln):(one (r1L tP)).rd (slP l)=some l:=by
 show Bool.rec (motive:=λ_=>Option (List Pln)) none (some (slR tP (bL tP l) 0 l.length)) (Bool.and true (okS tP (bL tP l) 0 l.length))=_
 rw[Sb1,Sb2];rfl
theorem Cc0{α:Type}(t:Ty α)(l:List α):(one (r1L t)).rd (eL t l,[])=some l:=by
 show Bool.rec (motive:=λ_=>Option (List α)) none (some (rt t l)) (Bool.and (Nat.beq t.es t.es) (okE t l))=_
 rw[i5,j9,Qik];rfl
noncomputable def ws:List Pln:=[⟨⟨1,0,0⟩,24⟩,⟨⟨-1,0,0⟩,24⟩,⟨⟨0,1,0⟩,24⟩,⟨⟨0,-1,0⟩,24⟩,⟨⟨0,0,1⟩,24⟩,⟨⟨0,0,-1⟩,24⟩]
theorem Ff8:Bds ws:=by
 intro p hp
 have:okp p=true:=by
  have h:ws.all okp=true:=by decide
  exact Qit.1 h p hp
 exact rc1 this
noncomputable def Gd8(lo hi:V3):List Pln:=[⟨⟨1,0,0⟩,hi.x⟩,⟨⟨-1,0,0⟩,W (0-lo.x)⟩,⟨⟨0,1,0⟩,hi.y⟩,⟨⟨0,-1,0⟩,W (0-lo.y)⟩,⟨⟨0,0,1⟩,hi.z⟩,⟨⟨0,0,-1⟩,W (0-lo.z)⟩]
theorem ef6(lo hi:V3):xc3 lo hi=some (slP (Gd8 lo hi)):=rfl
theorem Ff9(lo hi:V3):Xb0 lo hi=Gd8 lo hi:=by unfold Xb0;rw[ef6];exact Ja3 _ (Hc4 _)
theorem Gf0(lo hi:V3):Xb1 lo hi=true:=by unfold Xb1;rw[ef6];exact Wa9 _ (Hc4 _)
theorem Mf0:Gd8 ⟨-24,-24,-24⟩ ⟨24,24,24⟩=ws:=by
 simp only[Gd8,ws];rw[show W (0 - -24)=24 from by rw[Ze2];rfl]
theorem Ie9{l:List Pln}:Nat.beq (len (bL tP l)) 0=l.isEmpty:=by rw[H7];cases l<;>rfl
theorem ef7(c:List Pln)(hc:c.length<=1000000000):Xb2 c=some (slP (c++ws)):=by
 unfold Xb2;simp only[Fa1,Ff9,Gf0,Mf0,Ie9];have h6:(0+len (bL tP c))=c.length:=by rw[H7];omega
 have hw:len (bL tP ws)=6:=rfl;rw[h6,hw];have e1:Nat.ble (c.length*32) room=true:=S4 (by omega)
 have e2:Nat.ble ((c.length+6)*32) room=true:=S4 (by omega)
 have e3:app (app [] (bL tP c)) (bL tP ws)=bL tP (c++ws):=Da3 tP c ws;have e4:Nat.beq c.length (len (app [] (bL tP c)))=true:=by
  rw[show app [] (bL tP c)=bL tP c from rfl,H7,Qik]
 rw[e1,e2,e3,e4];cases c with
 |nil=>rfl
 |cons p c =>
  show some (b8.sl 0 0 ((p::c).length+6) 0,[(⟨73,4,bL tP (p::c++ws),true,false,0⟩:b9)])=_;unfold slP;rw[Qib];rfl
theorem Pd6(c:List Pln)(hc:c.length<=1000000000):Db1 c=c++ws:=by unfold Db1;rw[ef7 c hc];exact Ja3 _ (Hc4 _)
theorem Pd7(c:List Pln)(hc:c.length<=1000000000):Db2 c=true:=by unfold Db2;rw[ef7 c hc];exact Wa9 _ (Hc4 _)
theorem ef8{l:List (List Pln)}{j:Nat}(h:j<l.length):gL (tLs tP) l j=l[j]:=bb9 (tLs tP) h
theorem oe7(ls:List (List Pln))(hn:ls.length<=1000000000)(hl:ls.flatten.length<=1000000000):∃m,lp (O5 ⟨ls,ls,(ls.length:Int)⟩) ⟨0,0⟩=(1,⟨(ls.flatten.length:Int),m⟩):=by
 have h:=hb8 (step:=O5 ⟨ls,ls,(ls.length:Int)⟩) (mk:=λj (n:Nat)=>(⟨(n:Int),(j:Int)⟩:w6)) (f:=λl _ n=>n+l.length) (g:=λl n=>n+l.flatten.length) (fin:=λ_=>1) ls
  (λj n=>n+(ls.drop j).flatten.length=ls.flatten.length) hn (λ_=>rfl) (λx r a=>by simp only[List.flatten_cons,Qib];omega)
  (λj n hj hi=>by
   rw[Qim hj,List.flatten_cons,Qib] at hi;have hW:W ((n:Int)+(ls[j].length:Int))=((n+ls[j].length:Nat):Int):=by rw[ka5 (by omega) (by omega)];omega
   refine⟨?_,by show n+ls[j].length+(ls.drop (j+1)).flatten.length=_;omega⟩
   simp only[O5,U2,Int.toNat_natCast,ef8 hj,hW,n8 hj (by omega)]
   rw[btD (g9 hj),bt (d9 hj),bfD (by omega)])
  (λj n hj _=>by
   simp only[O5,U2];rw[bfD (by omega)]) 0 0 (by simp)
 have h:=h.1;rw[Qia,Qij] at h;exact⟨_,h⟩
theorem ef9{ls:List (List Pln)}(h:ls.flatten=[]){j:Nat}(hj:j<ls.length):ls[j]=[]:=by
 rw[List.flatten_eq_nil_iff] at h;exact h _ (Qih hj)
theorem Je0(ls:List (List Pln))(hn:ls.length<=1000000000)(hl:ls.flatten=[]):∃s,lp (H8 ⟨ls,(ls.length:Int)⟩) ⟨0,0,0,[]⟩=(1,s):=by
 have h:=hb8 (step:=H8 ⟨ls,(ls.length:Int)⟩) (mk:=λj (_:Unit)=>(⟨0,(j:Int),0,[]⟩:o3)) (f:=λ_ _ n=>n) (g:=λ_ n=>n) (fin:=λ_=>1) ls
  (λ_ _=>True) hn (λ_=>rfl) (λx r a=>rfl)
  (λj n hj hi=>by
   refine⟨?_,trivial⟩;show F4 Stp.next Stp.exit Stp.fail _ _=_;simp only[F4,Int.toNat_natCast,ef8 hj,ef9 hl hj,n8 hj (by omega)]
   rw[btD (g9 hj),bt (d9 hj)]
   rfl)
  (λj n hj _=>by
   show F4 Stp.next Stp.exit Stp.fail _ _=_;simp only[F4];rw[bfD (by omega)]) 0 () trivial
 exact⟨_,h.1⟩
noncomputable def Ub0(t:Nat)(d:List Pln):List (List b8):=app (bL tP d) (List.replicate (t-d.length) Zd8)
theorem ff0(t:Nat)(d:List Pln)(h:d.length<=t):len (Ub0 t d)=t:=by
 unfold Ub0;rw[J9,o4,Qib,<- o4,H7,List.length_replicate];omega
theorem ff1(t:Nat)(d l:List Pln)(h:d.length+l.length<=t):app (M2 (Ub0 t d) d.length) (app (bL tP l) (f8 (Ub0 t d) (d.length+len (bL tP l))))=Ub0 t (d++l):=by
 have hd:(bL tP d).length=d.length:=by rw[<- o4,H7]
 unfold Ub0;rw[H7,<- Da3];simp only[J9,M3,M4];rw[List.take_left' hd,Qir];congr 2;rw[List.drop_append,Qiv (by omega),List.nil_append,hd,List.drop_replicate,Qib]
 congr 1;omega
theorem oe8(ls:List (List Pln))(hn:ls.length<=1000000000):∃m,lp (H8 ⟨ls,(ls.length:Int)⟩) ⟨1,0,0,List.replicate ls.flatten.length Zd8⟩=(2,⟨1,m,ls.flatten.length,bL tP ls.flatten⟩):=by
 have h:=hb8 (step:=H8 ⟨ls,(ls.length:Int)⟩) (mk:=λj (d:List Pln)=>(⟨1,(j:Int),d.length,Ub0 ls.flatten.length d⟩:o3)) (f:=λl _ d=>d++l) (g:=λl d=>d++l.flatten) (fin:=λ_=>2) ls
  (λj d=>d.length+(ls.drop j).flatten.length=ls.flatten.length) hn (λ_=>by simp) (λx r a=>by simp)
  (λj d hj hi=>by
   rw[Qim hj,List.flatten_cons,Qib] at hi;refine⟨?_,by show (d++ls[j]).length+(ls.drop (j+1)).flatten.length=_;rw[Qib];omega⟩
   show F5 Stp.next Stp.exit Stp.fail _ _=_;simp only[F5,Int.toNat_natCast,ef8 hj,n8 hj (by omega),Fa1]
   rw[ff1 _ _ _ (by omega),ff0 _ _ (by omega),H7,btD (g9 hj),bt (d9 hj),bt (by rw[Nat.ble_eq];omega),Qib])
  (λj d hj _=>by
   show F5 Stp.next Stp.exit Stp.fail _ _=_;simp only[F5];rw[bfD (by omega)]) 0 [] (by simp)
 have h:=h.1;rw[Qia,List.nil_append] at h;have e:Ub0 ls.flatten.length ls.flatten=bL tP ls.flatten:=by unfold Ub0;rw[Nat.sub_self,J9];simp
 rw[e] at h;exact⟨_,h⟩
theorem Gf1(ls:List (List Pln))(hn:ls.length<=1000000000)(hl:ls.flatten.length<=1000000000):Xb9 ls=some (slP (ls.flatten++ws)):=by
 have hc:y5 ls=if ls.flatten=[] then ⟨1,0,[]⟩ else ⟨2,ls.flatten.length,bL tP ls.flatten⟩:=by
  unfold y5 P1;simp only[i5,i9];obtain⟨m,hm⟩:=oe7 ls hn hl;rw[hm];by_cases h0:ls.flatten=[]
  ·obtain⟨s,hs⟩:=Je0 ls hn h0;rw[if_pos h0,hs];rw[show (⟨(ls.flatten.length:Int),m⟩:w6)=⟨0,m⟩ by rw[h0];rfl]
   rfl
  ·obtain⟨m',hm'⟩:=oe8 ls hn;rw[if_neg h0];simp only[Int.toNat_natCast];rw[hm'];have h1:0<ls.flatten.length:=List.length_pos_iff.2 h0;have e1:((ls.flatten.length:Int)==0)=false:=by rw[beq_eq_false_iff_ne];omega
   have e2:Bool.and (decide ((0:Int)<(ls.flatten.length:Int))) (Nat.ble (ls.flatten.length*32) room)=true:=by
    rw[S4 (by omega),decide_eq_true (by omega)]
    rfl
   rw[e1,e2];rfl
 unfold Xb9;simp only[i5,j9,hc];by_cases h0:ls.flatten=[]
 ·rw[if_pos h0,h0];rfl
 ·rw[if_neg h0];generalize ls.flatten=c at *
  have e:∀(d:List Pln) (p:Pln),app (bL tP d) [[i p.n.x,i p.n.y,i p.n.z,i p.b]]=bL tP (d++[p]):=λd p=>Da3 tP d [p]
  have c1:=e c ⟨⟨1,0,0⟩,24⟩;have c2:=e (c++[⟨⟨1,0,0⟩,24⟩]) ⟨⟨-1,0,0⟩,24⟩;have c3:=e (c++[⟨⟨1,0,0⟩,24⟩]++[⟨⟨-1,0,0⟩,24⟩]) ⟨⟨0,1,0⟩,24⟩;have c4:=e (c++[⟨⟨1,0,0⟩,24⟩]++[⟨⟨-1,0,0⟩,24⟩]++[⟨⟨0,1,0⟩,24⟩]) ⟨⟨0,-1,0⟩,24⟩;have c5:=e (c++[⟨⟨1,0,0⟩,24⟩]++[⟨⟨-1,0,0⟩,24⟩]++[⟨⟨0,1,0⟩,24⟩]++[⟨⟨0,-1,0⟩,24⟩]) ⟨⟨0,0,1⟩,24⟩;have c6:=e (c++[⟨⟨1,0,0⟩,24⟩]++[⟨⟨-1,0,0⟩,24⟩]++[⟨⟨0,1,0⟩,24⟩]++[⟨⟨0,-1,0⟩,24⟩]++[⟨⟨0,0,1⟩,24⟩]) ⟨⟨0,0,-1⟩,24⟩
  simp only at c1 c2 c3 c4 c5 c6
  simp only[c1,c2,c3,c4,c5,c6,H7,Qib,List.length_singleton];have g:∀n:Nat,n<=1000000010->(Nat.beq n n&&Nat.ble ((n+1)*32) room)=true:=λn h=>by rw[Qik,S4 (by omega)];rfl
  rw[g _ (by omega),g _ (by omega),g _ (by omega),g _ (by omega),g _ (by omega),g _ (by omega)]
  show some (b8.sl 0 0 (c.length+1+1+1+1+1+1) 0,[(⟨73,4,bL tP _,true,false,0⟩:b9)])=_;unfold slP;rw[Qib];simp only[Qir];rfl
theorem Xf8(ls:List (List Pln))(hn:ls.length<=1000000000)(hl:ls.flatten.length<=1000000000):nb8 ls=ls.flatten++ws:=by unfold nb8;rw[Gf1 ls hn hl];exact Ja3 _ (Hc4 _)
theorem Xf9(ls:List (List Pln))(hn:ls.length<=1000000000)(hl:ls.flatten.length<=1000000000):nb9 ls=true:=by unfold nb9;rw[Gf1 ls hn hl];exact Wa9 _ (Hc4 _)
theorem Gf2(c:List Pln)(hc:c.length<=1000000000):nb8 [c]=c++ws:=by
 have:[c].flatten=c:=by simp
 rw[Xf8 [c] (by simp) (by rw[this];exact hc),this]
theorem Gf3(c:List Pln)(hc:c.length<=1000000000):nb9 [c]=true:=by
 have:[c].flatten=c:=by simp
 exact Xf9 [c] (by simp) (by rw[this];exact hc)
theorem Pd8(ls:List (List Pln))(hn:ls.length<=1000000000)(hl:∀c∈ls,c.length<=1000000000):hb5 ls=some (b (ls.all λc=>chk c==0),[]):=by
 have hv:∀c∈ls,gb7 c=!(chk c==0)/\gb8 c=true:=λc hc=>by
  have:Na9 c=some (b (!(chk c==0)),[]):=by
   unfold Na9;simp only[i5,j9,md4 c (hl c hc),ae2 c (hl c hc)];rfl
  unfold gb7 gb8;rw[this];exact⟨rfl,rfl⟩
 have h:=za2 (step:=M7 ⟨ls,(ls.length:Int)⟩) (mk:=λj=>(⟨(j:Int)⟩:q8)) (c:=λc=>!(chk c==0)) (u:=1) (fin:=2) (tLs tP) ls hn
  (λj hj=>by
   have hm:=hv _ (Y0 (tLs tP) hj);simp only[M7,K2,Int.toNat_natCast,i5,j9,hm.1,hm.2,n8 hj (by omega)]
   rw[btD (g9 hj),bt (d9 hj),f0,f0])
  (by simp only[M7,K2];rw[bfD (l0 (Qic _))]) 0 (Qie _)
 rw[Qia] at h;have e:(ls.any λc=>!(chk c==0))=!ls.all λc=>chk c==0:=by rw[Qii]
 unfold hb5 la4 F9 ta7 L2;simp only[i5,i9];rw[show (⟨0⟩:q8)=⟨((0:Nat):Int)⟩ from rfl,h,e]
 cases ls.all λc=>chk c==0 with
 |true=>rfl
 |false =>
  simp only[Qiw,if_true,Qij];show sl true (sl (Nat.beq 1 1) (some (b (!(decide (((ls.findIdx λc=>!(chk c==0):Nat):Int)>=0))),[])) _) _=_
  rw[show decide (((ls.findIdx λc=>!(chk c==0):Nat):Int)>=0)=true from decide_eq_true (by omega)]
  rfl
theorem oe9(ls:List (List Pln))(hn:ls.length<=1000000000)(hl:∀c∈ls,c.length<=1000000000):Da7 ls=ls.all λc=>chk c==0:=by unfold Da7;rw[Pd8 ls hn hl];rfl
theorem pe0(ls:List (List Pln))(hn:ls.length<=1000000000)(hl:∀c∈ls,c.length<=1000000000):Da8 ls=true:=by unfold Da8;rw[Pd8 ls hn hl];rfl
theorem pe1(c:List Pln)(hc:c.length<=1000000000):Da7 [c]=(chk c==0):=by
 rw[oe9 [c] (by simp) (by simpa using hc)]
 simp
theorem pe2(c:List Pln)(hc:c.length<=1000000000):Da8 [c]=true:=pe0 [c] (by simp) (by simpa using hc)
noncomputable def pos(X:List Pt)(p:Pln):Bool:=X.any λx=>decide (rm p x>0)
noncomputable def Gd9(r:List Pln):Bool:=r.all (pos (cor r))
theorem ff2(p:Pln)(X:List Pt)(hX:X.length<=1000000000):wa1 ⟨p.n.x,p.n.y,p.n.z,p.b,X⟩=⟨1,!pos X p⟩:=by
 have hw:∀x:Pt,Da9 ⟨x.px,x.py,x.pz,x.pw,p.n.x,p.n.y,p.n.z,p.b⟩=⟨decide (rm p x>0)⟩:=λx=>by
  show ba1.mk (decide (Ca4 p x>0))=_;rw[ae0]
 have h:=za2 (step:=P9 ⟨X,(X.length:Int),p.n.x,p.n.y,p.n.z,p.b⟩) (mk:=λj=>(⟨(j:Int)⟩:s6)) (c:=λx=>decide (rm p x>0)) (u:=1) (fin:=2) tX X hX
  (λj hj=>by
   simp only[P9,M8,Int.toNat_natCast,hw,n8 hj (by omega)]
   rw[btD (g9 hj),bt (d9 hj)])
  (by simp only[P9,M8];rw[bfD (l0 (Qic _))]) 0 (Qie _)
 rw[Qia] at h;unfold wa1 Y6 na6 I1 xa6 O6 pos;simp only[i5,i9];rw[show (⟨0⟩:s6)=⟨((0:Nat):Int)⟩ from rfl,h]
 cases X.any λx=>decide (rm p x>0) with
 |false=>rfl
 |true =>
  simp only[if_true,Qij];show ja6.mk 1 (!(decide (((X.findIdx λx=>decide (rm p x>0):Nat):Int)>=0)))=_
  rw[show decide (((X.findIdx λx=>decide (rm p x>0):Nat):Int)>=0)=true from decide_eq_true (by omega)]
theorem Je1(r:List Pln)(hb:Bds r)(hr:r.length<=200):qa9 r=some (b (Gd9 r),[]):=by
 have hX:(cor r).length<=1000000000:=Qiy (ae3 r hb hr) (by omega)
 have h:=za2 (step:=M9 ⟨r,(r.length:Int)⟩) (mk:=λj=>(⟨(j:Int),cor r⟩:q9)) (c:=λp=>!pos (cor r) p) (u:=1) (fin:=2) tP r (by omega)
  (λj hj=>by
   simp only[M9,K3,Int.toNat_natCast,i5,i9,ff2 _ _ hX,n8 hj (by omega)]
   rw[btD (g9 hj),bt (d9 hj)]
   rfl)
  (by simp only[M9,K3];rw[bfD (l0 (Qic _))]) 0 (Qie _)
 rw[Qia] at h;have e:(r.any λp=>!pos (cor r) p)=!r.all (pos (cor r)):=by rw[Qii]
 unfold qa9 la6 G0 ta9 L3 Gd9;simp only[i5,i9,j9,Pd4 r hb hr,Pd5 r hb hr];rw[show (⟨0,cor r⟩:q9)=⟨((0:Nat):Int),cor r⟩ from rfl,h,e]
 cases r.all (pos (cor r)) with
 |true=>rfl
 |false =>
  simp only[Qiw,if_true,Qij];show some (b (!(decide (((r.findIdx λp=>!pos (cor r) p:Nat):Int)>=0))),[])=_
  rw[show decide (((r.findIdx λp=>!pos (cor r) p:Nat):Int)>=0)=true from decide_eq_true (by omega)]
  rfl
theorem ff3(r:List Pln)(hb:Bds r)(hr:r.length<=200):ra0 r=Gd9 r:=by unfold ra0;rw[Je1 r hb hr];rfl
theorem ff4(r:List Pln)(hb:Bds r)(hr:r.length<=200):ra1 r=true:=by unfold ra1;rw[Je1 r hb hr];rfl
theorem Ce1(r:List Pln)(X:List Pt)(hr:r.length<=200)(hX:X.length<=1000000000)(a:Nat)(ha:a<r.length):∃m,lp (Ia5 ⟨r,X,(a:Int)⟩) ⟨false,0⟩=(1,⟨pos X r[a],m⟩):=by
 have h:=Mc9 (step:=Ia5 ⟨r,X,(a:Int)⟩) (mk:=λj (c:Bool)=>(⟨c,(j:Int)⟩:va3)) (f:=λc x=>c||decide (rm r[a] x>0)) (fin:=1) tX X (λ_ _=>True) hX
  (λj c hj _=>⟨by
   simp only[Ia5,Ma7,Int.toNat_natCast,md2,n8 hj (by omega),bb9 tP ha,d9 ha,d9 hj]
   rw[btD (g9 hj)];cases c<;>rfl,trivial⟩)
  (λc _=>by simp only[Ia5,Ma7];rw[bfD (l0 (Qic _))]) 0 (Qie _) false trivial
 have h:=h.1;rw[Qia] at h;have e:∀(l:List Pt) (c:Bool),l.foldl (λc x=>c||decide (rm r[a] x>0)) c=(c||l.any λx=>decide (rm r[a] x>0)):=by
  intro l
  induction l with
  |nil=>intro c;simp
  |cons x l ih=>intro c;rw[List.foldl_cons,ih,List.any_cons,Bool.or_assoc]
 rw[e,Bool.false_or] at h;exact⟨_,h⟩
theorem Je2(r:List Pln)(hb:Bds r)(hr:r.length<=200):Gb3 r=some (b (Gd9 r),[]):=by
 have hX:(cor r).length<=1000000000:=Qiy (ae3 r hb hr) (by omega)
 have h:=fb0 (step:=Wa1 ⟨⟩) (mk:=λj=>(⟨r,cor r,(j:Int)⟩:na0)) (c:=λp=>!pos (cor r) p) (u:=1) (fin:=2) tP r (by omega)
  (λj hj=>by
   obtain⟨m,hm⟩:=Ce1 r (cor r) hr hX j hj;simp only[Wa1,Ma8,i5,i9,hm,n8 hj (by omega),bb9 tP hj]
   rw[btD (g9 hj)]
   rfl)
  (by simp only[Wa1,Ma8];rw[bfD (l0 (Qic _))]) 0 (Qie _)
 rw[Qia] at h;have e:(r.any λp=>!pos (cor r) p)=!r.all (pos (cor r)):=by rw[Qii]
 unfold Gb3 Gd9;simp only[i5,i9,j9,vd0 r hb hr,vd1 r hb hr];rw[show (⟨r,cor r,0⟩:na0)=⟨r,cor r,((0:Nat):Int)⟩ from rfl,h,e]
 cases r.all (pos (cor r))<;>rfl
theorem ff5(r:List Pln)(hb:Bds r)(hr:r.length<=200):Gb4 r=Gd9 r:=by unfold Gb4;rw[Je2 r hb hr];rfl
theorem ff6(r:List Pln)(hb:Bds r)(hr:r.length<=200):Gb5 r=true:=by unfold Gb5;rw[Je2 r hb hr];rfl
theorem qb5{c:List Pln}(h:(chk c==0)=true):Bds (c++ws)/\(c++ws).length<=200:=by
 rw[beq_iff_eq,Hb8] at h;refine⟨λp hp=>?_,by rw[Qib,show ws.length=6 from rfl];omega⟩
 rcases Qiu.1 hp with hp|hp
 ·exact rc1 (h.2 p hp)
 ·exact Ff8 p hp
noncomputable def pts(c:List Pln):List Pt:=if chk c==0 then cor (c++ws) else []
noncomputable def ful(c:List Pln):Bool:=(chk c==0)&&Gd9 (c++ws)
theorem pe3{c:List Pln}(hc:c.length<=1000000000):∃x,Wa8 c=some x/\(one (r1L tX)).rd x=some (pts c):=by
 unfold Wa8 pts;simp only[i5,j9,pe1 c hc,pe2 c hc,Gf2 c hc,Gf3 c hc];cases h:chk c==0 with
 |false=>exact⟨_,rfl,rfl⟩
 |true =>
  obtain⟨h1,h2⟩:=qb5 h;rw[Pd4 _ h1 h2,Pd5 _ h1 h2];exact⟨_,rfl,Cc0 tX _⟩
theorem vd4{c:List Pln}(hc:c.length<=1000000000):Ja1 c=pts c:=by
 obtain⟨x,h1,h2⟩:=pe3 hc;unfold Ja1;rw[h1];exact Ja3 _ h2
theorem vd5{c:List Pln}(hc:c.length<=1000000000):Ja2 c=true:=by
 obtain⟨x,h1,h2⟩:=pe3 hc;unfold Ja2;rw[h1];exact Wa9 _ h2
theorem Pd9{c:List Pln}(hc:c.length<=1000000000):∃x,fb6 c=some x/\(one (r1L tX)).rd x=some (pts c):=by
 unfold fb6 pts;simp only[i5,j9,Hb7 c hc,Yb2 c hc,Pd6 c hc,Pd7 c hc];have e:(chk c != 0)=!(chk c==0):=rfl;rw[e];cases h:chk c==0 with
 |false=>exact⟨_,rfl,rfl⟩
 |true =>
  obtain⟨h1,h2⟩:=qb5 h;rw[vd0 _ h1 h2,vd1 _ h1 h2];exact⟨_,rfl,Cc0 tX _⟩
theorem Se8{c:List Pln}(hc:c.length<=1000000000):Ab3 c=pts c:=by
 obtain⟨x,h1,h2⟩:=Pd9 hc;unfold Ab3;rw[h1];exact Ja3 _ h2
theorem Se9{c:List Pln}(hc:c.length<=1000000000):Ab4 c=true:=by
 obtain⟨x,h1,h2⟩:=Pd9 hc;unfold Ab4;rw[h1];exact Wa9 _ h2
theorem Je3{c:List Pln}(hc:c.length<=1000000000):ub0 c=some (b (ful c),[]):=by
 unfold ub0 ful;simp only[i5,j9,pe1 c hc,pe2 c hc,Gf2 c hc,Gf3 c hc];cases h:chk c==0 with
 |false=>rfl
 |true =>
  obtain⟨h1,h2⟩:=qb5 h;rw[ff3 _ h1 h2,ff4 _ h1 h2];rfl
theorem vd6{c:List Pln}(hc:c.length<=1000000000):Ca5 c=ful c:=by unfold Ca5;rw[Je3 hc];rfl
theorem vd7{c:List Pln}(hc:c.length<=1000000000):Ca6 c=true:=by unfold Ca6;rw[Je3 hc];rfl
theorem pe4{c:List Pln}(hc:c.length<=1000000000):Gb6 c=some (b (ful c),[]):=by
 unfold Gb6 ful;simp only[i5,j9,Hb7 c hc,Yb2 c hc,Pd6 c hc,Pd7 c hc];cases h:chk c==0 with
 |false=>rfl
 |true =>
  obtain⟨h1,h2⟩:=qb5 h;rw[ff5 _ h1 h2,ff6 _ h1 h2];rfl
theorem md5{c:List Pln}(hc:c.length<=1000000000):Ma9 c=ful c:=by unfold Ma9;rw[pe4 hc];rfl
theorem md6{c:List Pln}(hc:c.length<=1000000000):Na0 c=true:=by unfold Na0;rw[pe4 hc];rfl
set_option maxRecDepth 100000
structure Za6 where
 is1:Int
 o0:List Int
 e8:Int
noncomputable def Xc8:List (Nat×Sum):=[(27,Xb4)]
theorem Pc9:i8 prog G Xc8:=⟨cc9,trivial⟩
structure Za7 where
 alt:Nat
 (is0 e8:Int)
noncomputable def ua6{α:Type}(kk:Za7->α)(x:Za6):α:=let t1:=(Ia6 (gL tI x.o0 (W ((W (x.e8+1))-1)).toNat) x.is1);(sl (decide (x.e8>=(↑(List.length x.o0):Int))) (kk ⟨1,0,x.e8⟩) (sl (inB (W ((W (x.e8+1))-1)) (List.length x.o0)) (sl (Ia7 (gL tI x.o0 (W ((W (x.e8+1))-1)).toNat) x.is1) (kk ⟨1,t1,W (x.e8+1)⟩) (kk ⟨0,0,0⟩)) (kk ⟨0,0,0⟩)))
noncomputable def o7(x:Za6):Za7:=ua6 (λr=>r) x
noncomputable def ob2(x:Za6)(r:Za7):DT (b8×List b9):=(.ite (Nat.beq r.alt 1) (.ret (i r.is0,[⟨0,2,[[eL tI x.o0,i r.e8]],true,false,0⟩])) .fail)
theorem id4{α β:Type}(F:α->β)(kk:Za7->α)(x:Za6):F (ua6 kk x)=ua6 (λr=>F (kk r)) x:=by unfold ua6;(repeat' apply l5 (f:=F))<;>rfl
noncomputable def Ga6:Sum:=eb9 ⟨[sPq 0,sIq],[⟨0,2,true,some [[.c 1 (nL tI),.o (.int .i64)]]⟩],λa H=>(⟨aIq a 1,hLq tI H 0 0 0,hIq H 0 0 1⟩,())⟩ (λx=>ob2 x (o7 x))
theorem Ra9:i7 prog G 68 Ga6:=Q9 (enc:=λx=>⟨[.ptr 0 0 0 0,i x.is1],[⟨0,2,[[eL tI x.o0,i x.e8]],true,false,0⟩]⟩) (λa H=>by kernel_rfl) (bd b68 Pc9) λx=>w9 (Eq.trans (b:=ua6 (λr=>(ob2 x r).run) x) (by kernel_rfl) (id4 (λr=>(ob2 x r).run) (λr=>r) x).symm)
structure xc6 where
 is1:Int
 o0:List Int
 e8:Int
noncomputable def Ce2:List (Nat×Sum):=[(68,Ga6)]
theorem pe5:i8 prog G Ce2:=⟨Ra9,trivial⟩
structure xc7 where
 alt:Nat
 (Ia0 Ia1 Ia2:Int)
 o0:List Int
 e8:Int
noncomputable def Db3{α:Type}(kk:xc7->α)(x:xc6):α:=let t1:=(o7 ⟨W ((W (2*x.is1))+1),rt tI x.o0,x.e8⟩);let t2:=(o7 ⟨W ((W (2*x.is1))+1),rt tI (rt tI x.o0),t1.e8⟩);let t3:=(o7 ⟨W ((W (2*x.is1))+1),rt tI (rt tI (rt tI x.o0)),t2.e8⟩);(sl ((cnE tI x.o0)&&true) (sl (Nat.beq t1.alt 1) (sl ((cnE tI (rt tI x.o0))&&true) (sl (Nat.beq t2.alt 1) (sl ((cnE tI (rt tI (rt tI x.o0)))&&true) (sl (Nat.beq t3.alt 1) (kk ⟨1,W (t1.is0-x.is1),W (t2.is0-x.is1),W (t3.is0-x.is1),rt tI (rt tI (rt tI x.o0)),t3.e8⟩) (kk ⟨0,0,0,0,[],0⟩)) (kk ⟨0,0,0,0,[],0⟩)) (kk ⟨0,0,0,0,[],0⟩)) (kk ⟨0,0,0,0,[],0⟩)) (kk ⟨0,0,0,0,[],0⟩)) (kk ⟨0,0,0,0,[],0⟩))
noncomputable def ob3(x:xc6):xc7:=Db3 (λr=>r) x
noncomputable def Hc5(x:xc6)(r:xc7):DT (b8×List b9):=(.ite (Nat.beq r.alt 1) (.ret (.agg [i r.Ia0,i r.Ia1,i r.Ia2],[⟨0,2,[[eL tI r.o0,i r.e8]],true,false,0⟩])) .fail)
theorem Te0{α β:Type}(F:α->β)(kk:xc7->α)(x:xc6):F (Db3 kk x)=Db3 (λr=>F (kk r)) x:=by unfold Db3;(repeat' apply l5 (f:=F))<;>rfl
noncomputable def Xc9:Sum:=eb9 ⟨[sPq 0,sIq],[⟨0,2,true,some [[.c 1 (nL tI),.o (.int .i64)]]⟩],λa H=>(⟨aIq a 1,hLq tI H 0 0 0,hIq H 0 0 1⟩,())⟩ (λx=>Hc5 x (ob3 x))
theorem vd8:i7 prog G 69 Xc9:=Q9 (enc:=λx=>⟨[.ptr 0 0 0 0,i x.is1],[⟨0,2,[[eL tI x.o0,i x.e8]],true,false,0⟩]⟩) (λa H=>by kernel_rfl) (bd b69 pe5) λx=>w9 (Eq.trans (b:=Db3 (λr=>(Hc5 x r).run) x) (by kernel_rfl) (Te0 (λr=>(Hc5 x r).run) (λr=>r) x).symm)
noncomputable def Ce3:List (Nat×Sum):=[]
theorem pe6:i8 prog G Ce3:=trivial
noncomputable def Sa0(x:V3)(y:V3):V3:=(⟨W (x.x-y.x),W (x.y-y.y),W (x.z-y.z)⟩:V3)
noncomputable def Yc0:Sum:=ga1 (da1 tV) (da1 tV) (λx y=>.ret ((one r1V).enc (Sa0 x y),[]))
theorem vd9:i7 prog G 128 Yc0:=Ka8 (bd gg8 pe6) λx y=>w9 (by kernel_rfl)
noncomputable def Te1:List (Nat×Sum):=[(191,Ra5)]
theorem Ce4:i8 prog G Te1:=⟨fb4,trivial⟩
noncomputable def rc2(x:V3):Option (b8×List b9):=(sl (decide (x.x<(-24))) (some (b false,[])) (sl (decide (x.x>24)) (some (b false,[])) (sl (decide (x.y<(-24))) (some (b false,[])) (sl (decide (x.y>24)) (some (b false,[])) (sl (decide (x.z<(-24))) (some (b false,[])) (sl (decide (x.z>24)) (some (b false,[])) (some (b true,[]))))))))
noncomputable def ub1(x:V3):Bool:=I6 (one r1B) (rc2 x)
noncomputable def ub2(x:V3):Bool:=okO (one r1B) (rc2 x)
noncomputable def Qc0:Sum:=Z5 (da1 tV) (λx=>.guard (ub2 x) (.ret ((one r1B).enc (ub1 x),[])))
theorem Yc1:i7 prog G 162 Qc0:=La4 (bd ig6 Ce4) (one r1B) (o:=rc2) λx=>w9 (by kernel_rfl)
noncomputable def wd0:List (Nat×Sum):=[(162,Qc0),(128,Yc0),(164,pc2),(163,Gc5),(84,xc2)]
theorem id5:i8 prog G wd0:=⟨Yc1,vd9,Nc8,cd8,Gc2,trivial⟩
noncomputable def Xa0(x:V3)(y:V3)(z:V3):Option (b8×List b9):=let t1:=(ub1 x);let t2:=(ub1 y);let t3:=(ub1 z);let t4:=(Sa0 y x);let t5:=(Sa0 z x);let t6:=(da3 t4 t5);let t7:=(ab9 t6);let t8:=(Ia4 t7.1 x);(sl (ub2 x) (sl (!t1) (some (.tup [.agg [i 0,i 0,i 0,i 0],b false],[])) (sl (ub2 y) (sl (!t2) (some (.tup [.agg [i 0,i 0,i 0,i 0],b false],[])) (sl (ub2 z) (sl (!t3) (some (.tup [.agg [i 0,i 0,i 0,i 0],b false],[])) (sl (Gb2 t6) (sl (t7.2==0) (some (.tup [.agg [i 0,i 0,i 0,i 0],b false],[])) (some (.tup [.agg [i t7.1.x,i t7.1.y,i t7.1.z,i t8],b true],[]))) none)) none)) none)) none)
noncomputable def xa7(x:V3)(y:V3)(z:V3):Pln×Bool:=I6 (two r1P r1B) (Xa0 x y z)
noncomputable def xa8(x:V3)(y:V3)(z:V3):Bool:=okO (two r1P r1B) (Xa0 x y z)
noncomputable def qb6:Sum:=gd3 (da1 tV) (da1 tV) (da1 tV) (λx y z=>.guard (xa8 x y z) (.ret ((two r1P r1B).enc (xa7 x y z),[])))
theorem Hb9:i7 prog G 107 qb6:=Ye8 (bd fg2 id5) (two r1P r1B) (o:=Xa0) λx y z=>w9 (by kernel_rfl)
noncomputable def pe7:List (Nat×Sum):=[(68,Ga6),(69,Xc9),(107,qb6),(27,Xb4)]
theorem ae7:i8 prog G pe7:=⟨Ra9,vd8,Hb9,cc9,trivial⟩
noncomputable def bb1(x:List Int):Option (b8×List b9):=let t1:=(o7 ⟨8,rt tI x,0⟩);let t2:=(o7 ⟨17,rt tI (rt tI x),t1.e8⟩);let t3:=(ob3 ⟨8,rt tI (rt tI (rt tI x)),t2.e8⟩);let t4:=(ob3 ⟨8,rt tI t3.o0,t3.e8⟩);let t5:=(ob3 ⟨8,rt tI t4.o0,t4.e8⟩);let t6:=(xa7 (⟨t3.Ia0,t3.Ia1,t3.Ia2⟩:V3) (⟨t4.Ia0,t4.Ia1,t4.Ia2⟩:V3) (⟨t5.Ia0,t5.Ia1,t5.Ia2⟩:V3));let t7:=(Ia6 (W (t2.is0-8)) 3);let w0:Option (b8×List b9):=(sl (Ia7 (W (t2.is0-8)) 3) (sl (t7==1) (some (.agg [i 0,i (W (1-(W (2*(Int.tmod t1.is0 2))))),i 0,i (W (t2.is0-8))],[])) (sl (t7==2) (some (.agg [i 0,i 0,i (W (1-(W (2*(Int.tmod t1.is0 2))))),i (W (t2.is0-8))],[])) (some (.agg [i (W (1-(W (2*(Int.tmod t1.is0 2))))),i 0,i 0,i (W (t2.is0-8))],[])))) none);(sl ((cnE tI x)&&true) (sl (Nat.beq t1.alt 1) (sl ((cnE tI (rt tI x))&&true) (sl (Nat.beq t2.alt 1) (sl ((cnE tI (rt tI (rt tI x)))&&true) (sl (Nat.beq t3.alt 1) (sl ((cnE tI t3.o0)&&true) (sl (Nat.beq t4.alt 1) (sl ((cnE tI t4.o0)&&true) (sl (Nat.beq t5.alt 1) (sl (xa8 (⟨t3.Ia0,t3.Ia1,t3.Ia2⟩:V3) (⟨t4.Ia0,t4.Ia1,t4.Ia2⟩:V3) (⟨t5.Ia0,t5.Ia1,t5.Ia2⟩:V3)) (sl (decide (t1.is0>1)) (sl t6.2 (some (.agg [i t6.1.n.x,i t6.1.n.y,i t6.1.n.z,i t6.1.b],[])) w0) w0) none) none) none) none) none) none) none) none) none) none) none)
noncomputable def Ib0(x:List Int):Pln:=I6 (one r1P) (bb1 x)
noncomputable def Hc6(x:List Int):Bool:=okO (one r1P) (bb1 x)
noncomputable def wd1:Sum:=Z5 (G4 tI) (λx=>.guard (Hc6 x) (.ret ((one r1P).enc (Ib0 x),[])))
theorem pe8:i7 prog G 51 wd1:=La4 (bd b51 ae7) (one r1P) (o:=bb1) λx=>w9 (by kernel_rfl)
noncomputable def pe9:List (Nat×Sum):=[(128,Yc0)]
theorem ae8:i8 prog G pe9:=⟨vd9,trivial⟩
noncomputable def Ea0(x:Pln):Pln:=let t1:=(Sa0 (⟨0,0,0⟩:V3) x.n);(⟨t1,W (0-x.b)⟩:Pln)
noncomputable def dc8:Sum:=Z5 (da1 tP) (λx=>.ret ((one r1P).enc (Ea0 x),[]))
theorem rc3:i7 prog G 73 dc8:=Ob1 (bd b73 ae8) λx=>w9 (by kernel_rfl)
noncomputable def qe0:List (Nat×Sum):=[(156,pc7),(162,Qc0),(84,xc2)]
theorem ae9:i8 prog G qe0:=⟨Oc2,Yc1,Gc2,trivial⟩
noncomputable def bb2(x:Pln)(y:V3):Option (b8×List b9):=let t1:=(sb4 x);let t2:=(ub1 y);let t3:=(Ia4 x.n y);(sl (sb5 x) (sl (!t1) (some (i 0,[])) (sl (ub2 y) (sl (!t2) (some (i 0,[])) (sl (decide ((W (t3-x.b))<0)) (some (i (-1),[])) (sl (decide ((W (t3-x.b))>0)) (some (i 1,[])) (some (i 0,[]))))) none)) none)
noncomputable def ob4(x:Pln)(y:V3):Int:=I6 (one r1I) (bb2 x y)
noncomputable def dc9(x:Pln)(y:V3):Bool:=okO (one r1I) (bb2 x y)
noncomputable def Hc7:Sum:=ga1 (da1 tP) (da1 tV) (λx y=>.guard (dc9 x y) (.ret ((one r1I).enc (ob4 x y),[])))
theorem dd3:i7 prog G 135 Hc7:=La5 (bd gg9 ae9) (one r1I) (o:=bb2) λx y=>w9 (by kernel_rfl)
noncomputable def rc4:List (Nat×Sum):=[]
theorem id6:i8 prog G rc4:=trivial
structure Ga7 where
 (j7 e8 j8 l8 fa7 fa8 fa9 ga0:Int)
structure X4 where
 is7:Int
noncomputable def Yb3(p:Ga7)(s:X4):St:=⟨ra 5 (.ptr 0 0 0 0::.ptr 1 0 0 0::i s.is7::ra 42 []),[⟨0,4,[[i p.j7,i p.e8,i p.j8,i p.l8]],true,false,0⟩,⟨0,4,[[i p.fa7,i p.fa8,i p.fa9,i p.ga0]],true,false,0⟩]⟩
noncomputable def ba3{α:Type}(k:X4->α)(e:Nat->α)(z:α)(p:Ga7)(s:X4):α:=(sl (decide (s.is7<4)) (sl (inB s.is7 4) (sl ((Nat.ble ((0+(s.is7.toNat*1))+1) 4)&&(Y1 [CK.int .i64] (f8 [i p.j7,i p.e8,i p.j8,i p.l8] (0+(s.is7.toNat*1))))) (sl (inB s.is7 4) (sl ((Nat.ble ((0+(s.is7.toNat*1))+1) 4)&&(Y1 [CK.int .i64] (f8 [i p.fa7,i p.fa8,i p.fa9,i p.ga0] (0+(s.is7.toNat*1))))) (sl (decide ((toI (hdA (f8 [i p.j7,i p.e8,i p.j8,i p.l8] (0+(s.is7.toNat*1)))))<(toI (hdA (f8 [i p.fa7,i p.fa8,i p.fa9,i p.ga0] (0+(s.is7.toNat*1))))))) (e 1) (sl (inB s.is7 4) (sl ((Nat.ble ((0+(s.is7.toNat*1))+1) 4)&&(Y1 [CK.int .i64] (f8 [i p.j7,i p.e8,i p.j8,i p.l8] (0+(s.is7.toNat*1))))) (sl (inB s.is7 4) (sl ((Nat.ble ((0+(s.is7.toNat*1))+1) 4)&&(Y1 [CK.int .i64] (f8 [i p.fa7,i p.fa8,i p.fa9,i p.ga0] (0+(s.is7.toNat*1))))) (sl (decide ((toI (hdA (f8 [i p.j7,i p.e8,i p.j8,i p.l8] (0+(s.is7.toNat*1)))))>(toI (hdA (f8 [i p.fa7,i p.fa8,i p.fa9,i p.ga0] (0+(s.is7.toNat*1))))))) (e 2) (k ⟨W (s.is7+1)⟩)) z) z) z) z)) z) z) z) z) (e 3))
noncomputable def O7(p:Ga7)(s:X4):Stp X4:=ba3 .next .exit .fail p s
noncomputable def yb1:Lo Ga7 X4:=⟨En rc4,0,Ef6,[1,1,1,0,1,4,4],[5,6,7],.p,[⟨ru2 5 (sPq 0::sPq 1::sIq::ru2 42 []),[⟨0,4,true,some [kLq 4]⟩,⟨0,4,true,some [kLq 4]⟩],λa H=>(⟨hIq H 0 0 0,hIq H 0 0 1,hIq H 0 0 2,hIq H 0 0 3,hIq H 1 0 0,hIq H 1 0 1,hIq H 1 0 2,hIq H 1 0 3⟩,⟨aIq a 7⟩)⟩],O7,[(none,λp s=>⟨[i (-1)],[]⟩),(none,λp s=>⟨[i 1],[]⟩),(some 0,λp s=>upq (Yb3 p s) [(32,i s.is7),(33,b (decide (s.is7<4)))])],Yb3⟩
theorem Yc2:yb1.Ok:=Lo.ok [] (by kernel_rfl) .nil rfl (.cons (λa H=>by kernel_rfl) .nil) λp s=>(.of @ba3 (λF _ _ _ _ _=>by unfold ba3;(repeat' apply l5 (f:=F))<;>rfl) (by kernel_rfl))
noncomputable def xa9(x:Pln)(y:Pln):Option (b8×List b9):=let t1:=(lp (O7 (⟨x.n.x,x.n.y,x.n.z,x.b,y.n.x,y.n.y,y.n.z,y.b⟩:Ga7)) (⟨0⟩:X4));(sl (Nat.beq t1.1 1) (some (i (-1),[])) (sl (Nat.beq t1.1 2) (some (i 1,[])) (sl (Nat.beq t1.1 3) (some (i 0,[])) none)))
noncomputable def ia1(x:Pln)(y:Pln):Int:=I6 (one r1I) (xa9 x y)
noncomputable def qb7(x:Pln)(y:Pln):Bool:=okO (one r1I) (xa9 x y)
noncomputable def Ub1:Sum:=ga1 (da1 tP) (da1 tP) (λx y=>.guard (qb7 x y) (.ret ((one r1I).enc (ia1 x y),[])))
theorem rc5:i7 prog G 182 Ub1:=La5 (bd kg0 id6) (one r1I) (o:=xa9) λx y=>ma5 (.s .p (.s .p (.s .p (.s (.s .p (.b (.u yb1.ls))) .p)))) [yb1.pr] (by kernel_rfl) (.cons Yc2 .nil) (by kernel_rfl)
noncomputable def Ce5:List (Nat×Sum):=[(27,Xb4)]
theorem qe1:i8 prog G Ce5:=⟨cc9,trivial⟩
noncomputable def Yb4(x:Pln)(y:V3):Option (b8×List b9):=let t1:=(Ia6 y.z 9);let t2:=(Ia6 y.x 5);(sl (Ia7 y.z 9) (sl (inB t1 9) (sl ((Nat.ble 1 (len (d8 [[i y.y],[i 0],[i 4608],[i 4609],[i (-4609)],[i (W (2*x.n.x))],[i 2097152],[i 2097153],[i (-2097152)]] (0+t1.toNat))))&&(Y1 [CK.int .i64] (d8 [[i y.y],[i 0],[i 4608],[i 4609],[i (-4609)],[i (W (2*x.n.x))],[i 2097152],[i 2097153],[i (-2097152)]] (0+t1.toNat)))) (sl (Ia7 y.x 5) (sl (t2==0) (some (.agg [i (toI (hdA (d8 [[i y.y],[i 0],[i 4608],[i 4609],[i (-4609)],[i (W (2*x.n.x))],[i 2097152],[i 2097153],[i (-2097152)]] (0+t1.toNat)))),i x.n.y,i x.n.z,i x.b],[])) (sl (t2==1) (some (.agg [i x.n.x,i (toI (hdA (d8 [[i y.y],[i 0],[i 4608],[i 4609],[i (-4609)],[i (W (2*x.n.x))],[i 2097152],[i 2097153],[i (-2097152)]] (0+t1.toNat)))),i x.n.z,i x.b],[])) (sl (t2==2) (some (.agg [i x.n.x,i x.n.y,i (toI (hdA (d8 [[i y.y],[i 0],[i 4608],[i 4609],[i (-4609)],[i (W (2*x.n.x))],[i 2097152],[i 2097153],[i (-2097152)]] (0+t1.toNat)))),i x.b],[])) (sl (t2==3) (some (.agg [i x.n.x,i x.n.y,i x.n.z,i (toI (hdA (d8 [[i y.y],[i 0],[i 4608],[i 4609],[i (-4609)],[i (W (2*x.n.x))],[i 2097152],[i 2097153],[i (-2097152)]] (0+t1.toNat))))],[])) (sl (t2==4) (some (.agg [i (W (2*x.n.x)),i (W (2*x.n.y)),i (W (2*x.n.z)),i x.b],[])) (some (.agg [i x.n.x,i x.n.y,i x.n.z,i x.b],[]))))))) none) none) none) none)
noncomputable def Qd0(x:Pln)(y:V3):Pln:=I6 (one r1P) (Yb4 x y)
noncomputable def Yc3(x:Pln)(y:V3):Bool:=okO (one r1P) (Yb4 x y)
noncomputable def Qd1:Sum:=ga1 (da1 tP) (da1 tV) (λx y=>.guard (Yc3 x y) (.ret ((one r1P).enc (Qd0 x y),[])))
theorem Ce6:i7 prog G 72 Qd1:=La5 (bd b72 qe1) (one r1P) (o:=Yb4) λx y=>w9 (by kernel_rfl)
noncomputable def ub3:List (Nat×Sum):=[(107,qb6),(135,Hc7)]
theorem be0:i8 prog G ub3:=⟨Hb9,dd3,trivial⟩
structure Ea1 where
 k9:List V3
 (is3 is4 is5:Int)
 bs7:Bool
 (j7 e8 j8 l8:Int)
structure na8 where
 is8:Int
noncomputable def Ub2(p:Ea1)(s:na8):St:=⟨eL tV p.k9::.unk::.unk::i p.is3::i p.is4::i p.is5::.ptr 0 0 0 0::b p.bs7::i s.is8::ra 48 [],[⟨0,4,[[i p.j7,i p.e8,i p.j8,i p.l8]],true,false,0⟩]⟩
noncomputable def ja8{α:Type}(k:na8->α)(e:Nat->α)(z:α)(p:Ea1)(s:na8):α:=let t1:=(ob4 (⟨(⟨p.j7,p.e8,p.j8⟩:V3),p.l8⟩:Pln) (gL tV p.k9 s.is8.toNat));(sl (decide (s.is8<(↑(List.length p.k9):Int))) (sl p.bs7 (sl (inB s.is8 (List.length p.k9)) (sl (dc9 (⟨(⟨p.j7,p.e8,p.j8⟩:V3),p.l8⟩:Pln) (gL tV p.k9 s.is8.toNat)) (sl (t1 != 0) (e 1) (k ⟨W (s.is8+1)⟩)) z) z) (e 2)) (e 3))
noncomputable def H9(p:Ea1)(s:na8):Stp na8:=ja8 .next .exit .fail p s
noncomputable def ec0:Lo Ea1 na8:=⟨En ub3,0,cf7,[1,0,1,4,4,1,0,4,1,4,4,1,0,4,1,4,4,1,0,4,1,1,4,4],[0,3,4,5,6,7,8],.p,[⟨sLq tV::sUq::sUq::sIq::sIq::sIq::sPq 0::sBq::sIq::ru2 48 [],[⟨0,4,true,some [kLq 4]⟩],λa H=>(⟨aLq tV a 0,aIq a 3,aIq a 4,aIq a 5,aBq a 7,hIq H 0 0 0,hIq H 0 0 1,hIq H 0 0 2,hIq H 0 0 3⟩,⟨aIq a 8⟩)⟩],H9,[(none,λp s=>⟨[b false],[]⟩),(some 6,λp s=>upq (Ub2 p s) [(41,i s.is8),(42,eL tV p.k9),(43,i (↑(List.length p.k9):Int)),(44,b (decide (s.is8<(↑(List.length p.k9):Int)))),(45,b true),(46,b p.bs7),(47,b p.bs7)]),(some 6,λp s=>upq (Ub2 p s) [(41,i s.is8),(42,eL tV p.k9),(43,i (↑(List.length p.k9):Int)),(44,b (decide (s.is8<(↑(List.length p.k9):Int)))),(45,b false),(46,u),(47,b false)])],Ub2⟩
theorem Hd0:ec0.Ok:=Lo.ok [] (by kernel_rfl) .nil rfl (.cons (λa H=>by kernel_rfl) .nil) λp s=>(.of @ja8 (λF _ _ _ _ _=>by unfold ja8;(repeat' apply l5 (f:=F))<;>rfl) (by kernel_rfl))
structure ib0 where
 (is3 is4:Int)
structure na9 where
 k9:List V3
 is5:Int
noncomputable def Cc1(p:ib0)(s:na9):St:=⟨eL tV s.k9::.unk::.unk::i p.is3::i p.is4::i s.is5::ra 51 [],[]⟩
noncomputable def ra2{α:Type}(k:na9->α)(e:Nat->α)(z:α)(p:ib0)(s:na9):α:=let t1:=(xa7 (gL tV s.k9 p.is3.toNat) (gL tV s.k9 p.is4.toNat) (gL tV s.k9 s.is5.toNat));let t2:=(lp (H9 (⟨rt tV s.k9,p.is3,p.is4,s.is5,t1.2,t1.1.n.x,t1.1.n.y,t1.1.n.z,t1.1.b⟩:Ea1)) (⟨0⟩:na8));(sl (decide (s.is5<p.is4)) (sl (inB p.is3 (List.length s.k9)) (sl (inB p.is4 (List.length s.k9)) (sl (inB s.is5 (List.length s.k9)) (sl (xa8 (gL tV s.k9 p.is3.toNat) (gL tV s.k9 p.is4.toNat) (gL tV s.k9 s.is5.toNat)) (sl ((cnE tV s.k9)&&true) (sl (Nat.beq t2.1 1) (e 1) (sl (Nat.beq t2.1 2) (k ⟨rt tV s.k9,W (s.is5+1)⟩) (sl (Nat.beq t2.1 3) (k ⟨rt tV s.k9,W (s.is5+1)⟩) z))) z) z) z) z) z) (e 2))
noncomputable def Z7(p:ib0)(s:na9):Stp na9:=ra2 .next .exit .fail p s
noncomputable def ec1:Lo ib0 na9:=⟨En ub3,0,cf7,[1,0,1,4,4,1,0,4,1,4,4,1,0,4,1,4,4],[0,3,4,5],.s .p (.s (.b (.s .p (.s .p (.b (.u ec0.ls))))) .p),[⟨sLq tV::sUq::sUq::sIq::sIq::sIq::ru2 51 [],[],λa H=>(⟨aIq a 3,aIq a 4⟩,⟨aLq tV a 0,aIq a 5⟩)⟩],Z7,[(none,λp s=>⟨[b false],[]⟩),(some 4,λp s=>upq (Cc1 p s) [(20,i s.is5),(21,i p.is4),(22,b (decide (s.is5<p.is4)))])],Cc1⟩
theorem Hd1:ec1.Ok:=Lo.ok [ec0.pr] (by kernel_rfl) (.cons Hd0 .nil) rfl (.cons (λa H=>by kernel_rfl) .nil) λp s=>(.of @ra2 (λF _ _ _ _ _=>by unfold ra2;(repeat' apply l5 (f:=F))<;>rfl) (by kernel_rfl))
structure ib1 where
 is3:Int
structure oa0 where
 k9:List V3
 is4:Int
noncomputable def Cc2(p:ib1)(s:oa0):St:=⟨eL tV s.k9::.unk::.unk::i p.is3::i s.is4::ra 52 [],[]⟩
noncomputable def ra3{α:Type}(k:oa0->α)(e:Nat->α)(z:α)(p:ib1)(s:oa0):α:=let t1:=(lp (Z7 (⟨p.is3,s.is4⟩:ib0)) (⟨rt tV s.k9,0⟩:na9));(sl (decide (s.is4<p.is3)) (sl ((cnE tV s.k9)&&true) (sl (Nat.beq t1.1 1) (e 1) (sl (Nat.beq t1.1 2) (k ⟨t1.2.k9,W (s.is4+1)⟩) z)) z) (e 2))
noncomputable def Z8(p:ib1)(s:oa0):Stp oa0:=ra3 .next .exit .fail p s
noncomputable def ec2:Lo ib1 oa0:=⟨En ub3,0,cf7,[1,0,1,4,4,1,0,4,1,4,4],[0,3,4],.s .p (.s (.b (.s .p (.b (.u ec1.ls)))) .p),[⟨sLq tV::sUq::sUq::sIq::sIq::ru2 52 [],[],λa H=>(⟨aIq a 3⟩,⟨aLq tV a 0,aIq a 4⟩)⟩],Z8,[(none,λp s=>⟨[b false],[]⟩),(some 2,λp s=>upq (Cc2 p s) [(15,i s.is4),(16,i p.is3),(17,b (decide (s.is4<p.is3)))])],Cc2⟩
theorem Hd2:ec2.Ok:=Lo.ok [ec1.pr] (by kernel_rfl) (.cons Hd1 .nil) rfl (.cons (λa H=>by kernel_rfl) .nil) λp s=>(.of @ra3 (λF _ _ _ _ _=>by unfold ra3;(repeat' apply l5 (f:=F))<;>rfl) (by kernel_rfl))
structure ib2 where
structure oa1 where
 k9:List V3
 is3:Int
noncomputable def Cc3(p:ib2)(s:oa1):St:=⟨eL tV s.k9::.unk::.unk::i s.is3::ra 53 [],[]⟩
noncomputable def ra4{α:Type}(k:oa1->α)(e:Nat->α)(z:α)(p:ib2)(s:oa1):α:=let t1:=(lp (Z8 (⟨s.is3⟩:ib1)) (⟨rt tV s.k9,0⟩:oa0));(sl (decide (s.is3<(↑(List.length s.k9):Int))) (sl ((cnE tV s.k9)&&true) (sl (Nat.beq t1.1 1) (e 1) (sl (Nat.beq t1.1 2) (k ⟨t1.2.k9,W (s.is3+1)⟩) z)) z) (e 2))
noncomputable def Z9(p:ib2)(s:oa1):Stp oa1:=ra4 .next .exit .fail p s
noncomputable def ec3:Lo ib2 oa1:=⟨En ub3,0,cf7,[1,0,1,4,4],[0,3],.s .p (.s (.b (.s .p (.b (.u ec2.ls)))) .p),[⟨sLq tV::sUq::sUq::sIq::ru2 53 [],[],λa H=>(⟨⟩,⟨aLq tV a 0,aIq a 3⟩)⟩],Z9,[(none,λp s=>⟨[b false],[]⟩),(some 0,λp s=>upq (Cc3 p s) [(9,i s.is3),(10,eL tV s.k9),(11,i (↑(List.length s.k9):Int)),(12,b (decide (s.is3<(↑(List.length s.k9):Int))))])],Cc3⟩
theorem Hd3:ec3.Ok:=Lo.ok [ec2.pr] (by kernel_rfl) (.cons Hd2 .nil) rfl (.cons (λa H=>by kernel_rfl) .nil) λp s=>(.of @ra4 (λF _ _ _ _ _=>by unfold ra4;(repeat' apply l5 (f:=F))<;>rfl) (by kernel_rfl))
noncomputable def bb3(x:List V3):Option (b8×List b9):=let t1:=(lp (Z9 (⟨⟩:ib2)) (⟨rt tV x,0⟩:oa1));(sl ((cnE tV x)&&true) (sl (Nat.beq t1.1 1) (some (b false,[])) (sl (Nat.beq t1.1 2) (some (b true,[])) none)) none)
noncomputable def bb4(x:List V3):Bool:=I6 (one r1B) (bb3 x)
noncomputable def ob5(x:List V3):Bool:=okO (one r1B) (bb3 x)
noncomputable def Hc8:Sum:=Z5 (G4 tV) (λx=>.guard (ob5 x) (.ret ((one r1B).enc (bb4 x),[])))
theorem dd4:i7 prog G 78 Hc8:=La4 (bd b78 be0) (one r1B) (o:=bb3) λx=>ma5 (.s .p (.s (.s .p (.b (.u ec3.ls))) .p)) [ec3.pr] (by kernel_rfl) (.cons Hd3 .nil) (by kernel_rfl)
noncomputable def Qc1:List (Nat×Sum):=[(162,Qc0),(78,Hc8)]
theorem Hd4:i8 prog G Qc1:=⟨Yc1,dd4,trivial⟩
structure Xa1 where
 k9:List V3
structure V2 where
 is3:Int
noncomputable def rc6(p:Xa1)(s:V2):St:=⟨eL tV p.k9::.unk::.unk::i s.is3::ra 17 [],[]⟩
noncomputable def la7{α:Type}(k:V2->α)(e:Nat->α)(z:α)(p:Xa1)(s:V2):α:=let t1:=(ub1 (gL tV p.k9 s.is3.toNat));(sl (decide (s.is3<(↑(List.length p.k9):Int))) (sl (inB s.is3 (List.length p.k9)) (sl (ub2 (gL tV p.k9 s.is3.toNat)) (sl (!t1) (e 1) (k ⟨W (s.is3+1)⟩)) z) z) (e 2))
noncomputable def ja9(p:Xa1)(s:V2):Stp V2:=la7 .next .exit .fail p s
noncomputable def Ub3:Lo Xa1 V2:=⟨En Qc1,0,Df3,[1,1,0,1,4,4],[0,3],.p,[⟨sLq tV::sUq::sUq::sIq::ru2 17 [],[],λa H=>(⟨aLq tV a 0⟩,⟨aIq a 3⟩)⟩],ja9,[(none,λp s=>⟨[i 3],[]⟩),(some 0,λp s=>upq (rc6 p s) [(7,i s.is3),(8,eL tV p.k9),(9,i (↑(List.length p.k9):Int)),(10,b (decide (s.is3<(↑(List.length p.k9):Int))))])],rc6⟩
theorem wd2:Ub3.Ok:=Lo.ok [] (by kernel_rfl) .nil rfl (.cons (λa H=>by kernel_rfl) .nil) λp s=>(.of @la7 (λF _ _ _ _ _=>by unfold la7;(repeat' apply l5 (f:=F))<;>rfl) (by kernel_rfl))
noncomputable def Oa4(x:List V3):Option (b8×List b9):=let t1:=(lp (ja9 (⟨rt tV x⟩:Xa1)) (⟨0⟩:V2));let t2:=(bb4 (rt tV (rt tV x)));(sl (decide ((↑(List.length x):Int)>48)) (some (i 2,[])) (sl ((cnE tV x)&&true) (sl (Nat.beq t1.1 1) (some (i 3,[])) (sl (Nat.beq t1.1 2) (sl (okE tV (rt tV x)) (sl (ob5 (rt tV (rt tV x))) (sl t2 (some (i 11,[])) (some (i 0,[]))) none) none) none)) none))
noncomputable def ub4(x:List V3):Int:=I6 (one r1I) (Oa4 x)
noncomputable def rc7(x:List V3):Bool:=okO (one r1I) (Oa4 x)
noncomputable def dd5:Sum:=Z5 (G4 tV) (λx=>.guard (rc7 x) (.ret ((one r1I).enc (ub4 x),[])))
theorem be1:i7 prog G 125 dd5:=La4 (bd gg5 Hd4) (one r1I) (o:=Oa4) λx=>ma5 (.s .p (.s .p (.s (.s .p (.b (.u Ub3.ls))) .p))) [Ub3.pr] (by kernel_rfl) (.cons wd2 .nil) (by kernel_rfl)
noncomputable def Qc2:List (Nat×Sum):=[(135,Hc7)]
theorem Hd5:i8 prog G Qc2:=⟨dd3,trivial⟩
structure Xa2 where
 fd5:List V3
 (j7 e8 j8 l8:Int)
structure V4 where
 is5:Int
noncomputable def rc8(p:Xa2)(s:V4):St:=⟨.unk::eL tV p.fd5::.ptr 0 0 0 0::.unk::.unk::i s.is5::ra 13 [],[⟨0,4,[[i p.j7,i p.e8,i p.j8,i p.l8]],true,false,0⟩]⟩
noncomputable def la8{α:Type}(k:V4->α)(e:Nat->α)(z:α)(p:Xa2)(s:V4):α:=let t1:=(ob4 (⟨(⟨p.j7,p.e8,p.j8⟩:V3),p.l8⟩:Pln) (gL tV p.fd5 s.is5.toNat));(sl (decide (s.is5<(↑(List.length p.fd5):Int))) (sl (inB s.is5 (List.length p.fd5)) (sl (dc9 (⟨(⟨p.j7,p.e8,p.j8⟩:V3),p.l8⟩:Pln) (gL tV p.fd5 s.is5.toNat)) (sl (decide (t1>0)) (e 1) (k ⟨W (s.is5+1)⟩)) z) z) (e 2))
noncomputable def ka0(p:Xa2)(s:V4):Stp V4:=la8 .next .exit .fail p s
noncomputable def Ub4:Lo Xa2 V4:=⟨En Qc2,0,Df4,[1,0,1,4,4],[1,2,5],.p,[⟨sUq::sLq tV::sPq 0::sUq::sUq::sIq::ru2 13 [],[⟨0,4,true,some [kLq 4]⟩],λa H=>(⟨aLq tV a 1,hIq H 0 0 0,hIq H 0 0 1,hIq H 0 0 2,hIq H 0 0 3⟩,⟨aIq a 5⟩)⟩],ka0,[(none,λp s=>⟨[b false],[]⟩),(some 0,λp s=>upq (rc8 p s) [(6,i s.is5),(7,eL tV p.fd5),(8,i (↑(List.length p.fd5):Int)),(9,b (decide (s.is5<(↑(List.length p.fd5):Int))))])],rc8⟩
theorem wd3:Ub4.Ok:=Lo.ok [] (by kernel_rfl) .nil rfl (.cons (λa H=>by kernel_rfl) .nil) λp s=>(.of @la8 (λF _ _ _ _ _=>by unfold la8;(repeat' apply l5 (f:=F))<;>rfl) (by kernel_rfl))
noncomputable def Oa5(x:Pln)(y:List V3):Option (b8×List b9):=let t1:=(lp (ka0 (⟨rt tV y,x.n.x,x.n.y,x.n.z,x.b⟩:Xa2)) (⟨0⟩:V4));(sl ((cnE tV y)&&true) (sl (Nat.beq t1.1 1) (some (b false,[])) (sl (Nat.beq t1.1 2) (some (b true,[])) none)) none)
noncomputable def Ca7(x:Pln)(y:List V3):Bool:=I6 (one r1B) (Oa5 x y)
noncomputable def pa6(x:Pln)(y:List V3):Bool:=okO (one r1B) (Oa5 x y)
noncomputable def dd6:Sum:=ga1 (da1 tP) (G4 tV) (λx y=>.guard (pa6 x y) (.ret ((one r1B).enc (Ca7 x y),[])))
theorem be2:i7 prog G 126 dd6:=La5 (bd gg6 Hd5) (one r1B) (o:=Oa5) λx y=>ma5 (.s .p (.s (.s .p (.b (.u Ub4.ls))) .p)) [Ub4.pr] (by kernel_rfl) (.cons wd3 .nil) (by kernel_rfl)
noncomputable def wd4:List (Nat×Sum):=[(182,Ub1)]
theorem qe2:i8 prog G wd4:=⟨rc5,trivial⟩
structure ub5 where
 d7:List Pln
 (j7 e8 j8 l8:Int)
structure ka1 where
 is5:Int
noncomputable def Qc3(p:ub5)(s:ka1):St:=⟨eL tP p.d7::.unk::.unk::.ptr 0 0 0 0::.unk::i s.is5::ra 42 [],[⟨0,4,[[i p.j7,i p.e8,i p.j8,i p.l8]],true,false,0⟩]⟩
noncomputable def ya0{α:Type}(k:ka1->α)(e:Nat->α)(z:α)(p:ub5)(s:ka1):α:=let t1:=(ia1 (gL tP p.d7 s.is5.toNat) (⟨(⟨p.j7,p.e8,p.j8⟩:V3),p.l8⟩:Pln));(sl (decide (s.is5<(↑(List.length p.d7):Int))) (sl (inB s.is5 (List.length p.d7)) (sl (qb7 (gL tP p.d7 s.is5.toNat) (⟨(⟨p.j7,p.e8,p.j8⟩:V3),p.l8⟩:Pln)) (sl (decide (t1<0)) (k ⟨W (s.is5+1)⟩) (e 1)) z) z) (e 2))
noncomputable def ia2(p:ub5)(s:ka1):Stp ka1:=ya0 .next .exit .fail p s
noncomputable def rc9:Lo ub5 ka1:=⟨En wd4,0,Df5,[1,1,0,4,4],[0,3,5],.p,[⟨sLq tP::sUq::sUq::sPq 0::sUq::sIq::ru2 42 [],[⟨0,4,true,some [kLq 4]⟩],λa H=>(⟨aLq tP a 0,hIq H 0 0 0,hIq H 0 0 1,hIq H 0 0 2,hIq H 0 0 3⟩,⟨aIq a 5⟩)⟩],ia2,[(some 0,λp s=>let t1:=(ia1 (gL tP p.d7 s.is5.toNat) (⟨(⟨p.j7,p.e8,p.j8⟩:V3),p.l8⟩:Pln));⟨eL tP p.d7::.unk::.unk::.ptr 0 0 0 0::.unk::i s.is5::.unk::i s.is5::eL tP p.d7::i (↑(List.length p.d7):Int)::b (decide (s.is5<(↑(List.length p.d7):Int)))::b true::eL tP p.d7::i s.is5::.tptr [i (gL tP p.d7 s.is5.toNat).n.x,i (gL tP p.d7 s.is5.toNat).n.y,i (gL tP p.d7 s.is5.toNat).n.z,i (gL tP p.d7 s.is5.toNat).b]::.agg [i (gL tP p.d7 s.is5.toNat).n.x,i (gL tP p.d7 s.is5.toNat).n.y,i (gL tP p.d7 s.is5.toNat).n.z,i (gL tP p.d7 s.is5.toNat).b]::.agg [i p.j7,i p.e8,i p.j8,i p.l8]::i t1::b (decide (t1<0))::b (decide (t1<0))::ra 28 [],[⟨0,4,[[i p.j7,i p.e8,i p.j8,i p.l8]],true,false,0⟩]⟩),(some 0,λp s=>upq (Qc3 p s) [(7,i s.is5),(8,eL tP p.d7),(9,i (↑(List.length p.d7):Int)),(10,b (decide (s.is5<(↑(List.length p.d7):Int)))),(11,b false),(12,u),(13,u),(14,u),(15,u),(16,u),(17,u),(18,u),(19,b false)])],Qc3⟩
theorem be3:rc9.Ok:=Lo.ok [] (by kernel_rfl) .nil rfl (.cons (λa H=>by kernel_rfl) .nil) λp s=>(.of @ya0 (λF _ _ _ _ _=>by unfold ya0;(repeat' apply l5 (f:=F))<;>rfl) (by kernel_rfl))
noncomputable def ob6(x:List Pln)(y:Pln):Option (b8×List b9):=let t1:=(lp (ia2 (⟨rt tP x,y.n.x,y.n.y,y.n.z,y.b⟩:ub5)) (⟨0⟩:ka1));let a0:=(n9 (λk=>(λk=>(tP).row (gL tP (rt tP x) k)) (0+k)) (List.range (t1.2.is5.toNat-0)));let a1:=(n9 (λk=>(λk=>(tP).row (gL tP (rt tP x) k)) (t1.2.is5.toNat+k)) (List.range ((List.length (rt tP x))-t1.2.is5.toNat)));let a2:=(inB t1.2.is5 ((List.length (rt tP x))+1));let a3:=(Nat.beq (0+(len a0)) (len (app [] a0))&&Nat.ble (((0+(len a0))+1)*32) room);let a4:=(((0+(len a0))+1)+(len a1));let a5:=(gL tP (rt tP x) t1.2.is5.toNat);let a6:=(Nat.beq 0 0&&Nat.ble ((0+(len a0))*32) room);let w0:Option (b8×List b9):=(sl a2 (sl a6 (sl a3 (sl a2 (sl (Nat.beq ((0+(len a0))+1) (len (app (app [] a0) [[i y.n.x,i y.n.y,i y.n.z,i y.b]]))&&Nat.ble (a4*32) room) (some (.sl 0 0 a4 0,[⟨73,4,app (app (app [] a0) [[i y.n.x,i y.n.y,i y.n.z,i y.b]]) a1,true,false,0⟩])) none) none) none) none) none);let w1:Option (b8×List b9):=(sl (decide (t1.2.is5<(↑(List.length (rt tP x)):Int))) (sl (inB t1.2.is5 (List.length (rt tP x))) (sl ((a5.n.x==y.n.x)&&((a5.n.y==y.n.y)&&((a5.n.z==y.n.z)&&((a5.b==y.b)&&true)))) (some (eL tP (rt tP x),[])) w0) none) w0);(sl ((cnE tP x)&&true) (sl (Nat.beq t1.1 1) w1 (sl (Nat.beq t1.1 2) w1 none)) none)
noncomputable def L4(x:List Pln)(y:Pln):List Pln:=I6 (one (r1L tP)) (ob6 x y)
noncomputable def ua7(x:List Pln)(y:Pln):Bool:=okO (one (r1L tP)) (ob6 x y)
noncomputable def Qd2:Sum:=ga1 (G4 tP) (da1 tP) (λx y=>.guard (ua7 x y) (.ret ((one (r1L tP)).enc (L4 x y),[])))
theorem Ce7:i7 prog G 127 Qd2:=La5 (bd gg7 qe2) (one (r1L tP)) (o:=ob6) λx y=>ma5 (.s .p (.s .p (.s (.b (.u rc9.ls)) .p))) [rc9.pr] (by kernel_rfl) (.cons be3 .nil) (by kernel_rfl)
noncomputable def Bb4:List (Nat×Sum):=[(125,dd5),(107,qb6),(126,dd6),(127,Qd2),(73,dc8)]
theorem Hd6:i8 prog G Bb4:=⟨be1,Hb9,be2,Ce7,rc3,trivial⟩
structure ia3 where
 k9:List V3
 (is6 is7:Int)
structure D0 where
 ph:Nat
 is8:Int
 ya9:List Pln
noncomputable def ic1(p:ia3)(s:D0):St:=⟨eL tV p.k9::ra 4 (.v (.slice none 0 0)::i p.is6::i p.is7::i s.is8::ra 56 []),[]⟩
noncomputable def ic2(p:ia3)(s:D0):St:=⟨eL tV p.k9::ra 4 (eL tP s.ya9::i p.is6::i p.is7::i s.is8::ra 56 []),[]⟩
noncomputable def wd5(p:ia3)(s:D0):St:=(sel (Nat.beq s.ph 1) (ic2 p s) (ic1 p s))
noncomputable def N0{α:Type}(k:D0->α)(e:Nat->α)(z:α)(p:ia3)(s:D0):α:=let t1:=(xa7 (gL tV p.k9 p.is6.toNat) (gL tV p.k9 p.is7.toNat) (gL tV p.k9 s.is8.toNat));let t2:=(Ca7 t1.1 (rt tV p.k9));let t3:=(L4 [] t1.1);let t4:=(Ea0 t1.1);let t5:=(Ca7 t4 (rt tV p.k9));let t6:=(L4 (rt tP t3) t4);let t7:=(L4 [] t4);(sl (decide (s.is8<p.is7)) (sl (inB p.is6 (List.length p.k9)) (sl (inB p.is7 (List.length p.k9)) (sl (inB s.is8 (List.length p.k9)) (sl (xa8 (gL tV p.k9 p.is6.toNat) (gL tV p.k9 p.is7.toNat) (gL tV p.k9 s.is8.toNat)) (sl (!t1.2) (k ⟨0,W (s.is8+1),[]⟩) (sl (okE tV p.k9) (sl (pa6 t1.1 (rt tV p.k9)) (sl t2 (sl (ua7 [] t1.1) (sl (okE tV p.k9) (sl (pa6 t4 (rt tV p.k9)) (sl t5 (sl (okE tP t3) (sl (ua7 (rt tP t3) t4) (k ⟨1,W (s.is8+1),t6⟩) z) z) (k ⟨1,W (s.is8+1),t3⟩)) z) z) z) (sl (okE tV p.k9) (sl (pa6 t4 (rt tV p.k9)) (sl t5 (sl (ua7 [] t4) (k ⟨1,W (s.is8+1),t7⟩) z) (k ⟨0,W (s.is8+1),[]⟩)) z) z)) z) z)) z) z) z) z) (e 1))
noncomputable def N1{α:Type}(k:D0->α)(e:Nat->α)(z:α)(p:ia3)(s:D0):α:=let t1:=(xa7 (gL tV p.k9 p.is6.toNat) (gL tV p.k9 p.is7.toNat) (gL tV p.k9 s.is8.toNat));let t2:=(Ca7 t1.1 (rt tV p.k9));let t3:=(L4 (rt tP s.ya9) t1.1);let t4:=(Ea0 t1.1);let t5:=(Ca7 t4 (rt tV p.k9));let t6:=(L4 (rt tP t3) t4);let t7:=(L4 (rt tP s.ya9) t4);(sl (decide (s.is8<p.is7)) (sl (inB p.is6 (List.length p.k9)) (sl (inB p.is7 (List.length p.k9)) (sl (inB s.is8 (List.length p.k9)) (sl (xa8 (gL tV p.k9 p.is6.toNat) (gL tV p.k9 p.is7.toNat) (gL tV p.k9 s.is8.toNat)) (sl (!t1.2) (k ⟨1,W (s.is8+1),s.ya9⟩) (sl (okE tV p.k9) (sl (pa6 t1.1 (rt tV p.k9)) (sl t2 (sl (okE tP s.ya9) (sl (ua7 (rt tP s.ya9) t1.1) (sl (okE tV p.k9) (sl (pa6 t4 (rt tV p.k9)) (sl t5 (sl (okE tP t3) (sl (ua7 (rt tP t3) t4) (k ⟨1,W (s.is8+1),t6⟩) z) z) (k ⟨1,W (s.is8+1),t3⟩)) z) z) z) z) (sl (okE tV p.k9) (sl (pa6 t4 (rt tV p.k9)) (sl t5 (sl (okE tP s.ya9) (sl (ua7 (rt tP s.ya9) t4) (k ⟨1,W (s.is8+1),t7⟩) z) z) (k ⟨1,W (s.is8+1),s.ya9⟩)) z) z)) z) z)) z) z) z) z) (e 2))
noncomputable def ba4(p:ia3)(s:D0):Stp D0:=(sel (Nat.beq s.ph 1) (N1 .next .exit .fail p s) (N0 .next .exit .fail p s))
noncomputable def Ub5:Lo ia3 D0:=⟨En Bb4,0,uf4,[1,1,1,1,0,1,4,4,1,0,4,1,4,4,1,0,4,1,4,4],[0,5,6,7,8],.p,[⟨sLq tV::ru2 4 (.s (.o .nil)::sIq::sIq::sIq::ru2 56 []),[],λa H=>(⟨aLq tV a 0,aIq a 6,aIq a 7⟩,⟨0,aIq a 8,[]⟩)⟩,⟨sLq tV::ru2 4 (sLq tP::sIq::sIq::sIq::ru2 56 []),[],λa H=>(⟨aLq tV a 0,aIq a 6,aIq a 7⟩,⟨1,aIq a 8,aLq tP a 5⟩)⟩],ba4,[(some 4,λp s=>upq (ic1 p s) [(27,i s.is8),(28,i p.is7),(29,b (decide (s.is8<p.is7)))]),(some 4,λp s=>upq (ic2 p s) [(27,i s.is8),(28,i p.is7),(29,b (decide (s.is8<p.is7)))])],wd5⟩
theorem wd6:Ub5.Ok:=Lo.ok [] (by kernel_rfl) .nil rfl (.cons (λa H=>by kernel_rfl) (.cons (λa H=>by kernel_rfl) .nil)) λp s=>(.sel (Nat.beq s.ph 1) (.of @N1 (λF _ _ _ _ _=>by unfold N1;(repeat' apply l5 (f:=F))<;>rfl) (by kernel_rfl)) (.of @N0 (λF _ _ _ _ _=>by unfold N0;(repeat' apply l5 (f:=F))<;>rfl) (by kernel_rfl)))
structure ia4 where
 is6:Int
structure D1 where
 ph:Nat
 k9:List V3
 is7:Int
 ya9:List Pln
noncomputable def ic3(p:ia4)(s:D1):St:=⟨eL tV s.k9::ra 4 (.v (.slice none 0 0)::i p.is6::i s.is7::ra 57 []),[]⟩
noncomputable def ic4(p:ia4)(s:D1):St:=⟨eL tV s.k9::ra 4 (eL tP s.ya9::i p.is6::i s.is7::ra 57 []),[]⟩
noncomputable def wd7(p:ia4)(s:D1):St:=(sel (Nat.beq s.ph 1) (ic4 p s) (ic3 p s))
noncomputable def N2{α:Type}(k:D1->α)(e:Nat->α)(z:α)(p:ia4)(s:D1):α:=let t1:=(lp (ba4 (⟨rt tV s.k9,p.is6,s.is7⟩:ia3)) (⟨0,0,[]⟩:D0));(sl (decide (s.is7<p.is6)) (sl ((cnE tV s.k9)&&true) (sl (Nat.beq t1.1 1) (k ⟨0,rt tV s.k9,W (s.is7+1),[]⟩) (sl (Nat.beq t1.1 2) (k ⟨1,rt tV s.k9,W (s.is7+1),t1.2.ya9⟩) z)) z) (e 1))
noncomputable def N4{α:Type}(k:D1->α)(e:Nat->α)(z:α)(p:ia4)(s:D1):α:=let t1:=(lp (ba4 (⟨rt tV s.k9,p.is6,s.is7⟩:ia3)) (⟨1,0,rt tP s.ya9⟩:D0));(sl (decide (s.is7<p.is6)) (sl ((cnE tV s.k9)&&((cnE tP s.ya9)&&true)) (sl (Nat.beq t1.1 1) (k ⟨0,rt tV s.k9,W (s.is7+1),[]⟩) (sl (Nat.beq t1.1 2) (k ⟨1,rt tV s.k9,W (s.is7+1),t1.2.ya9⟩) z)) z) (e 2))
noncomputable def ba5(p:ia4)(s:D1):Stp D1:=(sel (Nat.beq s.ph 1) (N4 .next .exit .fail p s) (N2 .next .exit .fail p s))
noncomputable def Ub6:Lo ia4 D1:=⟨En Bb4,0,uf4,[1,1,1,1,0,1,4,4,1,0,4,1,4,4],[0,5,6,7],.s .p (.s (.b (.s .p (.b (.u Ub5.ls)))) .p),[⟨sLq tV::ru2 4 (.s (.o .nil)::sIq::sIq::ru2 57 []),[],λa H=>(⟨aIq a 6⟩,⟨0,aLq tV a 0,aIq a 7,[]⟩)⟩,⟨sLq tV::ru2 4 (sLq tP::sIq::sIq::ru2 57 []),[],λa H=>(⟨aIq a 6⟩,⟨1,aLq tV a 0,aIq a 7,aLq tP a 5⟩)⟩],ba5,[(some 2,λp s=>upq (ic3 p s) [(22,i s.is7),(23,i p.is6),(24,b (decide (s.is7<p.is6)))]),(some 2,λp s=>upq (ic4 p s) [(22,i s.is7),(23,i p.is6),(24,b (decide (s.is7<p.is6)))])],wd7⟩
theorem wd8:Ub6.Ok:=Lo.ok [Ub5.pr] (by kernel_rfl) (.cons wd6 .nil) rfl (.cons (λa H=>by kernel_rfl) (.cons (λa H=>by kernel_rfl) .nil)) λp s=>(.sel (Nat.beq s.ph 1) (.of @N4 (λF _ _ _ _ _=>by unfold N4;(repeat' apply l5 (f:=F))<;>rfl) (by kernel_rfl)) (.of @N2 (λF _ _ _ _ _=>by unfold N2;(repeat' apply l5 (f:=F))<;>rfl) (by kernel_rfl)))
structure pa7 where
structure E0 where
 ph:Nat
 k9:List V3
 is6:Int
 ya9:List Pln
noncomputable def ic5(p:pa7)(s:E0):St:=⟨eL tV s.k9::ra 4 (.v (.slice none 0 0)::i s.is6::ra 58 []),[]⟩
noncomputable def ic6(p:pa7)(s:E0):St:=⟨eL tV s.k9::ra 4 (eL tP s.ya9::i s.is6::ra 58 []),[]⟩
noncomputable def wd9(p:pa7)(s:E0):St:=(sel (Nat.beq s.ph 1) (ic6 p s) (ic5 p s))
noncomputable def N5{α:Type}(k:E0->α)(e:Nat->α)(z:α)(p:pa7)(s:E0):α:=let t1:=(lp (ba5 (⟨s.is6⟩:ia4)) (⟨0,rt tV s.k9,0,[]⟩:D1));(sl (decide (s.is6<(↑(List.length s.k9):Int))) (sl ((cnE tV s.k9)&&true) (sl (Nat.beq t1.1 1) (k ⟨0,t1.2.k9,W (s.is6+1),[]⟩) (sl (Nat.beq t1.1 2) (k ⟨1,t1.2.k9,W (s.is6+1),t1.2.ya9⟩) z)) z) (e 1))
noncomputable def N6{α:Type}(k:E0->α)(e:Nat->α)(z:α)(p:pa7)(s:E0):α:=let t1:=(lp (ba5 (⟨s.is6⟩:ia4)) (⟨1,rt tV s.k9,0,rt tP s.ya9⟩:D1));(sl (decide (s.is6<(↑(List.length s.k9):Int))) (sl ((cnE tV s.k9)&&((cnE tP s.ya9)&&true)) (sl (Nat.beq t1.1 1) (k ⟨0,t1.2.k9,W (s.is6+1),[]⟩) (sl (Nat.beq t1.1 2) (k ⟨1,t1.2.k9,W (s.is6+1),t1.2.ya9⟩) z)) z) (e 2))
noncomputable def Aa7(p:pa7)(s:E0):Stp E0:=(sel (Nat.beq s.ph 1) (N6 .next .exit .fail p s) (N5 .next .exit .fail p s))
noncomputable def Ub7:Lo pa7 E0:=⟨En Bb4,0,uf4,[1,1,1,1,0,1,4,4],[0,5,6],.s .p (.s (.b (.s .p (.b (.u Ub6.ls)))) .p),[⟨sLq tV::ru2 4 (.s (.o .nil)::sIq::ru2 58 []),[],λa H=>(⟨⟩,⟨0,aLq tV a 0,aIq a 6,[]⟩)⟩,⟨sLq tV::ru2 4 (sLq tP::sIq::ru2 58 []),[],λa H=>(⟨⟩,⟨1,aLq tV a 0,aIq a 6,aLq tP a 5⟩)⟩],Aa7,[(some 0,λp s=>upq (ic5 p s) [(16,i s.is6),(17,eL tV s.k9),(18,i (↑(List.length s.k9):Int)),(19,b (decide (s.is6<(↑(List.length s.k9):Int))))]),(some 0,λp s=>upq (ic6 p s) [(16,i s.is6),(17,eL tV s.k9),(18,i (↑(List.length s.k9):Int)),(19,b (decide (s.is6<(↑(List.length s.k9):Int))))])],wd9⟩
theorem xd0:Ub7.Ok:=Lo.ok [Ub6.pr] (by kernel_rfl) (.cons wd8 .nil) rfl (.cons (λa H=>by kernel_rfl) (.cons (λa H=>by kernel_rfl) .nil)) λp s=>(.sel (Nat.beq s.ph 1) (.of @N6 (λF _ _ _ _ _=>by unfold N6;(repeat' apply l5 (f:=F))<;>rfl) (by kernel_rfl)) (.of @N5 (λF _ _ _ _ _=>by unfold N5;(repeat' apply l5 (f:=F))<;>rfl) (by kernel_rfl)))
noncomputable def Oa6(x:List V3):Option (b8×List b9):=let t1:=(ub4 (rt tV x));let t2:=(lp (Aa7 (⟨⟩:pa7)) (⟨0,rt tV x,0,[]⟩:E0));(sl (okE tV x) (sl (rc7 (rt tV x)) (sl (t1 != 0) (some (.tup [.v (.slice none 0 0),i t1],[])) (sl ((cnE tV x)&&true) (sl (Nat.beq t2.1 1) (some (.tup [.v (.slice none 0 0),i 0],[])) (sl (Nat.beq t2.1 2) (some (.tup [eL tP t2.2.ya9,i 0],[])) none)) none)) none) none)
noncomputable def sc0(x:List V3):List Pln×Int:=I6 (two (r1L tP) r1I) (Oa6 x)
noncomputable def Pb4(x:List V3):Bool:=okO (two (r1L tP) r1I) (Oa6 x)
noncomputable def dd7:Sum:=Z5 (G4 tV) (λx=>.guard (Pb4 x) (.ret ((two (r1L tP) r1I).enc (sc0 x),[])))
theorem be4:i7 prog G 71 dd7:=La4 (bd b71 Hd6) (two (r1L tP) r1I) (o:=Oa6) λx=>ma5 (.s .p (.s .p (.s .p (.s .p (.s (.s .p (.b (.u Ub7.ls))) .p))))) [Ub7.pr] (by kernel_rfl) (.cons xd0 .nil) (by kernel_rfl)
noncomputable def Cc4:List (Nat×Sum):=[(68,Ga6),(78,Hc8)]
theorem xd1:i8 prog G Cc4:=⟨Ra9,dd4,trivial⟩
structure ka2 where
 is4:Int
structure G5 where
 ph:Nat
 is6:Int
 o0:List Int
 e8:Int
 ns5:Nat
 eh1:List (List b8)
noncomputable def Yb5(p:ka2)(s:G5):St:=⟨ra 3 (.ptr 0 0 0 0::i p.is4::.v (.slice none 0 0)::i s.is6::ra 127 []),[⟨0,2,[[eL tI s.o0,i s.e8]],true,false,0⟩]⟩
noncomputable def Yb6(p:ka2)(s:G5):St:=⟨ra 3 (.ptr 0 0 0 0::i p.is4::.sl 1 0 s.ns5 0::i s.is6::ra 127 []),[⟨0,2,[[eL tI s.o0,i s.e8]],true,false,0⟩,⟨27,3,s.eh1,true,false,0⟩]⟩
noncomputable def id7(p:ka2)(s:G5):St:=(sel (Nat.beq s.ph 1) (Yb6 p s) (Yb5 p s))
noncomputable def Aa8{α:Type}(k:G5->α)(e:Nat->α)(z:α)(p:ka2)(s:G5):α:=let t1:=(o7 ⟨17,rt tI s.o0,s.e8⟩);let t2:=(o7 ⟨17,rt tI (rt tI s.o0),t1.e8⟩);let t3:=(o7 ⟨17,rt tI (rt tI (rt tI s.o0)),t2.e8⟩);let t4:=(o7 ⟨6,rt tI (rt tI (rt tI (rt tI s.o0))),t3.e8⟩);let w0:α:=(sl (t4.is0==3) (sl (decide (s.is6>2)) z (k ⟨1,W (s.is6+1),rt tI (rt tI (rt tI (rt tI s.o0))),t4.e8,1,[[i (W (t1.is0-8)),i (W (t2.is0-8)),i (W (t3.is0-8))]]⟩)) (k ⟨1,W (s.is6+1),rt tI (rt tI (rt tI (rt tI s.o0))),t4.e8,1,[[i (W (t1.is0-8)),i (W (t2.is0-8)),i (W (t3.is0-8))]]⟩));(sl (decide (s.is6<p.is4)) (sl ((cnE tI s.o0)&&true) (sl (Nat.beq t1.alt 1) (sl ((cnE tI (rt tI s.o0))&&true) (sl (Nat.beq t2.alt 1) (sl ((cnE tI (rt tI (rt tI s.o0)))&&true) (sl (Nat.beq t3.alt 1) (sl ((cnE tI (rt tI (rt tI (rt tI s.o0))))&&true) (sl (Nat.beq t4.alt 1) (sl (t4.is0==1) (sl (decide (s.is6>1)) z (sl (t4.is0==2) (sl (decide (s.is6>0)) z w0) w0)) (sl (t4.is0==2) (sl (decide (s.is6>0)) z w0) w0)) z) z) z) z) z) z) z) z) (e 1))
noncomputable def S7{α:Type}(k:G5->α)(e:Nat->α)(z:α)(p:ka2)(s:G5):α:=let t1:=(o7 ⟨17,rt tI s.o0,s.e8⟩);let a0:=(d8 s.eh1 (0+(W (s.is6-1)).toNat));let a1:=(Nat.beq s.ns5 (len s.eh1)&&Nat.ble ((s.ns5+1)*24) room);let a3:=(f8 (d8 s.eh1 (0+(W (s.is6-2)).toNat)) 0);let a4:=((Nat.blt (0+(W (s.is6-1)).toNat) (len s.eh1))&&(Nat.ble (2+1) (len a0)));let a5:=(i (W (Int.tdiv (W ((toI (hdA (tlA (f8 a0 0))))+(toI (hdA (tlA a3))))) 2)));let a6:=(i (W (Int.tdiv (W ((toI (hdA (f8 a0 0)))+(toI (hdA a3)))) 2)));let a7:=(app s.eh1 [[a6,a5,i (W (Int.tdiv (W ((toI (hdA (tlA (tlA (f8 a0 0)))))+(toI (hdA (tlA (tlA a3)))))) 2))]]);let a8:=(inB (W (s.is6-1)) s.ns5);let a9:=(i (toI (hdA (tlA (f8 a0 0)))));let a10:=((Nat.blt (0+(W (s.is6-1)).toNat) (len s.eh1))&&(Nat.ble (0+3) (len a0)));let a11:=(i (toI (hdA (f8 a0 0))));let a12:=(app s.eh1 [[a11,a9,i (toI (hdA (tlA (tlA (f8 a0 0)))))]]);let a13:=(i (toI (hdA (f8 a0 2))));let a14:=(rt tI (rt tI s.o0));let t2:=(o7 ⟨17,a14,t1.e8⟩);let t3:=(o7 ⟨17,rt tI a14,t2.e8⟩);let a2:=(rt tI (rt tI a14));let t4:=(o7 ⟨6,a2,t3.e8⟩);let w0:α:=(sl (t4.is0==3) (sl (decide (s.is6>2)) (sl a8 (sl (a4&&(Y1 [CK.int .i64] (f8 a0 2))) (sl a1 (k ⟨1,W (s.is6+1),a2,t4.e8,s.ns5+1,app s.eh1 [[i (W (t1.is0-8)),i (W (t2.is0-8)),a13]]⟩) z) z) z) (sl a1 (k ⟨1,W (s.is6+1),a2,t4.e8,s.ns5+1,app s.eh1 [[i (W (t1.is0-8)),i (W (t2.is0-8)),i (W (t3.is0-8))]]⟩) z)) (sl a1 (k ⟨1,W (s.is6+1),a2,t4.e8,s.ns5+1,app s.eh1 [[i (W (t1.is0-8)),i (W (t2.is0-8)),i (W (t3.is0-8))]]⟩) z));let w1:α:=(sl a8 (sl (a10&&(Y1 [CK.int .i64,CK.int .i64,CK.int .i64] (f8 a0 0))) (sl (t4.is0==3) (sl (decide (s.is6>2)) (sl a8 (sl (a4&&(Y1 [CK.int .i64] (f8 a0 2))) (sl a1 (k ⟨1,W (s.is6+1),a2,t4.e8,s.ns5+1,app s.eh1 [[a11,a9,a13]]⟩) z) z) z) (sl a1 (k ⟨1,W (s.is6+1),a2,t4.e8,s.ns5+1,a12⟩) z)) (sl a1 (k ⟨1,W (s.is6+1),a2,t4.e8,s.ns5+1,a12⟩) z)) z) z);let w2:α:=(sl (t4.is0==3) (sl (decide (s.is6>2)) (sl a8 (sl (a4&&(Y1 [CK.int .i64] (f8 a0 2))) (sl a1 (k ⟨1,W (s.is6+1),a2,t4.e8,s.ns5+1,app s.eh1 [[a6,a5,a13]]⟩) z) z) z) (sl a1 (k ⟨1,W (s.is6+1),a2,t4.e8,s.ns5+1,a7⟩) z)) (sl a1 (k ⟨1,W (s.is6+1),a2,t4.e8,s.ns5+1,a7⟩) z));(sl (decide (s.is6<p.is4)) (sl ((cnE tI s.o0)&&true) (sl (Nat.beq t1.alt 1) (sl ((cnE tI (rt tI s.o0))&&true) (sl (Nat.beq t2.alt 1) (sl ((cnE tI a14)&&true) (sl (Nat.beq t3.alt 1) (sl ((cnE tI (rt tI a14))&&true) (sl (Nat.beq t4.alt 1) (sl (t4.is0==1) (sl (decide (s.is6>1)) (sl a8 (sl (a10&&(Y1 [CK.int .i64,CK.int .i64,CK.int .i64] (f8 a0 0))) (sl (inB (W (s.is6-2)) s.ns5) (sl (((Nat.blt (0+(W (s.is6-2)).toNat) (len s.eh1))&&(Nat.ble (0+3) (len (d8 s.eh1 (0+(W (s.is6-2)).toNat)))))&&(Y1 [CK.int .i64,CK.int .i64,CK.int .i64] a3)) (sl (t4.is0==2) (sl (decide (s.is6>0)) w1 w2) w2) z) z) z) z) (sl (t4.is0==2) (sl (decide (s.is6>0)) w1 w0) w0)) (sl (t4.is0==2) (sl (decide (s.is6>0)) w1 w0) w0)) z) z) z) z) z) z) z) z) (e 2))
noncomputable def Za8(p:ka2)(s:G5):Stp G5:=(sel (Nat.beq s.ph 1) (S7 .next .exit .fail p s) (Aa8 .next .exit .fail p s))
noncomputable def Ib1:Lo ka2 G5:=⟨En Cc4,0,Sf2,[1,1,1,1,0,1,4,4],[3,4,5,6],.p,[⟨ru2 3 (sPq 0::sIq::.s (.o .nil)::sIq::ru2 127 []),[⟨0,2,true,some [[.c 1 (nL tI),.o (.int .i64)]]⟩],λa H=>(⟨aIq a 4⟩,⟨0,aIq a 6,hLq tI H 0 0 0,hIq H 0 0 1,0,[]⟩)⟩,⟨ru2 3 (sPq 0::sIq::.s (.o (.sl 1 0 (some 0) none))::sIq::ru2 127 []),[⟨0,2,true,some [[.c 1 (nL tI),.o (.int .i64)]]⟩,⟨27,3,true,none⟩],λa H=>(⟨aIq a 4⟩,⟨1,aIq a 6,hLq tI H 0 0 0,hIq H 0 0 1,slN (slT a 5),elT H 1⟩)⟩],Za8,[(some 0,λp s=>upq (Yb5 p s) [(18,i s.is6),(19,i p.is4),(20,b (decide (s.is6<p.is4)))]),(some 0,λp s=>upq (Yb6 p s) [(18,i s.is6),(19,i p.is4),(20,b (decide (s.is6<p.is4)))])],id7⟩
theorem id8:Ib1.Ok:=Lo.ok [] (by kernel_rfl) .nil rfl (.cons (λa H=>by kernel_rfl) (.cons (λa H=>by kernel_rfl) .nil)) λp s=>(.sel (Nat.beq s.ph 1) (.of @S7 (λF _ _ _ _ _=>by unfold S7;(repeat' apply l5 (f:=F))<;>rfl) (by kernel_rfl)) (.of @Aa8 (λF _ _ _ _ _=>by unfold Aa8;(repeat' apply l5 (f:=F))<;>rfl) (by kernel_rfl)))
noncomputable def ib3(x:List Int):Option (b8×List b9):=let t1:=(o7 ⟨5,rt tI x,0⟩);let t2:=(lp (Za8 (⟨W (4+t1.is0)⟩:ka2)) (⟨0,0,rt tI (rt tI x),t1.e8,0,[]⟩:G5));let t3:=(bb4 []);let t4:=(bb4 (lsL tV t2.2.ns5 (λk=>d8 t2.2.eh1 (0+k))));let a0:=(f8 (d8 t2.2.eh1 0) 0);let a1:=(i (toI (hdA (tlA (tlA a0)))));let a2:=(i (W ((toI (hdA a0))-3)));let a3:=(setAt t2.2.eh1 1 (S3 (d8 t2.2.eh1 1) 0 [a2,i (toI (hdA (tlA a0))),a1]));let a4:=(i (W ((toI (hdA (tlA a0)))-2)));(sl ((cnE tI x)&&true) (sl (Nat.beq t1.alt 1) (sl ((cnE tI (rt tI x))&&true) (sl (Nat.beq t2.1 1) (sl (ob5 []) (sl t3 none (some (.v (.slice none 0 0),[]))) none) (sl (Nat.beq t2.1 2) (sl (okL tV t2.2.ns5 (λk=>d8 t2.2.eh1 (0+k))) (sl (ob5 (lsL tV t2.2.ns5 (λk=>d8 t2.2.eh1 (0+k)))) (sl t4 (sl (inB 0 t2.2.ns5) (sl (((Nat.blt 0 (len t2.2.eh1))&&(Nat.ble (0+3) (len (d8 t2.2.eh1 0))))&&(Y1 [CK.int .i64,CK.int .i64,CK.int .i64] a0)) (sl (inB 1 t2.2.ns5) (sl ((Nat.blt 1 (len t2.2.eh1))&&(Nat.ble (0+3) (len (d8 t2.2.eh1 1)))) (sl (inB 2 t2.2.ns5) (sl ((Nat.blt 2 (len a3))&&(Nat.ble (0+3) (len (d8 a3 2)))) (sl (inB 3 t2.2.ns5) (sl ((Nat.blt 3 (len (setAt a3 2 (S3 (d8 a3 2) 0 [i (toI (hdA a0)),a4,a1]))))&&(Nat.ble (0+3) (len (d8 (setAt a3 2 (S3 (d8 a3 2) 0 [i (toI (hdA a0)),a4,a1])) 3)))) (some (.sl 0 0 t2.2.ns5 0,[⟨27,3,setAt (setAt a3 2 (S3 (d8 a3 2) 0 [i (toI (hdA a0)),a4,a1])) 3 (S3 (d8 (setAt a3 2 (S3 (d8 a3 2) 0 [i (toI (hdA a0)),a4,a1])) 3) 0 [i (toI (hdA a0)),i (toI (hdA (tlA a0))),i (W ((toI (hdA (tlA (tlA a0))))-1))]),true,false,0⟩])) none) none) none) none) none) none) none) none) (some (.sl 0 0 t2.2.ns5 0,[⟨27,3,t2.2.eh1,true,false,0⟩]))) none) none) none)) none) none) none)
noncomputable def oa2(x:List Int):List V3:=I6 (one (r1L tV)) (ib3 x)
noncomputable def Bb5(x:List Int):Bool:=okO (one (r1L tV)) (ib3 x)
noncomputable def Qc4:Sum:=Z5 (G4 tI) (λx=>.guard (Bb5 x) (.ret ((one (r1L tV)).enc (oa2 x),[])))
theorem Hd7:i7 prog G 25 Qc4:=La4 (bd b25 xd1) (one (r1L tV)) (o:=ib3) λx=>ma5 (.s .p (.s .p (.s .p (.s .p (.s (.s .p (.b (.u Ib1.ls))) .p))))) [Ib1.pr] (by kernel_rfl) (.cons id8 .nil) (by kernel_rfl)
noncomputable def qe3:List (Nat×Sum):=[(68,Ga6),(69,Xc9),(63,Wc9),(51,wd1),(70,Gb7),(25,Qc4),(71,dd7)]
theorem be5:i8 prog G qe3:=⟨Ra9,vd8,td0,pe8,Pb1,Hd7,be4,trivial⟩
noncomputable def Ib2(x:List Int):Option (b8×List b9):=let t1:=(o7 ⟨4,rt tI x,0⟩);let t2:=(ob3 ⟨6,rt tI (rt tI x),t1.e8⟩);let t3:=(o7 ⟨6,rt tI t2.o0,t2.e8⟩);let t4:=(o7 ⟨6,rt tI (rt tI t2.o0),t3.e8⟩);let t5:=(o7 ⟨6,rt tI (rt tI (rt tI t2.o0)),t4.e8⟩);let t6:=(Xb0 (⟨t2.Ia0,t2.Ia1,t2.Ia2⟩:V3) (⟨W ((W (t2.Ia0+1))+t3.is0),W ((W (t2.Ia1+1))+t4.is0),W ((W (t2.Ia2+1))+t5.is0)⟩:V3));let t7:=(Ib0 (lsL tI ((List.length x)-(if 7<(↑(List.length x):Int) then 7 else (↑(List.length x):Int)).toNat) (λk=>(λk=>(tI).row (gL tI x k)) ((if 7<(↑(List.length x):Int) then 7 else (↑(List.length x):Int)).toNat+k))));let t8:=(Ma9 (slR tP (app (app [] (n9 (λk=>(tP).row (gL tP t6 k)) (List.range (List.length t6)))) [[i t7.n.x,i t7.n.y,i t7.n.z,i t7.b]]) 0 ((0+(len (n9 (λk=>(tP).row (gL tP t6 k)) (List.range (List.length t6)))))+1)));let t9:=(oa2 (lsL tI ((List.length x)-(if 7<(↑(List.length x):Int) then 7 else (↑(List.length x):Int)).toNat) (λk=>(λk=>(tI).row (gL tI x k)) ((if 7<(↑(List.length x):Int) then 7 else (↑(List.length x):Int)).toNat+k))));let t10:=(sc0 (rt tV t9));let w0:Option (b8×List b9):=(sl (okE tV t9) (sl (Pb4 (rt tV t9)) (sl (t10.2==0) (some (eL tP t10.1,[])) (some (eL tP t6,[]))) none) none);(sl ((cnE tI x)&&true) (sl (Nat.beq t1.alt 1) (sl ((cnE tI (rt tI x))&&true) (sl (Nat.beq t2.alt 1) (sl ((cnE tI t2.o0)&&true) (sl (Nat.beq t3.alt 1) (sl ((cnE tI (rt tI t2.o0))&&true) (sl (Nat.beq t4.alt 1) (sl ((cnE tI (rt tI (rt tI t2.o0)))&&true) (sl (Nat.beq t5.alt 1) (sl (Xb1 (⟨t2.Ia0,t2.Ia1,t2.Ia2⟩:V3) (⟨W ((W (t2.Ia0+1))+t3.is0),W ((W (t2.Ia1+1))+t4.is0),W ((W (t2.Ia2+1))+t5.is0)⟩:V3)) (sl (inB (if 7<(↑(List.length x):Int) then 7 else (↑(List.length x):Int)) ((List.length x)+1)) (sl (t1.is0==2) (sl (Nat.beq 0 0&&Nat.ble ((0+(len (n9 (λk=>(tP).row (gL tP t6 k)) (List.range (List.length t6)))))*32) room) (sl (okL tI ((List.length x)-(if 7<(↑(List.length x):Int) then 7 else (↑(List.length x):Int)).toNat) (λk=>(λk=>(tI).row (gL tI x k)) ((if 7<(↑(List.length x):Int) then 7 else (↑(List.length x):Int)).toNat+k))) (sl (Hc6 (lsL tI ((List.length x)-(if 7<(↑(List.length x):Int) then 7 else (↑(List.length x):Int)).toNat) (λk=>(λk=>(tI).row (gL tI x k)) ((if 7<(↑(List.length x):Int) then 7 else (↑(List.length x):Int)).toNat+k)))) (sl (Nat.beq (0+(len (n9 (λk=>(tP).row (gL tP t6 k)) (List.range (List.length t6))))) (len (app [] (n9 (λk=>(tP).row (gL tP t6 k)) (List.range (List.length t6)))))&&Nat.ble (((0+(len (n9 (λk=>(tP).row (gL tP t6 k)) (List.range (List.length t6)))))+1)*32) room) (sl (okS tP (app (app [] (n9 (λk=>(tP).row (gL tP t6 k)) (List.range (List.length t6)))) [[i t7.n.x,i t7.n.y,i t7.n.z,i t7.b]]) 0 ((0+(len (n9 (λk=>(tP).row (gL tP t6 k)) (List.range (List.length t6)))))+1)) (sl (Na0 (slR tP (app (app [] (n9 (λk=>(tP).row (gL tP t6 k)) (List.range (List.length t6)))) [[i t7.n.x,i t7.n.y,i t7.n.z,i t7.b]]) 0 ((0+(len (n9 (λk=>(tP).row (gL tP t6 k)) (List.range (List.length t6)))))+1))) (sl t8 (some ((.sl 0 0 ((0+(len (n9 (λk=>(tP).row (gL tP t6 k)) (List.range (List.length t6)))))+1) 0),[⟨73,4,(app (app [] (n9 (λk=>(tP).row (gL tP t6 k)) (List.range (List.length t6)))) [[i t7.n.x,i t7.n.y,i t7.n.z,i t7.b]]),true,false,0⟩])) (sl (t1.is0==3) (sl (okL tI ((List.length x)-(if 7<(↑(List.length x):Int) then 7 else (↑(List.length x):Int)).toNat) (λk=>(λk=>(tI).row (gL tI x k)) ((if 7<(↑(List.length x):Int) then 7 else (↑(List.length x):Int)).toNat+k))) (sl (Bb5 (lsL tI ((List.length x)-(if 7<(↑(List.length x):Int) then 7 else (↑(List.length x):Int)).toNat) (λk=>(λk=>(tI).row (gL tI x k)) ((if 7<(↑(List.length x):Int) then 7 else (↑(List.length x):Int)).toNat+k)))) w0 none) none) (some (eL tP t6,[])))) none) none) none) none) none) none) (sl (t1.is0==3) (sl (okL tI ((List.length x)-(if 7<(↑(List.length x):Int) then 7 else (↑(List.length x):Int)).toNat) (λk=>(λk=>(tI).row (gL tI x k)) ((if 7<(↑(List.length x):Int) then 7 else (↑(List.length x):Int)).toNat+k))) (sl (Bb5 (lsL tI ((List.length x)-(if 7<(↑(List.length x):Int) then 7 else (↑(List.length x):Int)).toNat) (λk=>(λk=>(tI).row (gL tI x k)) ((if 7<(↑(List.length x):Int) then 7 else (↑(List.length x):Int)).toNat+k)))) w0 none) none) (some (eL tP t6,[])))) none) none) none) none) none) none) none) none) none) none) none) none)
noncomputable def ra5(x:List Int):List Pln:=I6 (one (r1L tP)) (Ib2 x)
noncomputable def Ib3(x:List Int):Bool:=okO (one (r1L tP)) (Ib2 x)
noncomputable def Hc9:Sum:=Z5 (G4 tI) (λx=>.guard (Ib3 x) (.ret ((one (r1L tP)).enc (ra5 x),[])))
theorem dd8:i7 prog G 16 Hc9:=La4 (bd b16 be5) (one (r1L tP)) (o:=Ib2) λx=>w9 (by kernel_rfl)
noncomputable def dd9:List (Nat×Sum):=[]
theorem be6:i8 prog G dd9:=trivial
structure ib4 where
 (d7 y6:List Pln)
structure oa3 where
 is5:Int
noncomputable def Cc5(p:ib4)(s:oa3):St:=⟨eL tP p.d7::eL tP p.y6::ra 3 (i s.is5::ra 20 []),[]⟩
noncomputable def Oa7{α:Type}(k:oa3->α)(e:Nat->α)(z:α)(p:ib4)(s:oa3):α:=(sl (decide (s.is5<(↑(List.length p.d7):Int))) (sl (inB s.is5 (List.length p.d7)) (sl (inB s.is5 (List.length p.y6)) (sl (!(((gL tP p.d7 s.is5.toNat).n.x==(gL tP p.y6 s.is5.toNat).n.x)&&(((gL tP p.d7 s.is5.toNat).n.y==(gL tP p.y6 s.is5.toNat).n.y)&&(((gL tP p.d7 s.is5.toNat).n.z==(gL tP p.y6 s.is5.toNat).n.z)&&(((gL tP p.d7 s.is5.toNat).b==(gL tP p.y6 s.is5.toNat).b)&&true))))) (e 1) (k ⟨W (s.is5+1)⟩)) z) z) (e 2))
noncomputable def Xa3(p:ib4)(s:oa3):Stp oa3:=Oa7 .next .exit .fail p s
noncomputable def ec4:Lo ib4 oa3:=⟨En dd9,0,Sf1,[1,1,0,1,4,4],[0,1,5],.p,[⟨sLq tP::sLq tP::ru2 3 (sIq::ru2 20 []),[],λa H=>(⟨aLq tP a 0,aLq tP a 1⟩,⟨aIq a 5⟩)⟩],Xa3,[(none,λp s=>⟨[b false],[]⟩),(some 0,λp s=>upq (Cc5 p s) [(11,i s.is5),(12,eL tP p.d7),(13,i (↑(List.length p.d7):Int)),(14,b (decide (s.is5<(↑(List.length p.d7):Int))))])],Cc5⟩
theorem Hd8:ec4.Ok:=Lo.ok [] (by kernel_rfl) .nil rfl (.cons (λa H=>by kernel_rfl) .nil) λp s=>(.of @Oa7 (λF _ _ _ _ _=>by unfold Oa7;(repeat' apply l5 (f:=F))<;>rfl) (by kernel_rfl))
noncomputable def Ib4(x:List Pln)(y:List Pln):Option (b8×List b9):=let t1:=(lp (Xa3 (⟨rt tP x,rt tP y⟩:ib4)) (⟨0⟩:oa3));(sl ((↑(List.length x):Int) != (↑(List.length y):Int)) (some (b false,[])) (sl ((cnE tP x)&&((cnE tP y)&&true)) (sl (Nat.beq t1.1 1) (some (b false,[])) (sl (Nat.beq t1.1 2) (some (b true,[])) none)) none))
noncomputable def Ib5(x:List Pln)(y:List Pln):Bool:=I6 (one r1B) (Ib4 x y)
noncomputable def Ib6(x:List Pln)(y:List Pln):Bool:=okO (one r1B) (Ib4 x y)
noncomputable def Ic0:Sum:=ga1 (G4 tP) (G4 tP) (λx y=>.guard (Ib6 x y) (.ret ((one r1B).enc (Ib5 x y),[])))
theorem ed0:i7 prog G 23 Ic0:=La5 (bd b23 be6) (one r1B) (o:=Ib4) λx y=>ma5 (.s .p (.s .p (.s (.s .p (.b (.u ec4.ls))) .p))) [ec4.pr] (by kernel_rfl) (.cons Hd8 .nil) (by kernel_rfl)
noncomputable def xd2:List (Nat×Sum):=[(27,Xb4),(72,Qd1),(73,dc8)]
theorem qe4:i8 prog G xd2:=⟨cc9,Ce6,rc3,trivial⟩
structure ub6 where
 is6:Int
structure Ca8 where
 ns5:Nat
 eh0:List (List b8)
noncomputable def Qc5(p:ub6)(s:Ca8):St:=⟨ra 5 (.sl 0 0 s.ns5 0::i p.is6::ra 91 []),[⟨73,4,s.eh0,true,false,0⟩]⟩
noncomputable def qb8{α:Type}(k:Ca8->α)(e:Nat->α)(z:α)(p:ub6)(s:Ca8):α:=(sl (decide ((↑s.ns5:Int)<=48)) (sl (inB p.is6 s.ns5) (sl (ldR tP s.eh0 (0+p.is6.toNat)) (sl (Nat.beq s.ns5 (len s.eh0)&&Nat.ble ((s.ns5+1)*32) room) (k ⟨s.ns5+1,app s.eh0 [[i (rdR tP s.eh0 (0+p.is6.toNat)).n.x,i (rdR tP s.eh0 (0+p.is6.toNat)).n.y,i (rdR tP s.eh0 (0+p.is6.toNat)).n.z,i (rdR tP s.eh0 (0+p.is6.toNat)).b]]⟩) z) z) z) (e 1))
noncomputable def ib5(p:ub6)(s:Ca8):Stp Ca8:=qb8 .next .exit .fail p s
noncomputable def sc1:Lo ub6 Ca8:=⟨En xd2,0,Sf0,[1,1,1,1,0,1,4,1,3,1,3,1,3,1,3,1,3,1,2,4,4],[5,6],.p,[⟨ru2 5 (.s (.o (.sl 0 0 (some 0) none))::sIq::ru2 91 []),[⟨73,4,true,none⟩],λa H=>(⟨aIq a 6⟩,⟨slN (slT a 5),elT H 0⟩)⟩],ib5,[(some 1,λp s=>upq (Qc5 p s) [(87,.sl 0 0 s.ns5 0),(88,i (↑s.ns5:Int)),(89,b (decide ((↑s.ns5:Int)<=48)))])],Qc5⟩
theorem be7:sc1.Ok:=Lo.ok [] (by kernel_rfl) .nil rfl (.cons (λa H=>by kernel_rfl) .nil) λp s=>(.of @qb8 (λF _ _ _ _ _=>by unfold qb8;(repeat' apply l5 (f:=F))<;>rfl) (by kernel_rfl))
noncomputable def Yb7(x:List Pln)(y:V3):Option (b8×List b9):=let t2:=(Ia6 y.x 6);let t5:=(Ia6 y.z 9);let a0:=(n9 (λk=>(tP).row (gL tP x k)) (List.range (List.length x)));let t1:=(Ia6 y.y (↑(0+(len a0)):Int));let t6:=(lp (ib5 (⟨t1⟩:ub6)) (⟨0+(len a0),app [] a0⟩:Ca8));let a1:=(M2 (f8 (app [] a0) (0+(W (t1+1)).toNat)) ((0+(len a0))-(W (t1+1)).toNat));let a2:=(d8 (app [] a0) (0+t1.toNat));let a3:=(rdR tP (app [] a0) (0+t1.toNat));let t3:=(Qd0 a3 (⟨y.z,y.y,y.x⟩:V3));let t4:=(Ea0 a3);let a4:=(Nat.blt (0+t1.toNat) (len (app [] a0)));(sl (Nat.beq 0 0&&Nat.ble ((0+(len a0))*32) room) (sl ((↑(0+(len a0)):Int)==0) (some (.sl 0 0 1 0,[⟨73,4,[[i 0,i 0,i 0,i 0]],true,false,0⟩])) (sl (Ia7 y.y (↑(0+(len a0)):Int)) (sl (Ia7 y.x 6) (sl (t2==0) (sl (inB t1 (0+(len a0))) (sl (ldR tP (app [] a0) (0+t1.toNat)) (sl (Yc3 a3 (⟨y.z,y.y,y.x⟩:V3)) (sl (inB t1 (0+(len a0))) (sl (a4&&(Nat.ble (0+4) (len a2))) (some (.sl 0 0 (0+(len a0)) 0,[⟨73,4,setAt (app [] a0) (0+t1.toNat) (S3 a2 0 [i t3.n.x,i t3.n.y,i t3.n.z,i t3.b]),true,false,0⟩])) none) none) none) none) none) (sl (t2==1) (sl (inB t1 ((0+(len a0))+1)) (sl (inB (W (t1+1)) ((0+(len a0))+1)) (sl (Nat.ble ((t1.toNat-0)+(len a1)) (len (app [] a0))) (some (.sl 0 0 ((t1.toNat-0)+(len a1)) 0,[⟨73,4,app (M2 (app [] a0) (t1.toNat-0)) (app a1 (f8 (app [] a0) ((t1.toNat-0)+(len a1)))),true,false,0⟩])) none) none) none) (sl (t2==2) (sl (inB t1 (0+(len a0))) (sl (ldR tP (app [] a0) (0+t1.toNat)) (sl (inB t1 (0+(len a0))) (sl (a4&&(Nat.ble (0+4) (len a2))) (some (.sl 0 0 (0+(len a0)) 0,[⟨73,4,setAt (app [] a0) (0+t1.toNat) (S3 a2 0 [i t4.n.x,i t4.n.y,i t4.n.z,i t4.b]),true,false,0⟩])) none) none) none) none) (sl (t2==3) (sl (inB t1 (0+(len a0))) (sl (ldR tP (app [] a0) (0+t1.toNat)) (sl (Nat.beq (0+(len a0)) (len (app [] a0))&&Nat.ble (((0+(len a0))+1)*32) room) (some (.sl 0 0 ((0+(len a0))+1) 0,[⟨73,4,app (app [] a0) [[i a3.n.x,i a3.n.y,i a3.n.z,i a3.b]],true,false,0⟩])) none) none) none) (sl (t2==4) (sl (inB t1 (0+(len a0))) (sl ((a4&&(Nat.ble (3+1) (len a2)))&&(Y1 [CK.int .i64] (f8 a2 3))) (sl (Ia7 y.z 9) (sl (inB t1 (0+(len a0))) (sl (a4&&(Nat.ble (3+1) (len a2))) (some (.sl 0 0 (0+(len a0)) 0,[⟨73,4,setAt (app [] a0) (0+t1.toNat) (S3 a2 3 [i (W ((W ((toI (hdA (f8 a2 3)))+t5))-4))]),true,false,0⟩])) none) none) none) none) none) (sl (t2==5) (sl (Nat.beq t6.1 1) (some (.sl 0 0 t6.2.ns5 0,[⟨73,4,t6.2.eh0,true,false,0⟩])) none) (some (.sl 0 0 (0+(len a0)) 0,[⟨73,4,app [] a0,true,false,0⟩])))))))) none) none)) none)
noncomputable def ob7(x:List Pln)(y:V3):List Pln:=I6 (one (r1L tP)) (Yb7 x y)
noncomputable def xc8(x:List Pln)(y:V3):Bool:=okO (one (r1L tP)) (Yb7 x y)
noncomputable def Qd3:Sum:=ga1 (G4 tP) (da1 tV) (λx y=>.guard (xc8 x y) (.ret ((one (r1L tP)).enc (ob7 x y),[])))
theorem Ce8:i7 prog G 17 Qd3:=La5 (bd b17 qe4) (one (r1L tP)) (o:=Yb7) λx y=>ma5 (.s .p (.s .p (.s .p (.s .p (.s (.s .p (.b (.s .p (.c .p (.s .p (.c .p (.s .p (.c .p (.s .p (.c .p (.s .p (.c .p (.s .p (.c (.b (.u sc1.ls)) .p)))))))))))))) .p))))) [sc1.pr] (by kernel_rfl) (.cons be7 .nil) (by kernel_rfl)
theorem qe5{Q:Pt->Prop}(r:List Pln)(p q:Pln):∀(l:List Pln) (out:List Pt),(∀s∈l,(mpt p q s).2=true->inn r (mpt p q s).1=true->Q (mpt p q s).1)->(∀x∈out,Q x)->∀x∈yb0 r p q l out,Q x
 |[],out,_,h=>h
 |s::l,out,hs,h=>qe5 r p q l (Oa3 r p q out s) (λt ht=>hs t (Qif _ ht)) λx hx=>by
  unfold Oa3 at hx
  split at hx
  ·rename_i hc;rw[Qig,Qig] at hc
   rcases Qiu.1 hx with hx|hx
   ·exact h x hx
   ·rw[List.mem_singleton] at hx;subst hx;exact hs s Qip hc.1 hc.2.2
  ·exact h x hx
theorem qe6{Q:Pt->Prop}(r:List Pln)(p:Pln):∀(l:List Pln) (out:List Pt),(∀q∈l,∀s∈l,(mpt p q s).2=true->inn r (mpt p q s).1=true->Q (mpt p q s).1)->(∀x∈out,Q x)->∀x∈hb9 r p l out,Q x
 |[],out,_,h=>h
 |q::l,out,hs,h=>qe6 r p l _ (λa ha t ht=>hs a (Qif _ ha) t (Qif _ ht)) (qe5 r p q l out (λt ht=>hs q Qip t (Qif _ ht)) h)
theorem qe7{Q:Pt->Prop}(r:List Pln):∀(l:List Pln) (out:List Pt),(∀p∈l,∀q∈l,∀s∈l,(mpt p q s).2=true->inn r (mpt p q s).1=true->Q (mpt p q s).1)->(∀x∈out,Q x)->∀x∈Pc6 r l out,Q x
 |[],out,_,h=>h
 |p::l,out,hs,h=>qe7 r l _ (λa ha c hc t ht=>hs a (Qif _ ha) c (Qif _ hc) t (Qif _ ht)) (qe6 r p l out (λc hc t ht=>hs p Qip c (Qif _ hc) t (Qif _ ht)) h)
theorem Je4{Q:Pt->Prop}{r:List Pln}(hs:∀p∈r,∀q∈r,∀s∈r,(mpt p q s).2=true->inn r (mpt p q s).1=true->Q (mpt p q s).1):∀x∈cor r,Q x :=
 qe7 r r [] hs λx hx=>by cases hx
structure Okx(x:Pt):Prop where
 w1:0<x.pw
 w2:x.pw<=600000000000
 c1:Sm 300000000000000 x.px
 c2:Sm 300000000000000 x.py
 c3:Sm 300000000000000 x.pz
theorem be8{r:List Pln}(hb:Bds r):∀x∈cor r,Okx x:=Je4 λp hp q hq s hs h _=>by
 obtain⟨h1,h2,h3,h4,h5⟩:=Be9 (hb p hp) (hb q hq) (hb s hs) h;exact⟨h1,h5,h2,h3,h4⟩
theorem be9(c:List Pln):(pts c).length<=8000000:=by
 unfold pts;cases h:chk c==0 with
 |false=>exact Qie _
 |true=>exact ae3 _ (qb5 h).1 (qb5 h).2
theorem ff7{x y:Int}(hy:0<y):Int.tmod x y+y*Int.tdiv x y=x/\-y<Int.tmod x y/\Int.tmod x y<y:=by
 refine⟨Int.tmod_add_mul_tdiv x y,?_,Int.tmod_lt_of_pos x hy⟩
 have:=Int.lt_tmod_of_pos x hy
 omega
theorem ff8(x:Int){y:Int}(hy:0<y)(hy2:y<=4000000000000000000):Xb3 x y=some (i (x % y),[]):=by
 have hz:(y==0)=false:=by rw[beq_eq_false_iff_ne];omega
 obtain⟨h1,h2,h3⟩:=ff7 (x:=x) hy;unfold Xb3;rw[bfD (by omega),bf hz,bf hz,ka5 (by omega) (by omega),Int.tmod_eq_emod_of_nonneg (by omega)]
 congr 3;rw[Int.add_emod_right]
 conv=>rhs;rw[<- h1]
 rw[Int.add_mul_emod_self_left]
theorem Je5(x:Int){y:Int}(hy:0<y)(hy2:y<=4000000000000000000):Ia6 x y=x % y:=by unfold Ia6;rw[ff8 x hy hy2];rfl
theorem ed1(x:Int){y:Int}(hy:0<y)(hy2:y<=4000000000000000000):Ia7 x y=true:=by unfold Ia7;rw[ff8 x hy hy2];rfl
theorem Sm.neg{n x:Int}(h:Sm n x):Sm n (-x):=⟨by have:=h.2;omega,by have:=h.1;omega⟩
theorem ff9(x:Pln):(x.n.x==x.n.x&&(x.n.y==x.n.y&&(x.n.z==x.n.z&&(x.b==x.b&&true))))=true:=by simp
theorem Je6(l:List Pln)(hl:l.length<=1000000000):Ib4 l l=some (b true,[]):=by
 have h:=fb0 (step:=Xa3 ⟨l,l⟩) (mk:=λj=>(⟨(j:Int)⟩:oa3)) (c:=λ_=>false) (u:=1) (fin:=2) tP l hl
  (λj hj=>by
   simp only[Xa3,Oa7,Int.toNat_natCast,n8 hj (by omega),ff9]
   rw[btD (g9 hj),bt (d9 hj),bt (d9 hj)]
   rfl)
  (by simp only[Xa3,Oa7];rw[bfD (l0 (Qic _))]) 0 (Qie _)
 rw[Qia,show (l.any λ_=>false)=false by simp] at h
 unfold Ib4;simp only[i5,i9];rw[show (⟨0⟩:oa3)=⟨((0:Nat):Int)⟩ from rfl,h,bf (by simp)]
 rfl
theorem gf0(l:List Pln)(hl:l.length<=1000000000):Ib5 l l=true:=by unfold Ib5;rw[Je6 l hl];rfl
theorem gf1(l:List Pln)(hl:l.length<=1000000000):Ib6 l l=true:=by unfold Ib6;rw[Je6 l hl];rfl
def Nx{σ:Type}(x:Stp σ)(E:Nat->Prop)(N:σ->Prop):Prop:=(∃t,x=.exit t/\E t)\/∃s,x=.next s/\N s
theorem Nx.sl{σ:Type}{c:Bool}{t e:Stp σ}{E:Nat->Prop}{N:σ->Prop}(h1:c=true->Nx t E N)(h2:c=false->Nx e E N):Nx (sl c t e) E N:=by cases c;exact h2 rfl;exact h1 rfl
theorem Nx.ex{σ:Type}{t:Nat}{E:Nat->Prop}{N:σ->Prop}(h:E t):Nx (.exit t) E N:=.inl ⟨t,rfl,h⟩
theorem Nx.nx{σ:Type}{s:σ}{E:Nat->Prop}{N:σ->Prop}(h:N s):Nx (.next s) E N:=.inr ⟨s,rfl,h⟩
theorem S8 {σ τ : Type} {step : σ → Stp σ} {mk : Nat → τ → σ} (n : Nat) (I : Nat → τ → Prop) (E : Nat → σ → Prop) (hn : n ≤ 1000000000)
  (h:∀j a,j<n->I j a->Nx (step (mk j a)) (λt=>E t (mk j a)) (λs=>∃a',s=mk (j+1) a'/\I (j+1) a'))
  (hf:∀j a,n<=j->I j a->∃t,step (mk j a)=.exit t/\E t (mk j a)) (j0:Nat) (a:τ) (hi:I j0 a):∃t s,lp step (mk j0 a)=(t,s)/\E t s:=by
 have key:=oc1 (step:=step) (I:=λm s=>∃j a,m=n-j/\s=mk j a/\I j a) (Q:=E) (λm s ⟨j,a,hm,hs,ha⟩=>by
  subst hs;by_cases hlt:j<n
  ·rcases h j a hlt ha with h1|⟨s',h1,a',h2,h3⟩
   ·exact .inl h1
   ·subst h2;exact .inr ⟨_,n-(j+1),by omega,h1,j+1,a',rfl,rfl,h3⟩
  ·exact .inl (hf j a (by omega) ha)) (n-j0) (mk j0 a) (by omega) ⟨j0,a,rfl,rfl,hi⟩
 exact⟨_,_,rfl,key⟩
def Rd{ρ:Type}(R:RR ρ)(o:Option (b8×List b9))(P:ρ->Prop):Prop:=∃x r,o=some x/\R.rd x=some r/\P r
theorem Rd.p{ρ:Type}{R:RR ρ}{o:Option (b8×List b9)}{P:ρ->Prop}(h:Rd R o P):P (I6 R o):=by
 obtain⟨x,r,h1,h2,h3⟩:=h;rw[h1,Ja3 R h2];exact h3
theorem Rd.g{ρ:Type}{R:RR ρ}{o:Option (b8×List b9)}{P:ρ->Prop}(h:Rd R o P):okO R o=true:=by
 obtain⟨x,r,h1,h2,h3⟩:=h;rw[h1];exact Wa9 R h2
theorem Rd.sl{ρ:Type}{R:RR ρ}{c:Bool}{t e:Option (b8×List b9)}{P:ρ->Prop}(h1:c=true->Rd R t P)(h2:c=false->Rd R e P):Rd R (sl c t e) P:=by cases c;exact h2 rfl;exact h1 rfl
theorem za3 (n : Int) (l : List Int) (j : Int) (h1 : 0 ≤ j) (h2 : j ≤ 1000000) (hn : 0 < n) (hn2 : n ≤ 1000000) :
  ∃v j',o7 ⟨n,l,j⟩=⟨1,v,j'⟩/\0<=v/\v<n/\j<=j'/\j'<=j+1:=by
 unfold o7 ua6
 simp only
 by_cases h:j>=(l.length:Int)
 ·rw[btD h];exact⟨0,j,rfl,by omega,hn,by omega,by omega⟩
 ·rw[bfD h];have hW:W (W (j+1)-1)=j:=by rw[rd4,ka5 (by omega) (by omega)];omega
  have hW2:W (j+1)=j+1:=ka5 (by omega) (by omega)
  have hin:inB j l.length=true:=by rw[Mc8];exact decide_eq_true (by omega)
  rw[hW,hW2,hin,ed1 _ hn (by omega),Je5 _ hn (by omega)]
  exact⟨_,_,rfl,Int.emod_nonneg _ (by omega),Int.emod_lt_of_pos _ hn,by omega,by omega⟩
theorem Ic1 (m : Int) (l : List Int) (j : Int) (h1 : 0 ≤ j) (h2 : j ≤ 900000) (hm : 0 ≤ m) (hm2 : m ≤ 100000) :
  ∃a b c j',ob3 ⟨m,l,j⟩=⟨1,a,b,c,l,j'⟩/\Sm m a/\Sm m b/\Sm m c/\j<=j'/\j'<=j+3:=by
 unfold ob3 Db3;simp only[i5,i9];have hW:W (W (2*m)+1)=2*m+1:=by rw[Fb0,ka5 (by omega) (by omega)]
 rw[hW];obtain⟨v1,j1,e1,a1,b1,c1,d1⟩:=za3 (2*m+1) l j h1 (by omega) (by omega) (by omega)
 rw[e1];obtain⟨v2,j2,e2,a2,b2,c2,d2⟩:=za3 (2*m+1) l j1 (by omega) (by omega) (by omega) (by omega)
 simp only
 rw[e2];obtain⟨v3,j3,e3,a3,b3,c3,d3⟩:=za3 (2*m+1) l j2 (by omega) (by omega) (by omega) (by omega)
 simp only
 rw[e3];refine⟨v1-m,v2-m,v3-m,j3,?_,⟨by omega,by omega⟩,⟨by omega,by omega⟩,⟨by omega,by omega⟩,by omega,by omega⟩
 simp only
 rw[ka5 (n:=v1-m) (by omega) (by omega),ka5 (n:=v2-m) (by omega) (by omega),ka5 (n:=v3-m) (by omega) (by omega)]
 rfl
def inV(v:V3):Bool:=smb 24 v.x&&(smb 24 v.y&&smb 24 v.z)
theorem ec5(v:V3):inV v=true↔Sm 24 v.x/\Sm 24 v.y/\Sm 24 v.z:=by unfold inV;rw[Qig,Qig,Bb3,Bb3,Bb3]
theorem gf2(v:V3):rc2 v=some (b (inV v),[]):=by
 unfold rc2 inV smb;cases h1:decide (v.x < -24)<;>cases h2:decide (v.x>24)<;>cases h3:decide (v.y < -24)<;>cases h4:decide (v.y>24)<;>cases h5:decide (v.z < -24)<;>cases h6:decide (v.z>24)<;>rfl
theorem Je7(v:V3):ub1 v=inV v:=by unfold ub1;rw[gf2];rfl
theorem qe8(v:V3):ub2 v=true:=by unfold ub2;rw[gf2];rfl
def sub(a b:V3):V3:=⟨a.x-b.x,a.y-b.y,a.z-b.z⟩
theorem Je8{a b:V3}(ha:inV a=true)(hb:inV b=true):Sa0 a b=sub a b/\Sm 48 (sub a b).x/\Sm 48 (sub a b).y/\Sm 48 (sub a b).z:=by
 rw[ec5] at ha hb;obtain⟨⟨a1,a2⟩,⟨a3,a4⟩,a5,a6⟩:=ha;obtain⟨⟨b1,b2⟩,⟨b3,b4⟩,b5,b6⟩:=hb;unfold Sa0 sub;rw[ka5 (by omega) (by omega),ka5 (by omega) (by omega),ka5 (by omega) (by omega)]
 exact⟨rfl,⟨by show _<=a.x-b.x;omega,by show a.x-b.x<=_;omega⟩,⟨by show _<=a.y-b.y;omega,by show a.y-b.y<=_;omega⟩,⟨by show _<=a.z-b.z;omega,by show a.z-b.z<=_;omega⟩⟩
theorem Cc6 {a b c : V3} (ha : inV a = true) (hb : inV b = true) (hc : inV c = true) :
  da3 (Sa0 b a) (Sa0 c a)=g7 (sub b a) (sub c a)/\Sm 4608 (g7 (sub b a) (sub c a)).x/\Sm 4608 (g7 (sub b a) (sub c a)).y/\Sm 4608 (g7 (sub b a) (sub c a)).z:=by
 obtain⟨e1,⟨u1,u2⟩,⟨u3,u4⟩,u5,u6⟩:=Je8 hb ha;obtain⟨e2,⟨v1,v2⟩,⟨v3,v4⟩,v5,v6⟩:=Je8 hc ha;rw[e1,e2,Pc4];generalize sub b a=p at *
 generalize sub c a=q at *
 have h1:=mb u3 u4 v5 v6;have h2:=mb u5 u6 v3 v4;have h3:=mb u5 u6 v1 v2;have h4:=mb u1 u2 v5 v6;have h5:=mb u1 u2 v3 v4;have h6:=mb u3 u4 v1 v2;have k:Sm 4608 (g7 p q).x/\Sm 4608 (g7 p q).y/\Sm 4608 (g7 p q).z:=by unfold Sm g7;simp only;omega
 obtain⟨k1,k2,k3⟩:=k;rw[Oa2 (k1.mono (by omega)),Oa2 (k2.mono (by omega)),Oa2 (k3.mono (by omega))]
 exact⟨rfl,k1,k2,k3⟩
def Ga8(a b c:V3):Pln×Bool :=
 if inV a&&(inV b&&inV c) then
  if g3 (g7 (sub b a) (sub c a))=0 then (⟨⟨0,0,0⟩,0⟩,false)
  else (⟨⟨Int.tdiv (g7 (sub b a) (sub c a)).x (g3 (g7 (sub b a) (sub c a))),Int.tdiv (g7 (sub b a) (sub c a)).y (g3 (g7 (sub b a) (sub c a))),Int.tdiv (g7 (sub b a) (sub c a)).z (g3 (g7 (sub b a) (sub c a)))⟩,
   dot ⟨Int.tdiv (g7 (sub b a) (sub c a)).x (g3 (g7 (sub b a) (sub c a))),Int.tdiv (g7 (sub b a) (sub c a)).y (g3 (g7 (sub b a) (sub c a))),Int.tdiv (g7 (sub b a) (sub c a)).z (g3 (g7 (sub b a) (sub c a)))⟩ a⟩,true)
 else (⟨⟨0,0,0⟩,0⟩,false)
theorem Yc4(v:V3):0<=g3 v:=by unfold g3;omega
theorem xd3(a c d:V3):Xa0 a c d=some (.tup [.agg (tP.row (Ga8 a c d).1),b (Ga8 a c d).2],[]):=by
 unfold Xa0 Ga8;simp only[Je7,qe8];cases ha:inV a with
 |false=>rfl
 |true =>
  cases hc:inV c with
  |false=>rfl
  |true =>
   cases hd:inV d with
   |false=>rfl
   |true =>
    obtain⟨e,k1,k2,k3⟩:=Cc6 ha hc hd;rw[e];generalize g7 (sub c a) (sub d a)=n at *
    have m1:=k1.mono (m:=1000000000000000000) (by omega)
    have m2:=k2.mono (m:=1000000000000000000) (by omega)
    have m3:=k3.mono (m:=1000000000000000000) (by omega)
    rw[ef5 m1 m2 m3,ud7 m1 m2 m3];by_cases h0:g3 n=0
    ·rw[show (g3 n==0)=true from by rw[h0];rfl]
     simp only[Bool.and_self,if_true,h0];rfl
    ·have hp:=Yc4 n;have q1:=O2 (g:=g3 n) k1 (by omega)
     have q2:=O2 (g:=g3 n) k2 (by omega)
     have q3:=O2 (g:=g3 n) k3 (by omega)
     rw[show (g3 n==0)=false from by rw[beq_eq_false_iff_ne];exact h0,Lf2 m1 m2 m3 h0]
     simp only[Bool.and_self,if_true,h0,if_false];rw[Oa2 (q1.mono (by omega)),Oa2 (q2.mono (by omega)),Oa2 (q3.mono (by omega))]
     have hdot:Ia4 ⟨Int.tdiv n.x (g3 n),Int.tdiv n.y (g3 n),Int.tdiv n.z (g3 n)⟩ a=dot ⟨Int.tdiv n.x (g3 n),Int.tdiv n.y (g3 n),Int.tdiv n.z (g3 n)⟩ a:=by
      unfold Ia4;simp only[Fb0,nc9];obtain⟨⟨a1,a2⟩,⟨a3,a4⟩,a5,a6⟩:=(ec5 a).1 ha;have r1:=mb q1.1 q1.2 a1 a2;have r2:=mb q2.1 q2.2 a3 a4;have r3:=mb q3.1 q3.2 a5 a6;rw[ka5 (by omega) (by omega)]
      rfl
     rw[hdot];rfl
theorem Yb8(a b c:V3):xa7 a b c=Ga8 a b c:=by unfold xa7;rw[xd3];rfl
theorem cb6(a b c:V3):xa8 a b c=true:=by unfold xa8;rw[xd3];rfl
theorem wf4(l:List Int):Rd (one r1P) (bb1 l) (λ_=>True):=by
 unfold bb1;simp only[i5,i9];obtain⟨v1,j1,e1,a1,b1,c1,d1⟩:=za3 8 l 0 (by omega) (by omega) (by omega) (by omega)
 rw[e1]
 simp only
 obtain⟨v2,j2,e2,a2,b2,c2,d2⟩:=za3 17 l j1 (by omega) (by omega) (by omega) (by omega)
 rw[e2]
 simp only
 obtain⟨x1,x2,x3,j3,e3,_,_,_,c3,d3⟩:=Ic1 8 l j2 (by omega) (by omega) (by omega) (by omega)
 rw[e3]
 simp only
 obtain⟨y1,y2,y3,j4,e4,_,_,_,c4,d4⟩:=Ic1 8 l j3 (by omega) (by omega) (by omega) (by omega)
 rw[e4]
 simp only
 obtain⟨z1,z2,z3,j5,e5,_,_,_,c5,d5⟩:=Ic1 8 l j4 (by omega) (by omega) (by omega) (by omega)
 rw[e5];simp only[Yb8,cb6,ed1 _ (show (0:Int)<3 by omega) (by omega),i9]
 simp only[Qik,Qil,f0];refine Rd.sl (λ_=>Rd.sl (λ_=>⟨_,_,rfl,rfl,trivial⟩) λ_=>?_) (λ_=>?_)
 ·exact Rd.sl (λ_=>⟨_,_,rfl,rfl,trivial⟩) λ_=>Rd.sl (λ_=>⟨_,_,rfl,rfl,trivial⟩) λ_=>⟨_,_,rfl,rfl,trivial⟩
 ·exact Rd.sl (λ_=>⟨_,_,rfl,rfl,trivial⟩) λ_=>Rd.sl (λ_=>⟨_,_,rfl,rfl,trivial⟩) λ_=>⟨_,_,rfl,rfl,trivial⟩
theorem wf5(l:List Int):Hc6 l=true:=(wf4 l).g
theorem wf6(p:Pln)(v:V3):Rd (one r1I) (bb2 p v) (λ_=>True):=by
 unfold bb2;simp only[ud8,qe8,f0];exact Rd.sl (λ_=>⟨_,_,rfl,rfl,trivial⟩) λ_=>Rd.sl (λ_=>⟨_,_,rfl,rfl,trivial⟩) λ_=>Rd.sl (λ_=>⟨_,_,rfl,rfl,trivial⟩) λ_=>Rd.sl (λ_=>⟨_,_,rfl,rfl,trivial⟩) λ_=>⟨_,_,rfl,rfl,trivial⟩
theorem ce0(p:Pln)(v:V3):dc9 p v=true:=(wf6 p v).g
theorem Yf0(P:Ea1)(hl:P.k9.length<=1000000000):∃t s,lp (H9 P) ⟨0⟩=(t,s)/\(t=1\/t=2\/t=3):=by
 obtain⟨l,x1,x2,x3,x4,x5,x6,x7,x8⟩:=P;refine S8 (step:=H9 ⟨l,x1,x2,x3,x4,x5,x6,x7,x8⟩) (mk:=λj (_:Unit)=>(⟨(j:Int)⟩:na8)) l.length (λ_ _=>True) (λt _=>t=1\/t=2\/t=3) hl (λj a hj _=>?_) (λj a hj _=>?_) 0 () trivial
 ·simp only[H9,ja8,ce0,Int.toNat_natCast,n8 hj (show l.length<=4611686018427387904 from Qiy hl (by omega))]
  rw[btD (g9 hj),bt (d9 hj),f0];exact Nx.sl (λ_=>Nx.sl (λ_=>.ex (by simp)) λ_=>.nx ⟨(),rfl,trivial⟩) λ_=>.ex (by simp)
 ·simp only[H9,ja8];rw[bfD (by omega)]
  exact⟨_,rfl,by simp⟩
theorem Yf1(l:List V3)(hl:l.length<=1000000000)(a c:Nat)(ha:a<l.length)(hc:c<a):∃t s,lp (Z7 ⟨(a:Int),(c:Int)⟩) ⟨l,0⟩=(t,s)/\((t=1\/t=2)/\s.k9=l):=by
 refine S8 (step:=Z7 ⟨(a:Int),(c:Int)⟩) (mk:=λj (_:Unit)=>(⟨l,(j:Int)⟩:na9)) c (λ_ _=>True) (λt s=>(t=1\/t=2)/\s.k9=l) (by omega) (λj x hj _=>?_) (λj x hj _=>?_) 0 () trivial
 ·simp only[Z7,ra2,cb6,Int.toNat_natCast,i5,i9,n8 hj (show c<=4611686018427387904 by omega)]
  rw[btD (g9 hj),bt (d9 ha),bt (d9 (show c<l.length by omega)),bt (d9 (show j<l.length by omega)),f0]
  generalize hP:Ea1.mk _ _ _ _ _ _ _ _ _=P3;obtain⟨t,s,h1,h2⟩:=Yf0 P3 (by subst hP;exact hl)
  rw[h1]
  rcases h2 with rfl|rfl|rfl
  ·exact .ex (by simp)
  ·exact .nx ⟨(),rfl,trivial⟩
  ·exact .nx ⟨(),rfl,trivial⟩
 ·simp only[Z7,ra2];rw[bfD (by omega)]
  exact⟨_,rfl,by simp⟩
theorem Yf2(l:List V3)(hl:l.length<=1000000000)(a:Nat)(ha:a<l.length):∃t s,lp (Z8 ⟨(a:Int)⟩) ⟨l,0⟩=(t,s)/\((t=1\/t=2)/\s.k9=l):=by
 refine S8 (step:=Z8 ⟨(a:Int)⟩) (mk:=λj (_:Unit)=>(⟨l,(j:Int)⟩:oa0)) a (λ_ _=>True) (λt s=>(t=1\/t=2)/\s.k9=l) (by omega) (λj x hj _=>?_) (λj x hj _=>?_) 0 () trivial
 ·simp only[Z8,ra3,i5,i9,n8 hj (show a<=4611686018427387904 by omega)]
  obtain⟨t,s,h1,h2,h3⟩:=Yf1 l hl a j ha hj;rw[btD (g9 hj),h1]
  rcases h2 with rfl|rfl
  ·exact .ex (by simp)
  ·exact .nx ⟨(),by rw[h3],trivial⟩
 ·simp only[Z8,ra3];rw[bfD (by omega)]
  exact⟨_,rfl,by simp⟩
theorem Nb7(l:List V3)(hl:l.length<=1000000000):Rd (one r1B) (bb3 l) (λ_=>True):=by
 have key:∃t s,lp (Z9 ⟨⟩) ⟨l,0⟩=(t,s)/\(t=1\/t=2):=by
  refine S8 (step:=Z9 ⟨⟩) (mk:=λj (_:Unit)=>(⟨l,(j:Int)⟩:oa1)) l.length (λ_ _=>True) (λt s=>t=1\/t=2) hl (λj x hj _=>?_) (λj x hj _=>?_) 0 () trivial
  ·simp only[Z9,ra4,i5,i9,n8 hj (show l.length<=4611686018427387904 by omega)]
   obtain⟨t,s,h1,h2,h3⟩:=Yf2 l hl j hj;rw[btD (g9 hj),h1]
   rcases h2 with rfl|rfl
   ·exact .ex (by simp)
   ·exact .nx ⟨(),by rw[h3],trivial⟩
  ·simp only[Z9,ra4];rw[bfD (by omega)]
   exact⟨_,rfl,by simp⟩
 obtain⟨t,s,h1,h2⟩:=key;unfold bb3;simp only[i5,i9];rw[h1]
 rcases h2 with rfl|rfl<;>exact⟨_,_,rfl,rfl,trivial⟩
theorem Ce9(l:List V3)(hl:l.length<=1000000000):ob5 l=true:=(Nb7 l hl).g
theorem De0(l:List V3)(hl:l.length<=1000000000):Rd (one r1I) (Oa4 l) (λ_=>True):=by
 have h:=fb0 (step:=ja9 ⟨l⟩) (mk:=λj=>(⟨(j:Int)⟩:V2)) (c:=λv=>!inV v) (u:=1) (fin:=2) tV l hl
  (λj hj=>by
   simp only[ja9,la7,Int.toNat_natCast,Je7,qe8,n8 hj (show l.length<=4611686018427387904 by omega)]
   rw[btD (g9 hj),bt (d9 hj),f0])
  (by simp only[ja9,la7];rw[bfD (l0 (Qic _))]) 0 (Qie _)
 unfold Oa4;simp only[i5,i9,j9,Ce9 l hl];rw[show (⟨0⟩:V2)=⟨((0:Nat):Int)⟩ from rfl,h]
 refine Rd.sl (λ_=>⟨_,_,rfl,rfl,trivial⟩) λ_=>?_
 rw[Qia];cases l.any λv=>!inV v with
 |true=>exact⟨_,_,rfl,rfl,trivial⟩
 |false =>
  show Rd (one r1I) (sl (bb4 l) (some (i 11,[])) (some (i 0,[]))) (λ_=>True)
  exact Rd.sl (λ_=>⟨_,_,rfl,rfl,trivial⟩) λ_=>⟨_,_,rfl,rfl,trivial⟩
theorem Qd4(l:List V3)(hl:l.length<=1000000000):rc7 l=true:=(De0 l hl).g
theorem gf3(p:Pln)(l:List V3)(hl:l.length<=1000000000):Rd (one r1B) (Oa5 p l) (λ_=>True):=by
 have h:=fb0 (step:=ka0 ⟨l,p.n.x,p.n.y,p.n.z,p.b⟩) (mk:=λj=>(⟨(j:Int)⟩:V4)) (c:=λv=>decide (ob4 p v>0)) (u:=1) (fin:=2) tV l hl
  (λj hj=>by
   simp only[ka0,la8,Int.toNat_natCast,ce0,n8 hj (show l.length<=4611686018427387904 by omega)]
   rw[btD (g9 hj),bt (d9 hj),f0])
  (by simp only[ka0,la8];rw[bfD (l0 (Qic _))]) 0 (Qie _)
 unfold Oa5;simp only[i5,i9];rw[show (⟨0⟩:V4)=⟨((0:Nat):Int)⟩ from rfl,h]
 split<;>exact⟨_,_,rfl,rfl,trivial⟩
theorem Je9(p:Pln)(l:List V3)(hl:l.length<=1000000000):pa6 p l=true:=(gf3 p l hl).g
theorem Mf1(p q:Pln):Rd (one r1I) (xa9 p q) (λ_=>True):=by
 have key:∃t s,lp (O7 ⟨p.n.x,p.n.y,p.n.z,p.b,q.n.x,q.n.y,q.n.z,q.b⟩) ⟨0⟩=(t,s)/\(t=1\/t=2\/t=3):=by
  refine S8 (step:=O7 ⟨p.n.x,p.n.y,p.n.z,p.b,q.n.x,q.n.y,q.n.z,q.b⟩) (mk:=λj (_:Unit)=>(⟨(j:Int)⟩:X4)) 4 (λ_ _=>True) (λt s=>t=1\/t=2\/t=3) (by omega) (λj x hj _=>?_) (λj x hj _=>?_) 0 () trivial
  ·have hn:=n8 hj (show 4<=4611686018427387904 by omega)
   simp only[O7,ba3,Int.toNat_natCast,hn];have hlt:(j:Int)<4:=by omega
   have hin:=d9 hj;have g:∀x1 x2 x3 x4:Int,((Nat.ble ((0+(j*1))+1) 4)&&(Y1 [CK.int .i64] (f8 [i x1,i x2,i x3,i x4] (0+(j*1)))))=true:=by
    intro x1 x2 x3 x4
    match j,hj with
    |0,_=>rfl
    |1,_=>rfl
    |2,_=>rfl
    |3,_=>rfl
   rw[btD hlt];simp only[hin,g,f0];exact Nx.sl (λ_=>.ex (by simp)) λ_=>Nx.sl (λ_=>.ex (by simp)) λ_=>.nx ⟨(),rfl,trivial⟩
  ·simp only[O7,ba3];rw[bfD (by omega)]
   exact⟨_,rfl,by simp⟩
 obtain⟨t,s,h1,h2⟩:=key;unfold xa9
 simp only
 rw[h1]
 rcases h2 with rfl|rfl|rfl<;>exact⟨_,_,rfl,rfl,trivial⟩
theorem De1(p q:Pln):qb7 p q=true:=(Mf1 p q).g
theorem Ic2(l:List Pln)(n:Nat)(h:n<=l.length):n9 (λk=>(λk=>tP.row (gL tP l k)) (0+k)) (List.range (n-0))=bL tP (l.take n):=by
 rw[<- Fa1,o8,o8,Qin,Nat.min_eq_left h,Nat.sub_zero];apply Qix;intro k hk;rw[List.mem_range] at hk;show tP.row (gL tP l (0+k))=tP.row (gL tP (l.take n) k);congr 1;simp[gL,Qiq,List.getElem?_take,hk]
theorem Ic3(l:List Pln)(n:Nat):n9 (λk=>(λk=>tP.row (gL tP l k)) (n+k)) (List.range (l.length-n))=bL tP (l.drop n):=by
 rw[<- Fa1,o8,o8,Qid];apply Qix;intro k hk;show tP.row (gL tP l (n+k))=tP.row (gL tP (l.drop n) k);rw[Pc8]
theorem Ib7(l:List Pln)(x1 x2 x3 x4:Int):app (bL tP l) [[i x1,i x2,i x3,i x4]]=bL tP (l++[⟨⟨x1,x2,x3⟩,x4⟩]):=Da3 tP l [⟨⟨x1,x2,x3⟩,x4⟩]
def Ib8(x:List Pln)(y:Pln)(n:Nat):List Pln:=x.take n++(y::x.drop n)
theorem Ib9{l:List Pln}{n:Nat}{r:List (List b8)}{P:List Pln->Prop}(hn:n=l.length)(hr:r=bL tP l)(h:P l):Rd (one (r1L tP)) (some (.sl 0 0 n 0,[⟨73,4,r,true,false,0⟩])) P:=by
 subst hn hr;exact⟨_,l,rfl,Hc4 l,h⟩
theorem gf4(x:List Pln)(y:Pln)(hx:x.length<=1000000):Rd (one (r1L tP)) (ob6 x y) (λr=>r≠[]/\r.length<=x.length+1/\∀p∈r,p=y\/p∈x):=by
 have h:=za2 (step:=ia2 ⟨x,y.n.x,y.n.y,y.n.z,y.b⟩) (mk:=λj=>(⟨(j:Int)⟩:ka1)) (c:=λp=>!decide (ia1 p y<0)) (u:=1) (fin:=2) tP x (by omega)
  (λj hj=>by
   simp only[ia2,ya0,Int.toNat_natCast,De1,n8 hj (show x.length<=4611686018427387904 by omega)]
   rw[btD (g9 hj),bt (d9 hj),f0];cases decide (ia1 (gL tP x j) y<0)<;>rfl)
  (by simp only[ia2,ya0];rw[bfD (l0 (Qic _))]) 0 (Qie _)
 rw[Qia] at h;have key:∃t n,lp (ia2 ⟨x,y.n.x,y.n.y,y.n.z,y.b⟩) ⟨0⟩=(t,⟨((n:Nat):Int)⟩)/\(t=1\/t=2)/\n<=x.length:=by
  rw[show (⟨0⟩:ka1)=⟨((0:Nat):Int)⟩ from rfl,h]
  split
  ·exact⟨1,_,rfl,.inl rfl,by rw[Qij];exact List.findIdx_le_length⟩
  ·exact⟨2,_,rfl,.inr rfl,Nat.le_refl _⟩
 obtain⟨t,n,h1,h2,h3⟩:=key;have hlo:inB (n:Int) (x.length+1)=true:=d9 (by omega)
 have hd:(bL tP (x.take n)).length=n:=by rw[<- o4,H7,Qin];omega
 have hmem:∀p∈Ib8 x y n,p=y\/p∈x:=λp hp=>by
  unfold Ib8 at hp
  rcases Qiu.1 hp with hp|hp
  ·exact .inr (List.mem_of_mem_take hp)
  ·rcases List.mem_cons.1 hp with hp|hp
   ·exact .inl hp
   ·exact .inr (Qio hp)
 have hne:Ib8 x y n≠[]:=by unfold Ib8;simp
 have hlen:(Ib8 x y n).length=x.length+1:=by unfold Ib8;simp only[Qib,List.length_cons,Qin,Qid];omega
 have lt:len (bL tP (x.take n))=n:=by rw[o4];exact hd
 have ld:len (bL tP (x.drop n))=x.length-n:=by rw[H7,Qid]
 have b1:(Nat.beq 1 1&&Nat.ble ((1+(x.length-n))*32) room)=true:=by rw[S4 (by omega)];rfl
 have b2:(Nat.beq 0 0&&Nat.ble ((0+n)*32) room)=true:=by rw[S4 (by omega)];rfl
 have e0:app [] (bL tP (x.take n))=bL tP (x.take n):=rfl;have b3:(Nat.beq (0+n) n&&Nat.ble (((0+n)+1)*32) room)=true:=by rw[S4 (by omega),Qij,Qik];rfl
 have l3:len (bL tP (x.take n++[y]))=n+1:=by rw[H7,Qib,Qin];simp only[List.length_singleton];omega
 have b4:(Nat.beq ((0+n)+1) (n+1)&&Nat.ble ((((0+n)+1)+(x.length-n))*32) room)=true:=by rw[S4 (by omega),Qij,Qik];rfl
 have z0:∀{k:Nat},Nat.beq k 0=true->k=0:=λ{k} h=>Nat.eq_of_beq_eq_true h
 have fin:∀m r,m=x.length+1->r=bL tP (Ib8 x y n)->Rd (one (r1L tP)) (some (.sl 0 0 m 0,[⟨73,4,r,true,false,0⟩])) (λr=>r≠[]/\r.length<=x.length+1/\∀p∈r,p=y\/p∈x) :=
  λm r hm hr=>Ib9 (by rw[hlen];exact hm) hr ⟨hne,by omega,hmem⟩
 have tail:Rd (one (r1L tP)) (some (.sl 0 0 (((0+n)+1)+(x.length-n)) 0,[⟨73,4,app (bL tP (x.take n++[y])) (bL tP (x.drop n)),true,false,0⟩])) (λr=>r≠[]/\r.length<=x.length+1/\∀p∈r,p=y\/p∈x):=by
  refine fin _ _ (by omega) ?_
  rw[Da3];unfold Ib8;rw[Qir];rfl
 have same:∀p:Pln,(p.n.x==y.n.x&&(p.n.y==y.n.y&&(p.n.z==y.n.z&&(p.b==y.b&&true))))=true->n<x.length->Rd (one (r1L tP)) (some (eL tP x,[])) (λr=>r≠[]/\r.length<=x.length+1/\∀p∈r,p=y\/p∈x):=λp _ hn =>
  ⟨_,x,rfl,Cc0 tP x,List.ne_nil_of_length_pos (by omega),Nat.le_succ _,λp hp=>Or.inr hp⟩
 unfold ob6;simp only[i5,i9];rw[h1];simp only[Int.toNat_natCast,Ic2 x n h3,Ic3,lt,ld,b1,b2,e0,b3,Ib7,l3,b4,hlo,f0];have main:Rd (one (r1L tP)) (sl (decide ((n:Int)<(x.length:Int))) (sl (inB (n:Int) x.length) (sl (((gL tP x n).n.x==y.n.x)&&(((gL tP x n).n.y==y.n.y)&&(((gL tP x n).n.z==y.n.z)&&(((gL tP x n).b==y.b)&&true)))) (some (eL tP x,[])) (some (.sl 0 0 (((0+n)+1)+(x.length-n)) 0,[⟨73,4,app (bL tP (x.take n++[y])) (bL tP (x.drop n)),true,false,0⟩]))) none) (some (.sl 0 0 (((0+n)+1)+(x.length-n)) 0,[⟨73,4,app (bL tP (x.take n++[y])) (bL tP (x.drop n)),true,false,0⟩]))) (λr=>r≠[]/\r.length<=x.length+1/\∀p∈r,p=y\/p∈x):=by
  by_cases hn:n<x.length
  ·rw[btD (g9 hn),bt (d9 hn)];exact Rd.sl (λq=>same _ q hn) λ_=>tail
  ·rw[bfD (l0 hn)];exact tail
 rcases h2 with rfl|rfl
 ·exact main
 ·exact main
end Go.Ev.Ce
