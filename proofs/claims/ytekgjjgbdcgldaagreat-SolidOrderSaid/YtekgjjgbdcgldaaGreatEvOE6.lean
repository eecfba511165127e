/- Own work. -/
import Derived.Test.YtekgjjgbdcgldaaGreatEvOE1
set_option linter.all false
def Qia:=@List.drop_zero
def Qib:=@List.length_append
def Qic:=@Nat.lt_irrefl
def Qid:=@List.length_drop
def Qie:=@Nat.zero_le
def Qif:=@List.mem_cons_of_mem
def Qig:=@Bool.and_eq_true
def Qih:=@List.getElem_mem
def Qii:=@List.not_all_eq_any_not
def Qij:=@Nat.zero_add
def Qik:=@Nat.beq_refl
def Qil:=@Bool.and_true
def Qim:=@List.drop_eq_getElem_cons
def Qin:=@List.length_take
def Qio:=@List.mem_of_mem_drop
def Qip:=@List.mem_cons_self
def Qiq:=@List.getD_eq_getElem?_getD
def Qir:=@List.append_assoc
def Qis:=@Bool.not_eq_true
def Qit:=@List.all_eq_true
def Qiu:=@List.mem_append
def Qiv:=@List.drop_eq_nil_of_le
def Qiw:=@Bool.not_false
def Qix:=@List.map_congr_left
def Qiy:=@Nat.le_trans
namespace Go.Ev.Ce
open Go Go.Ev Go.Ev.L Go.Proofs
noncomputable def inn(l:List Pln)(x:Pt):Bool:=l.all λp=>!decide (rm p x<0)
theorem re0(l:List Pln)(x:Pt):inn l x=!l.any λp=>decide (rm p x<0):=by unfold inn;rw[List.not_any_eq_all_not]
theorem Hf2(p:Pln)(x:Pt):pb4 ⟨p.n.x,p.n.y,p.n.z,p.b,x.px,x.py,x.pz,x.pw⟩=⟨decide (rm p x<0)⟩:=by
 show Ba4.mk (decide (ya8 p x<0))=_;rw[Jd1]
theorem cf9(l:List Pln)(x:Pt)(hl:l.length<=1000000000):ba4 ⟨l,x.px,x.py,x.pz,x.pw⟩=⟨1,if l.any (λp=>decide (rm p x<0)) then ((l.findIdx (λp=>decide (rm p x<0)):Nat):Int) else -1⟩:=by
 have h:=Ta1 (step:=K2 ⟨l,(l.length:Int),x.px,x.py,x.pz,x.pw⟩) (mk:=λj=>(⟨(j:Int)⟩:q7)) (c:=λp=>decide (rm p x<0)) (u:=1) (fin:=2) tP l hl
  (λj hj=>by
   simp only[K2,H7,Int.toNat_natCast,Hf2,o3 hj (by omega)]
   rw[bt (dc3 hj),bt (f7 hj)])
  (by simp only[K2,H7];rw[bf (Rb6 (Qic _))]) 0 (Qie _)
 rw[Qia] at h;unfold ba4 I8;simp only[i6,i8];rw[show (⟨0⟩:q7)=⟨((0:Nat):Int)⟩ from rfl,h]
 split
 ·simp only[Qij];rfl
 ·rfl
theorem zd5(l:List Pln)(x:Pt)(hl:l.length<=1000000000):Qa9 l x=some (b (inn l x),[]):=by
 unfold Qa9 ia5 E1;simp only[i6,i8,cf9 l x hl,re0];split
 ·rename_i h;rw[h,show decide (((l.findIdx (λp=>decide (rm p x<0)):Nat):Int)>=0)=true from decide_eq_true (by omega)];rfl
 ·rename_i h;rw[Qis] at h;rw[h];rfl
theorem Oe0(l:List Pln)(x:Pt)(hl:l.length<=1000000000):Ea2 l x=inn l x:=by unfold Ea2;rw[zd5 l x hl];rfl
theorem Oe1(l:List Pln)(x:Pt)(hl:l.length<=1000000000):Ea3 l x=true:=by unfold Ea3;rw[zd5 l x hl];rfl
theorem of5(l:List Pln)(x:Pt)(hl:l.length<=1000000000):ec5 l x=some (b (inn l x),[]):=by
 have h:=fb6 (step:=lb0 ⟨l,x.px,x.py,x.pz,x.pw⟩) (mk:=λj=>(⟨(j:Int)⟩:za6)) (c:=λp=>decide (rm p x<0)) (u:=1) (fin:=2) tP l hl
  (λj hj=>by
   simp only[lb0,Ya7,Int.toNat_natCast,Yc2,o3 hj (by omega)]
   rw[bt (dc3 hj),bt (f7 hj)])
  (by simp only[lb0,Ya7];rw[bf (Rb6 (Qic _))]) 0 (Qie _)
 rw[Qia] at h;unfold ec5;simp only[i6,i8,re0];rw[show (⟨0⟩:za6)=⟨((0:Nat):Int)⟩ from rfl,h]
 split
 ·rename_i h;rw[h];rfl
 ·rename_i h;rw[Qis] at h;rw[h];rfl
theorem Uf6(l:List Pln)(x:Pt)(hl:l.length<=1000000000):Mb4 l x=inn l x:=by unfold Mb4;rw[of5 l x hl];rfl
theorem Uf7(l:List Pln)(x:Pt)(hl:l.length<=1000000000):Mb5 l x=true:=by unfold Mb5;rw[of5 l x hl];rfl
def eqX(x q:Pt):Bool:=q.px==x.px&&(q.py==x.py&&(q.pz==x.pz&&(q.pw==x.pw&&true)))
theorem re1(x q:Pt):eqX x q=true↔q=x:=by
 unfold eqX;simp only[Qil,Qig,beq_iff_eq];exact⟨λ⟨h1,h2,h3,h4⟩=>by cases q;cases x;simp_all,λh=>by subst h;exact⟨rfl,rfl,rfl,rfl⟩⟩
def gc1(l:List Pt)(x:Pt):Bool:=l.any (eqX x)
theorem Oe2(l:List Pt)(x:Pt):gc1 l x=true↔x∈l:=by
 unfold gc1;rw[List.any_eq_true];exact⟨λ⟨q,h,e⟩=>(re1 x q).1 e ▸ h,λh=>⟨x,h,(re1 x x).2 rfl⟩⟩
theorem Wd7(l:List Pt)(x:Pt)(hl:l.length<=1000000000):lb1 l x=some (b (gc1 l x),[]):=by
 have h:=fb6 (step:=Ha7 ⟨l,x.px,x.py,x.pz,x.pw⟩) (mk:=λj=>(⟨(j:Int)⟩:ea7)) (c:=eqX x) (u:=1) (fin:=2) tX l hl
  (λj hj=>by
   simp only[Ha7,Ba2,Int.toNat_natCast,o3 hj (by omega)]
   rw[bt (dc3 hj),bt (f7 hj)]
   rfl)
  (by simp only[Ha7,Ba2];rw[bf (Rb6 (Qic _))]) 0 (Qie _)
 rw[Qia] at h;unfold lb1;simp only[i6,i8];rw[show (⟨0⟩:ea7)=⟨((0:Nat):Int)⟩ from rfl,h]
 unfold gc1;split
 ·rename_i h;rw[h];rfl
 ·rename_i h;rw[Qis] at h;rw[h];rfl
theorem df0(l:List Pt)(x:Pt)(hl:l.length<=1000000000):Wa1 l x=gc1 l x:=by unfold Wa1;rw[Wd7 l x hl];rfl
theorem df1(l:List Pt)(x:Pt)(hl:l.length<=1000000000):Wa2 l x=true:=by unfold Wa2;rw[Wd7 l x hl];rfl
def smb(n x:Int):Bool:=!decide (x < -n)&&!decide (x>n)
theorem ub0(n x:Int):smb n x=true↔Sm n x:=by unfold smb Sm;simp only[Qig,Bool.not_eq_true',decide_eq_false_iff_not];omega
theorem gd6(n:Int)(l:List Int)(hn:0<=n/\n<=1000000000)(hl:l.length<=1000000000):Ia6 n l=some (b (l.all (smb n)),[]):=by
 have hW:W (0-n)=-n:=by rw[ia4 (by omega) (by omega)];omega
 have h:=fb6 (step:=sa5 ⟨n,l,(l.length:Int)⟩) (mk:=λj=>(⟨(j:Int)⟩:Q0)) (c:=λx=>!smb n x) (u:=1) (fin:=2) tI l hl
  (λj hj=>by
   simp only[sa5,na4,Int.toNat_natCast,o3 hj (by omega),hW]
   rw[bt (dc3 hj),bt (f7 hj)];unfold smb;cases decide (gL tI l j < -n)<;>cases decide (gL tI l j>n)<;>rfl)
  (by simp only[sa5,na4];rw[bf (Rb6 (Qic _))]) 0 (Qie _)
 rw[Qia] at h;unfold Ia6;simp only[i6,i8];rw[show (⟨0⟩:Q0)=⟨((0:Nat):Int)⟩ from rfl,h]
 have e:(l.any λx=>!smb n x)=!l.all (smb n):=by rw[Qii]
 rw[e];cases l.all (smb n)<;>rfl
theorem zd6(n:Int)(l:List Int)(hn:0<=n/\n<=1000000000)(hl:l.length<=1000000000):Ia7 n l=l.all (smb n):=by unfold Ia7;rw[gd6 n l hn hl];rfl
theorem zd7(n:Int)(l:List Int)(hn:0<=n/\n<=1000000000)(hl:l.length<=1000000000):Ia8 n l=true:=by unfold Ia8;rw[gd6 n l hn hl];rfl
theorem Wd8{n:Int}(h:Sm 1000000000000000000 n):Ma1 n=(n.natAbs:Int):=by
 unfold Ma1;obtain⟨h1,h2⟩:=h;rw[ia4 (by omega) (by omega)]
 split<;>omega
theorem Dc3{n:Int}(h:Sm 1000000000000000000 n):Ha8 n=some (i (n.natAbs:Int),[]):=by
 unfold Ha8;obtain⟨h1,h2⟩:=h;rw[ia4 (by omega) (by omega)]
 by_cases h:n<0
 ·rw[bt (decide_eq_true h)];congr 3;omega
 ·rw[bf (decide_eq_false h)];congr 3;omega
theorem gc2{n:Int}(h:Sm 1000000000000000000 n):wa4 n=(n.natAbs:Int):=by unfold wa4;rw[Dc3 h];rfl
theorem gc3{n:Int}(h:Sm 1000000000000000000 n):wa5 n=true:=by unfold wa5;rw[Dc3 h];rfl
def g3(v:V3):Int:=(Nat.gcd (Nat.gcd v.x.natAbs v.y.natAbs) v.z.natAbs:Nat)
theorem Oe3(g n:Nat):eu (g:Int) (n:Int)=(Nat.gcd g n:Nat):=by rw[Je5 (by omega) (by omega)];rfl
theorem sd0(P:ha8)(g n:Nat)(hn:n<=1000000000000000000):lp (ea0 P) ⟨(g:Int),(n:Int)⟩=(1,⟨(Nat.gcd g n:Nat),0⟩):=by
 have:=Pc5 (step:=ea0 P) (mk:=λg n=>(⟨g,n⟩:S3)) (λg n h=>by
  have h0:n≠0:=by omega
  simp[ea0,ja6,xb6,h,h0]) (λg=>by simp[ea0,ja6,xb6]) (g:Int) (n:Int) (by omega) (by omega) (by omega)
 rw[this,Oe3]
theorem ke9(l:List Int)(hl:l.length<=1000000000)(hb:∀x∈l,Sm 1000000000000000000 x):Ba8 l=some (i (l.foldl (λg x=>Nat.gcd g x.natAbs) 0:Nat),[]):=by
 have h := Ac6 (step := na5 ⟨(l.length : Int)⟩) (mk := fun j (a : Nat) => (⟨(a : Int), l, (j : Int)⟩ : N1)) (f := fun g x => Nat.gcd g x.natAbs) (fin := 2) tI l (fun _ _ => True) hl (fun j a hj _ => ⟨by
   have hm:=hb _ (Fa3 tI hj);have hne:(gL tI l j==(-9223372036854775808:Int))=false:=by
    have:=hm.1
    rw[beq_eq_false_iff_ne];omega
   have hs:(gL tI l j).natAbs<=1000000000000000000:=by obtain⟨h1,h2⟩:=hm;omega
   simp only[na5,ja7,Int.toNat_natCast,i6,i8,Wd8 hm,sd0 _ _ _ hs,o3 hj (by omega)]
   rw[bt (dc3 hj),bt (f7 hj),bf hne]
   rfl,trivial⟩) (λa _=>by simp only[na5,ja7];rw[bf (Rb6 (Qic _))]) 0 (Qie _) 0 trivial
 have h:=h.1;rw[Qia] at h;unfold Ba8;simp only[i6,i8];rw[show (⟨0,l,0⟩:N1)=⟨((0:Nat):Int),l,((0:Nat):Int)⟩ from rfl,h]
 rfl
def okp(p:Pln):Bool:=[p.n.x,p.n.y,p.n.z].all (smb 4608)&&(g3 p.n==1&&[p.b].all (smb 2097152))
theorem uf6(p:Pln):Bd p↔[p.n.x,p.n.y,p.n.z].all (smb 4608)=true/\[p.b].all (smb 2097152)=true:=by
 simp only[List.all_cons,List.all_nil,Qil,Qig,ub0,Sm];exact⟨λh=>⟨⟨⟨h.x1,h.x2⟩,⟨h.y1,h.y2⟩,h.z1,h.z2⟩,h.b1,h.b2⟩,λ⟨⟨⟨a,b⟩,⟨c,d⟩,e,f⟩,g,h⟩=>⟨a,b,c,d,e,f,g,h⟩⟩
theorem uc9{p:Pln}(h:okp p=true):Bd p:=by
 unfold okp at h;rw[Qig,Qig] at h;exact (uf6 p).2 ⟨h.1,h.2.2⟩
theorem sm3{v:V3}(h:[v.x,v.y,v.z].all (smb 4608)=true):Sm 4608 v.x/\Sm 4608 v.y/\Sm 4608 v.z:=by
 simpa only[List.all_cons,List.all_nil,Qil,Qig,ub0] using h
theorem Wd9(p:Pln):Ra1 p=some (b (okp p),[]):=by
 unfold Ra1 okp;have l3:[p.n.x,p.n.y,p.n.z].length<=1000000000:=by simp
 have l1:[p.b].length<=1000000000:=by simp
 simp only[zd6 4608 _ (by omega) l3,zd7 4608 _ (by omega) l3,zd6 2097152 _ (by omega) l1,zd7 2097152 _ (by omega) l1]
 cases hw:[p.n.x,p.n.y,p.n.z].all (smb 4608) with
 |false=>rfl
 |true =>
  obtain⟨h1,h2,h3⟩:=sm3 hw;have hd:=ke9 [p.n.x,p.n.y,p.n.z] l3 (by
   intro x hx;simp only[List.mem_cons,List.not_mem_nil,or_false] at hx
   rcases hx with rfl|rfl|rfl
   ·exact h1.mono (by omega)
   ·exact h2.mono (by omega)
   ·exact h3.mono (by omega))
  have hg:([p.n.x,p.n.y,p.n.z].foldl (λg x=>Nat.gcd g x.natAbs) 0:Nat)=Nat.gcd (Nat.gcd p.n.x.natAbs p.n.y.natAbs) p.n.z.natAbs:=by
   simp only[List.foldl_cons,List.foldl_nil,Nat.gcd_zero_left]
  have hp:Ta3 [p.n.x,p.n.y,p.n.z]=g3 p.n:=by unfold Ta3;rw[hd,hg];rfl
  have hgd:Ta4 [p.n.x,p.n.y,p.n.z]=true:=by unfold Ta4;rw[hd];rfl
  rw[hp,hgd];cases g3 p.n==1<;>rfl
theorem df2(p:Pln):jb2 p=okp p:=by unfold jb2;rw[Wd9 p];rfl
theorem df3(p:Pln):jb3 p=true:=by unfold jb3;rw[Wd9 p];rfl
theorem Lc1(P:sa0)(g n:Nat)(hn:n<=1000000000000000000):lp (ma7 P) ⟨(g:Int),(n:Int)⟩=(1,⟨(Nat.gcd g n:Nat),0⟩):=by
 have:=Pc5 (step:=ma7 P) (mk:=λg n=>(⟨g,n⟩:Y7)) (λg n h=>by
  have h0:n≠0:=by omega
  simp[ma7,Ha9,xb6,h,h0]) (λg=>by simp[ma7,Ha9,xb6]) (g:Int) (n:Int) (by omega) (by omega) (by omega)
 rw[this,Oe3]
theorem Jd2 {v : V3} (h1 : Sm 1000000000000000000 v.x) (h2 : Sm 1000000000000000000 v.y) (h3 : Sm 1000000000000000000 v.z) :
  yb9 v=if g3 v=0 then some (.tup [.agg (tV.row ⟨0,0,0⟩),i 0],[]) else some (.tup [.agg (tV.row ⟨W (Int.tdiv v.x (g3 v)),W (Int.tdiv v.y (g3 v)),W (Int.tdiv v.z (g3 v))⟩),i (g3 v)],[]):=by
 have ne:∀{x:Int},Sm 1000000000000000000 x->(x==(-9223372036854775808:Int))=false:=λ{x} h=>by
  have:=h.1
  rw[beq_eq_false_iff_ne];omega
 have bd:∀{x:Int},Sm 1000000000000000000 x->x.natAbs<=1000000000000000000:=λ{x} h=>by obtain⟨h1,h2⟩:=h;omega
 have l1:=Lc1 ⟨0,v.x,v.y,v.z,v.x,v.y,v.z⟩ 0 v.x.natAbs (bd h1);rw[Nat.gcd_zero_left] at l1;have l2:=Lc1 ⟨1,v.x,v.y,v.z,v.x,v.y,v.z⟩ v.x.natAbs v.y.natAbs (bd h2);have l3:=Lc1 ⟨2,v.x,v.y,v.z,v.x,v.y,v.z⟩ (Nat.gcd v.x.natAbs v.y.natAbs) v.z.natAbs (bd h3);unfold yb9;simp only[gc2 h1,gc2 h2,gc2 h3,gc3 h1,gc3 h2,gc3 h3];rw[show (⟨0,(v.x.natAbs:Int)⟩:Y7)=⟨((0:Nat):Int),(v.x.natAbs:Int)⟩ from rfl]
 simp only[l1,l2,l3,ne h1,ne h2,ne h3];rw[show ((Nat.gcd (Nat.gcd v.x.natAbs v.y.natAbs) v.z.natAbs:Nat):Int)=g3 v from rfl]
 by_cases h:g3 v=0
 ·rw[if_pos h,show (g3 v==0)=true from by rw[h];rfl];rfl
 ·rw[if_neg h,show (g3 v==0)=false from by rw[beq_eq_false_iff_ne];exact h];rfl
theorem gd7{v:V3}(h1:Sm 1000000000000000000 v.x)(h2:Sm 1000000000000000000 v.y)(h3:Sm 1000000000000000000 v.z):(Va0 v).2=g3 v:=by
 unfold Va0;rw[Jd2 h1 h2 h3];split
 ·rename_i h;rw[h];rfl
 ·rfl
theorem uf7{v:V3}(h1:Sm 1000000000000000000 v.x)(h2:Sm 1000000000000000000 v.y)(h3:Sm 1000000000000000000 v.z)(h:g3 v≠0):Va0 v=(⟨W (Int.tdiv v.x (g3 v)),W (Int.tdiv v.y (g3 v)),W (Int.tdiv v.z (g3 v))⟩,g3 v):=by
 unfold Va0;rw[Jd2 h1 h2 h3,if_neg h];rfl
theorem Oe4{v:V3}(h1:Sm 1000000000000000000 v.x)(h2:Sm 1000000000000000000 v.y)(h3:Sm 1000000000000000000 v.z):zb0 v=true:=by
 unfold zb0;rw[Jd2 h1 h2 h3]
 split<;>rfl
theorem zd8(p:Pln):lb2 p=some (b (okp p),[]):=by
 unfold lb2 okp;cases hw:[p.n.x,p.n.y,p.n.z].all (smb 4608) with
 |false =>
  simp only[List.all_cons,List.all_nil,Qil,smb] at hw;cases h1:decide (p.n.x < -4608)<;>cases h2:decide (p.n.x>4608)<;>cases h3:decide (p.n.y < -4608)<;>cases h4:decide (p.n.y>4608)<;>cases h5:decide (p.n.z < -4608)<;>cases h6:decide (p.n.z>4608)<;>simp only[h1,h2,h3,h4,h5,h6] at hw ⊢<;>first | rfl | cases hw
 |true =>
  obtain⟨h1,h2,h3⟩:=sm3 hw;rw[bf (decide_eq_false (by have:=h1.1;omega)),bf (decide_eq_false (by have:=h1.2;omega)),bf (decide_eq_false (by have:=h2.1;omega)),bf (decide_eq_false (by have:=h2.2;omega)),bf (decide_eq_false (by have:=h3.1;omega)),bf (decide_eq_false (by have:=h3.2;omega))]
  have k1:=h1.mono (m:=1000000000000000000) (by omega)
  have k2:=h2.mono (m:=1000000000000000000) (by omega)
  have k3:=h3.mono (m:=1000000000000000000) (by omega)
  rw[bt (Oe4 k1 k2 k3),gd7 k1 k2 k3];cases g3 p.n==1 with
  |false=>rfl
  |true =>
   simp only[List.all_cons,List.all_nil,Qil,smb,Bool.true_and];rw[g8];by_cases ha:p.b < -2097152
   ·rw[bf (decide_eq_false (by omega)),show decide (p.b < -2097152)=true from decide_eq_true ha];rfl
   ·rw[bt (decide_eq_true (by omega)),show decide (p.b < -2097152)=false from decide_eq_false ha]
    congr 3;by_cases hc:p.b<=2097152
    ·rw[decide_eq_true hc,decide_eq_false (by omega)];rfl
    ·rw[decide_eq_false hc,decide_eq_true (by omega)];rfl
theorem Xd0(p:Pln):lb3 p=okp p:=by unfold lb3;rw[zd8 p];rfl
theorem gd8(p:Pln):lb4 p=true:=by unfold lb4;rw[zd8 p];rfl
def chk(l:List Pln):Int:=if (l.length:Int)>48 then 2 else if l.all okp then 0 else 12
theorem Xd1(l:List Pln)(hl:l.length<=1000000000):ab0 l=some (i (chk l),[]):=by
 have hk1:∀p,Ia9 p=some (b (!okp p),[]):=λp=>by unfold Ia9;rw[df3,df2];rfl
 have hp1:∀p,Za8 p=!okp p:=λp=>by unfold Za8;rw[hk1];rfl
 have hg1:∀p,Za9 p=true:=λp=>by unfold Za9;rw[hk1];rfl
 have h:=Ta1 (step:=K3 ⟨l,(l.length:Int)⟩) (mk:=λj=>(⟨(j:Int)⟩:q8)) (c:=λp=>!okp p) (u:=1) (fin:=2) tP l hl
  (λj hj=>by
   simp only[K3,H8,Int.toNat_natCast,hp1,hg1,o3 hj (by omega)]
   rw[bt (dc3 hj),bt (f7 hj),g8])
  (by simp only[K3,H8];rw[bf (Rb6 (Qic _))]) 0 (Qie _)
 rw[Qia] at h;have e:(l.any λx=>!okp x)=!l.all okp:=by rw[Qii]
 unfold ab0 ia6 E2 qa5 I9 chk;simp only[i6,i8];rw[show (⟨0⟩:q8)=⟨((0:Nat):Int)⟩ from rfl,h,e]
 by_cases hn:(l.length:Int)>48
 ·rw[bt (decide_eq_true hn),if_pos hn]
 ·rw[bf (decide_eq_false hn),if_neg hn];cases l.all okp with
  |true=>rfl
  |false =>
   simp only[Qiw,if_true,Qij];show sl true (sl (Nat.beq 1 1) (sl (decide (((l.findIdx λp=>!okp p:Nat):Int)>=0)) _ _) _) _=_
   rw[show decide (((l.findIdx λp=>!okp p:Nat):Int)>=0)=true from decide_eq_true (by omega)]
   rfl
theorem Yc4(l:List Pln)(hl:l.length<=1000000000):sa7 l=chk l:=by unfold sa7;rw[Xd1 l hl];rfl
theorem Jd3(l:List Pln)(hl:l.length<=1000000000):Ma2 l=true:=by unfold Ma2;rw[Xd1 l hl];rfl
theorem zd9(l:List Pln)(hl:l.length<=1000000000):lb5 l=some (i (chk l),[]):=by
 have h:=fb6 (step:=Ia0 ⟨l⟩) (mk:=λj=>(⟨(j:Int)⟩:ea8)) (c:=λp=>!okp p) (u:=1) (fin:=2) tP l hl
  (λj hj=>by
   simp only[Ia0,Ba3,Int.toNat_natCast,Xd0,gd8,o3 hj (by omega)]
   rw[bt (dc3 hj),bt (f7 hj),g8])
  (by simp only[Ia0,Ba3];rw[bf (Rb6 (Qic _))]) 0 (Qie _)
 rw[Qia] at h;have e:(l.any λx=>!okp x)=!l.all okp:=by rw[Qii]
 unfold lb5 chk;simp only[i6,i8];rw[show (⟨0⟩:ea8)=⟨((0:Nat):Int)⟩ from rfl,h,e]
 by_cases hn:(l.length:Int)>48
 ·rw[bt (decide_eq_true hn),if_pos hn]
 ·rw[bf (decide_eq_false hn),if_neg hn];cases l.all okp<;>rfl
theorem Xd2(l:List Pln)(hl:l.length<=1000000000):lb6 l=chk l:=by unfold lb6;rw[zd9 l hl];rfl
theorem Xd3(l:List Pln)(hl:l.length<=1000000000):lb7 l=true:=by unfold lb7;rw[zd9 l hl];rfl
theorem Ja5{l:List Pln}:chk l=0↔l.length<=48/\∀p∈l,okp p=true:=by
 unfold chk;by_cases hn:(l.length:Int)>48
 ·rw[if_pos hn];exact⟨λh=>absurd h (by decide),λh=>by omega⟩
 ·rw[if_neg hn];cases h:l.all okp with
  |true=>exact⟨λ_=>⟨by omega,Qit.1 h⟩,λ_=>rfl⟩
  |false=>exact⟨λh=>absurd h (by decide),λh'=>by rw[Qit.2 h'.2] at h;cases h⟩
theorem btD{p:Prop}{inst:Decidable p}(h:p){α:Type}(t e:α):sl (@decide p inst) t e=t:=bt (decide_eq_true h) t e
theorem bfD{p:Prop}{inst:Decidable p}(h:¬ p){α:Type}(t e:α):sl (@decide p inst) t e=e:=bf (decide_eq_false h) t e
theorem g9{j n:Nat}(h:j<n):(j:Int)<(n:Int):=Int.ofNat_lt.2 h
theorem m9{j n:Nat}(h:¬ j<n):¬ (j:Int)<(n:Int):=λh'=>h (Int.ofNat_lt.1 h')
theorem ab7 {σ τ α : Type} {step : σ → Stp σ} {mk : Nat → τ → σ} {f : α → List α → τ → τ} {g : List α → τ → τ} {fin : τ → Nat} (l : List α) (I : Nat → τ → Prop) (hl : l.length ≤ 1000000000)
  (g0:∀a,g [] a=a) (g1:∀x r a,g (x::r) a=g r (f x r a))
  (h:∀j a (hj:j<l.length),I j a->step (mk j a)=.next (mk (j+1) (f l[j] (l.drop (j+1)) a))/\I (j+1) (f l[j] (l.drop (j+1)) a))
  (hf:∀j a,l.length<=j->I j a->step (mk j a)=.exit (fin a)) (j0:Nat) (a:τ) (hi:I j0 a) :
  lp step (mk j0 a)=(fin (g (l.drop j0) a),mk (max j0 l.length) (g (l.drop j0) a))/\I (max j0 l.length) (g (l.drop j0) a):=by
 have key:=tc6 (step:=step) (I:=λm s=>∃j b,m=l.length-j/\max j l.length=max j0 l.length/\s=mk j b/\I j b/\g (l.drop j) b=g (l.drop j0) a)
  (Q:=λu s=>u=fin (g (l.drop j0) a)/\s=mk (max j0 l.length) (g (l.drop j0) a)/\I (max j0 l.length) (g (l.drop j0) a)) (λm s ⟨j,b,hm,hj,hs,hb,he⟩=>by
   subst hs;by_cases hlt:j<l.length
   ·obtain⟨h1,h2⟩:=h j b hlt hb;refine .inr ⟨_,l.length-(j+1),by omega,h1,j+1,_,rfl,by omega,rfl,h2,?_⟩
    rw[<- he,Qim hlt,g1]
   ·have hd:l.drop j=[]:=Qiv (by omega)
    rw[hd,g0] at he;have hj':j=max j0 l.length:=by omega
    subst he;rw[<- hj'];exact .inl ⟨_,hf j _ (by omega) hb,rfl,rfl,hb⟩) (l.length-j0) (mk j0 a) (by omega) ⟨j0,a,rfl,rfl,rfl,hi,rfl⟩
 exact⟨Prod.ext key.1 key.2.1,key.2.2⟩
noncomputable def Ja6(r:List Pln)(p q:Pln)(out:List Pt)(s:Pln):List Pt :=
 if (mpt p q s).2&&(!gc1 out (mpt p q s).1&&inn r (mpt p q s).1) then out++[(mpt p q s).1] else out
noncomputable def qb5(r:List Pln)(p q:Pln)(l:List Pln)(out:List Pt):List Pt:=l.foldl (Ja6 r p q) out
noncomputable def ab8(r:List Pln)(p:Pln):List Pln->List Pt->List Pt
 |[],out=>out
 |q::l,out=>ab8 r p l (qb5 r p q l out)
noncomputable def Dc4(r:List Pln):List Pln->List Pt->List Pt
 |[],out=>out
 |p::l,out=>Dc4 r l (ab8 r p l out)
noncomputable def cor(r:List Pln):List Pt:=Dc4 r r []
def Bds(r:List Pln):Prop:=∀p∈r,Bd p
theorem Lc2(r:List Pln)(p q:Pln)(out:List Pt)(s:Pln):(Ja6 r p q out s).length<=out.length+1:=by
 unfold Ja6;split
 ·simp
 ·omega
theorem Dc5(r:List Pln)(p q:Pln):∀(l:List Pln) (out:List Pt),(qb5 r p q l out).length<=out.length+l.length
 |[],out=>Nat.le_refl _
 |s::l,out=>by
  have h1:=Lc2 r p q out s;have h2:=Dc5 r p q l (Ja6 r p q out s);show (qb5 r p q l (Ja6 r p q out s)).length<=_;simp only[List.length_cons];omega
theorem gd9(r:List Pln)(p:Pln):∀(l:List Pln) (out:List Pt),l.length<=200->(ab8 r p l out).length<=out.length+200*l.length
 |[],out,_=>by simp[ab8]
 |q::l,out,h=>by
  simp only[List.length_cons] at h ⊢;have h1:=Dc5 r p q l out;have h2:=gd9 r p l (qb5 r p q l out) (by omega)
  show (ab8 r p l (qb5 r p q l out)).length<=_;omega
theorem Xd4(r:List Pln):∀(l:List Pln) (out:List Pt),l.length<=200->(Dc4 r l out).length<=out.length+40000*l.length
 |[],out,_=>by simp[Dc4]
 |p::l,out,h=>by
  simp only[List.length_cons] at h ⊢;have h1:=gd9 r p l out (by omega)
  have h2:=Xd4 r l (ab8 r p l out) (by omega)
  show (Dc4 r l (ab8 r p l out)).length<=_;omega
theorem Jd4(r:List Pln)(_:Bds r)(hr:r.length<=200):(cor r).length<=8000000:=by
 have:=Xd4 r r [] hr
 rw[List.length_nil] at this;show (Dc4 r r []).length<=_;omega
noncomputable def ph(out:List Pt):Nat:=match out with
 |[]=>0
 |_::_=>1
theorem Xd5(x:Pt):gc1 [] x=false:=rfl
theorem Dc6{α:Type}(t:Ty α)(l:List α)(n k:Nat):gL t (l.drop n) k=gL t l (n+k):=by simp[gL,Qiq,List.getElem?_drop]
theorem Xd6{n:Nat}{l:List Pt}(hn:n=l.length)(h:l.length<=1000000000):(Nat.beq n (len (bL tX l))&&Nat.ble ((n+1)*32) room)=true:=by
 subst hn;rw[P6,Qik,Bool.true_and];exact ea6 (by omega)
theorem re2(l:List Pt)(x:Pt):app (bL tX l) [[i x.px,i x.py,i x.pz,i x.pw]]=bL tX (l++[x]):=Ua7 tX l [x]
@[reducible] noncomputable def nc7(k:Nat)(out:List Pt):y5:=⟨ph out,(k:Int),out.length,bL tX out⟩
theorem uf8(l:List Pt):slR tX (bL tX l) 0 l.length=l:=Rb4 tX l
theorem df4 (r : List Pln) (hb : Bds r) (hr : r.length ≤ 200) (a c k : Nat) (ha : a < r.length) (hc : c < r.length) (out : List Pt) (ho : out.length ≤ 1000000000) (hk : k < r.length) :
  V5 ⟨r,a,c⟩ (nc7 k out)=.next (nc7 (k+1) (Ja6 r r[a] r[c] out r[k])):=by
 have hin:∀x,Mb4 r x=inn r x:=λx=>Uf6 r x (by omega)
 have hig:∀x,Mb5 r x=true:=λx=>Uf7 r x (by omega)
 have hth:∀x,Wa1 out x=gc1 out x:=λx=>df0 out x ho
 have htg:∀x,Wa2 out x=true:=λx=>df1 out x ho
 have hme:=cf7 (hb _ (Qih ha)) (hb _ (Qih hc)) (hb _ (Qih hk));have hmg:=cf8 (hb _ (Qih ha)) (hb _ (Qih hc)) (hb _ (Qih hk));unfold V5;cases out with
 |nil =>
  show Y1 Stp.next Stp.exit Stp.fail _ (nc7 k [])=_;simp only[Y1,nc7,Int.toNat_natCast,i6,p6,Wa0 tP ha,Wa0 tP hc,Wa0 tP hk,hme,hmg,hin,hig,hth,htg,o3 hk (by omega)]
  rw[btD (g9 hk),bt (f7 ha),bt (f7 hc),bt (f7 hk),g8];unfold Ja6;rw[Xd5];cases (mpt r[a] r[c] r[k]).2 with
  |false=>rfl
  |true =>
   cases inn r (mpt r[a] r[c] r[k]).1 with
   |false=>rfl
   |true=>rfl
 |cons o os =>
  show Y2 Stp.next Stp.exit Stp.fail _ (nc7 k (o::os))=_;simp only[Y2,nc7,Int.toNat_natCast,i6,p6,Wa0 tP ha,Wa0 tP hc,Wa0 tP hk,hme,hmg,hin,hig,uf8,Rb5,hth,htg,o3 hk (by omega)]
  rw[btD (g9 hk),bt (f7 ha),bt (f7 hc),bt (f7 hk),g8,Xd6 rfl ho,re2];unfold Ja6;cases (mpt r[a] r[c] r[k]).2 with
  |false=>rfl
  |true =>
   cases inn r (mpt r[a] r[c] r[k]).1 with
   |false=>cases gc1 (o::os) (mpt r[a] r[c] r[k]).1<;>rfl
   |true =>
    cases gc1 (o::os) (mpt r[a] r[c] r[k]).1 with
    |true=>rfl
    |false =>
     show Stp.next (⟨1,((k+1:Nat):Int),(o::os).length+1,bL tX (o::os++[(mpt r[a] r[c] r[k]).1])⟩:y5)=_;simp[ph]
theorem uf9(r:List Pln)(a c k:Nat)(out:List Pt)(hk:r.length<=k):V5 ⟨r,a,c⟩ (nc7 k out)=.exit (ph out+1):=by
 unfold V5;have this:¬ ((k:Int)<(r.length:Int)):=by omega
 cases out with
 |nil =>
  show Y1 Stp.next Stp.exit Stp.fail _ (nc7 k [])=_;simp only[Y1,nc7];rw[bfD this];rfl
 |cons o os =>
  show Y2 Stp.next Stp.exit Stp.fail _ (nc7 k (o::os))=_;simp only[Y2,nc7];rw[bfD this];rfl
theorem df5 (r : List Pln) (hb : Bds r) (hr : r.length ≤ 200) (a c : Nat) (ha : a < r.length) (hc : c < r.length) (k : Nat) (out : List Pt) (ho : out.length ≤ 100000000) :
  ∃m,lp (V5 ⟨r,a,c⟩) (nc7 k out)=(ph (qb5 r r[a] r[c] (r.drop k) out)+1,nc7 m (qb5 r r[a] r[c] (r.drop k) out)) :=
 ⟨_,(ab7 (mk:=nc7) (f:=λs _ out=>Ja6 r r[a] r[c] out s) (g:=λl out=>qb5 r r[a] r[c] l out) (fin:=λout=>ph out+1) r (λj o=>o.length+k<=out.length+j) (by omega)
  (λ_=>rfl) (λ_ _ _=>rfl) (λj o hj hi=>⟨df4 r hb hr a c j ha hc o (by omega) hj,by have:=Lc2 r r[a] r[c] o r[j];show (Ja6 r r[a] r[c] o r[j]).length+k<=out.length+(j+1);omega⟩)
  (λj o hj _=>uf9 r a c j o hj) k out (by omega)).1⟩
@[reducible] noncomputable def nc8(r:List Pln)(j:Nat)(out:List Pt):A3:=⟨ph out,r,(j:Int),out.length,bL tX out⟩
theorem df6 (r : List Pln) (hb : Bds r) (hr : r.length ≤ 200) (a j : Nat) (ha : a < r.length) (out : List Pt) (ho : out.length ≤ 100000000) (hj : j < r.length) :
  P9 ⟨a⟩ (nc8 r j out)=.next (nc8 r (j+1) (qb5 r r[a] r[j] (r.drop (j+1)) out)):=by
 obtain⟨m,hm⟩:=df5 r hb hr a j ha hj (j+1) out ho;unfold P9;generalize qb5 r r[a] r[j] (r.drop (j+1)) out=res at *
 cases out with
 |nil =>
  show Y3 Stp.next Stp.exit Stp.fail _ (nc8 r j [])=_;simp only[Y3,nc8,i6,i8,o3 hj (by omega)]
  rw[show (⟨0,((j+1:Nat):Int),0,[]⟩:y5)=nc7 (j+1) [] from rfl,hm,btD (g9 hj)]
  cases res<;>rfl
 |cons o os =>
  show Y4 Stp.next Stp.exit Stp.fail _ (nc8 r j (o::os))=_;simp only[Y4,nc8,i6,i8,o3 hj (by omega)]
  rw[show (⟨1,((j+1:Nat):Int),(o::os).length,bL tX (o::os)⟩:y5)=nc7 (j+1) (o::os) from rfl,hm,btD (g9 hj)]
  cases res<;>rfl
theorem vf0(r:List Pln)(a j:Nat)(out:List Pt)(hj:r.length<=j):P9 ⟨a⟩ (nc8 r j out)=.exit (ph out+1):=by
 unfold P9;have this:¬ ((j:Int)<(r.length:Int)):=by omega
 cases out with
 |nil =>
  show Y3 Stp.next Stp.exit Stp.fail _ (nc8 r j [])=_;simp only[Y3,nc8];rw[bfD this];rfl
 |cons o os =>
  show Y4 Stp.next Stp.exit Stp.fail _ (nc8 r j (o::os))=_;simp only[Y4,nc8];rw[bfD this];rfl
theorem df7 (r : List Pln) (hb : Bds r) (hr : r.length ≤ 200) (a : Nat) (ha : a < r.length) (j : Nat) (out : List Pt) (ho : out.length ≤ 40000 * a) :
  ∃m,lp (P9 ⟨a⟩) (nc8 r j out)=(ph (ab8 r r[a] (r.drop j) out)+1,nc8 r m (ab8 r r[a] (r.drop j) out))/\(ab8 r r[a] (r.drop j) out).length<=40000*(a+1):=by
 have hk:=ab7 (step:=P9 ⟨a⟩) (mk:=nc8 r) (f:=λq l out=>qb5 r r[a] q l out) (g:=λl out=>ab8 r r[a] l out) (fin:=λout=>ph out+1) r (λk o=>o.length<=40000*a+200*(k-j)/\j<=k/\k<=j+r.length) (by omega)
  (λ_=>rfl) (λ_ _ _=>rfl) (λk o hj hi=>⟨df6 r hb hr a k ha o (by omega) hj,by
   have:=Dc5 r r[a] r[k] (r.drop (k+1)) o
   rw[Qid] at this;show (qb5 r r[a] r[k] (r.drop (k+1)) o).length<=40000*a+200*(k+1-j)/\j<=k+1/\k+1<=j+r.length
   omega⟩)
  (λk o hj _=>vf0 r a k o hj) j out (by omega)
 exact⟨_,hk.1,by have:=hk.2;omega⟩
@[reducible] noncomputable def vc0(r:List Pln)(j:Nat)(out:List Pt):E0:=⟨ph out,r,(j:Int),out.length,bL tX out⟩
theorem re3 (r : List Pln) (hb : Bds r) (hr : r.length ≤ 200) (a : Nat) (ha : a < r.length) (out : List Pt) (ho : out.length ≤ 40000 * a) :
  V6 ⟨⟩ (vc0 r a out)=.next (vc0 r (a+1) (ab8 r r[a] (r.drop (a+1)) out))/\(ab8 r r[a] (r.drop (a+1)) out).length<=40000*(a+1):=by
 obtain⟨m,hm,hl⟩:=df7 r hb hr a ha (a+1) out ho;refine⟨?_,hl⟩
 clear hl
 unfold V6;generalize ab8 r r[a] (r.drop (a+1)) out=res at *
 cases out with
 |nil =>
  show Y5 Stp.next Stp.exit Stp.fail _ (vc0 r a [])=_;simp only[Y5,vc0,i6,i8,o3 ha (by omega)]
  rw[show (⟨0,r,((a+1:Nat):Int),0,[]⟩:A3)=nc8 r (a+1) [] from rfl,hm,btD (g9 ha)]
  cases res<;>rfl
 |cons o os =>
  show Y6 Stp.next Stp.exit Stp.fail _ (vc0 r a (o::os))=_;simp only[Y6,vc0,i6,i8,o3 ha (by omega)]
  rw[show (⟨1,r,((a+1:Nat):Int),(o::os).length,bL tX (o::os)⟩:A3)=nc8 r (a+1) (o::os) from rfl,hm,btD (g9 ha)]
  cases res<;>rfl
theorem vf1(r:List Pln)(j:Nat)(out:List Pt)(hj:r.length<=j):V6 ⟨⟩ (vc0 r j out)=.exit (ph out+1):=by
 unfold V6;have this:¬ ((j:Int)<(r.length:Int)):=by omega
 cases out with
 |nil =>
  show Y5 Stp.next Stp.exit Stp.fail _ (vc0 r j [])=_;simp only[Y5,vc0];rw[bfD this];rfl
 |cons o os =>
  show Y6 Stp.next Stp.exit Stp.fail _ (vc0 r j (o::os))=_;simp only[Y6,vc0];rw[bfD this];rfl
theorem df8(r:List Pln)(hb:Bds r)(hr:r.length<=200):∃m,lp (V6 ⟨⟩) (vc0 r 0 [])=(ph (cor r)+1,vc0 r m (cor r))/\(cor r).length<=8000000:=by
 have hk:=ab7 (step:=V6 ⟨⟩) (mk:=vc0 r) (f:=λq l out=>ab8 r q l out) (g:=λl out=>Dc4 r l out) (fin:=λout=>ph out+1) r (λk o=>o.length<=40000*k/\k<=r.length) (by omega)
  (λ_=>rfl) (λ_ _ _=>rfl) (λk o hj hi=>⟨(re3 r hb hr k hj o hi.1).1,(re3 r hb hr k hj o hi.1).2,hj⟩)
  (λk o hj _=>vf1 r k o hj) 0 [] (by simp)
 exact⟨_,hk.1,by have:=hk.2;rw[show max 0 r.length=r.length by omega] at this;have h1:=this.1;show (Dc4 r r []).length<=_;rw[Qia] at h1;omega⟩
noncomputable def slX(l:List Pt):b7×List b8:=match l with
 |[]=>(.v (.slice none 0 0),[])
 |_::_=>(.sl 0 0 l.length 0,[⟨136,4,bL tX l,true,false,0⟩])
theorem Jd5(l:List Pt):(one (r1L tX)).rd (slX l)=some l:=by
 cases l with
 |nil=>rfl
 |cons x l =>
  show Bool.rec (motive:=λ_=>Option (List Pt)) none (some (slR tX (bL tX (x::l)) 0 (x::l).length)) (Bool.and true (okS tX (bL tX (x::l)) 0 (x::l).length))=_
  rw[Rb4,Rb5];rfl
theorem Qc5(r:List Pln)(hb:Bds r)(hr:r.length<=200):Qa3 r=some (slX (cor r)):=by
 obtain⟨m,hm,_⟩:=df8 r hb hr;unfold Qa3;simp only[i6,i8];rw[show (⟨0,r,0,0,[]⟩:E0)=vc0 r 0 [] from rfl,hm]
 cases cor r<;>rfl
theorem Ea6{ρ:Type}(R:RR ρ){x:b7×List b8}{r:ρ}(h:R.rd x=some r):O3 R (some x)=r:=by
 show Option.rec (motive:=λ_=>ρ) R.d (λx=>x) (R.rd x)=r
 rw[h]
theorem Ra5{ρ:Type}(R:RR ρ){x:b7×List b8}{r:ρ}(h:R.rd x=some r):okO R (some x)=true:=by
 show Option.rec (motive:=λ_=>Bool) false (λ_=>true) (R.rd x)=true
 rw[h]
theorem hd4(r:List Pln)(hb:Bds r)(hr:r.length<=200):Qa4 r=cor r:=by unfold Qa4;rw[Qc5 r hb hr];exact Ea6 _ (Jd5 _)
theorem hd5(r:List Pln)(hb:Bds r)(hr:r.length<=200):Qa5 r=true:=by unfold Qa5;rw[Qc5 r hb hr];exact Ra5 _ (Jd5 _)
noncomputable def sd1(x:Pt):List b7:=[i x.px,i x.py,i x.pz,i x.pw,b true]
noncomputable def Xb0(l:List Pt):List (List b7):=l.map sd1
@[reducible] noncomputable def flK:List (Nat×CK):=[(0,.int .i64),(1,.int .i64),(2,.int .i64),(3,.int .i64)]
theorem Xd7(x q:Pt):nc2 flK [i x.px,i x.py,i x.pz,i x.pw] (sd1 q)=eqX x q:=by
 show Bool.and (decide (x.px=q.px)) (Bool.and (decide (x.py=q.py)) (Bool.and (decide (x.pz=q.pz)) (Bool.and (decide (x.pw=q.pw)) true)))=_;unfold eqX;have h:∀a c:Int,decide (a=c)=(c==a):=λa c=>by rw[Bool.eq_iff_iff,decide_eq_true_eq,beq_iff_eq];exact eq_comm
 rw[h,h,h,h]
theorem hd6(x:Pt):∀l,xc9 4 flK [i x.px,i x.py,i x.pz,i x.pw] (Xb0 l)=gc1 l x
 |[]=>rfl
 |q::l=>by
  have ih:=hd6 x l;unfold xc9 at ih ⊢;show Option.rec (motive:=λ_=>Bool) false (λr=>toB (hdA (l0 r 4))) (Bool.rec (motive:=λ_=>Option (List b7)) (Oc7 flK [i x.px,i x.py,i x.pz,i x.pw] (Xb0 l)) (some (sd1 q)) (nc2 flK [i x.px,i x.py,i x.pz,i x.pw] (sd1 q)))=gc1 (q::l) x
  rw[Xd7];unfold gc1 at ih ⊢;rw[List.any_cons];cases eqX x q with
  |true=>rfl
  |false=>exact ih
theorem Ad0(x:Pt):∀l,gc1 l x=false->Hb5 flK [i x.px,i x.py,i x.pz,i x.pw] (sd1 x) (Xb0 l)=Xb0 (l++[x])
 |[],_=>rfl
 |q::l,h=>by
  unfold gc1 at h;rw[List.any_cons,Bool.or_eq_false_iff] at h;show Bool.rec (motive:=λ_=>List (List b7)) (sd1 q::Hb5 flK [i x.px,i x.py,i x.pz,i x.pw] (sd1 x) (Xb0 l)) (sd1 x::Xb0 l) (nc2 flK [i x.px,i x.py,i x.pz,i x.pw] (sd1 q))=_
  rw[Xd7,h.1,Ad0 x l h.2];rfl
@[reducible] noncomputable def nc9(k:Nat)(out:List Pt):l7:=⟨ph out,(k:Int),out.length,bL tX out,Xb0 out⟩
structure C2(P:l6)(r:List Pln)(p q:Pln)(lo:Nat):Prop where
 ns:P.Xe3=(r.drop lo).length
 gs:P.Cb8=λk=>tP.row (gL tP r (lo+k))
 is:P.Qb1=((r.drop lo).length:Int)
 p1:(⟨⟨P.ca8,P.ca9,P.da0⟩,P.da1⟩:Pln)=p
 q1:(⟨⟨P.kb4,P.kb5,P.kb6⟩,P.Wb0⟩:Pln)=q
 r1:P.Na2=r
theorem Jd6(s:Pln):(⟨⟨toI (hdA (tP.row s)),toI (hdA (tlA (tP.row s))),toI (hdA (tlA (tlA (tP.row s))))⟩,toI (hdA (tlA (tlA (tlA (tP.row s)))))⟩:Pln)=s:=rfl
theorem Jd7(s:Pln):((Nat.ble 4 (len (tP.row s)))&&(qa3 [CK.int .i64,CK.int .i64,CK.int .i64,CK.int .i64] (tP.row s)))=true:=rfl
theorem df9 {P : l6} {r : List Pln} {p q : Pln} {lo : Nat} (h : C2 P r p q lo) (hb : Bds r) (hr : r.length ≤ 200) (hp : Bd p) (hq : Bd q) (k : Nat) (out : List Pt) (ho : out.length ≤ 1000000000) (hk : k < (r.drop lo).length) :
  B0 P (nc9 k out)=.next (nc9 (k+1) (Ja6 r p q out (r.drop lo)[k])):=by
 have hwi:∀x,Ea2 r x=inn r x:=λx=>Oe0 r x (by omega)
 have hwg:∀x,Ea3 r x=true:=λx=>Oe1 r x (by omega)
 have hs:gL tP r (lo+k)=(r.drop lo)[k]:=by rw[<- Dc6,Wa0 tP hk]
 have hbs:Bd (r.drop lo)[k]:=hb _ (Qio (Qih hk));have hd:(r.drop lo).length<=200:=by rw[Qid];omega
 have hme:=uf4 hp hq hbs;have hmg:=uf5 hp hq hbs;obtain⟨x1,x2,x3,x4,x5,x6,x7,x8,x9,x10,x11,x12,x13,x14,x15,x16,x17,x18,x19,x20,x21⟩:=P;obtain⟨ns,gs,is,p1,q1,r1⟩:=h
 simp only at ns gs is p1 q1 r1
 have r1:=r1.symm;subst ns gs is r1;unfold B0;cases out with
 |nil =>
  show D2 Stp.next Stp.exit Stp.fail _ (nc9 k [])=_;simp only[D2,nc9,Int.toNat_natCast,i6,p6,p1,q1,hs,Jd6,Jd7,hme,hmg,hwi,hwg,o3 hk (by omega)]
  rw[btD (g9 hk),bt (f7 hk),g8,g8];unfold Ja6;rw[Xd5];cases (mpt p q (r.drop lo)[k]).2 with
  |false=>rfl
  |true =>
   cases inn r (mpt p q (r.drop lo)[k]).1 with
   |false=>rfl
   |true=>rfl
 |cons o os =>
  show D3 Stp.next Stp.exit Stp.fail _ (nc9 k (o::os))=_;simp only[D3,nc9,Int.toNat_natCast,i6,p6,p1,q1,hs,Jd6,Jd7,hme,hmg,hwi,hwg,o3 hk (by omega),hd6]
  rw[btD (g9 hk),bt (f7 hk),g8,g8,Xd6 rfl ho,re2];unfold Ja6;cases (mpt p q (r.drop lo)[k]).2 with
  |false=>rfl
  |true =>
   cases hx:gc1 (o::os) (mpt p q (r.drop lo)[k]).1 with
   |true=>rfl
   |false =>
    cases inn r (mpt p q (r.drop lo)[k]).1 with
    |false=>rfl
    |true =>
     show Stp.next (⟨1,((k+1:Nat):Int),(o::os).length+1,bL tX (o::os++[(mpt p q (r.drop lo)[k]).1]),Hb5 flK [i (mpt p q (r.drop lo)[k]).1.px,i (mpt p q (r.drop lo)[k]).1.py,i (mpt p q (r.drop lo)[k]).1.pz,i (mpt p q (r.drop lo)[k]).1.pw] (sd1 (mpt p q (r.drop lo)[k]).1) (Xb0 (o::os))⟩:l7)=_;rw[Ad0 _ _ hx];simp[ph]
theorem vf2{P:l6}{r:List Pln}{p q:Pln}{lo:Nat}(h:C2 P r p q lo)(k:Nat)(out:List Pt)(hk:(r.drop lo).length<=k):B0 P (nc9 k out)=.exit (ph out+1):=by
 obtain⟨x1,x2,x3,x4,x5,x6,x7,x8,x9,x10,x11,x12,x13,x14,x15,x16,x17,x18,x19,x20,x21⟩:=P;obtain⟨ns,gs,is,p1,q1,r1⟩:=h
 simp only at ns gs is p1 q1 r1
 have r1:=r1.symm;subst ns gs is r1;unfold B0;have this:¬ ((k:Int)<((r.drop lo).length:Int)):=by omega
 cases out with
 |nil =>
  show D2 Stp.next Stp.exit Stp.fail _ (nc9 k [])=_;simp only[D2,nc9];rw[bfD this];rfl
 |cons o os =>
  show D3 Stp.next Stp.exit Stp.fail _ (nc9 k (o::os))=_;simp only[D3,nc9];rw[bfD this];rfl
theorem ef0 {P : l6} {r : List Pln} {p q : Pln} {lo : Nat} (h : C2 P r p q lo) (hb : Bds r) (hr : r.length ≤ 200) (hp : Bd p) (hq : Bd q) (out : List Pt) (ho : out.length ≤ 100000000) :
  ∃m,lp (B0 P) (nc9 0 out)=(ph (qb5 r p q (r.drop lo) out)+1,nc9 m (qb5 r p q (r.drop lo) out)):=by
 have hd:(r.drop lo).length<=200:=by rw[Qid];omega
 exact⟨_,(ab7 (mk:=nc9) (f:=λs _ out=>Ja6 r p q out s) (g:=λl out=>qb5 r p q l out) (fin:=λout=>ph out+1) (r.drop lo) (λj o=>o.length<=out.length+j) (by omega)
  (λ_=>rfl) (λ_ _ _=>rfl) (λj o hj hi=>⟨df9 h hb hr hp hq j o (by omega) hj,by have:=Lc2 r p q o (r.drop lo)[j];show (Ja6 r p q o (r.drop lo)[j]).length<=out.length+(j+1);omega⟩)
  (λj o hj _=>vf2 h j o hj) 0 out (by omega)).1⟩
@[reducible] noncomputable def oc0(r:List Pln)(j:Nat)(out:List Pt):m8:=⟨ph out,r,(j:Int),r,r,out.length,bL tX out,Xb0 out⟩
structure C1(P:l8)(r:List Pln)(p:Pln)(a:Nat):Prop where
 i3:P.is3=(a:Int)
 ns:P.vd5=(r.drop (a+1)).length
 gs:P.Qb0=λk=>tP.row (gL tP r (a+1+k))
 is:P.Oc5=((r.drop (a+1)).length:Int)
 p1:(⟨⟨P.ca8,P.ca9,P.da0⟩,P.da1⟩:Pln)=p
theorem ef1 {P : l8} {r : List Pln} {p : Pln} {a : Nat} (h : C1 P r p a) (hb : Bds r) (hr : r.length ≤ 200) (hp : Bd p) (j : Nat) (out : List Pt) (ho : out.length ≤ 100000000) (hj : j < (r.drop (a + 1)).length) :
  B1 P (oc0 r j out)=.next (oc0 r (j+1) (qb5 r p (r.drop (a+1))[j] ((r.drop (a+1)).drop (j+1)) out)):=by
 have hs:gL tP r (a+1+j)=(r.drop (a+1))[j]:=by rw[<- Dc6,Wa0 tP hj]
 have hbs:Bd (r.drop (a+1))[j]:=hb _ (Qio (Qih hj));have hd:=hj;rw[Qid] at hd;have hW:W (W ((a:Int)+(j:Int))+2)=((a+1+(j+1):Nat):Int):=by rw[xb8,ia4 (by omega) (by omega)];omega
 have hdl:(r.drop (a+1)).length<=4611686018427387904:=by rw[Qid];omega
 have hlo:inB ((a+1+(j+1):Nat):Int) (r.length+1)=true:=f7 (by omega)
 rw[List.drop_drop];generalize hq:(r.drop (a+1))[j]=q at *
 obtain⟨x1,x2,x3,x4,x5,x6,x7,x8,x9,x10⟩:=P;obtain⟨i3,ns,gs,is,p1⟩:=h
 simp only at i3 ns gs is p1
 subst i3 ns gs is;unfold B1;have key:∀(P2:l6),C2 P2 r p q (a+1+(j+1))->_:=λP2 h2=>ef0 h2 hb hr hp hbs out ho
 cases out with
 |nil =>
  show D4 Stp.next Stp.exit Stp.fail _ (oc0 r j [])=_;simp only[D4,oc0,i6,i8,o3 hj hdl,hW,Int.toNat_natCast,hs,Jd7,hlo];rw[show (⟨0,0,0,[],[]⟩:l7)=nc9 0 [] from rfl]
  generalize hP:l6.mk _ _ _ _ _ _ _ _ _ _ _ _ _ _ _ _ _ _ _ _ _=P2;obtain⟨m,hm⟩:=key P2 (by
   subst hP;exact⟨by simp,rfl,by simp,p1,Jd6 q,rfl⟩)
  rw[hm,btD (g9 hj),bt (f7 hj)];cases qb5 r p q (r.drop (a+1+(j+1))) []<;>rfl
 |cons o os =>
  show D5 Stp.next Stp.exit Stp.fail _ (oc0 r j (o::os))=_;simp only[D5,oc0,i6,i8,o3 hj hdl,hW,Int.toNat_natCast,hs,Jd7,hlo];rw[show (⟨1,0,(o::os).length,bL tX (o::os),Xb0 (o::os)⟩:l7)=nc9 0 (o::os) from rfl]
  generalize hP:l6.mk _ _ _ _ _ _ _ _ _ _ _ _ _ _ _ _ _ _ _ _ _=P2;obtain⟨m,hm⟩:=key P2 (by
   subst hP;exact⟨by simp,rfl,by simp,p1,Jd6 q,rfl⟩)
  rw[hm,btD (g9 hj),bt (f7 hj)];cases qb5 r p q (r.drop (a+1+(j+1))) (o::os)<;>rfl
theorem vf3{P:l8}{r:List Pln}{p:Pln}{a:Nat}(h:C1 P r p a)(j:Nat)(out:List Pt)(hj:(r.drop (a+1)).length<=j):B1 P (oc0 r j out)=.exit (ph out+1):=by
 obtain⟨x1,x2,x3,x4,x5,x6,x7,x8,x9,x10⟩:=P;obtain⟨i3,ns,gs,is,p1⟩:=h
 simp only at i3 ns gs is p1
 subst i3 ns gs is;unfold B1;have this:¬ ((j:Int)<((r.drop (a+1)).length:Int)):=by omega
 cases out with
 |nil =>
  show D4 Stp.next Stp.exit Stp.fail _ (oc0 r j [])=_;simp only[D4,oc0];rw[bfD this];rfl
 |cons o os =>
  show D5 Stp.next Stp.exit Stp.fail _ (oc0 r j (o::os))=_;simp only[D5,oc0];rw[bfD this];rfl
theorem ef2 {P : l8} {r : List Pln} {p : Pln} {a : Nat} (h : C1 P r p a) (hb : Bds r) (hr : r.length ≤ 200) (hp : Bd p) (out : List Pt) (ho : out.length ≤ 10000000) :
  ∃m,lp (B1 P) (oc0 r 0 out)=(ph (ab8 r p (r.drop (a+1)) out)+1,oc0 r m (ab8 r p (r.drop (a+1)) out)):=by
 have hd:(r.drop (a+1)).length<=200:=by rw[Qid];omega
 exact⟨_,(ab7 (mk:=oc0 r) (f:=λq l out=>qb5 r p q l out) (g:=λl out=>ab8 r p l out) (fin:=λout=>ph out+1) (r.drop (a+1)) (λk o=>o.length<=out.length+200*k) (by omega)
  (λ_=>rfl) (λ_ _ _=>rfl) (λk o hj hi=>⟨ef1 h hb hr hp k o (by omega) hj,by
   have:=Dc5 r p (r.drop (a+1))[k] ((r.drop (a+1)).drop (k+1)) o
   rw[Qid] at this;show (qb5 r p (r.drop (a+1))[k] ((r.drop (a+1)).drop (k+1)) o).length<=out.length+200*(k+1)
   omega⟩)
  (λk o hj _=>vf3 h k o hj) 0 out (by omega)).1⟩
@[reducible] noncomputable def vc1(r:List Pln)(j:Nat)(out:List Pt):o4:=⟨ph out,r,(j:Int),r,r,out.length,bL tX out,Xb0 out⟩
theorem ef3 {P : v7} (r : List Pln) (h : P.ua0 = (r.length : Int)) (hb : Bds r) (hr : r.length ≤ 200) (a : Nat) (ha : a < r.length) (out : List Pt) (ho : out.length ≤ 40000 * a) :
  B4 P (vc1 r a out)=.next (vc1 r (a+1) (ab8 r r[a] (r.drop (a+1)) out)):=by
 have hbs:Bd r[a]:=hb _ (Qih ha);have hlo:inB ((a+1:Nat):Int) (r.length+1)=true:=f7 (by omega)
 have key:∀(P2:l8),C1 P2 r r[a] a->_:=λP2 h2=>ef2 h2 hb hr hbs out (by omega)
 obtain⟨x1⟩:=P
 simp only at h
 subst h;unfold B4;cases out with
 |nil =>
  show D6 Stp.next Stp.exit Stp.fail _ (vc1 r a [])=_;simp only[D6,vc1,i6,i8,o3 ha (by omega),Int.toNat_natCast,hlo,Wa0 tP ha]
  rw[show (⟨0,r,0,r,r,0,[],[]⟩:m8)=oc0 r 0 [] from rfl]
  generalize hP:l8.mk _ _ _ _ _ _ _ _ _ _=P2;obtain⟨m,hm⟩:=key P2 (by
   subst hP;exact⟨rfl,by simp,rfl,by simp,rfl⟩)
  rw[hm,btD (g9 ha),bt (f7 ha)];cases ab8 r r[a] (r.drop (a+1)) []<;>rfl
 |cons o os =>
  show D7 Stp.next Stp.exit Stp.fail _ (vc1 r a (o::os))=_;simp only[D7,vc1,i6,i8,o3 ha (by omega),Int.toNat_natCast,hlo,Wa0 tP ha]
  rw[show (⟨1,r,0,r,r,(o::os).length,bL tX (o::os),Xb0 (o::os)⟩:m8)=oc0 r 0 (o::os) from rfl]
  generalize hP:l8.mk _ _ _ _ _ _ _ _ _ _=P2;obtain⟨m,hm⟩:=key P2 (by
   subst hP;exact⟨rfl,by simp,rfl,by simp,rfl⟩)
  rw[hm,btD (g9 ha),bt (f7 ha)];cases ab8 r r[a] (r.drop (a+1)) (o::os)<;>rfl
theorem vf4{P:v7}(r:List Pln)(h:P.ua0=(r.length:Int))(j:Nat)(out:List Pt)(hj:r.length<=j):B4 P (vc1 r j out)=.exit (ph out+1):=by
 obtain⟨x1⟩:=P
 simp only at h
 subst h;unfold B4;have this:¬ ((j:Int)<(r.length:Int)):=by omega
 cases out with
 |nil =>
  show D6 Stp.next Stp.exit Stp.fail _ (vc1 r j [])=_;simp only[D6,vc1];rw[bfD this];rfl
 |cons o os =>
  show D7 Stp.next Stp.exit Stp.fail _ (vc1 r j (o::os))=_;simp only[D7,vc1];rw[bfD this];rfl
theorem ef4(r:List Pln)(hb:Bds r)(hr:r.length<=200):∃m,lp (B4 ⟨(r.length:Int)⟩) (vc1 r 0 [])=(ph (cor r)+1,vc1 r m (cor r)) :=
 ⟨_,(ab7 (step:=B4 ⟨(r.length:Int)⟩) (mk:=vc1 r) (f:=λq l out=>ab8 r q l out) (g:=λl out=>Dc4 r l out) (fin:=λout=>ph out+1) r (λk o=>o.length<=40000*k) (by omega)
  (λ_=>rfl) (λ_ _ _=>rfl) (λk o hj hi=>⟨ef3 r rfl hb hr k hj o hi,by
   have h1:=gd9 r r[k] (r.drop (k+1)) o (by rw[Qid];omega)
   rw[Qid] at h1;show (ab8 r r[k] (r.drop (k+1)) o).length<=40000*(k+1)
   omega⟩)
  (λk o hj _=>vf4 r rfl k o hj) 0 [] (by simp)).1⟩
theorem hd7(r:List Pln)(hb:Bds r)(hr:r.length<=200):da2 r=some (slX (cor r)):=by
 obtain⟨m,hm⟩:=ef4 r hb hr;unfold da2;simp only[i6,i8];rw[show (⟨0,r,0,r,r,0,[],[]⟩:o4)=vc1 r 0 [] from rfl,hm]
 cases cor r<;>rfl
theorem Ad1(r:List Pln)(hb:Bds r)(hr:r.length<=200):da3 r=cor r:=by unfold da3;rw[hd7 r hb hr];exact Ea6 _ (Jd5 _)
theorem Ad2(r:List Pln)(hb:Bds r)(hr:r.length<=200):da4 r=true:=by unfold da4;rw[hd7 r hb hr];exact Ra5 _ (Jd5 _)
noncomputable def slP(l:List Pln):b7×List b8:=(.sl 0 0 l.length 0,[⟨73,4,bL tP l,true,false,0⟩])
theorem vc2(l:List Pln):(one (r1L tP)).rd (slP l)=some l:=by
 show Bool.rec (motive:=λ_=>Option (List Pln)) none (some (slR tP (bL tP l) 0 l.length)) (Bool.and true (okS tP (bL tP l) 0 l.length))=_
 rw[Rb4,Rb5];rfl
theorem qc3{α:Type}(t:Ty α)(l:List α):(one (r1L t)).rd (eL t l,[])=some l:=by
 show Bool.rec (motive:=λ_=>Option (List α)) none (some (rt t l)) (Bool.and (Nat.beq t.es t.es) (okE t l))=_
 rw[i6,p6,Qik];rfl
noncomputable def ws:List Pln:=[⟨⟨1,0,0⟩,24⟩,⟨⟨-1,0,0⟩,24⟩,⟨⟨0,1,0⟩,24⟩,⟨⟨0,-1,0⟩,24⟩,⟨⟨0,0,1⟩,24⟩,⟨⟨0,0,-1⟩,24⟩]
theorem of6:Bds ws:=by
 intro p hp
 have:okp p=true:=by
  have h:ws.all okp=true:=by decide
  exact Qit.1 h p hp
 exact uc9 this
noncomputable def sd2(lo hi:V3):List Pln:=[⟨⟨1,0,0⟩,hi.x⟩,⟨⟨-1,0,0⟩,W (0-lo.x)⟩,⟨⟨0,1,0⟩,hi.y⟩,⟨⟨0,-1,0⟩,W (0-lo.y)⟩,⟨⟨0,0,1⟩,hi.z⟩,⟨⟨0,0,-1⟩,W (0-lo.z)⟩]
theorem Oe5(lo hi:V3):mc1 lo hi=some (slP (sd2 lo hi)):=rfl
theorem of7(lo hi:V3):Mb6 lo hi=sd2 lo hi:=by unfold Mb6;rw[Oe5];exact Ea6 _ (vc2 _)
theorem of8(lo hi:V3):Mb7 lo hi=true:=by unfold Mb7;rw[Oe5];exact Ra5 _ (vc2 _)
theorem vf5:sd2 ⟨-24,-24,-24⟩ ⟨24,24,24⟩=ws:=by
 simp only[sd2,ws];rw[show W (0 - -24)=24 from by rw[Je1];rfl]
theorem ef5{l:List Pln}:Nat.beq (len (bL tP l)) 0=l.isEmpty:=by rw[P6];cases l<;>rfl
theorem Oe6(c:List Pln)(hc:c.length<=1000000000):Mb8 c=some (slP (c++ws)):=by
 unfold Mb8;simp only[xb7,of7,of8,vf5,ef5];have h6:(0+len (bL tP c))=c.length:=by rw[P6];omega
 have hw:len (bL tP ws)=6:=rfl;rw[h6,hw];have e1:Nat.ble (c.length*32) room=true:=ea6 (by omega)
 have e2:Nat.ble ((c.length+6)*32) room=true:=ea6 (by omega)
 have e3:app (app [] (bL tP c)) (bL tP ws)=bL tP (c++ws):=Ua7 tP c ws;have e4:Nat.beq c.length (len (app [] (bL tP c)))=true:=by
  rw[show app [] (bL tP c)=bL tP c from rfl,P6,Qik]
 rw[e1,e2,e3,e4];cases c with
 |nil=>rfl
 |cons p c =>
  show some (b7.sl 0 0 ((p::c).length+6) 0,[(⟨73,4,bL tP (p::c++ws),true,false,0⟩:b8)])=_;unfold slP;rw[Qib];rfl
theorem of9(c:List Pln)(hc:c.length<=1000000000):Mb9 c=c++ws:=by unfold Mb9;rw[Oe6 c hc];exact Ea6 _ (vc2 _)
theorem pf0(c:List Pln)(hc:c.length<=1000000000):Nb0 c=true:=by unfold Nb0;rw[Oe6 c hc];exact Ra5 _ (vc2 _)
theorem Oe7{l:List (List Pln)}{j:Nat}(h:j<l.length):gL (tLs tP) l j=l[j]:=Wa0 (tLs tP) h
theorem Xd8(ls:List (List Pln))(hn:ls.length<=1000000000)(hl:ls.flatten.length<=1000000000):∃m,lp (L9 ⟨ls,ls,(ls.length:Int)⟩) ⟨0,0⟩=(1,⟨(ls.flatten.length:Int),m⟩):=by
 have h:=ab7 (step:=L9 ⟨ls,ls,(ls.length:Int)⟩) (mk:=λj (n:Nat)=>(⟨(n:Int),(j:Int)⟩:v8)) (f:=λl _ n=>n+l.length) (g:=λl n=>n+l.flatten.length) (fin:=λ_=>1) ls
  (λj n=>n+(ls.drop j).flatten.length=ls.flatten.length) hn (λ_=>rfl) (λx r a=>by simp only[List.flatten_cons,Qib];omega)
  (λj n hj hi=>by
   rw[Qim hj,List.flatten_cons,Qib] at hi;have hW:W ((n:Int)+(ls[j].length:Int))=((n+ls[j].length:Nat):Int):=by rw[ia4 (by omega) (by omega)];omega
   refine⟨?_,by show n+ls[j].length+(ls.drop (j+1)).flatten.length=_;omega⟩
   simp only[L9,R7,Int.toNat_natCast,Oe7 hj,hW,o3 hj (by omega)]
   rw[btD (g9 hj),bt (f7 hj),bfD (by omega)])
  (λj n hj _=>by
   simp only[L9,R7];rw[bfD (by omega)]) 0 0 (by simp)
 have h:=h.1;rw[Qia,Qij] at h;exact⟨_,h⟩
theorem Oe8{ls:List (List Pln)}(h:ls.flatten=[]){j:Nat}(hj:j<ls.length):ls[j]=[]:=by
 rw[List.flatten_eq_nil_iff] at h;exact h _ (Qih hj)
theorem re4(ls:List (List Pln))(hn:ls.length<=1000000000)(hl:ls.flatten=[]):∃s,lp (F6 ⟨ls,(ls.length:Int)⟩) ⟨0,0,0,[]⟩=(1,s):=by
 have h:=ab7 (step:=F6 ⟨ls,(ls.length:Int)⟩) (mk:=λj (_:Unit)=>(⟨0,(j:Int),0,[]⟩:n9)) (f:=λ_ _ n=>n) (g:=λ_ n=>n) (fin:=λ_=>1) ls
  (λ_ _=>True) hn (λ_=>rfl) (λx r a=>rfl)
  (λj n hj hi=>by
   refine⟨?_,trivial⟩;show D8 Stp.next Stp.exit Stp.fail _ _=_;simp only[D8,Int.toNat_natCast,Oe7 hj,Oe8 hl hj,o3 hj (by omega)]
   rw[btD (g9 hj),bt (f7 hj)]
   rfl)
  (λj n hj _=>by
   show D8 Stp.next Stp.exit Stp.fail _ _=_;simp only[D8];rw[bfD (by omega)]) 0 () trivial
 exact⟨_,h.1⟩
noncomputable def Jb9(t:Nat)(d:List Pln):List (List b7):=app (bL tP d) (List.replicate (t-d.length) Id9)
theorem Oe9(t:Nat)(d:List Pln)(h:d.length<=t):len (Jb9 t d)=t:=by
 unfold Jb9;rw[H6,o0,Qib,<- o0,P6,List.length_replicate];omega
theorem Pe0(t:Nat)(d l:List Pln)(h:d.length+l.length<=t):app (K1 (Jb9 t d) d.length) (app (bL tP l) (l0 (Jb9 t d) (d.length+len (bL tP l))))=Jb9 t (d++l):=by
 have hd:(bL tP d).length=d.length:=by rw[<- o0,P6]
 unfold Jb9;rw[P6,<- Ua7];simp only[H6,M8,M9];rw[List.take_left' hd,Qir];congr 2;rw[List.drop_append,Qiv (by omega),List.nil_append,hd,List.drop_replicate,Qib]
 congr 1;omega
theorem Xd9(ls:List (List Pln))(hn:ls.length<=1000000000):∃m,lp (F6 ⟨ls,(ls.length:Int)⟩) ⟨1,0,0,List.replicate ls.flatten.length Id9⟩=(2,⟨1,m,ls.flatten.length,bL tP ls.flatten⟩):=by
 have h:=ab7 (step:=F6 ⟨ls,(ls.length:Int)⟩) (mk:=λj (d:List Pln)=>(⟨1,(j:Int),d.length,Jb9 ls.flatten.length d⟩:n9)) (f:=λl _ d=>d++l) (g:=λl d=>d++l.flatten) (fin:=λ_=>2) ls
  (λj d=>d.length+(ls.drop j).flatten.length=ls.flatten.length) hn (λ_=>by simp) (λx r a=>by simp)
  (λj d hj hi=>by
   rw[Qim hj,List.flatten_cons,Qib] at hi;refine⟨?_,by show (d++ls[j]).length+(ls.drop (j+1)).flatten.length=_;rw[Qib];omega⟩
   show D9 Stp.next Stp.exit Stp.fail _ _=_;simp only[D9,Int.toNat_natCast,Oe7 hj,o3 hj (by omega),xb7]
   rw[Pe0 _ _ _ (by omega),Oe9 _ _ (by omega),P6,btD (g9 hj),bt (f7 hj),bt (by rw[Nat.ble_eq];omega),Qib])
  (λj d hj _=>by
   show D9 Stp.next Stp.exit Stp.fail _ _=_;simp only[D9];rw[bfD (by omega)]) 0 [] (by simp)
 have h:=h.1;rw[Qia,List.nil_append] at h;have e:Jb9 ls.flatten.length ls.flatten=bL tP ls.flatten:=by unfold Jb9;rw[Nat.sub_self,H6];simp
 rw[e] at h;exact⟨_,h⟩
theorem pf1(ls:List (List Pln))(hn:ls.length<=1000000000)(hl:ls.flatten.length<=1000000000):Nb8 ls=some (slP (ls.flatten++ws)):=by
 have hc:w7 ls=if ls.flatten=[] then ⟨1,0,[]⟩ else ⟨2,ls.flatten.length,bL tP ls.flatten⟩:=by
  unfold w7 M6;simp only[i6,i8];obtain⟨m,hm⟩:=Xd8 ls hn hl;rw[hm];by_cases h0:ls.flatten=[]
  ·obtain⟨s,hs⟩:=re4 ls hn h0;rw[if_pos h0,hs];rw[show (⟨(ls.flatten.length:Int),m⟩:v8)=⟨0,m⟩ by rw[h0];rfl]
   rfl
  ·obtain⟨m',hm'⟩:=Xd9 ls hn;rw[if_neg h0];simp only[Int.toNat_natCast];rw[hm'];have h1:0<ls.flatten.length:=List.length_pos_iff.2 h0;have e1:((ls.flatten.length:Int)==0)=false:=by rw[beq_eq_false_iff_ne];omega
   have e2:Bool.and (decide ((0:Int)<(ls.flatten.length:Int))) (Nat.ble (ls.flatten.length*32) room)=true:=by
    rw[ea6 (by omega),decide_eq_true (by omega)]
    rfl
   rw[e1,e2];rfl
 unfold Nb8;simp only[i6,p6,hc];by_cases h0:ls.flatten=[]
 ·rw[if_pos h0,h0];rfl
 ·rw[if_neg h0];generalize ls.flatten=c at *
  have e:∀(d:List Pln) (p:Pln),app (bL tP d) [[i p.n.x,i p.n.y,i p.n.z,i p.b]]=bL tP (d++[p]):=λd p=>Ua7 tP d [p]
  have c1:=e c ⟨⟨1,0,0⟩,24⟩;have c2:=e (c++[⟨⟨1,0,0⟩,24⟩]) ⟨⟨-1,0,0⟩,24⟩;have c3:=e (c++[⟨⟨1,0,0⟩,24⟩]++[⟨⟨-1,0,0⟩,24⟩]) ⟨⟨0,1,0⟩,24⟩;have c4:=e (c++[⟨⟨1,0,0⟩,24⟩]++[⟨⟨-1,0,0⟩,24⟩]++[⟨⟨0,1,0⟩,24⟩]) ⟨⟨0,-1,0⟩,24⟩;have c5:=e (c++[⟨⟨1,0,0⟩,24⟩]++[⟨⟨-1,0,0⟩,24⟩]++[⟨⟨0,1,0⟩,24⟩]++[⟨⟨0,-1,0⟩,24⟩]) ⟨⟨0,0,1⟩,24⟩;have c6:=e (c++[⟨⟨1,0,0⟩,24⟩]++[⟨⟨-1,0,0⟩,24⟩]++[⟨⟨0,1,0⟩,24⟩]++[⟨⟨0,-1,0⟩,24⟩]++[⟨⟨0,0,1⟩,24⟩]) ⟨⟨0,0,-1⟩,24⟩
  simp only at c1 c2 c3 c4 c5 c6
  simp only[c1,c2,c3,c4,c5,c6,P6,Qib,List.length_singleton];have g:∀n:Nat,n<=1000000010->(Nat.beq n n&&Nat.ble ((n+1)*32) room)=true:=λn h=>by rw[Qik,ea6 (by omega)];rfl
  rw[g _ (by omega),g _ (by omega),g _ (by omega),g _ (by omega),g _ (by omega),g _ (by omega)]
  show some (b7.sl 0 0 (c.length+1+1+1+1+1+1) 0,[(⟨73,4,bL tP _,true,false,0⟩:b8)])=_;unfold slP;rw[Qib];simp only[Qir];rfl
theorem Hf3(ls:List (List Pln))(hn:ls.length<=1000000000)(hl:ls.flatten.length<=1000000000):gb4 ls=ls.flatten++ws:=by unfold gb4;rw[pf1 ls hn hl];exact Ea6 _ (vc2 _)
theorem Hf4(ls:List (List Pln))(hn:ls.length<=1000000000)(hl:ls.flatten.length<=1000000000):gb5 ls=true:=by unfold gb5;rw[pf1 ls hn hl];exact Ra5 _ (vc2 _)
theorem pf2(c:List Pln)(hc:c.length<=1000000000):gb4 [c]=c++ws:=by
 have:[c].flatten=c:=by simp
 rw[Hf3 [c] (by simp) (by rw[this];exact hc),this]
theorem pf7(c:List Pln)(hc:c.length<=1000000000):gb5 [c]=true:=by
 have:[c].flatten=c:=by simp
 exact Hf4 [c] (by simp) (by rw[this];exact hc)
theorem Ad3(ls:List (List Pln))(hn:ls.length<=1000000000)(hl:∀c∈ls,c.length<=1000000000):ab4 ls=some (b (ls.all λc=>chk c==0),[]):=by
 have hv:∀c∈ls,ab1 c=!(chk c==0)/\ab2 c=true:=λc hc=>by
  have:Ja1 c=some (b (!(chk c==0)),[]):=by
   unfold Ja1;simp only[i6,p6,Yc4 c (hl c hc),Jd3 c (hl c hc)];rfl
  unfold ab1 ab2;rw[this];exact⟨rfl,rfl⟩
 have h:=Ta1 (step:=K4 ⟨ls,(ls.length:Int)⟩) (mk:=λj=>(⟨(j:Int)⟩:q9)) (c:=λc=>!(chk c==0)) (u:=1) (fin:=2) (tLs tP) ls hn
  (λj hj=>by
   have hm:=hv _ (Fa3 (tLs tP) hj);simp only[K4,H9,Int.toNat_natCast,i6,p6,hm.1,hm.2,o3 hj (by omega)]
   rw[btD (g9 hj),bt (f7 hj),g8,g8])
  (by simp only[K4,H9];rw[bfD (m9 (Qic _))]) 0 (Qie _)
 rw[Qia] at h;have e:(ls.any λc=>!(chk c==0))=!ls.all λc=>chk c==0:=by rw[Qii]
 unfold ab4 ia7 E3 qa6 J0;simp only[i6,i8];rw[show (⟨0⟩:q9)=⟨((0:Nat):Int)⟩ from rfl,h,e]
 cases ls.all λc=>chk c==0 with
 |true=>rfl
 |false =>
  simp only[Qiw,if_true,Qij];show sl true (sl (Nat.beq 1 1) (some (b (!(decide (((ls.findIdx λc=>!(chk c==0):Nat):Int)>=0))),[])) _) _=_
  rw[show decide (((ls.findIdx λc=>!(chk c==0):Nat):Int)>=0)=true from decide_eq_true (by omega)]
  rfl
theorem Yd0(ls:List (List Pln))(hn:ls.length<=1000000000)(hl:∀c∈ls,c.length<=1000000000):za9 ls=ls.all λc=>chk c==0:=by unfold za9;rw[Ad3 ls hn hl];rfl
theorem Yd1(ls:List (List Pln))(hn:ls.length<=1000000000)(hl:∀c∈ls,c.length<=1000000000):Aa0 ls=true:=by unfold Aa0;rw[Ad3 ls hn hl];rfl
theorem Yd2(c:List Pln)(hc:c.length<=1000000000):za9 [c]=(chk c==0):=by
 rw[Yd0 [c] (by simp) (by simpa using hc)]
 simp
theorem Yd3(c:List Pln)(hc:c.length<=1000000000):Aa0 [c]=true:=Yd1 [c] (by simp) (by simpa using hc)
noncomputable def pos(X:List Pt)(p:Pln):Bool:=X.any λx=>decide (rm p x>0)
noncomputable def Uc8(r:List Pln):Bool:=r.all (pos (cor r))
theorem Pe1(p:Pln)(X:List Pt)(hX:X.length<=1000000000):sa9 ⟨p.n.x,p.n.y,p.n.z,p.b,X⟩=⟨1,!pos X p⟩:=by
 have hw:∀x:Pt,Aa1 ⟨x.px,x.py,x.pz,x.pw,p.n.x,p.n.y,p.n.z,p.b⟩=⟨decide (rm p x>0)⟩:=λx=>by
  show Y8.mk (decide (ya8 p x>0))=_;rw[Jd1]
 have h:=Ta1 (step:=N5 ⟨X,(X.length:Int),p.n.x,p.n.y,p.n.z,p.b⟩) (mk:=λj=>(⟨(j:Int)⟩:s6)) (c:=λx=>decide (rm p x>0)) (u:=1) (fin:=2) tX X hX
  (λj hj=>by
   simp only[N5,K5,Int.toNat_natCast,hw,o3 hj (by omega)]
   rw[btD (g9 hj),bt (f7 hj)])
  (by simp only[N5,K5];rw[bfD (m9 (Qic _))]) 0 (Qie _)
 rw[Qia] at h;unfold sa9 V8 ka8 F9 ua3 M1 pos;simp only[i6,i8];rw[show (⟨0⟩:s6)=⟨((0:Nat):Int)⟩ from rfl,h]
 cases X.any λx=>decide (rm p x>0) with
 |false=>rfl
 |true =>
  simp only[if_true,Qij];show ga4.mk 1 (!(decide (((X.findIdx λx=>decide (rm p x>0):Nat):Int)>=0)))=_
  rw[show decide (((X.findIdx λx=>decide (rm p x>0):Nat):Int)>=0)=true from decide_eq_true (by omega)]
theorem re5(r:List Pln)(hb:Bds r)(hr:r.length<=200):oa0 r=some (b (Uc8 r),[]):=by
 have hX:(cor r).length<=1000000000:=Qiy (Jd4 r hb hr) (by omega)
 have h:=Ta1 (step:=K6 ⟨r,(r.length:Int)⟩) (mk:=λj=>(⟨(j:Int),cor r⟩:r6)) (c:=λp=>!pos (cor r) p) (u:=1) (fin:=2) tP r (by omega)
  (λj hj=>by
   simp only[K6,I0,Int.toNat_natCast,i6,i8,Pe1 _ _ hX,o3 hj (by omega)]
   rw[btD (g9 hj),bt (f7 hj)]
   rfl)
  (by simp only[K6,I0];rw[bfD (m9 (Qic _))]) 0 (Qie _)
 rw[Qia] at h;have e:(r.any λp=>!pos (cor r) p)=!r.all (pos (cor r)):=by rw[Qii]
 unfold oa0 ia9 E4 qa8 J1 Uc8;simp only[i6,i8,p6,Ad1 r hb hr,Ad2 r hb hr];rw[show (⟨0,cor r⟩:r6)=⟨((0:Nat):Int),cor r⟩ from rfl,h,e]
 cases r.all (pos (cor r)) with
 |true=>rfl
 |false =>
  simp only[Qiw,if_true,Qij];show some (b (!(decide (((r.findIdx λp=>!pos (cor r) p:Nat):Int)>=0))),[])=_
  rw[show decide (((r.findIdx λp=>!pos (cor r) p:Nat):Int)>=0)=true from decide_eq_true (by omega)]
  rfl
theorem Pe2(r:List Pln)(hb:Bds r)(hr:r.length<=200):oa1 r=Uc8 r:=by unfold oa1;rw[re5 r hb hr];rfl
theorem Pe3(r:List Pln)(hb:Bds r)(hr:r.length<=200):oa2 r=true:=by unfold oa2;rw[re5 r hb hr];rfl
theorem le0(r:List Pln)(X:List Pt)(hr:r.length<=200)(hX:X.length<=1000000000)(a:Nat)(ha:a<r.length):∃m,lp (Ea0 ⟨r,X,(a:Int)⟩) ⟨false,0⟩=(1,⟨pos X r[a],m⟩):=by
 have h:=Ac6 (step:=Ea0 ⟨r,X,(a:Int)⟩) (mk:=λj (c:Bool)=>(⟨c,(j:Int)⟩:sa1)) (f:=λc x=>c||decide (rm r[a] x>0)) (fin:=1) tX X (λ_ _=>True) hX
  (λj c hj _=>⟨by
   simp only[Ea0,Ia1,Int.toNat_natCast,Yc2,o3 hj (by omega),Wa0 tP ha,f7 ha,f7 hj]
   rw[btD (g9 hj)];cases c<;>rfl,trivial⟩)
  (λc _=>by simp only[Ea0,Ia1];rw[bfD (m9 (Qic _))]) 0 (Qie _) false trivial
 have h:=h.1;rw[Qia] at h;have e:∀(l:List Pt) (c:Bool),l.foldl (λc x=>c||decide (rm r[a] x>0)) c=(c||l.any λx=>decide (rm r[a] x>0)):=by
  intro l
  induction l with
  |nil=>intro c;simp
  |cons x l ih=>intro c;rw[List.foldl_cons,ih,List.any_cons,Bool.or_assoc]
 rw[e,Bool.false_or] at h;exact⟨_,h⟩
theorem re6(r:List Pln)(hb:Bds r)(hr:r.length<=200):zb1 r=some (b (Uc8 r),[]):=by
 have hX:(cor r).length<=1000000000:=Qiy (Jd4 r hb hr) (by omega)
 have h:=fb6 (step:=Qa7 ⟨⟩) (mk:=λj=>(⟨r,cor r,(j:Int)⟩:ka2)) (c:=λp=>!pos (cor r) p) (u:=1) (fin:=2) tP r (by omega)
  (λj hj=>by
   obtain⟨m,hm⟩:=le0 r (cor r) hr hX j hj;simp only[Qa7,Ia2,i6,i8,hm,o3 hj (by omega),Wa0 tP hj]
   rw[btD (g9 hj)]
   rfl)
  (by simp only[Qa7,Ia2];rw[bfD (m9 (Qic _))]) 0 (Qie _)
 rw[Qia] at h;have e:(r.any λp=>!pos (cor r) p)=!r.all (pos (cor r)):=by rw[Qii]
 unfold zb1 Uc8;simp only[i6,i8,p6,hd4 r hb hr,hd5 r hb hr];rw[show (⟨r,cor r,0⟩:ka2)=⟨r,cor r,((0:Nat):Int)⟩ from rfl,h,e]
 cases r.all (pos (cor r))<;>rfl
theorem vf6(r:List Pln)(hb:Bds r)(hr:r.length<=200):Sb6 r=Uc8 r:=by unfold Sb6;rw[re6 r hb hr];rfl
theorem vf7(r:List Pln)(hb:Bds r)(hr:r.length<=200):Sb7 r=true:=by unfold Sb7;rw[re6 r hb hr];rfl
theorem jb5{c:List Pln}(h:(chk c==0)=true):Bds (c++ws)/\(c++ws).length<=200:=by
 rw[beq_iff_eq,Ja5] at h;refine⟨λp hp=>?_,by rw[Qib,show ws.length=6 from rfl];omega⟩
 rcases Qiu.1 hp with hp|hp
 ·exact uc9 (h.2 p hp)
 ·exact of6 p hp
noncomputable def pts(c:List Pln):List Pt:=if chk c==0 then cor (c++ws) else []
noncomputable def ful(c:List Pln):Bool:=(chk c==0)&&Uc8 (c++ws)
theorem Yd4{c:List Pln}(hc:c.length<=1000000000):∃x,Ra4 c=some x/\(one (r1L tX)).rd x=some (pts c):=by
 unfold Ra4 pts;simp only[i6,p6,Yd2 c hc,Yd3 c hc,pf2 c hc,pf7 c hc];cases h:chk c==0 with
 |false=>exact⟨_,rfl,rfl⟩
 |true =>
  obtain⟨h1,h2⟩:=jb5 h;rw[Ad1 _ h1 h2,Ad2 _ h1 h2];exact⟨_,rfl,qc3 tX _⟩
theorem hd8{c:List Pln}(hc:c.length<=1000000000):Ea4 c=pts c:=by
 obtain⟨x,h1,h2⟩:=Yd4 hc;unfold Ea4;rw[h1];exact Ea6 _ h2
theorem hd9{c:List Pln}(hc:c.length<=1000000000):Ea5 c=true:=by
 obtain⟨x,h1,h2⟩:=Yd4 hc;unfold Ea5;rw[h1];exact Ra5 _ h2
theorem Ad4{c:List Pln}(hc:c.length<=1000000000):∃x,Za0 c=some x/\(one (r1L tX)).rd x=some (pts c):=by
 unfold Za0 pts;simp only[i6,p6,Xd2 c hc,Xd3 c hc,of9 c hc,pf0 c hc];have e:(chk c != 0)=!(chk c==0):=rfl;rw[e];cases h:chk c==0 with
 |false=>exact⟨_,rfl,rfl⟩
 |true =>
  obtain⟨h1,h2⟩:=jb5 h;rw[hd4 _ h1 h2,hd5 _ h1 h2];exact⟨_,rfl,qc3 tX _⟩
theorem Be6{c:List Pln}(hc:c.length<=1000000000):tb0 c=pts c:=by
 obtain⟨x,h1,h2⟩:=Ad4 hc;unfold tb0;rw[h1];exact Ea6 _ h2
theorem Be7{c:List Pln}(hc:c.length<=1000000000):tb1 c=true:=by
 obtain⟨x,h1,h2⟩:=Ad4 hc;unfold tb1;rw[h1];exact Ra5 _ h2
theorem re7{c:List Pln}(hc:c.length<=1000000000):nb2 c=some (b (ful c),[]):=by
 unfold nb2 ful;simp only[i6,p6,Yd2 c hc,Yd3 c hc,pf2 c hc,pf7 c hc];cases h:chk c==0 with
 |false=>rfl
 |true =>
  obtain⟨h1,h2⟩:=jb5 h;rw[Pe2 _ h1 h2,Pe3 _ h1 h2];rfl
theorem id1{c:List Pln}(hc:c.length<=1000000000):ya9 c=ful c:=by unfold ya9;rw[re7 hc];rfl
theorem id3{c:List Pln}(hc:c.length<=1000000000):za0 c=true:=by unfold za0;rw[re7 hc];rfl
theorem Yd5{c:List Pln}(hc:c.length<=1000000000):zb2 c=some (b (ful c),[]):=by
 unfold zb2 ful;simp only[i6,p6,Xd2 c hc,Xd3 c hc,of9 c hc,pf0 c hc];cases h:chk c==0 with
 |false=>rfl
 |true =>
  obtain⟨h1,h2⟩:=jb5 h;rw[vf6 _ h1 h2,vf7 _ h1 h2];rfl
theorem re8{c:List Pln}(hc:c.length<=1000000000):fb7 c=ful c:=by unfold fb7;rw[Yd5 hc];rfl
theorem re9{c:List Pln}(hc:c.length<=1000000000):fb8 c=true:=by unfold fb8;rw[Yd5 hc];rfl
set_option maxRecDepth 100000
structure Ta5 where
 is1:Int
 n5:List Int
 d8:Int
noncomputable def Lc3:List (Nat×Sum):=[(27,Kc4)]
theorem Dc7:i9 prog G Lc3:=⟨fd1,trivial⟩
structure Ta6 where
 alt:Nat
 (is0 d8:Int)
noncomputable def ra4{α:Type}(kk:Ta6->α)(x:Ta5):α:=let t1:=(Nb2 (gL tI x.n5 (W ((W (x.d8+1))-1)).toNat) x.is1);(sl (decide (x.d8>=(↑(List.length x.n5):Int))) (kk ⟨1,0,x.d8⟩) (sl (inB (W ((W (x.d8+1))-1)) (List.length x.n5)) (sl (Nb3 (gL tI x.n5 (W ((W (x.d8+1))-1)).toNat) x.is1) (kk ⟨1,t1,W (x.d8+1)⟩) (kk ⟨0,0,0⟩)) (kk ⟨0,0,0⟩)))
noncomputable def o6(x:Ta5):Ta6:=ra4 (λr=>r) x
noncomputable def gb8(x:Ta5)(r:Ta6):DT (b7×List b8):=(.ite (Nat.beq r.alt 1) (.ret (i r.is0,[⟨0,2,[[eL tI x.n5,i r.d8]],true,false,0⟩])) .fail)
theorem Uc9{α β:Type}(F:α->β)(kk:Ta6->α)(x:Ta5):F (ra4 kk x)=ra4 (λr=>F (kk r)) x:=by unfold ra4;(repeat' apply m0 (f:=F))<;>rfl
noncomputable def Ca5:Sum:=Ya5 ⟨[sPq 0,sIq],[⟨0,2,true,some [[.c 1 (nL tI),.o (.int .i64)]]⟩],λa H=>(⟨aIq a 1,hLq tI H 0 0 0,hIq H 0 0 1⟩,())⟩ (λx=>gb8 x (o6 x))
theorem Ma3:i5 prog G 68 Ca5:=O5 (enc:=λx=>⟨[.ptr 0 0 0 0,i x.is1],[⟨0,2,[[eL tI x.n5,i x.d8]],true,false,0⟩]⟩) (λa H=>by kernel_rfl) (bd b68 Dc7) λx=>y8 (Eq.trans (b:=ra4 (λr=>(gb8 x r).run) x) (by kernel_rfl) (Uc9 (λr=>(gb8 x r).run) (λr=>r) x).symm)
structure mc3 where
 is1:Int
 n5:List Int
 d8:Int
noncomputable def le1:List (Nat×Sum):=[(68,Ca5)]
theorem Yd6:i9 prog G le1:=⟨Ma3,trivial⟩
structure mc4 where
 alt:Nat
 (Da5 Da6 Da7:Int)
 n5:List Int
 d8:Int
noncomputable def wb0{α:Type}(kk:mc4->α)(x:mc3):α:=let t1:=(o6 ⟨W ((W (2*x.is1))+1),rt tI x.n5,x.d8⟩);let t2:=(o6 ⟨W ((W (2*x.is1))+1),rt tI (rt tI x.n5),t1.d8⟩);let t3:=(o6 ⟨W ((W (2*x.is1))+1),rt tI (rt tI (rt tI x.n5)),t2.d8⟩);(sl ((cnE tI x.n5)&&true) (sl (Nat.beq t1.alt 1) (sl ((cnE tI (rt tI x.n5))&&true) (sl (Nat.beq t2.alt 1) (sl ((cnE tI (rt tI (rt tI x.n5)))&&true) (sl (Nat.beq t3.alt 1) (kk ⟨1,W (t1.is0-x.is1),W (t2.is0-x.is1),W (t3.is0-x.is1),rt tI (rt tI (rt tI x.n5)),t3.d8⟩) (kk ⟨0,0,0,0,[],0⟩)) (kk ⟨0,0,0,0,[],0⟩)) (kk ⟨0,0,0,0,[],0⟩)) (kk ⟨0,0,0,0,[],0⟩)) (kk ⟨0,0,0,0,[],0⟩)) (kk ⟨0,0,0,0,[],0⟩))
noncomputable def gb9(x:mc3):mc4:=wb0 (λr=>r) x
noncomputable def vc3(x:mc3)(r:mc4):DT (b7×List b8):=(.ite (Nat.beq r.alt 1) (.ret (.agg [i r.Da5,i r.Da6,i r.Da7],[⟨0,2,[[eL tI r.n5,i r.d8]],true,false,0⟩])) .fail)
theorem Be8{α β:Type}(F:α->β)(kk:mc4->α)(x:mc3):F (wb0 kk x)=wb0 (λr=>F (kk r)) x:=by unfold wb0;(repeat' apply m0 (f:=F))<;>rfl
noncomputable def Lc4:Sum:=Ya5 ⟨[sPq 0,sIq],[⟨0,2,true,some [[.c 1 (nL tI),.o (.int .i64)]]⟩],λa H=>(⟨aIq a 1,hLq tI H 0 0 0,hIq H 0 0 1⟩,())⟩ (λx=>vc3 x (gb9 x))
theorem id4:i5 prog G 69 Lc4:=O5 (enc:=λx=>⟨[.ptr 0 0 0 0,i x.is1],[⟨0,2,[[eL tI x.n5,i x.d8]],true,false,0⟩]⟩) (λa H=>by kernel_rfl) (bd b69 Yd6) λx=>y8 (Eq.trans (b:=wb0 (λr=>(vc3 x r).run) x) (by kernel_rfl) (Be8 (λr=>(vc3 x r).run) (λr=>r) x).symm)
noncomputable def le2:List (Nat×Sum):=[]
theorem Yd7:i9 prog G le2:=trivial
noncomputable def Ma4(x:V3)(y:V3):V3:=(⟨W (x.x-y.x),W (x.y-y.y),W (x.z-y.z)⟩:V3)
noncomputable def Lc5:Sum:=ra8 (ha7 tV) (ha7 tV) (λx y=>.ret ((one r1V).enc (Ma4 x y),[]))
theorem id5:i5 prog G 128 Lc5:=Ga2 (bd Pf9 Yd7) λx y=>y8 (by kernel_rfl)
noncomputable def Be9:List (Nat×Sum):=[(191,La9)]
theorem le3:i9 prog G Be9:=⟨Ya9,trivial⟩
noncomputable def gc4(x:V3):Option (b7×List b8):=(sl (decide (x.x<(-24))) (some (b false,[])) (sl (decide (x.x>24)) (some (b false,[])) (sl (decide (x.y<(-24))) (some (b false,[])) (sl (decide (x.y>24)) (some (b false,[])) (sl (decide (x.z<(-24))) (some (b false,[])) (sl (decide (x.z>24)) (some (b false,[])) (some (b true,[]))))))))
noncomputable def nb3(x:V3):Bool:=O3 (one r1B) (gc4 x)
noncomputable def nb4(x:V3):Bool:=okO (one r1B) (gc4 x)
noncomputable def Dc8:Sum:=X7 (ha7 tV) (λx=>.guard (nb4 x) (.ret ((one r1B).enc (nb3 x),[])))
theorem Lc6:i5 prog G 162 Dc8:=Ha5 (bd Rf3 le3) (one r1B) (o:=gc4) λx=>y8 (by kernel_rfl)
noncomputable def id6:List (Nat×Sum):=[(162,Dc8),(128,Lc5),(164,ec4),(163,uc3),(84,mc0)]
theorem Vc0:i9 prog G id6:=⟨Lc6,id5,Bc5,Qc1,uc0,trivial⟩
noncomputable def Ra6(x:V3)(y:V3)(z:V3):Option (b7×List b8):=let t1:=(nb3 x);let t2:=(nb3 y);let t3:=(nb3 z);let t4:=(Ma4 y x);let t5:=(Ma4 z x);let t6:=(aa5 t4 t5);let t7:=(Va0 t6);let t8:=(Da9 t7.1 x);(sl (nb4 x) (sl (!t1) (some (.tup [.agg [i 0,i 0,i 0,i 0],b false],[])) (sl (nb4 y) (sl (!t2) (some (.tup [.agg [i 0,i 0,i 0,i 0],b false],[])) (sl (nb4 z) (sl (!t3) (some (.tup [.agg [i 0,i 0,i 0,i 0],b false],[])) (sl (zb0 t6) (sl (t7.2==0) (some (.tup [.agg [i 0,i 0,i 0,i 0],b false],[])) (some (.tup [.agg [i t7.1.x,i t7.1.y,i t7.1.z,i t8],b true],[]))) none)) none)) none)) none)
noncomputable def ua4(x:V3)(y:V3)(z:V3):Pln×Bool:=O3 (two r1P r1B) (Ra6 x y z)
noncomputable def ua5(x:V3)(y:V3)(z:V3):Bool:=okO (two r1P r1B) (Ra6 x y z)
noncomputable def jb6:Sum:=Tc3 (ha7 tV) (ha7 tV) (ha7 tV) (λx y z=>.guard (ua5 x y z) (.ret ((two r1P r1B).enc (ua4 x y z),[])))
theorem Ab2:i5 prog G 107 jb6:=Ie7 (bd Of3 Vc0) (two r1P r1B) (o:=Ra6) λx y z=>y8 (by kernel_rfl)
noncomputable def Yd8:List (Nat×Sum):=[(68,Ca5),(69,Lc4),(107,jb6),(27,Kc4)]
theorem Jd8:i9 prog G Yd8:=⟨Ma3,id4,Ab2,fd1,trivial⟩
noncomputable def Va2(x:List Int):Option (b7×List b8):=let t1:=(o6 ⟨8,rt tI x,0⟩);let t2:=(o6 ⟨17,rt tI (rt tI x),t1.d8⟩);let t3:=(gb9 ⟨8,rt tI (rt tI (rt tI x)),t2.d8⟩);let t4:=(gb9 ⟨8,rt tI t3.n5,t3.d8⟩);let t5:=(gb9 ⟨8,rt tI t4.n5,t4.d8⟩);let t6:=(ua4 (⟨t3.Da5,t3.Da6,t3.Da7⟩:V3) (⟨t4.Da5,t4.Da6,t4.Da7⟩:V3) (⟨t5.Da5,t5.Da6,t5.Da7⟩:V3));let t7:=(Nb2 (W (t2.is0-8)) 3);let w0:Option (b7×List b8):=(sl (Nb3 (W (t2.is0-8)) 3) (sl (t7==1) (some (.agg [i 0,i (W (1-(W (2*(Int.tmod t1.is0 2))))),i 0,i (W (t2.is0-8))],[])) (sl (t7==2) (some (.agg [i 0,i 0,i (W (1-(W (2*(Int.tmod t1.is0 2))))),i (W (t2.is0-8))],[])) (some (.agg [i (W (1-(W (2*(Int.tmod t1.is0 2))))),i 0,i 0,i (W (t2.is0-8))],[])))) none);(sl ((cnE tI x)&&true) (sl (Nat.beq t1.alt 1) (sl ((cnE tI (rt tI x))&&true) (sl (Nat.beq t2.alt 1) (sl ((cnE tI (rt tI (rt tI x)))&&true) (sl (Nat.beq t3.alt 1) (sl ((cnE tI t3.n5)&&true) (sl (Nat.beq t4.alt 1) (sl ((cnE tI t4.n5)&&true) (sl (Nat.beq t5.alt 1) (sl (ua5 (⟨t3.Da5,t3.Da6,t3.Da7⟩:V3) (⟨t4.Da5,t4.Da6,t4.Da7⟩:V3) (⟨t5.Da5,t5.Da6,t5.Da7⟩:V3)) (sl (decide (t1.is0>1)) (sl t6.2 (some (.agg [i t6.1.n.x,i t6.1.n.y,i t6.1.n.z,i t6.1.b],[])) w0) w0) none) none) none) none) none) none) none) none) none) none) none)
noncomputable def Va3(x:List Int):Pln:=O3 (one r1P) (Va2 x)
noncomputable def Tb6(x:List Int):Bool:=okO (one r1P) (Va2 x)
noncomputable def vc4:Sum:=X7 (P8 tI) (λx=>.guard (Tb6 x) (.ret ((one r1P).enc (Va3 x),[])))
theorem Qc6:i5 prog G 51 vc4:=Ha5 (bd b51 Jd8) (one r1P) (o:=Va2) λx=>y8 (by kernel_rfl)
noncomputable def Yd9:List (Nat×Sum):=[(128,Lc5)]
theorem Jd9:i9 prog G Yd9:=⟨id5,trivial⟩
noncomputable def hb5(x:Pln):Pln:=let t1:=(Ma4 (⟨0,0,0⟩:V3) x.n);(⟨t1,W (0-x.b)⟩:Pln)
noncomputable def id7:Sum:=X7 (ha7 tP) (λx=>.ret ((one r1P).enc (hb5 x),[]))
theorem Zd0:i5 prog G 73 id7:=Fb2 (bd b73 Jd9) λx=>y8 (by kernel_rfl)
noncomputable def Zd1:List (Nat×Sum):=[(156,ec9),(162,Dc8),(84,mc0)]
theorem Kd0:i9 prog G Zd1:=⟨Bc9,Lc6,uc0,trivial⟩
noncomputable def Va4(x:Pln)(y:V3):Option (b7×List b8):=let t1:=(lb3 x);let t2:=(nb3 y);let t3:=(Da9 x.n y);(sl (lb4 x) (sl (!t1) (some (i 0,[])) (sl (nb4 y) (sl (!t2) (some (i 0,[])) (sl (decide ((W (t3-x.b))<0)) (some (i (-1),[])) (sl (decide ((W (t3-x.b))>0)) (some (i 1,[])) (some (i 0,[]))))) none)) none)
noncomputable def hb6(x:Pln)(y:V3):Int:=O3 (one r1I) (Va4 x y)
noncomputable def Tb7(x:Pln)(y:V3):Bool:=okO (one r1I) (Va4 x y)
noncomputable def vc5:Sum:=ra8 (ha7 tP) (ha7 tV) (λx y=>.guard (Tb7 x y) (.ret ((one r1I).enc (hb6 x y),[])))
theorem Qc7:i5 prog G 135 vc5:=sb9 (bd Qf0 Kd0) (one r1I) (o:=Va4) λx y=>y8 (by kernel_rfl)
noncomputable def gc5:List (Nat×Sum):=[]
theorem Vc1:i9 prog G gc5:=trivial
structure Ca6 where
 (j9 d8 k8 k9 ca8 ca9 da0 da1:Int)
structure U8 where
 is7:Int
noncomputable def Ob1(p:Ca6)(s:U8):St:=⟨ra 5 (.ptr 0 0 0 0::.ptr 1 0 0 0::i s.is7::ra 42 []),[⟨0,4,[[i p.j9,i p.d8,i p.k8,i p.k9]],true,false,0⟩,⟨0,4,[[i p.ca8,i p.ca9,i p.da0,i p.da1]],true,false,0⟩]⟩
noncomputable def Z0{α:Type}(k:U8->α)(e:Nat->α)(z:α)(p:Ca6)(s:U8):α:=(sl (decide (s.is7<4)) (sl (inB s.is7 4) (sl ((Nat.ble ((0+(s.is7.toNat*1))+1) 4)&&(qa3 [CK.int .i64] (l0 [i p.j9,i p.d8,i p.k8,i p.k9] (0+(s.is7.toNat*1))))) (sl (inB s.is7 4) (sl ((Nat.ble ((0+(s.is7.toNat*1))+1) 4)&&(qa3 [CK.int .i64] (l0 [i p.ca8,i p.ca9,i p.da0,i p.da1] (0+(s.is7.toNat*1))))) (sl (decide ((toI (hdA (l0 [i p.j9,i p.d8,i p.k8,i p.k9] (0+(s.is7.toNat*1)))))<(toI (hdA (l0 [i p.ca8,i p.ca9,i p.da0,i p.da1] (0+(s.is7.toNat*1))))))) (e 1) (sl (inB s.is7 4) (sl ((Nat.ble ((0+(s.is7.toNat*1))+1) 4)&&(qa3 [CK.int .i64] (l0 [i p.j9,i p.d8,i p.k8,i p.k9] (0+(s.is7.toNat*1))))) (sl (inB s.is7 4) (sl ((Nat.ble ((0+(s.is7.toNat*1))+1) 4)&&(qa3 [CK.int .i64] (l0 [i p.ca8,i p.ca9,i p.da0,i p.da1] (0+(s.is7.toNat*1))))) (sl (decide ((toI (hdA (l0 [i p.j9,i p.d8,i p.k8,i p.k9] (0+(s.is7.toNat*1)))))>(toI (hdA (l0 [i p.ca8,i p.ca9,i p.da0,i p.da1] (0+(s.is7.toNat*1))))))) (e 2) (k ⟨W (s.is7+1)⟩)) z) z) z) z)) z) z) z) z) (e 3))
noncomputable def M2(p:Ca6)(s:U8):Stp U8:=Z0 .next .exit .fail p s
noncomputable def qb6:Lo Ca6 U8:=⟨En gc5,0,nf4,[1,1,1,0,1,4,4],[5,6,7],.p,[⟨ru2 5 (sPq 0::sPq 1::sIq::ru2 42 []),[⟨0,4,true,some [kLq 4]⟩,⟨0,4,true,some [kLq 4]⟩],λa H=>(⟨hIq H 0 0 0,hIq H 0 0 1,hIq H 0 0 2,hIq H 0 0 3,hIq H 1 0 0,hIq H 1 0 1,hIq H 1 0 2,hIq H 1 0 3⟩,⟨aIq a 7⟩)⟩],M2,[(none,λp s=>⟨[i (-1)],[]⟩),(none,λp s=>⟨[i 1],[]⟩),(some 0,λp s=>upq (Ob1 p s) [(32,i s.is7),(33,b (decide (s.is7<4)))])],Ob1⟩
theorem Lc7:qb6.Ok:=Lo.ok [] (by kernel_rfl) .nil rfl (.cons (λa H=>by kernel_rfl) .nil) λp s=>(.of @Z0 (λF _ _ _ _ _=>by unfold Z0;(repeat' apply m0 (f:=F))<;>rfl) (by kernel_rfl))
noncomputable def ua6(x:Pln)(y:Pln):Option (b7×List b8):=let t1:=(lp (M2 (⟨x.n.x,x.n.y,x.n.z,x.b,y.n.x,y.n.y,y.n.z,y.b⟩:Ca6)) (⟨0⟩:U8));(sl (Nat.beq t1.1 1) (some (i (-1),[])) (sl (Nat.beq t1.1 2) (some (i 1,[])) (sl (Nat.beq t1.1 3) (some (i 0,[])) none)))
noncomputable def fa1(x:Pln)(y:Pln):Int:=O3 (one r1I) (ua6 x y)
noncomputable def jb7(x:Pln)(y:Pln):Bool:=okO (one r1I) (ua6 x y)
noncomputable def Kb0:Sum:=ra8 (ha7 tP) (ha7 tP) (λx y=>.guard (jb7 x y) (.ret ((one r1I).enc (fa1 x y),[])))
theorem gc6:i5 prog G 182 Kb0:=sb9 (bd Sf7 Vc1) (one r1I) (o:=ua6) λx y=>va6 (.s .p (.s .p (.s .p (.s (.s .p (.b (.u qb6.ls))) .p)))) [qb6.pr] (by kernel_rfl) (.cons Lc7 .nil) (by kernel_rfl)
noncomputable def nb5:List (Nat×Sum):=[(107,jb6),(135,vc5)]
theorem Kd1:i9 prog G nb5:=⟨Ab2,Qc7,trivial⟩
structure Aa2 where
 j6:List V3
 (is3 is4 is5:Int)
 bs7:Bool
 (j9 d8 k8 k9:Int)
structure la0 where
 is8:Int
noncomputable def Kb1(p:Aa2)(s:la0):St:=⟨eL tV p.j6::.unk::.unk::i p.is3::i p.is4::i p.is5::.ptr 0 0 0 0::b p.bs7::i s.is8::ra 48 [],[⟨0,4,[[i p.j9,i p.d8,i p.k8,i p.k9]],true,false,0⟩]⟩
noncomputable def ga6{α:Type}(k:la0->α)(e:Nat->α)(z:α)(p:Aa2)(s:la0):α:=let t1:=(hb6 (⟨(⟨p.j9,p.d8,p.k8⟩:V3),p.k9⟩:Pln) (gL tV p.j6 s.is8.toNat));(sl (decide (s.is8<(↑(List.length p.j6):Int))) (sl p.bs7 (sl (inB s.is8 (List.length p.j6)) (sl (Tb7 (⟨(⟨p.j9,p.d8,p.k8⟩:V3),p.k9⟩:Pln) (gL tV p.j6 s.is8.toNat)) (sl (t1 != 0) (e 1) (k ⟨W (s.is8+1)⟩)) z) z) (e 2)) (e 3))
noncomputable def F7(p:Aa2)(s:la0):Stp la0:=ga6 .next .exit .fail p s
noncomputable def Tb8:Lo Aa2 la0:=⟨En nb5,0,Me6,[1,0,1,4,4,1,0,4,1,4,4,1,0,4,1,4,4,1,0,4,1,1,4,4],[0,3,4,5,6,7,8],.p,[⟨sLq tV::sUq::sUq::sIq::sIq::sIq::sPq 0::sBq::sIq::ru2 48 [],[⟨0,4,true,some [kLq 4]⟩],λa H=>(⟨aLq tV a 0,aIq a 3,aIq a 4,aIq a 5,aBq a 7,hIq H 0 0 0,hIq H 0 0 1,hIq H 0 0 2,hIq H 0 0 3⟩,⟨aIq a 8⟩)⟩],F7,[(none,λp s=>⟨[b false],[]⟩),(some 6,λp s=>upq (Kb1 p s) [(41,i s.is8),(42,eL tV p.j6),(43,i (↑(List.length p.j6):Int)),(44,b (decide (s.is8<(↑(List.length p.j6):Int)))),(45,b true),(46,b p.bs7),(47,b p.bs7)]),(some 6,λp s=>upq (Kb1 p s) [(41,i s.is8),(42,eL tV p.j6),(43,i (↑(List.length p.j6):Int)),(44,b (decide (s.is8<(↑(List.length p.j6):Int)))),(45,b false),(46,u),(47,b false)])],Kb1⟩
theorem sd3:Tb8.Ok:=Lo.ok [] (by kernel_rfl) .nil rfl (.cons (λa H=>by kernel_rfl) .nil) λp s=>(.of @ga6 (λF _ _ _ _ _=>by unfold ga6;(repeat' apply m0 (f:=F))<;>rfl) (by kernel_rfl))
structure ab9 where
 (is3 is4:Int)
structure la1 where
 j6:List V3
 is5:Int
noncomputable def qc4(p:ab9)(s:la1):St:=⟨eL tV s.j6::.unk::.unk::i p.is3::i p.is4::i s.is5::ra 51 [],[]⟩
noncomputable def oa3{α:Type}(k:la1->α)(e:Nat->α)(z:α)(p:ab9)(s:la1):α:=let t1:=(ua4 (gL tV s.j6 p.is3.toNat) (gL tV s.j6 p.is4.toNat) (gL tV s.j6 s.is5.toNat));let t2:=(lp (F7 (⟨rt tV s.j6,p.is3,p.is4,s.is5,t1.2,t1.1.n.x,t1.1.n.y,t1.1.n.z,t1.1.b⟩:Aa2)) (⟨0⟩:la0));(sl (decide (s.is5<p.is4)) (sl (inB p.is3 (List.length s.j6)) (sl (inB p.is4 (List.length s.j6)) (sl (inB s.is5 (List.length s.j6)) (sl (ua5 (gL tV s.j6 p.is3.toNat) (gL tV s.j6 p.is4.toNat) (gL tV s.j6 s.is5.toNat)) (sl ((cnE tV s.j6)&&true) (sl (Nat.beq t2.1 1) (e 1) (sl (Nat.beq t2.1 2) (k ⟨rt tV s.j6,W (s.is5+1)⟩) (sl (Nat.beq t2.1 3) (k ⟨rt tV s.j6,W (s.is5+1)⟩) z))) z) z) z) z) z) (e 2))
noncomputable def X3(p:ab9)(s:la1):Stp la1:=oa3 .next .exit .fail p s
noncomputable def Tb9:Lo ab9 la1:=⟨En nb5,0,Me6,[1,0,1,4,4,1,0,4,1,4,4,1,0,4,1,4,4],[0,3,4,5],.s .p (.s (.b (.s .p (.s .p (.b (.u Tb8.ls))))) .p),[⟨sLq tV::sUq::sUq::sIq::sIq::sIq::ru2 51 [],[],λa H=>(⟨aIq a 3,aIq a 4⟩,⟨aLq tV a 0,aIq a 5⟩)⟩],X3,[(none,λp s=>⟨[b false],[]⟩),(some 4,λp s=>upq (qc4 p s) [(20,i s.is5),(21,i p.is4),(22,b (decide (s.is5<p.is4)))])],qc4⟩
theorem sd4:Tb9.Ok:=Lo.ok [Tb8.pr] (by kernel_rfl) (.cons sd3 .nil) rfl (.cons (λa H=>by kernel_rfl) .nil) λp s=>(.of @oa3 (λF _ _ _ _ _=>by unfold oa3;(repeat' apply m0 (f:=F))<;>rfl) (by kernel_rfl))
structure bb0 where
 is3:Int
structure la2 where
 j6:List V3
 is4:Int
noncomputable def qc5(p:bb0)(s:la2):St:=⟨eL tV s.j6::.unk::.unk::i p.is3::i s.is4::ra 52 [],[]⟩
noncomputable def oa4{α:Type}(k:la2->α)(e:Nat->α)(z:α)(p:bb0)(s:la2):α:=let t1:=(lp (X3 (⟨p.is3,s.is4⟩:ab9)) (⟨rt tV s.j6,0⟩:la1));(sl (decide (s.is4<p.is3)) (sl ((cnE tV s.j6)&&true) (sl (Nat.beq t1.1 1) (e 1) (sl (Nat.beq t1.1 2) (k ⟨t1.2.j6,W (s.is4+1)⟩) z)) z) (e 2))
noncomputable def X4(p:bb0)(s:la2):Stp la2:=oa4 .next .exit .fail p s
noncomputable def Ub0:Lo bb0 la2:=⟨En nb5,0,Me6,[1,0,1,4,4,1,0,4,1,4,4],[0,3,4],.s .p (.s (.b (.s .p (.b (.u Tb9.ls)))) .p),[⟨sLq tV::sUq::sUq::sIq::sIq::ru2 52 [],[],λa H=>(⟨aIq a 3⟩,⟨aLq tV a 0,aIq a 4⟩)⟩],X4,[(none,λp s=>⟨[b false],[]⟩),(some 2,λp s=>upq (qc5 p s) [(15,i s.is4),(16,i p.is3),(17,b (decide (s.is4<p.is3)))])],qc5⟩
theorem sd5:Ub0.Ok:=Lo.ok [Tb9.pr] (by kernel_rfl) (.cons sd4 .nil) rfl (.cons (λa H=>by kernel_rfl) .nil) λp s=>(.of @oa4 (λF _ _ _ _ _=>by unfold oa4;(repeat' apply m0 (f:=F))<;>rfl) (by kernel_rfl))
structure bb1 where
structure la3 where
 j6:List V3
 is3:Int
noncomputable def qc6(p:bb1)(s:la3):St:=⟨eL tV s.j6::.unk::.unk::i s.is3::ra 53 [],[]⟩
noncomputable def oa5{α:Type}(k:la3->α)(e:Nat->α)(z:α)(p:bb1)(s:la3):α:=let t1:=(lp (X4 (⟨s.is3⟩:bb0)) (⟨rt tV s.j6,0⟩:la2));(sl (decide (s.is3<(↑(List.length s.j6):Int))) (sl ((cnE tV s.j6)&&true) (sl (Nat.beq t1.1 1) (e 1) (sl (Nat.beq t1.1 2) (k ⟨t1.2.j6,W (s.is3+1)⟩) z)) z) (e 2))
noncomputable def X5(p:bb1)(s:la3):Stp la3:=oa5 .next .exit .fail p s
noncomputable def Ub1:Lo bb1 la3:=⟨En nb5,0,Me6,[1,0,1,4,4],[0,3],.s .p (.s (.b (.s .p (.b (.u Ub0.ls)))) .p),[⟨sLq tV::sUq::sUq::sIq::ru2 53 [],[],λa H=>(⟨⟩,⟨aLq tV a 0,aIq a 3⟩)⟩],X5,[(none,λp s=>⟨[b false],[]⟩),(some 0,λp s=>upq (qc6 p s) [(9,i s.is3),(10,eL tV s.j6),(11,i (↑(List.length s.j6):Int)),(12,b (decide (s.is3<(↑(List.length s.j6):Int))))])],qc6⟩
theorem sd6:Ub1.Ok:=Lo.ok [Ub0.pr] (by kernel_rfl) (.cons sd5 .nil) rfl (.cons (λa H=>by kernel_rfl) .nil) λp s=>(.of @oa5 (λF _ _ _ _ _=>by unfold oa5;(repeat' apply m0 (f:=F))<;>rfl) (by kernel_rfl))
noncomputable def Va5(x:List V3):Option (b7×List b8):=let t1:=(lp (X5 (⟨⟩:bb1)) (⟨rt tV x,0⟩:la3));(sl ((cnE tV x)&&true) (sl (Nat.beq t1.1 1) (some (b false,[])) (sl (Nat.beq t1.1 2) (some (b true,[])) none)) none)
noncomputable def Va6(x:List V3):Bool:=O3 (one r1B) (Va5 x)
noncomputable def hb7(x:List V3):Bool:=okO (one r1B) (Va5 x)
noncomputable def vc6:Sum:=X7 (P8 tV) (λx=>.guard (hb7 x) (.ret ((one r1B).enc (Va6 x),[])))
theorem Qc8:i5 prog G 78 vc6:=Ha5 (bd b78 Kd1) (one r1B) (o:=Va5) λx=>va6 (.s .p (.s (.s .p (.b (.u Ub1.ls))) .p)) [Ub1.pr] (by kernel_rfl) (.cons sd6 .nil) (by kernel_rfl)
noncomputable def Dc9:List (Nat×Sum):=[(162,Dc8),(78,vc6)]
theorem sd7:i9 prog G Dc9:=⟨Lc6,Qc8,trivial⟩
structure Ra7 where
 j6:List V3
structure T1 where
 is3:Int
noncomputable def gc7(p:Ra7)(s:T1):St:=⟨eL tV p.j6::.unk::.unk::i s.is3::ra 17 [],[]⟩
noncomputable def ja0{α:Type}(k:T1->α)(e:Nat->α)(z:α)(p:Ra7)(s:T1):α:=let t1:=(nb3 (gL tV p.j6 s.is3.toNat));(sl (decide (s.is3<(↑(List.length p.j6):Int))) (sl (inB s.is3 (List.length p.j6)) (sl (nb4 (gL tV p.j6 s.is3.toNat)) (sl (!t1) (e 1) (k ⟨W (s.is3+1)⟩)) z) z) (e 2))
noncomputable def ga7(p:Ra7)(s:T1):Stp T1:=ja0 .next .exit .fail p s
noncomputable def Kb2:Lo Ra7 T1:=⟨En Dc9,0,lf9,[1,1,0,1,4,4],[0,3],.p,[⟨sLq tV::sUq::sUq::sIq::ru2 17 [],[],λa H=>(⟨aLq tV a 0⟩,⟨aIq a 3⟩)⟩],ga7,[(none,λp s=>⟨[i 3],[]⟩),(some 0,λp s=>upq (gc7 p s) [(7,i s.is3),(8,eL tV p.j6),(9,i (↑(List.length p.j6):Int)),(10,b (decide (s.is3<(↑(List.length p.j6):Int))))])],gc7⟩
theorem id8:Kb2.Ok:=Lo.ok [] (by kernel_rfl) .nil rfl (.cons (λa H=>by kernel_rfl) .nil) λp s=>(.of @ja0 (λF _ _ _ _ _=>by unfold ja0;(repeat' apply m0 (f:=F))<;>rfl) (by kernel_rfl))
noncomputable def Ja7(x:List V3):Option (b7×List b8):=let t1:=(lp (ga7 (⟨rt tV x⟩:Ra7)) (⟨0⟩:T1));let t2:=(Va6 (rt tV (rt tV x)));(sl (decide ((↑(List.length x):Int)>48)) (some (i 2,[])) (sl ((cnE tV x)&&true) (sl (Nat.beq t1.1 1) (some (i 3,[])) (sl (Nat.beq t1.1 2) (sl (okE tV (rt tV x)) (sl (hb7 (rt tV (rt tV x))) (sl t2 (some (i 11,[])) (some (i 0,[]))) none) none) none)) none))
noncomputable def nb6(x:List V3):Int:=O3 (one r1I) (Ja7 x)
noncomputable def gc8(x:List V3):Bool:=okO (one r1I) (Ja7 x)
noncomputable def Qc9:Sum:=X7 (P8 tV) (λx=>.guard (gc8 x) (.ret ((one r1I).enc (nb6 x),[])))
theorem Kd2:i5 prog G 125 Qc9:=Ha5 (bd Pf6 sd7) (one r1I) (o:=Ja7) λx=>va6 (.s .p (.s .p (.s (.s .p (.b (.u Kb2.ls))) .p))) [Kb2.pr] (by kernel_rfl) (.cons id8 .nil) (by kernel_rfl)
noncomputable def Ec0:List (Nat×Sum):=[(135,vc5)]
theorem sd8:i9 prog G Ec0:=⟨Qc7,trivial⟩
structure Ra8 where
 Sc5:List V3
 (j9 d8 k8 k9:Int)
structure T2 where
 is5:Int
noncomputable def gc9(p:Ra8)(s:T2):St:=⟨.unk::eL tV p.Sc5::.ptr 0 0 0 0::.unk::.unk::i s.is5::ra 13 [],[⟨0,4,[[i p.j9,i p.d8,i p.k8,i p.k9]],true,false,0⟩]⟩
noncomputable def ja1{α:Type}(k:T2->α)(e:Nat->α)(z:α)(p:Ra8)(s:T2):α:=let t1:=(hb6 (⟨(⟨p.j9,p.d8,p.k8⟩:V3),p.k9⟩:Pln) (gL tV p.Sc5 s.is5.toNat));(sl (decide (s.is5<(↑(List.length p.Sc5):Int))) (sl (inB s.is5 (List.length p.Sc5)) (sl (Tb7 (⟨(⟨p.j9,p.d8,p.k8⟩:V3),p.k9⟩:Pln) (gL tV p.Sc5 s.is5.toNat)) (sl (decide (t1>0)) (e 1) (k ⟨W (s.is5+1)⟩)) z) z) (e 2))
noncomputable def ga8(p:Ra8)(s:T2):Stp T2:=ja1 .next .exit .fail p s
noncomputable def Kb3:Lo Ra8 T2:=⟨En Ec0,0,mf0,[1,0,1,4,4],[1,2,5],.p,[⟨sUq::sLq tV::sPq 0::sUq::sUq::sIq::ru2 13 [],[⟨0,4,true,some [kLq 4]⟩],λa H=>(⟨aLq tV a 1,hIq H 0 0 0,hIq H 0 0 1,hIq H 0 0 2,hIq H 0 0 3⟩,⟨aIq a 5⟩)⟩],ga8,[(none,λp s=>⟨[b false],[]⟩),(some 0,λp s=>upq (gc9 p s) [(6,i s.is5),(7,eL tV p.Sc5),(8,i (↑(List.length p.Sc5):Int)),(9,b (decide (s.is5<(↑(List.length p.Sc5):Int))))])],gc9⟩
theorem id9:Kb3.Ok:=Lo.ok [] (by kernel_rfl) .nil rfl (.cons (λa H=>by kernel_rfl) .nil) λp s=>(.of @ja1 (λF _ _ _ _ _=>by unfold ja1;(repeat' apply m0 (f:=F))<;>rfl) (by kernel_rfl))
noncomputable def Ja8(x:Pln)(y:List V3):Option (b7×List b8):=let t1:=(lp (ga8 (⟨rt tV y,x.n.x,x.n.y,x.n.z,x.b⟩:Ra8)) (⟨0⟩:T2));(sl ((cnE tV y)&&true) (sl (Nat.beq t1.1 1) (some (b false,[])) (sl (Nat.beq t1.1 2) (some (b true,[])) none)) none)
noncomputable def za1(x:Pln)(y:List V3):Bool:=O3 (one r1B) (Ja8 x y)
noncomputable def ma8(x:Pln)(y:List V3):Bool:=okO (one r1B) (Ja8 x y)
noncomputable def Rc0:Sum:=ra8 (ha7 tP) (P8 tV) (λx y=>.guard (ma8 x y) (.ret ((one r1B).enc (za1 x y),[])))
theorem Kd3:i5 prog G 126 Rc0:=sb9 (bd Pf7 sd8) (one r1B) (o:=Ja8) λx y=>va6 (.s .p (.s (.s .p (.b (.u Kb3.ls))) .p)) [Kb3.pr] (by kernel_rfl) (.cons id9 .nil) (by kernel_rfl)
noncomputable def jd0:List (Nat×Sum):=[(182,Kb0)]
theorem Zd2:i9 prog G jd0:=⟨gc6,trivial⟩
structure nb7 where
 d7:List Pln
 (j9 d8 k8 k9:Int)
structure ga9 where
 is5:Int
noncomputable def Ec1(p:nb7)(s:ga9):St:=⟨eL tP p.d7::.unk::.unk::.ptr 0 0 0 0::.unk::i s.is5::ra 42 [],[⟨0,4,[[i p.j9,i p.d8,i p.k8,i p.k9]],true,false,0⟩]⟩
noncomputable def ua7{α:Type}(k:ga9->α)(e:Nat->α)(z:α)(p:nb7)(s:ga9):α:=let t1:=(fa1 (gL tP p.d7 s.is5.toNat) (⟨(⟨p.j9,p.d8,p.k8⟩:V3),p.k9⟩:Pln));(sl (decide (s.is5<(↑(List.length p.d7):Int))) (sl (inB s.is5 (List.length p.d7)) (sl (jb7 (gL tP p.d7 s.is5.toNat) (⟨(⟨p.j9,p.d8,p.k8⟩:V3),p.k9⟩:Pln)) (sl (decide (t1<0)) (k ⟨W (s.is5+1)⟩) (e 1)) z) z) (e 2))
noncomputable def fa2(p:nb7)(s:ga9):Stp ga9:=ua7 .next .exit .fail p s
noncomputable def hc3:Lo nb7 ga9:=⟨En jd0,0,mf1,[1,1,0,4,4],[0,3,5],.p,[⟨sLq tP::sUq::sUq::sPq 0::sUq::sIq::ru2 42 [],[⟨0,4,true,some [kLq 4]⟩],λa H=>(⟨aLq tP a 0,hIq H 0 0 0,hIq H 0 0 1,hIq H 0 0 2,hIq H 0 0 3⟩,⟨aIq a 5⟩)⟩],fa2,[(some 0,λp s=>let t1:=(fa1 (gL tP p.d7 s.is5.toNat) (⟨(⟨p.j9,p.d8,p.k8⟩:V3),p.k9⟩:Pln));⟨eL tP p.d7::.unk::.unk::.ptr 0 0 0 0::.unk::i s.is5::.unk::i s.is5::eL tP p.d7::i (↑(List.length p.d7):Int)::b (decide (s.is5<(↑(List.length p.d7):Int)))::b true::eL tP p.d7::i s.is5::.tptr [i (gL tP p.d7 s.is5.toNat).n.x,i (gL tP p.d7 s.is5.toNat).n.y,i (gL tP p.d7 s.is5.toNat).n.z,i (gL tP p.d7 s.is5.toNat).b]::.agg [i (gL tP p.d7 s.is5.toNat).n.x,i (gL tP p.d7 s.is5.toNat).n.y,i (gL tP p.d7 s.is5.toNat).n.z,i (gL tP p.d7 s.is5.toNat).b]::.agg [i p.j9,i p.d8,i p.k8,i p.k9]::i t1::b (decide (t1<0))::b (decide (t1<0))::ra 28 [],[⟨0,4,[[i p.j9,i p.d8,i p.k8,i p.k9]],true,false,0⟩]⟩),(some 0,λp s=>upq (Ec1 p s) [(7,i s.is5),(8,eL tP p.d7),(9,i (↑(List.length p.d7):Int)),(10,b (decide (s.is5<(↑(List.length p.d7):Int)))),(11,b false),(12,u),(13,u),(14,u),(15,u),(16,u),(17,u),(18,u),(19,b false)])],Ec1⟩
theorem Kd4:hc3.Ok:=Lo.ok [] (by kernel_rfl) .nil rfl (.cons (λa H=>by kernel_rfl) .nil) λp s=>(.of @ua7 (λF _ _ _ _ _=>by unfold ua7;(repeat' apply m0 (f:=F))<;>rfl) (by kernel_rfl))
noncomputable def hb8(x:List Pln)(y:Pln):Option (b7×List b8):=let t1:=(lp (fa2 (⟨rt tP x,y.n.x,y.n.y,y.n.z,y.b⟩:nb7)) (⟨0⟩:ga9));let a0:=(p5 (λk=>(λk=>(tP).row (gL tP (rt tP x) k)) (0+k)) (List.range (t1.2.is5.toNat-0)));let a1:=(p5 (λk=>(λk=>(tP).row (gL tP (rt tP x) k)) (t1.2.is5.toNat+k)) (List.range ((List.length (rt tP x))-t1.2.is5.toNat)));let a2:=(inB t1.2.is5 ((List.length (rt tP x))+1));let a3:=(Nat.beq (0+(len a0)) (len (app [] a0))&&Nat.ble (((0+(len a0))+1)*32) room);let a4:=(((0+(len a0))+1)+(len a1));let a5:=(gL tP (rt tP x) t1.2.is5.toNat);let a6:=(Nat.beq 0 0&&Nat.ble ((0+(len a0))*32) room);let w0:Option (b7×List b8):=(sl a2 (sl a6 (sl a3 (sl a2 (sl (Nat.beq ((0+(len a0))+1) (len (app (app [] a0) [[i y.n.x,i y.n.y,i y.n.z,i y.b]]))&&Nat.ble (a4*32) room) (some (.sl 0 0 a4 0,[⟨73,4,app (app (app [] a0) [[i y.n.x,i y.n.y,i y.n.z,i y.b]]) a1,true,false,0⟩])) none) none) none) none) none);let w1:Option (b7×List b8):=(sl (decide (t1.2.is5<(↑(List.length (rt tP x)):Int))) (sl (inB t1.2.is5 (List.length (rt tP x))) (sl ((a5.n.x==y.n.x)&&((a5.n.y==y.n.y)&&((a5.n.z==y.n.z)&&((a5.b==y.b)&&true)))) (some (eL tP (rt tP x),[])) w0) none) w0);(sl ((cnE tP x)&&true) (sl (Nat.beq t1.1 1) w1 (sl (Nat.beq t1.1 2) w1 none)) none)
noncomputable def J2(x:List Pln)(y:Pln):List Pln:=O3 (one (r1L tP)) (hb8 x y)
noncomputable def ra5(x:List Pln)(y:Pln):Bool:=okO (one (r1L tP)) (hb8 x y)
noncomputable def Ad5:Sum:=ra8 (P8 tP) (ha7 tP) (λx y=>.guard (ra5 x y) (.ret ((one (r1L tP)).enc (J2 x y),[])))
theorem le4:i5 prog G 127 Ad5:=sb9 (bd Pf8 Zd2) (one (r1L tP)) (o:=hb8) λx y=>va6 (.s .p (.s .p (.s (.b (.u hc3.ls)) .p))) [hc3.pr] (by kernel_rfl) (.cons Kd4 .nil) (by kernel_rfl)
noncomputable def ub1:List (Nat×Sum):=[(125,Qc9),(107,jb6),(126,Rc0),(127,Ad5),(73,id7)]
theorem sd9:i9 prog G ub1:=⟨Kd2,Ab2,Kd3,le4,Zd0,trivial⟩
structure fa3 where
 j6:List V3
 (is6 is7:Int)
structure B5 where
 ph:Nat
 is8:Int
 va5:List Pln
noncomputable def Xb1(p:fa3)(s:B5):St:=⟨eL tV p.j6::ra 4 (.v (.slice none 0 0)::i p.is6::i p.is7::i s.is8::ra 56 []),[]⟩
noncomputable def Xb2(p:fa3)(s:B5):St:=⟨eL tV p.j6::ra 4 (eL tP s.va5::i p.is6::i p.is7::i s.is8::ra 56 []),[]⟩
noncomputable def jd1(p:fa3)(s:B5):St:=(sel (Nat.beq s.ph 1) (Xb2 p s) (Xb1 p s))
noncomputable def K7{α:Type}(k:B5->α)(e:Nat->α)(z:α)(p:fa3)(s:B5):α:=let t1:=(ua4 (gL tV p.j6 p.is6.toNat) (gL tV p.j6 p.is7.toNat) (gL tV p.j6 s.is8.toNat));let t2:=(za1 t1.1 (rt tV p.j6));let t3:=(J2 [] t1.1);let t4:=(hb5 t1.1);let t5:=(za1 t4 (rt tV p.j6));let t6:=(J2 (rt tP t3) t4);let t7:=(J2 [] t4);(sl (decide (s.is8<p.is7)) (sl (inB p.is6 (List.length p.j6)) (sl (inB p.is7 (List.length p.j6)) (sl (inB s.is8 (List.length p.j6)) (sl (ua5 (gL tV p.j6 p.is6.toNat) (gL tV p.j6 p.is7.toNat) (gL tV p.j6 s.is8.toNat)) (sl (!t1.2) (k ⟨0,W (s.is8+1),[]⟩) (sl (okE tV p.j6) (sl (ma8 t1.1 (rt tV p.j6)) (sl t2 (sl (ra5 [] t1.1) (sl (okE tV p.j6) (sl (ma8 t4 (rt tV p.j6)) (sl t5 (sl (okE tP t3) (sl (ra5 (rt tP t3) t4) (k ⟨1,W (s.is8+1),t6⟩) z) z) (k ⟨1,W (s.is8+1),t3⟩)) z) z) z) (sl (okE tV p.j6) (sl (ma8 t4 (rt tV p.j6)) (sl t5 (sl (ra5 [] t4) (k ⟨1,W (s.is8+1),t7⟩) z) (k ⟨0,W (s.is8+1),[]⟩)) z) z)) z) z)) z) z) z) z) (e 1))
noncomputable def K8{α:Type}(k:B5->α)(e:Nat->α)(z:α)(p:fa3)(s:B5):α:=let t1:=(ua4 (gL tV p.j6 p.is6.toNat) (gL tV p.j6 p.is7.toNat) (gL tV p.j6 s.is8.toNat));let t2:=(za1 t1.1 (rt tV p.j6));let t3:=(J2 (rt tP s.va5) t1.1);let t4:=(hb5 t1.1);let t5:=(za1 t4 (rt tV p.j6));let t6:=(J2 (rt tP t3) t4);let t7:=(J2 (rt tP s.va5) t4);(sl (decide (s.is8<p.is7)) (sl (inB p.is6 (List.length p.j6)) (sl (inB p.is7 (List.length p.j6)) (sl (inB s.is8 (List.length p.j6)) (sl (ua5 (gL tV p.j6 p.is6.toNat) (gL tV p.j6 p.is7.toNat) (gL tV p.j6 s.is8.toNat)) (sl (!t1.2) (k ⟨1,W (s.is8+1),s.va5⟩) (sl (okE tV p.j6) (sl (ma8 t1.1 (rt tV p.j6)) (sl t2 (sl (okE tP s.va5) (sl (ra5 (rt tP s.va5) t1.1) (sl (okE tV p.j6) (sl (ma8 t4 (rt tV p.j6)) (sl t5 (sl (okE tP t3) (sl (ra5 (rt tP t3) t4) (k ⟨1,W (s.is8+1),t6⟩) z) z) (k ⟨1,W (s.is8+1),t3⟩)) z) z) z) z) (sl (okE tV p.j6) (sl (ma8 t4 (rt tV p.j6)) (sl t5 (sl (okE tP s.va5) (sl (ra5 (rt tP s.va5) t4) (k ⟨1,W (s.is8+1),t7⟩) z) z) (k ⟨1,W (s.is8+1),s.va5⟩)) z) z)) z) z)) z) z) z) z) (e 2))
noncomputable def Z1(p:fa3)(s:B5):Stp B5:=(sel (Nat.beq s.ph 1) (K8 .next .exit .fail p s) (K7 .next .exit .fail p s))
noncomputable def Kb4:Lo fa3 B5:=⟨En ub1,0,cf5,[1,1,1,1,0,1,4,4,1,0,4,1,4,4,1,0,4,1,4,4],[0,5,6,7,8],.p,[⟨sLq tV::ru2 4 (.s (.o .nil)::sIq::sIq::sIq::ru2 56 []),[],λa H=>(⟨aLq tV a 0,aIq a 6,aIq a 7⟩,⟨0,aIq a 8,[]⟩)⟩,⟨sLq tV::ru2 4 (sLq tP::sIq::sIq::sIq::ru2 56 []),[],λa H=>(⟨aLq tV a 0,aIq a 6,aIq a 7⟩,⟨1,aIq a 8,aLq tP a 5⟩)⟩],Z1,[(some 4,λp s=>upq (Xb1 p s) [(27,i s.is8),(28,i p.is7),(29,b (decide (s.is8<p.is7)))]),(some 4,λp s=>upq (Xb2 p s) [(27,i s.is8),(28,i p.is7),(29,b (decide (s.is8<p.is7)))])],jd1⟩
theorem jd2:Kb4.Ok:=Lo.ok [] (by kernel_rfl) .nil rfl (.cons (λa H=>by kernel_rfl) (.cons (λa H=>by kernel_rfl) .nil)) λp s=>(.sel (Nat.beq s.ph 1) (.of @K8 (λF _ _ _ _ _=>by unfold K8;(repeat' apply m0 (f:=F))<;>rfl) (by kernel_rfl)) (.of @K7 (λF _ _ _ _ _=>by unfold K7;(repeat' apply m0 (f:=F))<;>rfl) (by kernel_rfl)))
structure fa4 where
 is6:Int
structure B7 where
 ph:Nat
 j6:List V3
 is7:Int
 va5:List Pln
noncomputable def Xb3(p:fa4)(s:B7):St:=⟨eL tV s.j6::ra 4 (.v (.slice none 0 0)::i p.is6::i s.is7::ra 57 []),[]⟩
noncomputable def Xb4(p:fa4)(s:B7):St:=⟨eL tV s.j6::ra 4 (eL tP s.va5::i p.is6::i s.is7::ra 57 []),[]⟩
noncomputable def jd3(p:fa4)(s:B7):St:=(sel (Nat.beq s.ph 1) (Xb4 p s) (Xb3 p s))
noncomputable def K9{α:Type}(k:B7->α)(e:Nat->α)(z:α)(p:fa4)(s:B7):α:=let t1:=(lp (Z1 (⟨rt tV s.j6,p.is6,s.is7⟩:fa3)) (⟨0,0,[]⟩:B5));(sl (decide (s.is7<p.is6)) (sl ((cnE tV s.j6)&&true) (sl (Nat.beq t1.1 1) (k ⟨0,rt tV s.j6,W (s.is7+1),[]⟩) (sl (Nat.beq t1.1 2) (k ⟨1,rt tV s.j6,W (s.is7+1),t1.2.va5⟩) z)) z) (e 1))
noncomputable def L0{α:Type}(k:B7->α)(e:Nat->α)(z:α)(p:fa4)(s:B7):α:=let t1:=(lp (Z1 (⟨rt tV s.j6,p.is6,s.is7⟩:fa3)) (⟨1,0,rt tP s.va5⟩:B5));(sl (decide (s.is7<p.is6)) (sl ((cnE tV s.j6)&&((cnE tP s.va5)&&true)) (sl (Nat.beq t1.1 1) (k ⟨0,rt tV s.j6,W (s.is7+1),[]⟩) (sl (Nat.beq t1.1 2) (k ⟨1,rt tV s.j6,W (s.is7+1),t1.2.va5⟩) z)) z) (e 2))
noncomputable def Z2(p:fa4)(s:B7):Stp B7:=(sel (Nat.beq s.ph 1) (L0 .next .exit .fail p s) (K9 .next .exit .fail p s))
noncomputable def Kb5:Lo fa4 B7:=⟨En ub1,0,cf5,[1,1,1,1,0,1,4,4,1,0,4,1,4,4],[0,5,6,7],.s .p (.s (.b (.s .p (.b (.u Kb4.ls)))) .p),[⟨sLq tV::ru2 4 (.s (.o .nil)::sIq::sIq::ru2 57 []),[],λa H=>(⟨aIq a 6⟩,⟨0,aLq tV a 0,aIq a 7,[]⟩)⟩,⟨sLq tV::ru2 4 (sLq tP::sIq::sIq::ru2 57 []),[],λa H=>(⟨aIq a 6⟩,⟨1,aLq tV a 0,aIq a 7,aLq tP a 5⟩)⟩],Z2,[(some 2,λp s=>upq (Xb3 p s) [(22,i s.is7),(23,i p.is6),(24,b (decide (s.is7<p.is6)))]),(some 2,λp s=>upq (Xb4 p s) [(22,i s.is7),(23,i p.is6),(24,b (decide (s.is7<p.is6)))])],jd3⟩
theorem jd4:Kb5.Ok:=Lo.ok [Kb4.pr] (by kernel_rfl) (.cons jd2 .nil) rfl (.cons (λa H=>by kernel_rfl) (.cons (λa H=>by kernel_rfl) .nil)) λp s=>(.sel (Nat.beq s.ph 1) (.of @L0 (λF _ _ _ _ _=>by unfold L0;(repeat' apply m0 (f:=F))<;>rfl) (by kernel_rfl)) (.of @K9 (λF _ _ _ _ _=>by unfold K9;(repeat' apply m0 (f:=F))<;>rfl) (by kernel_rfl)))
structure ma9 where
structure C7 where
 ph:Nat
 j6:List V3
 is6:Int
 va5:List Pln
noncomputable def Xb5(p:ma9)(s:C7):St:=⟨eL tV s.j6::ra 4 (.v (.slice none 0 0)::i s.is6::ra 58 []),[]⟩
noncomputable def Xb6(p:ma9)(s:C7):St:=⟨eL tV s.j6::ra 4 (eL tP s.va5::i s.is6::ra 58 []),[]⟩
noncomputable def jd5(p:ma9)(s:C7):St:=(sel (Nat.beq s.ph 1) (Xb6 p s) (Xb5 p s))
noncomputable def L1{α:Type}(k:C7->α)(e:Nat->α)(z:α)(p:ma9)(s:C7):α:=let t1:=(lp (Z2 (⟨s.is6⟩:fa4)) (⟨0,rt tV s.j6,0,[]⟩:B7));(sl (decide (s.is6<(↑(List.length s.j6):Int))) (sl ((cnE tV s.j6)&&true) (sl (Nat.beq t1.1 1) (k ⟨0,t1.2.j6,W (s.is6+1),[]⟩) (sl (Nat.beq t1.1 2) (k ⟨1,t1.2.j6,W (s.is6+1),t1.2.va5⟩) z)) z) (e 1))
noncomputable def L2{α:Type}(k:C7->α)(e:Nat->α)(z:α)(p:ma9)(s:C7):α:=let t1:=(lp (Z2 (⟨s.is6⟩:fa4)) (⟨1,rt tV s.j6,0,rt tP s.va5⟩:B7));(sl (decide (s.is6<(↑(List.length s.j6):Int))) (sl ((cnE tV s.j6)&&((cnE tP s.va5)&&true)) (sl (Nat.beq t1.1 1) (k ⟨0,t1.2.j6,W (s.is6+1),[]⟩) (sl (Nat.beq t1.1 2) (k ⟨1,t1.2.j6,W (s.is6+1),t1.2.va5⟩) z)) z) (e 2))
noncomputable def xa3(p:ma9)(s:C7):Stp C7:=(sel (Nat.beq s.ph 1) (L2 .next .exit .fail p s) (L1 .next .exit .fail p s))
noncomputable def Kb6:Lo ma9 C7:=⟨En ub1,0,cf5,[1,1,1,1,0,1,4,4],[0,5,6],.s .p (.s (.b (.s .p (.b (.u Kb5.ls)))) .p),[⟨sLq tV::ru2 4 (.s (.o .nil)::sIq::ru2 58 []),[],λa H=>(⟨⟩,⟨0,aLq tV a 0,aIq a 6,[]⟩)⟩,⟨sLq tV::ru2 4 (sLq tP::sIq::ru2 58 []),[],λa H=>(⟨⟩,⟨1,aLq tV a 0,aIq a 6,aLq tP a 5⟩)⟩],xa3,[(some 0,λp s=>upq (Xb5 p s) [(16,i s.is6),(17,eL tV s.j6),(18,i (↑(List.length s.j6):Int)),(19,b (decide (s.is6<(↑(List.length s.j6):Int))))]),(some 0,λp s=>upq (Xb6 p s) [(16,i s.is6),(17,eL tV s.j6),(18,i (↑(List.length s.j6):Int)),(19,b (decide (s.is6<(↑(List.length s.j6):Int))))])],jd5⟩
theorem jd6:Kb6.Ok:=Lo.ok [Kb5.pr] (by kernel_rfl) (.cons jd4 .nil) rfl (.cons (λa H=>by kernel_rfl) (.cons (λa H=>by kernel_rfl) .nil)) λp s=>(.sel (Nat.beq s.ph 1) (.of @L2 (λF _ _ _ _ _=>by unfold L2;(repeat' apply m0 (f:=F))<;>rfl) (by kernel_rfl)) (.of @L1 (λF _ _ _ _ _=>by unfold L1;(repeat' apply m0 (f:=F))<;>rfl) (by kernel_rfl)))
noncomputable def Ja9(x:List V3):Option (b7×List b8):=let t1:=(nb6 (rt tV x));let t2:=(lp (xa3 (⟨⟩:ma9)) (⟨0,rt tV x,0,[]⟩:C7));(sl (okE tV x) (sl (gc8 (rt tV x)) (sl (t1 != 0) (some (.tup [.v (.slice none 0 0),i t1],[])) (sl ((cnE tV x)&&true) (sl (Nat.beq t2.1 1) (some (.tup [.v (.slice none 0 0),i 0],[])) (sl (Nat.beq t2.1 2) (some (.tup [eL tP t2.2.va5,i 0],[])) none)) none)) none) none)
noncomputable def hc5(x:List V3):List Pln×Int:=O3 (two (r1L tP) r1I) (Ja9 x)
noncomputable def Gb4(x:List V3):Bool:=okO (two (r1L tP) r1I) (Ja9 x)
noncomputable def Rc1:Sum:=X7 (P8 tV) (λx=>.guard (Gb4 x) (.ret ((two (r1L tP) r1I).enc (hc5 x),[])))
theorem Kd5:i5 prog G 71 Rc1:=Ha5 (bd b71 sd9) (two (r1L tP) r1I) (o:=Ja9) λx=>va6 (.s .p (.s .p (.s .p (.s .p (.s (.s .p (.b (.u Kb6.ls))) .p))))) [Kb6.pr] (by kernel_rfl) (.cons jd6 .nil) (by kernel_rfl)
noncomputable def qc7:List (Nat×Sum):=[(68,Ca5),(78,vc6)]
theorem jd7:i9 prog G qc7:=⟨Ma3,Qc8,trivial⟩
structure ha0 where
 is4:Int
structure E7 where
 ph:Nat
 is6:Int
 n5:List Int
 d8:Int
 ns5:Nat
 eh1:List (List b7)
noncomputable def Ob2(p:ha0)(s:E7):St:=⟨ra 3 (.ptr 0 0 0 0::i p.is4::.v (.slice none 0 0)::i s.is6::ra 127 []),[⟨0,2,[[eL tI s.n5,i s.d8]],true,false,0⟩]⟩
noncomputable def Ob3(p:ha0)(s:E7):St:=⟨ra 3 (.ptr 0 0 0 0::i p.is4::.sl 1 0 s.ns5 0::i s.is6::ra 127 []),[⟨0,2,[[eL tI s.n5,i s.d8]],true,false,0⟩,⟨27,3,s.eh1,true,false,0⟩]⟩
noncomputable def Vc2(p:ha0)(s:E7):St:=(sel (Nat.beq s.ph 1) (Ob3 p s) (Ob2 p s))
noncomputable def xa4{α:Type}(k:E7->α)(e:Nat->α)(z:α)(p:ha0)(s:E7):α:=let t1:=(o6 ⟨17,rt tI s.n5,s.d8⟩);let t2:=(o6 ⟨17,rt tI (rt tI s.n5),t1.d8⟩);let t3:=(o6 ⟨17,rt tI (rt tI (rt tI s.n5)),t2.d8⟩);let t4:=(o6 ⟨6,rt tI (rt tI (rt tI (rt tI s.n5))),t3.d8⟩);let w0:α:=(sl (t4.is0==3) (sl (decide (s.is6>2)) z (k ⟨1,W (s.is6+1),rt tI (rt tI (rt tI (rt tI s.n5))),t4.d8,1,[[i (W (t1.is0-8)),i (W (t2.is0-8)),i (W (t3.is0-8))]]⟩)) (k ⟨1,W (s.is6+1),rt tI (rt tI (rt tI (rt tI s.n5))),t4.d8,1,[[i (W (t1.is0-8)),i (W (t2.is0-8)),i (W (t3.is0-8))]]⟩));(sl (decide (s.is6<p.is4)) (sl ((cnE tI s.n5)&&true) (sl (Nat.beq t1.alt 1) (sl ((cnE tI (rt tI s.n5))&&true) (sl (Nat.beq t2.alt 1) (sl ((cnE tI (rt tI (rt tI s.n5)))&&true) (sl (Nat.beq t3.alt 1) (sl ((cnE tI (rt tI (rt tI (rt tI s.n5))))&&true) (sl (Nat.beq t4.alt 1) (sl (t4.is0==1) (sl (decide (s.is6>1)) z (sl (t4.is0==2) (sl (decide (s.is6>0)) z w0) w0)) (sl (t4.is0==2) (sl (decide (s.is6>0)) z w0) w0)) z) z) z) z) z) z) z) z) (e 1))
noncomputable def Q1{α:Type}(k:E7->α)(e:Nat->α)(z:α)(p:ha0)(s:E7):α:=let t1:=(o6 ⟨17,rt tI s.n5,s.d8⟩);let a0:=(l9 s.eh1 (0+(W (s.is6-1)).toNat));let a1:=(Nat.beq s.ns5 (len s.eh1)&&Nat.ble ((s.ns5+1)*24) room);let a3:=(l0 (l9 s.eh1 (0+(W (s.is6-2)).toNat)) 0);let a4:=((Nat.blt (0+(W (s.is6-1)).toNat) (len s.eh1))&&(Nat.ble (2+1) (len a0)));let a5:=(i (W (Int.tdiv (W ((toI (hdA (tlA (l0 a0 0))))+(toI (hdA (tlA a3))))) 2)));let a6:=(i (W (Int.tdiv (W ((toI (hdA (l0 a0 0)))+(toI (hdA a3)))) 2)));let a7:=(app s.eh1 [[a6,a5,i (W (Int.tdiv (W ((toI (hdA (tlA (tlA (l0 a0 0)))))+(toI (hdA (tlA (tlA a3)))))) 2))]]);let a8:=(inB (W (s.is6-1)) s.ns5);let a9:=(i (toI (hdA (tlA (l0 a0 0)))));let a10:=((Nat.blt (0+(W (s.is6-1)).toNat) (len s.eh1))&&(Nat.ble (0+3) (len a0)));let a11:=(i (toI (hdA (l0 a0 0))));let a12:=(app s.eh1 [[a11,a9,i (toI (hdA (tlA (tlA (l0 a0 0)))))]]);let a13:=(i (toI (hdA (l0 a0 2))));let a14:=(rt tI (rt tI s.n5));let t2:=(o6 ⟨17,a14,t1.d8⟩);let t3:=(o6 ⟨17,rt tI a14,t2.d8⟩);let a2:=(rt tI (rt tI a14));let t4:=(o6 ⟨6,a2,t3.d8⟩);let w0:α:=(sl (t4.is0==3) (sl (decide (s.is6>2)) (sl a8 (sl (a4&&(qa3 [CK.int .i64] (l0 a0 2))) (sl a1 (k ⟨1,W (s.is6+1),a2,t4.d8,s.ns5+1,app s.eh1 [[i (W (t1.is0-8)),i (W (t2.is0-8)),a13]]⟩) z) z) z) (sl a1 (k ⟨1,W (s.is6+1),a2,t4.d8,s.ns5+1,app s.eh1 [[i (W (t1.is0-8)),i (W (t2.is0-8)),i (W (t3.is0-8))]]⟩) z)) (sl a1 (k ⟨1,W (s.is6+1),a2,t4.d8,s.ns5+1,app s.eh1 [[i (W (t1.is0-8)),i (W (t2.is0-8)),i (W (t3.is0-8))]]⟩) z));let w1:α:=(sl a8 (sl (a10&&(qa3 [CK.int .i64,CK.int .i64,CK.int .i64] (l0 a0 0))) (sl (t4.is0==3) (sl (decide (s.is6>2)) (sl a8 (sl (a4&&(qa3 [CK.int .i64] (l0 a0 2))) (sl a1 (k ⟨1,W (s.is6+1),a2,t4.d8,s.ns5+1,app s.eh1 [[a11,a9,a13]]⟩) z) z) z) (sl a1 (k ⟨1,W (s.is6+1),a2,t4.d8,s.ns5+1,a12⟩) z)) (sl a1 (k ⟨1,W (s.is6+1),a2,t4.d8,s.ns5+1,a12⟩) z)) z) z);let w2:α:=(sl (t4.is0==3) (sl (decide (s.is6>2)) (sl a8 (sl (a4&&(qa3 [CK.int .i64] (l0 a0 2))) (sl a1 (k ⟨1,W (s.is6+1),a2,t4.d8,s.ns5+1,app s.eh1 [[a6,a5,a13]]⟩) z) z) z) (sl a1 (k ⟨1,W (s.is6+1),a2,t4.d8,s.ns5+1,a7⟩) z)) (sl a1 (k ⟨1,W (s.is6+1),a2,t4.d8,s.ns5+1,a7⟩) z));(sl (decide (s.is6<p.is4)) (sl ((cnE tI s.n5)&&true) (sl (Nat.beq t1.alt 1) (sl ((cnE tI (rt tI s.n5))&&true) (sl (Nat.beq t2.alt 1) (sl ((cnE tI a14)&&true) (sl (Nat.beq t3.alt 1) (sl ((cnE tI (rt tI a14))&&true) (sl (Nat.beq t4.alt 1) (sl (t4.is0==1) (sl (decide (s.is6>1)) (sl a8 (sl (a10&&(qa3 [CK.int .i64,CK.int .i64,CK.int .i64] (l0 a0 0))) (sl (inB (W (s.is6-2)) s.ns5) (sl (((Nat.blt (0+(W (s.is6-2)).toNat) (len s.eh1))&&(Nat.ble (0+3) (len (l9 s.eh1 (0+(W (s.is6-2)).toNat)))))&&(qa3 [CK.int .i64,CK.int .i64,CK.int .i64] a3)) (sl (t4.is0==2) (sl (decide (s.is6>0)) w1 w2) w2) z) z) z) z) (sl (t4.is0==2) (sl (decide (s.is6>0)) w1 w0) w0)) (sl (t4.is0==2) (sl (decide (s.is6>0)) w1 w0) w0)) z) z) z) z) z) z) z) z) (e 2))
noncomputable def Ta7(p:ha0)(s:E7):Stp E7:=(sel (Nat.beq s.ph 1) (Q1 .next .exit .fail p s) (xa4 .next .exit .fail p s))
noncomputable def Ab3:Lo ha0 E7:=⟨En qc7,0,Cf3,[1,1,1,1,0,1,4,4],[3,4,5,6],.p,[⟨ru2 3 (sPq 0::sIq::.s (.o .nil)::sIq::ru2 127 []),[⟨0,2,true,some [[.c 1 (nL tI),.o (.int .i64)]]⟩],λa H=>(⟨aIq a 4⟩,⟨0,aIq a 6,hLq tI H 0 0 0,hIq H 0 0 1,0,[]⟩)⟩,⟨ru2 3 (sPq 0::sIq::.s (.o (.sl 1 0 (some 0) none))::sIq::ru2 127 []),[⟨0,2,true,some [[.c 1 (nL tI),.o (.int .i64)]]⟩,⟨27,3,true,none⟩],λa H=>(⟨aIq a 4⟩,⟨1,aIq a 6,hLq tI H 0 0 0,hIq H 0 0 1,slN (slT a 5),elT H 1⟩)⟩],Ta7,[(some 0,λp s=>upq (Ob2 p s) [(18,i s.is6),(19,i p.is4),(20,b (decide (s.is6<p.is4)))]),(some 0,λp s=>upq (Ob3 p s) [(18,i s.is6),(19,i p.is4),(20,b (decide (s.is6<p.is4)))])],Vc2⟩
theorem Vc3:Ab3.Ok:=Lo.ok [] (by kernel_rfl) .nil rfl (.cons (λa H=>by kernel_rfl) (.cons (λa H=>by kernel_rfl) .nil)) λp s=>(.sel (Nat.beq s.ph 1) (.of @Q1 (λF _ _ _ _ _=>by unfold Q1;(repeat' apply m0 (f:=F))<;>rfl) (by kernel_rfl)) (.of @xa4 (λF _ _ _ _ _=>by unfold xa4;(repeat' apply m0 (f:=F))<;>rfl) (by kernel_rfl)))
noncomputable def bb2(x:List Int):Option (b7×List b8):=let t1:=(o6 ⟨5,rt tI x,0⟩);let t2:=(lp (Ta7 (⟨W (4+t1.is0)⟩:ha0)) (⟨0,0,rt tI (rt tI x),t1.d8,0,[]⟩:E7));let t3:=(Va6 []);let t4:=(Va6 (lsL tV t2.2.ns5 (λk=>l9 t2.2.eh1 (0+k))));let a0:=(l0 (l9 t2.2.eh1 0) 0);let a1:=(i (toI (hdA (tlA (tlA a0)))));let a2:=(i (W ((toI (hdA a0))-3)));let a3:=(setAt t2.2.eh1 1 (da7 (l9 t2.2.eh1 1) 0 [a2,i (toI (hdA (tlA a0))),a1]));let a4:=(i (W ((toI (hdA (tlA a0)))-2)));(sl ((cnE tI x)&&true) (sl (Nat.beq t1.alt 1) (sl ((cnE tI (rt tI x))&&true) (sl (Nat.beq t2.1 1) (sl (hb7 []) (sl t3 none (some (.v (.slice none 0 0),[]))) none) (sl (Nat.beq t2.1 2) (sl (okL tV t2.2.ns5 (λk=>l9 t2.2.eh1 (0+k))) (sl (hb7 (lsL tV t2.2.ns5 (λk=>l9 t2.2.eh1 (0+k)))) (sl t4 (sl (inB 0 t2.2.ns5) (sl (((Nat.blt 0 (len t2.2.eh1))&&(Nat.ble (0+3) (len (l9 t2.2.eh1 0))))&&(qa3 [CK.int .i64,CK.int .i64,CK.int .i64] a0)) (sl (inB 1 t2.2.ns5) (sl ((Nat.blt 1 (len t2.2.eh1))&&(Nat.ble (0+3) (len (l9 t2.2.eh1 1)))) (sl (inB 2 t2.2.ns5) (sl ((Nat.blt 2 (len a3))&&(Nat.ble (0+3) (len (l9 a3 2)))) (sl (inB 3 t2.2.ns5) (sl ((Nat.blt 3 (len (setAt a3 2 (da7 (l9 a3 2) 0 [i (toI (hdA a0)),a4,a1]))))&&(Nat.ble (0+3) (len (l9 (setAt a3 2 (da7 (l9 a3 2) 0 [i (toI (hdA a0)),a4,a1])) 3)))) (some (.sl 0 0 t2.2.ns5 0,[⟨27,3,setAt (setAt a3 2 (da7 (l9 a3 2) 0 [i (toI (hdA a0)),a4,a1])) 3 (da7 (l9 (setAt a3 2 (da7 (l9 a3 2) 0 [i (toI (hdA a0)),a4,a1])) 3) 0 [i (toI (hdA a0)),i (toI (hdA (tlA a0))),i (W ((toI (hdA (tlA (tlA a0))))-1))]),true,false,0⟩])) none) none) none) none) none) none) none) none) (some (.sl 0 0 t2.2.ns5 0,[⟨27,3,t2.2.eh1,true,false,0⟩]))) none) none) none)) none) none) none)
noncomputable def la4(x:List Int):List V3:=O3 (one (r1L tV)) (bb2 x)
noncomputable def ub2(x:List Int):Bool:=okO (one (r1L tV)) (bb2 x)
noncomputable def Ec2:Sum:=X7 (P8 tI) (λx=>.guard (ub2 x) (.ret ((one (r1L tV)).enc (la4 x),[])))
theorem td0:i5 prog G 25 Ec2:=Ha5 (bd b25 jd7) (one (r1L tV)) (o:=bb2) λx=>va6 (.s .p (.s .p (.s .p (.s .p (.s (.s .p (.b (.u Ab3.ls))) .p))))) [Ab3.pr] (by kernel_rfl) (.cons Vc3 .nil) (by kernel_rfl)
noncomputable def Zd3:List (Nat×Sum):=[(68,Ca5),(69,Lc4),(63,Kc2),(51,vc4),(70,uc4),(25,Ec2),(71,Rc1)]
theorem Kd6:i9 prog G Zd3:=⟨Ma3,id4,ed7,Qc6,Qc2,td0,Kd5,trivial⟩
noncomputable def Ab4(x:List Int):Option (b7×List b8):=let t1:=(o6 ⟨4,rt tI x,0⟩);let t2:=(gb9 ⟨6,rt tI (rt tI x),t1.d8⟩);let t3:=(o6 ⟨6,rt tI t2.n5,t2.d8⟩);let t4:=(o6 ⟨6,rt tI (rt tI t2.n5),t3.d8⟩);let t5:=(o6 ⟨6,rt tI (rt tI (rt tI t2.n5)),t4.d8⟩);let t6:=(Mb6 (⟨t2.Da5,t2.Da6,t2.Da7⟩:V3) (⟨W ((W (t2.Da5+1))+t3.is0),W ((W (t2.Da6+1))+t4.is0),W ((W (t2.Da7+1))+t5.is0)⟩:V3));let t7:=(Va3 (lsL tI ((List.length x)-(if 7<(↑(List.length x):Int) then 7 else (↑(List.length x):Int)).toNat) (λk=>(λk=>(tI).row (gL tI x k)) ((if 7<(↑(List.length x):Int) then 7 else (↑(List.length x):Int)).toNat+k))));let t8:=(fb7 (slR tP (app (app [] (p5 (λk=>(tP).row (gL tP t6 k)) (List.range (List.length t6)))) [[i t7.n.x,i t7.n.y,i t7.n.z,i t7.b]]) 0 ((0+(len (p5 (λk=>(tP).row (gL tP t6 k)) (List.range (List.length t6)))))+1)));let t9:=(la4 (lsL tI ((List.length x)-(if 7<(↑(List.length x):Int) then 7 else (↑(List.length x):Int)).toNat) (λk=>(λk=>(tI).row (gL tI x k)) ((if 7<(↑(List.length x):Int) then 7 else (↑(List.length x):Int)).toNat+k))));let t10:=(hc5 (rt tV t9));let w0:Option (b7×List b8):=(sl (okE tV t9) (sl (Gb4 (rt tV t9)) (sl (t10.2==0) (some (eL tP t10.1,[])) (some (eL tP t6,[]))) none) none);(sl ((cnE tI x)&&true) (sl (Nat.beq t1.alt 1) (sl ((cnE tI (rt tI x))&&true) (sl (Nat.beq t2.alt 1) (sl ((cnE tI t2.n5)&&true) (sl (Nat.beq t3.alt 1) (sl ((cnE tI (rt tI t2.n5))&&true) (sl (Nat.beq t4.alt 1) (sl ((cnE tI (rt tI (rt tI t2.n5)))&&true) (sl (Nat.beq t5.alt 1) (sl (Mb7 (⟨t2.Da5,t2.Da6,t2.Da7⟩:V3) (⟨W ((W (t2.Da5+1))+t3.is0),W ((W (t2.Da6+1))+t4.is0),W ((W (t2.Da7+1))+t5.is0)⟩:V3)) (sl (inB (if 7<(↑(List.length x):Int) then 7 else (↑(List.length x):Int)) ((List.length x)+1)) (sl (t1.is0==2) (sl (Nat.beq 0 0&&Nat.ble ((0+(len (p5 (λk=>(tP).row (gL tP t6 k)) (List.range (List.length t6)))))*32) room) (sl (okL tI ((List.length x)-(if 7<(↑(List.length x):Int) then 7 else (↑(List.length x):Int)).toNat) (λk=>(λk=>(tI).row (gL tI x k)) ((if 7<(↑(List.length x):Int) then 7 else (↑(List.length x):Int)).toNat+k))) (sl (Tb6 (lsL tI ((List.length x)-(if 7<(↑(List.length x):Int) then 7 else (↑(List.length x):Int)).toNat) (λk=>(λk=>(tI).row (gL tI x k)) ((if 7<(↑(List.length x):Int) then 7 else (↑(List.length x):Int)).toNat+k)))) (sl (Nat.beq (0+(len (p5 (λk=>(tP).row (gL tP t6 k)) (List.range (List.length t6))))) (len (app [] (p5 (λk=>(tP).row (gL tP t6 k)) (List.range (List.length t6)))))&&Nat.ble (((0+(len (p5 (λk=>(tP).row (gL tP t6 k)) (List.range (List.length t6)))))+1)*32) room) (sl (okS tP (app (app [] (p5 (λk=>(tP).row (gL tP t6 k)) (List.range (List.length t6)))) [[i t7.n.x,i t7.n.y,i t7.n.z,i t7.b]]) 0 ((0+(len (p5 (λk=>(tP).row (gL tP t6 k)) (List.range (List.length t6)))))+1)) (sl (fb8 (slR tP (app (app [] (p5 (λk=>(tP).row (gL tP t6 k)) (List.range (List.length t6)))) [[i t7.n.x,i t7.n.y,i t7.n.z,i t7.b]]) 0 ((0+(len (p5 (λk=>(tP).row (gL tP t6 k)) (List.range (List.length t6)))))+1))) (sl t8 (some ((.sl 0 0 ((0+(len (p5 (λk=>(tP).row (gL tP t6 k)) (List.range (List.length t6)))))+1) 0),[⟨73,4,(app (app [] (p5 (λk=>(tP).row (gL tP t6 k)) (List.range (List.length t6)))) [[i t7.n.x,i t7.n.y,i t7.n.z,i t7.b]]),true,false,0⟩])) (sl (t1.is0==3) (sl (okL tI ((List.length x)-(if 7<(↑(List.length x):Int) then 7 else (↑(List.length x):Int)).toNat) (λk=>(λk=>(tI).row (gL tI x k)) ((if 7<(↑(List.length x):Int) then 7 else (↑(List.length x):Int)).toNat+k))) (sl (ub2 (lsL tI ((List.length x)-(if 7<(↑(List.length x):Int) then 7 else (↑(List.length x):Int)).toNat) (λk=>(λk=>(tI).row (gL tI x k)) ((if 7<(↑(List.length x):Int) then 7 else (↑(List.length x):Int)).toNat+k)))) w0 none) none) (some (eL tP t6,[])))) none) none) none) none) none) none) (sl (t1.is0==3) (sl (okL tI ((List.length x)-(if 7<(↑(List.length x):Int) then 7 else (↑(List.length x):Int)).toNat) (λk=>(λk=>(tI).row (gL tI x k)) ((if 7<(↑(List.length x):Int) then 7 else (↑(List.length x):Int)).toNat+k))) (sl (ub2 (lsL tI ((List.length x)-(if 7<(↑(List.length x):Int) then 7 else (↑(List.length x):Int)).toNat) (λk=>(λk=>(tI).row (gL tI x k)) ((if 7<(↑(List.length x):Int) then 7 else (↑(List.length x):Int)).toNat+k)))) w0 none) none) (some (eL tP t6,[])))) none) none) none) none) none) none) none) none) none) none) none) none)
noncomputable def oa6(x:List Int):List Pln:=O3 (one (r1L tP)) (Ab4 x)
noncomputable def Ab5(x:List Int):Bool:=okO (one (r1L tP)) (Ab4 x)
noncomputable def vc7:Sum:=X7 (P8 tI) (λx=>.guard (Ab5 x) (.ret ((one (r1L tP)).enc (oa6 x),[])))
theorem Rc2:i5 prog G 16 vc7:=Ha5 (bd b16 Kd6) (one (r1L tP)) (o:=Ab4) λx=>y8 (by kernel_rfl)
noncomputable def Rc3:List (Nat×Sum):=[]
theorem Kd7:i9 prog G Rc3:=trivial
structure bb3 where
 (d7 ja9:List Pln)
structure la5 where
 is5:Int
noncomputable def qc8(p:bb3)(s:la5):St:=⟨eL tP p.d7::eL tP p.ja9::ra 3 (i s.is5::ra 20 []),[]⟩
noncomputable def Ka0{α:Type}(k:la5->α)(e:Nat->α)(z:α)(p:bb3)(s:la5):α:=(sl (decide (s.is5<(↑(List.length p.d7):Int))) (sl (inB s.is5 (List.length p.d7)) (sl (inB s.is5 (List.length p.ja9)) (sl (!(((gL tP p.d7 s.is5.toNat).n.x==(gL tP p.ja9 s.is5.toNat).n.x)&&(((gL tP p.d7 s.is5.toNat).n.y==(gL tP p.ja9 s.is5.toNat).n.y)&&(((gL tP p.d7 s.is5.toNat).n.z==(gL tP p.ja9 s.is5.toNat).n.z)&&(((gL tP p.d7 s.is5.toNat).b==(gL tP p.ja9 s.is5.toNat).b)&&true))))) (e 1) (k ⟨W (s.is5+1)⟩)) z) z) (e 2))
noncomputable def Ra9(p:bb3)(s:la5):Stp la5:=Ka0 .next .exit .fail p s
noncomputable def Ub2:Lo bb3 la5:=⟨En Rc3,0,Cf2,[1,1,0,1,4,4],[0,1,5],.p,[⟨sLq tP::sLq tP::ru2 3 (sIq::ru2 20 []),[],λa H=>(⟨aLq tP a 0,aLq tP a 1⟩,⟨aIq a 5⟩)⟩],Ra9,[(none,λp s=>⟨[b false],[]⟩),(some 0,λp s=>upq (qc8 p s) [(11,i s.is5),(12,eL tP p.d7),(13,i (↑(List.length p.d7):Int)),(14,b (decide (s.is5<(↑(List.length p.d7):Int))))])],qc8⟩
theorem td1:Ub2.Ok:=Lo.ok [] (by kernel_rfl) .nil rfl (.cons (λa H=>by kernel_rfl) .nil) λp s=>(.of @Ka0 (λF _ _ _ _ _=>by unfold Ka0;(repeat' apply m0 (f:=F))<;>rfl) (by kernel_rfl))
noncomputable def Ab6(x:List Pln)(y:List Pln):Option (b7×List b8):=let t1:=(lp (Ra9 (⟨rt tP x,rt tP y⟩:bb3)) (⟨0⟩:la5));(sl ((↑(List.length x):Int) != (↑(List.length y):Int)) (some (b false,[])) (sl ((cnE tP x)&&((cnE tP y)&&true)) (sl (Nat.beq t1.1 1) (some (b false,[])) (sl (Nat.beq t1.1 2) (some (b true,[])) none)) none))
noncomputable def Ub3(x:List Pln)(y:List Pln):Bool:=O3 (one r1B) (Ab6 x y)
noncomputable def Ub4(x:List Pln)(y:List Pln):Bool:=okO (one r1B) (Ab6 x y)
noncomputable def jd8:Sum:=ra8 (P8 tP) (P8 tP) (λx y=>.guard (Ub4 x y) (.ret ((one r1B).enc (Ub3 x y),[])))
theorem Zd4:i5 prog G 23 jd8:=sb9 (bd b23 Kd7) (one r1B) (o:=Ab6) λx y=>va6 (.s .p (.s .p (.s (.s .p (.b (.u Ub2.ls))) .p))) [Ub2.pr] (by kernel_rfl) (.cons td1 .nil) (by kernel_rfl)
structure pf8 where
 is6:Int
structure qf0 where
 ns5:Nat
 eh0:List (List b7)
theorem Zd5{Q:Pt->Prop}(r:List Pln)(p q:Pln):∀(l:List Pln) (out:List Pt),(∀s∈l,(mpt p q s).2=true->inn r (mpt p q s).1=true->Q (mpt p q s).1)->(∀x∈out,Q x)->∀x∈qb5 r p q l out,Q x
 |[],out,_,h=>h
 |s::l,out,hs,h=>Zd5 r p q l (Ja6 r p q out s) (λt ht=>hs t (Qif _ ht)) λx hx=>by
  unfold Ja6 at hx
  split at hx
  ·rename_i hc;rw[Qig,Qig] at hc
   rcases Qiu.1 hx with hx|hx
   ·exact h x hx
   ·rw[List.mem_singleton] at hx;subst hx;exact hs s Qip hc.1 hc.2.2
  ·exact h x hx
theorem Zd6{Q:Pt->Prop}(r:List Pln)(p:Pln):∀(l:List Pln) (out:List Pt),(∀q∈l,∀s∈l,(mpt p q s).2=true->inn r (mpt p q s).1=true->Q (mpt p q s).1)->(∀x∈out,Q x)->∀x∈ab8 r p l out,Q x
 |[],out,_,h=>h
 |q::l,out,hs,h=>Zd6 r p l _ (λa ha t ht=>hs a (Qif _ ha) t (Qif _ ht)) (Zd5 r p q l out (λt ht=>hs q Qip t (Qif _ ht)) h)
theorem Zd7{Q:Pt->Prop}(r:List Pln):∀(l:List Pln) (out:List Pt),(∀p∈l,∀q∈l,∀s∈l,(mpt p q s).2=true->inn r (mpt p q s).1=true->Q (mpt p q s).1)->(∀x∈out,Q x)->∀x∈Dc4 r l out,Q x
 |[],out,_,h=>h
 |p::l,out,hs,h=>Zd7 r l _ (λa ha c hc t ht=>hs a (Qif _ ha) c (Qif _ hc) t (Qif _ ht)) (Zd6 r p l out (λc hc t ht=>hs p Qip c (Qif _ hc) t (Qif _ ht)) h)
theorem se0{Q:Pt->Prop}{r:List Pln}(hs:∀p∈r,∀q∈r,∀s∈r,(mpt p q s).2=true->inn r (mpt p q s).1=true->Q (mpt p q s).1):∀x∈cor r,Q x :=
 Zd7 r r [] hs λx hx=>by cases hx
structure Okx(x:Pt):Prop where
 w1:0<x.pw
 w2:x.pw<=600000000000
 c1:Sm 300000000000000 x.px
 c2:Sm 300000000000000 x.py
 c3:Sm 300000000000000 x.pz
theorem Ec3{r:List Pln}(hb:Bds r):∀x∈cor r,Okx x:=se0 λp hp q hq s hs h _=>by
 obtain⟨h1,h2,h3,h4,h5⟩:=ke8 (hb p hp) (hb q hq) (hb s hs) h;exact⟨h1,h5,h2,h3,h4⟩
theorem Kd8(c:List Pln):(pts c).length<=8000000:=by
 unfold pts;cases h:chk c==0 with
 |false=>exact Qie _
 |true=>exact Jd4 _ (jb5 h).1 (jb5 h).2
theorem Pe4{x y:Int}(hy:0<y):Int.tmod x y+y*Int.tdiv x y=x/\-y<Int.tmod x y/\Int.tmod x y<y:=by
 refine⟨Int.tmod_add_mul_tdiv x y,?_,Int.tmod_lt_of_pos x hy⟩
 have:=Int.lt_tmod_of_pos x hy
 omega
theorem Pe5(x:Int){y:Int}(hy:0<y)(hy2:y<=4000000000000000000):Nb1 x y=some (i (x % y),[]):=by
 have hz:(y==0)=false:=by rw[beq_eq_false_iff_ne];omega
 obtain⟨h1,h2,h3⟩:=Pe4 (x:=x) hy;unfold Nb1;rw[bfD (by omega),bf hz,bf hz,ia4 (by omega) (by omega),Int.tmod_eq_emod_of_nonneg (by omega)]
 congr 3;rw[Int.add_emod_right]
 conv=>rhs;rw[<- h1]
 rw[Int.add_mul_emod_self_left]
theorem Hf5(x:Int){y:Int}(hy:0<y)(hy2:y<=4000000000000000000):Nb2 x y=x % y:=by unfold Nb2;rw[Pe5 x hy hy2];rfl
theorem Pe6(x:Int){y:Int}(hy:0<y)(hy2:y<=4000000000000000000):Nb3 x y=true:=by unfold Nb3;rw[Pe5 x hy hy2];rfl
theorem Sm.neg{n x:Int}(h:Sm n x):Sm n (-x):=⟨by have:=h.2;omega,by have:=h.1;omega⟩
theorem Pe7(x:Pln):(x.n.x==x.n.x&&(x.n.y==x.n.y&&(x.n.z==x.n.z&&(x.b==x.b&&true))))=true:=by simp
theorem se1(l:List Pln)(hl:l.length<=1000000000):Ab6 l l=some (b true,[]):=by
 have h:=fb6 (step:=Ra9 ⟨l,l⟩) (mk:=λj=>(⟨(j:Int)⟩:la5)) (c:=λ_=>false) (u:=1) (fin:=2) tP l hl
  (λj hj=>by
   simp only[Ra9,Ka0,Int.toNat_natCast,o3 hj (by omega),Pe7]
   rw[btD (g9 hj),bt (f7 hj),bt (f7 hj)]
   rfl)
  (by simp only[Ra9,Ka0];rw[bfD (m9 (Qic _))]) 0 (Qie _)
 rw[Qia,show (l.any λ_=>false)=false by simp] at h
 unfold Ab6;simp only[i6,i8];rw[show (⟨0⟩:la5)=⟨((0:Nat):Int)⟩ from rfl,h,bf (by simp)]
 rfl
theorem vf8(l:List Pln)(hl:l.length<=1000000000):Ub3 l l=true:=by unfold Ub3;rw[se1 l hl];rfl
theorem vf9(l:List Pln)(hl:l.length<=1000000000):Ub4 l l=true:=by unfold Ub4;rw[se1 l hl];rfl
def Nx{σ:Type}(x:Stp σ)(E:Nat->Prop)(N:σ->Prop):Prop:=(∃t,x=.exit t/\E t)\/∃s,x=.next s/\N s
theorem Nx.sl{σ:Type}{c:Bool}{t e:Stp σ}{E:Nat->Prop}{N:σ->Prop}(h1:c=true->Nx t E N)(h2:c=false->Nx e E N):Nx (sl c t e) E N:=by cases c;exact h2 rfl;exact h1 rfl
theorem Nx.ex{σ:Type}{t:Nat}{E:Nat->Prop}{N:σ->Prop}(h:E t):Nx (.exit t) E N:=.inl ⟨t,rfl,h⟩
theorem Nx.nx{σ:Type}{s:σ}{E:Nat->Prop}{N:σ->Prop}(h:N s):Nx (.next s) E N:=.inr ⟨s,rfl,h⟩
theorem W9 {σ τ : Type} {step : σ → Stp σ} {mk : Nat → τ → σ} (n : Nat) (I : Nat → τ → Prop) (E : Nat → σ → Prop) (hn : n ≤ 1000000000)
  (h:∀j a,j<n->I j a->Nx (step (mk j a)) (λt=>E t (mk j a)) (λs=>∃a',s=mk (j+1) a'/\I (j+1) a'))
  (hf:∀j a,n<=j->I j a->∃t,step (mk j a)=.exit t/\E t (mk j a)) (j0:Nat) (a:τ) (hi:I j0 a):∃t s,lp step (mk j0 a)=(t,s)/\E t s:=by
 have key:=tc6 (step:=step) (I:=λm s=>∃j a,m=n-j/\s=mk j a/\I j a) (Q:=E) (λm s ⟨j,a,hm,hs,ha⟩=>by
  subst hs;by_cases hlt:j<n
  ·rcases h j a hlt ha with h1|⟨s',h1,a',h2,h3⟩
   ·exact .inl h1
   ·subst h2;exact .inr ⟨_,n-(j+1),by omega,h1,j+1,a',rfl,rfl,h3⟩
  ·exact .inl (hf j a (by omega) ha)) (n-j0) (mk j0 a) (by omega) ⟨j0,a,rfl,rfl,hi⟩
 exact⟨_,_,rfl,key⟩
def Rd{ρ:Type}(R:RR ρ)(o:Option (b7×List b8))(P:ρ->Prop):Prop:=∃x r,o=some x/\R.rd x=some r/\P r
theorem Rd.p{ρ:Type}{R:RR ρ}{o:Option (b7×List b8)}{P:ρ->Prop}(h:Rd R o P):P (O3 R o):=by
 obtain⟨x,r,h1,h2,h3⟩:=h;rw[h1,Ea6 R h2];exact h3
theorem Rd.g{ρ:Type}{R:RR ρ}{o:Option (b7×List b8)}{P:ρ->Prop}(h:Rd R o P):okO R o=true:=by
 obtain⟨x,r,h1,h2,h3⟩:=h;rw[h1];exact Ra5 R h2
theorem Rd.sl{ρ:Type}{R:RR ρ}{c:Bool}{t e:Option (b7×List b8)}{P:ρ->Prop}(h1:c=true->Rd R t P)(h2:c=false->Rd R e P):Rd R (sl c t e) P:=by cases c;exact h2 rfl;exact h1 rfl
theorem va9 (n : Int) (l : List Int) (j : Int) (h1 : 0 ≤ j) (h2 : j ≤ 1000000) (hn : 0 < n) (hn2 : n ≤ 1000000) :
  ∃v j',o6 ⟨n,l,j⟩=⟨1,v,j'⟩/\0<=v/\v<n/\j<=j'/\j'<=j+1:=by
 unfold o6 ra4
 simp only
 by_cases h:j>=(l.length:Int)
 ·rw[btD h];exact⟨0,j,rfl,by omega,hn,by omega,by omega⟩
 ·rw[bfD h];have hW:W (W (j+1)-1)=j:=by rw[dd1,ia4 (by omega) (by omega)];omega
  have hW2:W (j+1)=j+1:=ia4 (by omega) (by omega)
  have hin:inB j l.length=true:=by rw[Xc9];exact decide_eq_true (by omega)
  rw[hW,hW2,hin,Pe6 _ hn (by omega),Hf5 _ hn (by omega)]
  exact⟨_,_,rfl,Int.emod_nonneg _ (by omega),Int.emod_lt_of_pos _ hn,by omega,by omega⟩
theorem vc8 (m : Int) (l : List Int) (j : Int) (h1 : 0 ≤ j) (h2 : j ≤ 900000) (hm : 0 ≤ m) (hm2 : m ≤ 100000) :
  ∃a b c j',gb9 ⟨m,l,j⟩=⟨1,a,b,c,l,j'⟩/\Sm m a/\Sm m b/\Sm m c/\j<=j'/\j'<=j+3:=by
 unfold gb9 wb0;simp only[i6,i8];have hW:W (W (2*m)+1)=2*m+1:=by rw[xb8,ia4 (by omega) (by omega)]
 rw[hW];obtain⟨v1,j1,e1,a1,b1,c1,d1⟩:=va9 (2*m+1) l j h1 (by omega) (by omega) (by omega)
 rw[e1];obtain⟨v2,j2,e2,a2,b2,c2,d2⟩:=va9 (2*m+1) l j1 (by omega) (by omega) (by omega) (by omega)
 simp only
 rw[e2];obtain⟨v3,j3,e3,a3,b3,c3,d3⟩:=va9 (2*m+1) l j2 (by omega) (by omega) (by omega) (by omega)
 simp only
 rw[e3];refine⟨v1-m,v2-m,v3-m,j3,?_,⟨by omega,by omega⟩,⟨by omega,by omega⟩,⟨by omega,by omega⟩,by omega,by omega⟩
 simp only
 rw[ia4 (n:=v1-m) (by omega) (by omega),ia4 (n:=v2-m) (by omega) (by omega),ia4 (n:=v3-m) (by omega) (by omega)]
 rfl
def inV(v:V3):Bool:=smb 24 v.x&&(smb 24 v.y&&smb 24 v.z)
theorem Ub5(v:V3):inV v=true↔Sm 24 v.x/\Sm 24 v.y/\Sm 24 v.z:=by unfold inV;rw[Qig,Qig,ub0,ub0,ub0]
theorem Pe8(v:V3):gc4 v=some (b (inV v),[]):=by
 unfold gc4 inV smb;cases h1:decide (v.x < -24)<;>cases h2:decide (v.x>24)<;>cases h3:decide (v.y < -24)<;>cases h4:decide (v.y>24)<;>cases h5:decide (v.z < -24)<;>cases h6:decide (v.z>24)<;>rfl
theorem se2(v:V3):nb3 v=inV v:=by unfold nb3;rw[Pe8];rfl
theorem Zd8(v:V3):nb4 v=true:=by unfold nb4;rw[Pe8];rfl
def sub(a b:V3):V3:=⟨a.x-b.x,a.y-b.y,a.z-b.z⟩
theorem se3{a b:V3}(ha:inV a=true)(hb:inV b=true):Ma4 a b=sub a b/\Sm 48 (sub a b).x/\Sm 48 (sub a b).y/\Sm 48 (sub a b).z:=by
 rw[Ub5] at ha hb;obtain⟨⟨a1,a2⟩,⟨a3,a4⟩,a5,a6⟩:=ha;obtain⟨⟨b1,b2⟩,⟨b3,b4⟩,b5,b6⟩:=hb;unfold Ma4 sub;rw[ia4 (by omega) (by omega),ia4 (by omega) (by omega),ia4 (by omega) (by omega)]
 exact⟨rfl,⟨by show _<=a.x-b.x;omega,by show a.x-b.x<=_;omega⟩,⟨by show _<=a.y-b.y;omega,by show a.y-b.y<=_;omega⟩,⟨by show _<=a.z-b.z;omega,by show a.z-b.z<=_;omega⟩⟩
theorem qc9 {a b c : V3} (ha : inV a = true) (hb : inV b = true) (hc : inV c = true) :
  aa5 (Ma4 b a) (Ma4 c a)=f0 (sub b a) (sub c a)/\Sm 4608 (f0 (sub b a) (sub c a)).x/\Sm 4608 (f0 (sub b a) (sub c a)).y/\Sm 4608 (f0 (sub b a) (sub c a)).z:=by
 obtain⟨e1,⟨u1,u2⟩,⟨u3,u4⟩,u5,u6⟩:=se3 hb ha;obtain⟨e2,⟨v1,v2⟩,⟨v3,v4⟩,v5,v6⟩:=se3 hc ha;rw[e1,e2,Dc2];generalize sub b a=p at *
 generalize sub c a=q at *
 have h1:=mb u3 u4 v5 v6;have h2:=mb u5 u6 v3 v4;have h3:=mb u5 u6 v1 v2;have h4:=mb u1 u2 v5 v6;have h5:=mb u1 u2 v3 v4;have h6:=mb u3 u4 v1 v2;have k:Sm 4608 (f0 p q).x/\Sm 4608 (f0 p q).y/\Sm 4608 (f0 p q).z:=by unfold Sm f0;simp only;omega
 obtain⟨k1,k2,k3⟩:=k;rw[Ja4 (k1.mono (by omega)),Ja4 (k2.mono (by omega)),Ja4 (k3.mono (by omega))]
 exact⟨rfl,k1,k2,k3⟩
def Ca7(a b c:V3):Pln×Bool :=
 if inV a&&(inV b&&inV c) then
  if g3 (f0 (sub b a) (sub c a))=0 then (⟨⟨0,0,0⟩,0⟩,false)
  else (⟨⟨Int.tdiv (f0 (sub b a) (sub c a)).x (g3 (f0 (sub b a) (sub c a))),Int.tdiv (f0 (sub b a) (sub c a)).y (g3 (f0 (sub b a) (sub c a))),Int.tdiv (f0 (sub b a) (sub c a)).z (g3 (f0 (sub b a) (sub c a)))⟩,
   dot ⟨Int.tdiv (f0 (sub b a) (sub c a)).x (g3 (f0 (sub b a) (sub c a))),Int.tdiv (f0 (sub b a) (sub c a)).y (g3 (f0 (sub b a) (sub c a))),Int.tdiv (f0 (sub b a) (sub c a)).z (g3 (f0 (sub b a) (sub c a)))⟩ a⟩,true)
 else (⟨⟨0,0,0⟩,0⟩,false)
theorem Lc8(v:V3):0<=g3 v:=by unfold g3;omega
theorem jd9(a c d:V3):Ra6 a c d=some (.tup [.agg (tP.row (Ca7 a c d).1),b (Ca7 a c d).2],[]):=by
 unfold Ra6 Ca7;simp only[se2,Zd8];cases ha:inV a with
 |false=>rfl
 |true =>
  cases hc:inV c with
  |false=>rfl
  |true =>
   cases hd:inV d with
   |false=>rfl
   |true =>
    obtain⟨e,k1,k2,k3⟩:=qc9 ha hc hd;rw[e];generalize f0 (sub c a) (sub d a)=n at *
    have m1:=k1.mono (m:=1000000000000000000) (by omega)
    have m2:=k2.mono (m:=1000000000000000000) (by omega)
    have m3:=k3.mono (m:=1000000000000000000) (by omega)
    rw[Oe4 m1 m2 m3,gd7 m1 m2 m3];by_cases h0:g3 n=0
    ·rw[show (g3 n==0)=true from by rw[h0];rfl]
     simp only[Bool.and_self,if_true,h0];rfl
    ·have hp:=Lc8 n;have q1:=L6 (g:=g3 n) k1 (by omega)
     have q2:=L6 (g:=g3 n) k2 (by omega)
     have q3:=L6 (g:=g3 n) k3 (by omega)
     rw[show (g3 n==0)=false from by rw[beq_eq_false_iff_ne];exact h0,uf7 m1 m2 m3 h0]
     simp only[Bool.and_self,if_true,h0,if_false];rw[Ja4 (q1.mono (by omega)),Ja4 (q2.mono (by omega)),Ja4 (q3.mono (by omega))]
     have hdot:Da9 ⟨Int.tdiv n.x (g3 n),Int.tdiv n.y (g3 n),Int.tdiv n.z (g3 n)⟩ a=dot ⟨Int.tdiv n.x (g3 n),Int.tdiv n.y (g3 n),Int.tdiv n.z (g3 n)⟩ a:=by
      unfold Da9;simp only[xb8,dc2];obtain⟨⟨a1,a2⟩,⟨a3,a4⟩,a5,a6⟩:=(Ub5 a).1 ha;have r1:=mb q1.1 q1.2 a1 a2;have r2:=mb q2.1 q2.2 a3 a4;have r3:=mb q3.1 q3.2 a5 a6;rw[ia4 (by omega) (by omega)]
      rfl
     rw[hdot];rfl
theorem Ob4(a b c:V3):ua4 a b c=Ca7 a b c:=by unfold ua4;rw[jd9];rfl
theorem Wa6(a b c:V3):ua5 a b c=true:=by unfold ua5;rw[jd9];rfl
theorem ef6(l:List Int):Rd (one r1P) (Va2 l) (λ_=>True):=by
 unfold Va2;simp only[i6,i8];obtain⟨v1,j1,e1,a1,b1,c1,d1⟩:=va9 8 l 0 (by omega) (by omega) (by omega) (by omega)
 rw[e1]
 simp only
 obtain⟨v2,j2,e2,a2,b2,c2,d2⟩:=va9 17 l j1 (by omega) (by omega) (by omega) (by omega)
 rw[e2]
 simp only
 obtain⟨x1,x2,x3,j3,e3,_,_,_,c3,d3⟩:=vc8 8 l j2 (by omega) (by omega) (by omega) (by omega)
 rw[e3]
 simp only
 obtain⟨y1,y2,y3,j4,e4,_,_,_,c4,d4⟩:=vc8 8 l j3 (by omega) (by omega) (by omega) (by omega)
 rw[e4]
 simp only
 obtain⟨z1,z2,z3,j5,e5,_,_,_,c5,d5⟩:=vc8 8 l j4 (by omega) (by omega) (by omega) (by omega)
 rw[e5];simp only[Ob4,Wa6,Pe6 _ (show (0:Int)<3 by omega) (by omega),i8]
 simp only[Qik,Qil,g8];refine Rd.sl (λ_=>Rd.sl (λ_=>⟨_,_,rfl,rfl,trivial⟩) λ_=>?_) (λ_=>?_)
 ·exact Rd.sl (λ_=>⟨_,_,rfl,rfl,trivial⟩) λ_=>Rd.sl (λ_=>⟨_,_,rfl,rfl,trivial⟩) λ_=>⟨_,_,rfl,rfl,trivial⟩
 ·exact Rd.sl (λ_=>⟨_,_,rfl,rfl,trivial⟩) λ_=>Rd.sl (λ_=>⟨_,_,rfl,rfl,trivial⟩) λ_=>⟨_,_,rfl,rfl,trivial⟩
theorem se4(l:List Int):Tb6 l=true:=(ef6 l).g
theorem ef7(p:Pln)(v:V3):Rd (one r1I) (Va4 p v) (λ_=>True):=by
 unfold Va4;simp only[gd8,Zd8,g8];exact Rd.sl (λ_=>⟨_,_,rfl,rfl,trivial⟩) λ_=>Rd.sl (λ_=>⟨_,_,rfl,rfl,trivial⟩) λ_=>Rd.sl (λ_=>⟨_,_,rfl,rfl,trivial⟩) λ_=>Rd.sl (λ_=>⟨_,_,rfl,rfl,trivial⟩) λ_=>⟨_,_,rfl,rfl,trivial⟩
theorem Kd9(p:Pln)(v:V3):Tb7 p v=true:=(ef7 p v).g
theorem Hf6(P:Aa2)(hl:P.j6.length<=1000000000):∃t s,lp (F7 P) ⟨0⟩=(t,s)/\(t=1\/t=2\/t=3):=by
 obtain⟨l,x1,x2,x3,x4,x5,x6,x7,x8⟩:=P;refine W9 (step:=F7 ⟨l,x1,x2,x3,x4,x5,x6,x7,x8⟩) (mk:=λj (_:Unit)=>(⟨(j:Int)⟩:la0)) l.length (λ_ _=>True) (λt _=>t=1\/t=2\/t=3) hl (λj a hj _=>?_) (λj a hj _=>?_) 0 () trivial
 ·simp only[F7,ga6,Kd9,Int.toNat_natCast,o3 hj (show l.length<=4611686018427387904 from Qiy hl (by omega))]
  rw[btD (g9 hj),bt (f7 hj),g8];exact Nx.sl (λ_=>Nx.sl (λ_=>.ex (by simp)) λ_=>.nx ⟨(),rfl,trivial⟩) λ_=>.ex (by simp)
 ·simp only[F7,ga6];rw[bfD (by omega)]
  exact⟨_,rfl,by simp⟩
theorem Hf7(l:List V3)(hl:l.length<=1000000000)(a c:Nat)(ha:a<l.length)(hc:c<a):∃t s,lp (X3 ⟨(a:Int),(c:Int)⟩) ⟨l,0⟩=(t,s)/\((t=1\/t=2)/\s.j6=l):=by
 refine W9 (step:=X3 ⟨(a:Int),(c:Int)⟩) (mk:=λj (_:Unit)=>(⟨l,(j:Int)⟩:la1)) c (λ_ _=>True) (λt s=>(t=1\/t=2)/\s.j6=l) (by omega) (λj x hj _=>?_) (λj x hj _=>?_) 0 () trivial
 ·simp only[X3,oa3,Wa6,Int.toNat_natCast,i6,i8,o3 hj (show c<=4611686018427387904 by omega)]
  rw[btD (g9 hj),bt (f7 ha),bt (f7 (show c<l.length by omega)),bt (f7 (show j<l.length by omega)),g8]
  generalize hP:Aa2.mk _ _ _ _ _ _ _ _ _=P3;obtain⟨t,s,h1,h2⟩:=Hf6 P3 (by subst hP;exact hl)
  rw[h1]
  rcases h2 with rfl|rfl|rfl
  ·exact .ex (by simp)
  ·exact .nx ⟨(),rfl,trivial⟩
  ·exact .nx ⟨(),rfl,trivial⟩
 ·simp only[X3,oa3];rw[bfD (by omega)]
  exact⟨_,rfl,by simp⟩
theorem Hf8(l:List V3)(hl:l.length<=1000000000)(a:Nat)(ha:a<l.length):∃t s,lp (X4 ⟨(a:Int)⟩) ⟨l,0⟩=(t,s)/\((t=1\/t=2)/\s.j6=l):=by
 refine W9 (step:=X4 ⟨(a:Int)⟩) (mk:=λj (_:Unit)=>(⟨l,(j:Int)⟩:la2)) a (λ_ _=>True) (λt s=>(t=1\/t=2)/\s.j6=l) (by omega) (λj x hj _=>?_) (λj x hj _=>?_) 0 () trivial
 ·simp only[X4,oa4,i6,i8,o3 hj (show a<=4611686018427387904 by omega)]
  obtain⟨t,s,h1,h2,h3⟩:=Hf7 l hl a j ha hj;rw[btD (g9 hj),h1]
  rcases h2 with rfl|rfl
  ·exact .ex (by simp)
  ·exact .nx ⟨(),by rw[h3],trivial⟩
 ·simp only[X4,oa4];rw[bfD (by omega)]
  exact⟨_,rfl,by simp⟩
theorem Eb8(l:List V3)(hl:l.length<=1000000000):Rd (one r1B) (Va5 l) (λ_=>True):=by
 have key:∃t s,lp (X5 ⟨⟩) ⟨l,0⟩=(t,s)/\(t=1\/t=2):=by
  refine W9 (step:=X5 ⟨⟩) (mk:=λj (_:Unit)=>(⟨l,(j:Int)⟩:la3)) l.length (λ_ _=>True) (λt s=>t=1\/t=2) hl (λj x hj _=>?_) (λj x hj _=>?_) 0 () trivial
  ·simp only[X5,oa5,i6,i8,o3 hj (show l.length<=4611686018427387904 by omega)]
   obtain⟨t,s,h1,h2,h3⟩:=Hf8 l hl j hj;rw[btD (g9 hj),h1]
   rcases h2 with rfl|rfl
   ·exact .ex (by simp)
   ·exact .nx ⟨(),by rw[h3],trivial⟩
  ·simp only[X5,oa5];rw[bfD (by omega)]
   exact⟨_,rfl,by simp⟩
 obtain⟨t,s,h1,h2⟩:=key;unfold Va5;simp only[i6,i8];rw[h1]
 rcases h2 with rfl|rfl<;>exact⟨_,_,rfl,rfl,trivial⟩
theorem le5(l:List V3)(hl:l.length<=1000000000):hb7 l=true:=(Eb8 l hl).g
theorem le6(l:List V3)(hl:l.length<=1000000000):Rd (one r1I) (Ja7 l) (λ_=>True):=by
 have h:=fb6 (step:=ga7 ⟨l⟩) (mk:=λj=>(⟨(j:Int)⟩:T1)) (c:=λv=>!inV v) (u:=1) (fin:=2) tV l hl
  (λj hj=>by
   simp only[ga7,ja0,Int.toNat_natCast,se2,Zd8,o3 hj (show l.length<=4611686018427387904 by omega)]
   rw[btD (g9 hj),bt (f7 hj),g8])
  (by simp only[ga7,ja0];rw[bfD (m9 (Qic _))]) 0 (Qie _)
 unfold Ja7;simp only[i6,i8,p6,le5 l hl];rw[show (⟨0⟩:T1)=⟨((0:Nat):Int)⟩ from rfl,h]
 refine Rd.sl (λ_=>⟨_,_,rfl,rfl,trivial⟩) λ_=>?_
 rw[Qia];cases l.any λv=>!inV v with
 |true=>exact⟨_,_,rfl,rfl,trivial⟩
 |false =>
  show Rd (one r1I) (sl (Va6 l) (some (i 11,[])) (some (i 0,[]))) (λ_=>True)
  exact Rd.sl (λ_=>⟨_,_,rfl,rfl,trivial⟩) λ_=>⟨_,_,rfl,rfl,trivial⟩
theorem Ad6(l:List V3)(hl:l.length<=1000000000):gc8 l=true:=(le6 l hl).g
theorem Pe9(p:Pln)(l:List V3)(hl:l.length<=1000000000):Rd (one r1B) (Ja8 p l) (λ_=>True):=by
 have h:=fb6 (step:=ga8 ⟨l,p.n.x,p.n.y,p.n.z,p.b⟩) (mk:=λj=>(⟨(j:Int)⟩:T2)) (c:=λv=>decide (hb6 p v>0)) (u:=1) (fin:=2) tV l hl
  (λj hj=>by
   simp only[ga8,ja1,Int.toNat_natCast,Kd9,o3 hj (show l.length<=4611686018427387904 by omega)]
   rw[btD (g9 hj),bt (f7 hj),g8])
  (by simp only[ga8,ja1];rw[bfD (m9 (Qic _))]) 0 (Qie _)
 unfold Ja8;simp only[i6,i8];rw[show (⟨0⟩:T2)=⟨((0:Nat):Int)⟩ from rfl,h]
 split<;>exact⟨_,_,rfl,rfl,trivial⟩
theorem se5(p:Pln)(l:List V3)(hl:l.length<=1000000000):ma8 p l=true:=(Pe9 p l hl).g
theorem wf0(p q:Pln):Rd (one r1I) (ua6 p q) (λ_=>True):=by
 have key:∃t s,lp (M2 ⟨p.n.x,p.n.y,p.n.z,p.b,q.n.x,q.n.y,q.n.z,q.b⟩) ⟨0⟩=(t,s)/\(t=1\/t=2\/t=3):=by
  refine W9 (step:=M2 ⟨p.n.x,p.n.y,p.n.z,p.b,q.n.x,q.n.y,q.n.z,q.b⟩) (mk:=λj (_:Unit)=>(⟨(j:Int)⟩:U8)) 4 (λ_ _=>True) (λt s=>t=1\/t=2\/t=3) (by omega) (λj x hj _=>?_) (λj x hj _=>?_) 0 () trivial
  ·have hn:=o3 hj (show 4<=4611686018427387904 by omega)
   simp only[M2,Z0,Int.toNat_natCast,hn];have hlt:(j:Int)<4:=by omega
   have hin:=f7 hj;have g:∀x1 x2 x3 x4:Int,((Nat.ble ((0+(j*1))+1) 4)&&(qa3 [CK.int .i64] (l0 [i x1,i x2,i x3,i x4] (0+(j*1)))))=true:=by
    intro x1 x2 x3 x4
    match j,hj with
    |0,_=>rfl
    |1,_=>rfl
    |2,_=>rfl
    |3,_=>rfl
   rw[btD hlt];simp only[hin,g,g8];exact Nx.sl (λ_=>.ex (by simp)) λ_=>Nx.sl (λ_=>.ex (by simp)) λ_=>.nx ⟨(),rfl,trivial⟩
  ·simp only[M2,Z0];rw[bfD (by omega)]
   exact⟨_,rfl,by simp⟩
 obtain⟨t,s,h1,h2⟩:=key;unfold ua6
 simp only
 rw[h1]
 rcases h2 with rfl|rfl|rfl<;>exact⟨_,_,rfl,rfl,trivial⟩
theorem le7(p q:Pln):jb7 p q=true:=(wf0 p q).g
theorem vc9(l:List Pln)(n:Nat)(h:n<=l.length):p5 (λk=>(λk=>tP.row (gL tP l k)) (0+k)) (List.range (n-0))=bL tP (l.take n):=by
 rw[<- xb7,p9,p9,Qin,Nat.min_eq_left h,Nat.sub_zero];apply Qix;intro k hk;rw[List.mem_range] at hk;show tP.row (gL tP l (0+k))=tP.row (gL tP (l.take n) k);congr 1;simp[gL,Qiq,List.getElem?_take,hk]
theorem wc0(l:List Pln)(n:Nat):p5 (λk=>(λk=>tP.row (gL tP l k)) (n+k)) (List.range (l.length-n))=bL tP (l.drop n):=by
 rw[<- xb7,p9,p9,Qid];apply Qix;intro k hk;show tP.row (gL tP l (n+k))=tP.row (gL tP (l.drop n) k);rw[Dc6]
theorem hc6(l:List Pln)(x1 x2 x3 x4:Int):app (bL tP l) [[i x1,i x2,i x3,i x4]]=bL tP (l++[⟨⟨x1,x2,x3⟩,x4⟩]):=Ua7 tP l [⟨⟨x1,x2,x3⟩,x4⟩]
def Ab7(x:List Pln)(y:Pln)(n:Nat):List Pln:=x.take n++(y::x.drop n)
theorem Ld0{l:List Pln}{n:Nat}{r:List (List b7)}{P:List Pln->Prop}(hn:n=l.length)(hr:r=bL tP l)(h:P l):Rd (one (r1L tP)) (some (.sl 0 0 n 0,[⟨73,4,r,true,false,0⟩])) P:=by
 subst hn hr;exact⟨_,l,rfl,vc2 l,h⟩
theorem Qe0(x:List Pln)(y:Pln)(hx:x.length<=1000000):Rd (one (r1L tP)) (hb8 x y) (λr=>r≠[]/\r.length<=x.length+1/\∀p∈r,p=y\/p∈x):=by
 have h:=Ta1 (step:=fa2 ⟨x,y.n.x,y.n.y,y.n.z,y.b⟩) (mk:=λj=>(⟨(j:Int)⟩:ga9)) (c:=λp=>!decide (fa1 p y<0)) (u:=1) (fin:=2) tP x (by omega)
  (λj hj=>by
   simp only[fa2,ua7,Int.toNat_natCast,le7,o3 hj (show x.length<=4611686018427387904 by omega)]
   rw[btD (g9 hj),bt (f7 hj),g8];cases decide (fa1 (gL tP x j) y<0)<;>rfl)
  (by simp only[fa2,ua7];rw[bfD (m9 (Qic _))]) 0 (Qie _)
 rw[Qia] at h;have key:∃t n,lp (fa2 ⟨x,y.n.x,y.n.y,y.n.z,y.b⟩) ⟨0⟩=(t,⟨((n:Nat):Int)⟩)/\(t=1\/t=2)/\n<=x.length:=by
  rw[show (⟨0⟩:ga9)=⟨((0:Nat):Int)⟩ from rfl,h]
  split
  ·exact⟨1,_,rfl,.inl rfl,by rw[Qij];exact List.findIdx_le_length⟩
  ·exact⟨2,_,rfl,.inr rfl,Nat.le_refl _⟩
 obtain⟨t,n,h1,h2,h3⟩:=key;have hlo:inB (n:Int) (x.length+1)=true:=f7 (by omega)
 have hd:(bL tP (x.take n)).length=n:=by rw[<- o0,P6,Qin];omega
 have hmem:∀p∈Ab7 x y n,p=y\/p∈x:=λp hp=>by
  unfold Ab7 at hp
  rcases Qiu.1 hp with hp|hp
  ·exact .inr (List.mem_of_mem_take hp)
  ·rcases List.mem_cons.1 hp with hp|hp
   ·exact .inl hp
   ·exact .inr (Qio hp)
 have hne:Ab7 x y n≠[]:=by unfold Ab7;simp
 have hlen:(Ab7 x y n).length=x.length+1:=by unfold Ab7;simp only[Qib,List.length_cons,Qin,Qid];omega
 have lt:len (bL tP (x.take n))=n:=by rw[o0];exact hd
 have ld:len (bL tP (x.drop n))=x.length-n:=by rw[P6,Qid]
 have b1:(Nat.beq 1 1&&Nat.ble ((1+(x.length-n))*32) room)=true:=by rw[ea6 (by omega)];rfl
 have b2:(Nat.beq 0 0&&Nat.ble ((0+n)*32) room)=true:=by rw[ea6 (by omega)];rfl
 have e0:app [] (bL tP (x.take n))=bL tP (x.take n):=rfl;have b3:(Nat.beq (0+n) n&&Nat.ble (((0+n)+1)*32) room)=true:=by rw[ea6 (by omega),Qij,Qik];rfl
 have l3:len (bL tP (x.take n++[y]))=n+1:=by rw[P6,Qib,Qin];simp only[List.length_singleton];omega
 have b4:(Nat.beq ((0+n)+1) (n+1)&&Nat.ble ((((0+n)+1)+(x.length-n))*32) room)=true:=by rw[ea6 (by omega),Qij,Qik];rfl
 have z0:∀{k:Nat},Nat.beq k 0=true->k=0:=λ{k} h=>Nat.eq_of_beq_eq_true h
 have fin:∀m r,m=x.length+1->r=bL tP (Ab7 x y n)->Rd (one (r1L tP)) (some (.sl 0 0 m 0,[⟨73,4,r,true,false,0⟩])) (λr=>r≠[]/\r.length<=x.length+1/\∀p∈r,p=y\/p∈x) :=
  λm r hm hr=>Ld0 (by rw[hlen];exact hm) hr ⟨hne,by omega,hmem⟩
 have tail:Rd (one (r1L tP)) (some (.sl 0 0 (((0+n)+1)+(x.length-n)) 0,[⟨73,4,app (bL tP (x.take n++[y])) (bL tP (x.drop n)),true,false,0⟩])) (λr=>r≠[]/\r.length<=x.length+1/\∀p∈r,p=y\/p∈x):=by
  refine fin _ _ (by omega) ?_
  rw[Ua7];unfold Ab7;rw[Qir];rfl
 have same:∀p:Pln,(p.n.x==y.n.x&&(p.n.y==y.n.y&&(p.n.z==y.n.z&&(p.b==y.b&&true))))=true->n<x.length->Rd (one (r1L tP)) (some (eL tP x,[])) (λr=>r≠[]/\r.length<=x.length+1/\∀p∈r,p=y\/p∈x):=λp _ hn =>
  ⟨_,x,rfl,qc3 tP x,List.ne_nil_of_length_pos (by omega),Nat.le_succ _,λp hp=>Or.inr hp⟩
 unfold hb8;simp only[i6,i8];rw[h1];simp only[Int.toNat_natCast,vc9 x n h3,wc0,lt,ld,b1,b2,e0,b3,hc6,l3,b4,hlo,g8];have main:Rd (one (r1L tP)) (sl (decide ((n:Int)<(x.length:Int))) (sl (inB (n:Int) x.length) (sl (((gL tP x n).n.x==y.n.x)&&(((gL tP x n).n.y==y.n.y)&&(((gL tP x n).n.z==y.n.z)&&(((gL tP x n).b==y.b)&&true)))) (some (eL tP x,[])) (some (.sl 0 0 (((0+n)+1)+(x.length-n)) 0,[⟨73,4,app (bL tP (x.take n++[y])) (bL tP (x.drop n)),true,false,0⟩]))) none) (some (.sl 0 0 (((0+n)+1)+(x.length-n)) 0,[⟨73,4,app (bL tP (x.take n++[y])) (bL tP (x.drop n)),true,false,0⟩]))) (λr=>r≠[]/\r.length<=x.length+1/\∀p∈r,p=y\/p∈x):=by
  by_cases hn:n<x.length
  ·rw[btD (g9 hn),bt (f7 hn)];exact Rd.sl (λq=>same _ q hn) λ_=>tail
  ·rw[bfD (m9 hn)];exact tail
 rcases h2 with rfl|rfl
 ·exact main
 ·exact main
end Go.Ev.Ce
