/- Own work. -/
import Derived.Test.YtekgjjgbdcgldaaGreatEvOE1
import Derived.Shelf.SlSortCmp.WholeK
set_option linter.all false
def Qia:=@List.length_append
def Qib:=@List.drop_zero
def Qic:=@Bool.and_eq_true
def Qid:=@Nat.zero_add
def Qie:=@Nat.lt_irrefl
def Qif:=@Nat.zero_le
def Qig:=@List.mem_cons_of_mem
def Qih:=@List.getElem_mem
def Qii:=@List.length_drop
def Qij:=@List.not_all_eq_any_not
def Qik:=@List.getElem?_eq_getElem
def Qil:=@List.getD_eq_getElem?_getD
def Qim:=@Bool.and_true
def Qin:=@Array.getElem?_append_left
def Qio:=@List.drop_eq_getElem_cons
def Qip:=@Eq.trans
def Qiq:=@List.getElem?_map
def Qir:=@List.all_eq_true
def Qis:=@Nat.eq_of_beq_eq_true
def Qit:=@Nat.beq_refl
def Qiu:=@Nat.le_trans
def Qiv:=@List.mem_append
def Qiw:=@Nat.mul_le_mul_right
def Qix:=@Bool.not_false
def Qiy:=@List.mem_cons_self
def Qiz:=@Bool.not_eq_true
def Qiaa:=@List.drop_eq_nil_of_le
def Qiab:=@Array.getElem?_eq_none
def Qiac:=@Nat.le_of_ble_eq_true
def Qiad:=@Array.getElem?_modify
namespace Go.Ev.Ce
open Go Go.Ev Go.Ev.L Go.Proofs
noncomputable def inn(l:List Pln)(x:Pt):Bool:=l.all λp=>!decide (rm p x<0)
theorem de6(l:List Pln)(x:Pt):inn l x=!l.any λp=>decide (rm p x<0):=by unfold inn;rw[List.not_any_eq_all_not]
theorem qf2(p:Pln)(x:Pt):kb5 ⟨p.n.x,p.n.y,p.n.z,p.b,x.px,x.py,x.pz,x.pw⟩=⟨decide (rm p x<0)⟩:=by
 show ya6.mk (decide (va7 p x<0))=_;rw[xd0]
theorem Ne6(l:List Pln)(x:Pt)(hl:l.length<=1000000000):Y6 ⟨l,x.px,x.py,x.pz,x.pw⟩=⟨1,if l.any (λp=>decide (rm p x<0)) then ((l.findIdx (λp=>decide (rm p x<0)):Nat):Int) else -1⟩:=by
 have h:=Ua7 (step:=J5 ⟨l,(l.length:Int),x.px,x.py,x.pz,x.pw⟩) (mk:=λj=>(⟨(j:Int)⟩:o6)) (c:=λp=>decide (rm p x<0)) (u:=1) (fin:=2) tP l hl
  (λj hj=>by
   simp only[J5,G7,Int.toNat_natCast,qf2,r8 hj (by omega)]
   rw[bt (Vb8 hj),bt (d9 hj)])
  (by simp only[J5,G7];rw[bf (Kb8 (Qie _))]) 0 (Qif _)
 rw[Qib] at h;unfold Y6 I0;simp only[i8,n9];rw[show (⟨0⟩:o6)=⟨((0:Nat):Int)⟩ from rfl,h]
 split
 ·simp only[Qid];rfl
 ·rfl
theorem nd6(l:List Pln)(x:Pt)(hl:l.length<=1000000000):Na8 l x=some (b (inn l x),[]):=by
 unfold Na8 ea8 D0;simp only[i8,n9,Ne6 l x hl,de6];split
 ·rename_i h;rw[h,show decide (((l.findIdx (λp=>decide (rm p x<0)):Nat):Int)>=0)=true from decide_eq_true (by omega)];rfl
 ·rename_i h;rw[Qiz] at h;rw[h];rfl
theorem Kd0(l:List Pln)(x:Pt)(hl:l.length<=1000000000):ia8 l x=inn l x:=by unfold ia8;rw[nd6 l x hl];rfl
theorem Kd1(l:List Pln)(x:Pt)(hl:l.length<=1000000000):ia9 l x=true:=by unfold ia9;rw[nd6 l x hl];rfl
theorem Xe8(l:List Pln)(x:Pt)(hl:l.length<=1000000000):Wb9 l x=some (b (inn l x),[]):=by
 have h:=lc8 (step:=fb7 ⟨l,x.px,x.py,x.pz,x.pw⟩) (mk:=λj=>(⟨(j:Int)⟩:wa3)) (c:=λp=>decide (rm p x<0)) (u:=1) (fin:=2) tP l hl
  (λj hj=>by
   simp only[fb7,Ua9,Int.toNat_natCast,Nc6,r8 hj (by omega)]
   rw[bt (Vb8 hj),bt (d9 hj)])
  (by simp only[fb7,Ua9];rw[bf (Kb8 (Qie _))]) 0 (Qif _)
 rw[Qib] at h;unfold Wb9;simp only[i8,n9,de6];rw[show (⟨0⟩:wa3)=⟨((0:Nat):Int)⟩ from rfl,h]
 split
 ·rename_i h;rw[h];rfl
 ·rename_i h;rw[Qiz] at h;rw[h];rfl
theorem Bf6(l:List Pln)(x:Pt)(hl:l.length<=1000000000):Gb4 l x=inn l x:=by unfold Gb4;rw[Xe8 l x hl];rfl
theorem Bf7(l:List Pln)(x:Pt)(hl:l.length<=1000000000):Gb5 l x=true:=by unfold Gb5;rw[Xe8 l x hl];rfl
def eqX(x q:Pt):Bool:=q.px==x.px&&(q.py==x.py&&(q.pz==x.pz&&(q.pw==x.pw&&true)))
theorem de7(x q:Pt):eqX x q=true↔q=x:=by
 unfold eqX;simp only[Qim,Qic,beq_iff_eq];exact⟨λ⟨h1,h2,h3,h4⟩=>by cases q;cases x;simp_all,λh=>by subst h;exact⟨rfl,rfl,rfl,rfl⟩⟩
def Rb9(l:List Pt)(x:Pt):Bool:=l.any (eqX x)
theorem ze4(l:List Pt)(x:Pt):Rb9 l x=true↔x∈l:=by
 unfold Rb9;rw[List.any_eq_true];exact⟨λ⟨q,h,e⟩=>(de7 x q).1 e ▸ h,λh=>⟨x,h,(de7 x x).2 rfl⟩⟩
theorem Kd2(l:List Pt)(x:Pt)(hl:l.length<=1000000000):fb8 l x=some (b (Rb9 l x),[]):=by
 have h:=lc8 (step:=Ea6 ⟨l,x.px,x.py,x.pz,x.pw⟩) (mk:=λj=>(⟨(j:Int)⟩:ba8)) (c:=eqX x) (u:=1) (fin:=2) tX l hl
  (λj hj=>by
   simp only[Ea6,ya4,Int.toNat_natCast,r8 hj (by omega)]
   rw[bt (Vb8 hj),bt (d9 hj)]
   rfl)
  (by simp only[Ea6,ya4];rw[bf (Kb8 (Qie _))]) 0 (Qif _)
 rw[Qib] at h;unfold fb8;simp only[i8,n9];rw[show (⟨0⟩:ba8)=⟨((0:Nat):Int)⟩ from rfl,h]
 unfold Rb9;split
 ·rename_i h;rw[h];rfl
 ·rename_i h;rw[Qiz] at h;rw[h];rfl
theorem Ne7(l:List Pt)(x:Pt)(hl:l.length<=1000000000):Sa3 l x=Rb9 l x:=by unfold Sa3;rw[Kd2 l x hl];rfl
theorem Ne8(l:List Pt)(x:Pt)(hl:l.length<=1000000000):Sa4 l x=true:=by unfold Sa4;rw[Kd2 l x hl];rfl
def smb(n x:Int):Bool:=!decide (x < -n)&&!decide (x>n)
theorem Bb1(n x:Int):smb n x=true↔Sm n x:=by unfold smb Sm;simp only[Qic,Bool.not_eq_true',decide_eq_false_iff_not];omega
theorem Wc5(n:Int)(l:List Int)(hn:0<=n/\n<=1000000000)(hl:l.length<=1000000000):Fa5 n l=some (b (l.all (smb n)),[]):=by
 have hW:W (0-n)=-n:=by rw[qa9 (by omega) (by omega)];omega
 have h:=lc8 (step:=oa8 ⟨n,l,(l.length:Int)⟩) (mk:=λj=>(⟨(j:Int)⟩:N9)) (c:=λx=>!smb n x) (u:=1) (fin:=2) tI l hl
  (λj hj=>by
   simp only[oa8,ja7,Int.toNat_natCast,r8 hj (by omega),hW]
   rw[bt (Vb8 hj),bt (d9 hj)];unfold smb;cases decide (gL tI l j < -n)<;>cases decide (gL tI l j>n)<;>rfl)
  (by simp only[oa8,ja7];rw[bf (Kb8 (Qie _))]) 0 (Qif _)
 rw[Qib] at h;unfold Fa5;simp only[i8,n9];rw[show (⟨0⟩:N9)=⟨((0:Nat):Int)⟩ from rfl,h]
 have e:(l.any λx=>!smb n x)=!l.all (smb n):=by rw[Qij]
 rw[e];cases l.all (smb n)<;>rfl
theorem nd7(n:Int)(l:List Int)(hn:0<=n/\n<=1000000000)(hl:l.length<=1000000000):Fa6 n l=l.all (smb n):=by unfold Fa6;rw[Wc5 n l hn hl];rfl
theorem nd8(n:Int)(l:List Int)(hn:0<=n/\n<=1000000000)(hl:l.length<=1000000000):Fa7 n l=true:=by unfold Fa7;rw[Wc5 n l hn hl];rfl
theorem Kd3{n:Int}(h:Sm 1000000000000000000 n):Ja1 n=(n.natAbs:Int):=by
 unfold Ja1;obtain⟨h1,h2⟩:=h;rw[qa9 (by omega) (by omega)]
 split<;>omega
theorem uc5{n:Int}(h:Sm 1000000000000000000 n):Ea7 n=some (i (n.natAbs:Int),[]):=by
 unfold Ea7;obtain⟨h1,h2⟩:=h;rw[qa9 (by omega) (by omega)]
 by_cases h:n<0
 ·rw[bt (decide_eq_true h)];congr 3;omega
 ·rw[bf (decide_eq_false h)];congr 3;omega
theorem Yb5{n:Int}(h:Sm 1000000000000000000 n):ta6 n=(n.natAbs:Int):=by unfold ta6;rw[uc5 h];rfl
theorem Yb6{n:Int}(h:Sm 1000000000000000000 n):ta7 n=true:=by unfold ta7;rw[uc5 h];rfl
def g3(v:V3):Int:=(Nat.gcd (Nat.gcd v.x.natAbs v.y.natAbs) v.z.natAbs:Nat)
theorem ze5(g n:Nat):eu (g:Int) (n:Int)=(Nat.gcd g n:Nat):=by rw[ve1 (by omega) (by omega)];rfl
theorem gd1(P:ea1)(g n:Nat)(hn:n<=1000000000000000000):lp (ba3 P) ⟨(g:Int),(n:Int)⟩=(1,⟨(Nat.gcd g n:Nat),0⟩):=by
 have:=Gc1 (step:=ba3 P) (mk:=λg n=>(⟨g,n⟩:P6)) (λg n h=>by
  have h0:n≠0:=by omega
  simp[ba3,fa8,sb4,h,h0]) (λg=>by simp[ba3,fa8,sb4]) (g:Int) (n:Int) (by omega) (by omega) (by omega)
 rw[this,ze5]
theorem Xd7(l:List Int)(hl:l.length<=1000000000)(hb:∀x∈l,Sm 1000000000000000000 x):za0 l=some (i (l.foldl (λg x=>Nat.gcd g x.natAbs) 0:Nat),[]):=by
 have h := dc3 (step := ja8 ⟨(l.length : Int)⟩) (mk := fun j (a : Nat) => (⟨(a : Int), l, (j : Int)⟩ : L5)) (f := fun g x => Nat.gcd g x.natAbs) (fin := 2) tI l (fun _ _ => True) hl (fun j a hj _ => ⟨by
   have hm:=hb _ (ga4 tI hj);have hne:(gL tI l j==(-9223372036854775808:Int))=false:=by
    have:=hm.1
    rw[beq_eq_false_iff_ne];omega
   have hs:(gL tI l j).natAbs<=1000000000000000000:=by obtain⟨h1,h2⟩:=hm;omega
   simp only[ja8,fa9,Int.toNat_natCast,i8,n9,Kd3 hm,gd1 _ _ _ hs,r8 hj (by omega)]
   rw[bt (Vb8 hj),bt (d9 hj),bf hne]
   rfl,trivial⟩) (λa _=>by simp only[ja8,fa9];rw[bf (Kb8 (Qie _))]) 0 (Qif _) 0 trivial
 have h:=h.1;rw[Qib] at h;unfold za0;simp only[i8,n9];rw[show (⟨0,l,0⟩:L5)=⟨((0:Nat):Int),l,((0:Nat):Int)⟩ from rfl,h]
 rfl
def okp(p:Pln):Bool:=[p.n.x,p.n.y,p.n.z].all (smb 4608)&&(g3 p.n==1&&[p.b].all (smb 2097152))
theorem df6(p:Pln):Bd p↔[p.n.x,p.n.y,p.n.z].all (smb 4608)=true/\[p.b].all (smb 2097152)=true:=by
 simp only[List.all_cons,List.all_nil,Qim,Qic,Bb1,Sm];exact⟨λh=>⟨⟨⟨h.x1,h.x2⟩,⟨h.y1,h.y2⟩,h.z1,h.z2⟩,h.b1,h.b2⟩,λ⟨⟨⟨a,b⟩,⟨c,d⟩,e,f⟩,g,h⟩=>⟨a,b,c,d,e,f,g,h⟩⟩
theorem Cc1{p:Pln}(h:okp p=true):Bd p:=by
 unfold okp at h;rw[Qic,Qic] at h;exact (df6 p).2 ⟨h.1,h.2.2⟩
theorem sm3{v:V3}(h:[v.x,v.y,v.z].all (smb 4608)=true):Sm 4608 v.x/\Sm 4608 v.y/\Sm 4608 v.z:=by
 simpa only[List.all_cons,List.all_nil,Qim,Qic,Bb1] using h
theorem Kd4(p:Pln):Oa0 p=some (b (okp p),[]):=by
 unfold Oa0 okp;have l3:[p.n.x,p.n.y,p.n.z].length<=1000000000:=by simp
 have l1:[p.b].length<=1000000000:=by simp
 simp only[nd7 4608 _ (by omega) l3,nd8 4608 _ (by omega) l3,nd7 2097152 _ (by omega) l1,nd8 2097152 _ (by omega) l1]
 cases hw:[p.n.x,p.n.y,p.n.z].all (smb 4608) with
 |false=>rfl
 |true =>
  obtain⟨h1,h2,h3⟩:=sm3 hw;have hd:=Xd7 [p.n.x,p.n.y,p.n.z] l3 (by
   intro x hx;simp only[List.mem_cons,List.not_mem_nil,or_false] at hx
   rcases hx with rfl|rfl|rfl
   ·exact h1.mono (by omega)
   ·exact h2.mono (by omega)
   ·exact h3.mono (by omega))
  have hg:([p.n.x,p.n.y,p.n.z].foldl (λg x=>Nat.gcd g x.natAbs) 0:Nat)=Nat.gcd (Nat.gcd p.n.x.natAbs p.n.y.natAbs) p.n.z.natAbs:=by
   simp only[List.foldl_cons,List.foldl_nil,Nat.gcd_zero_left]
  have hp:Qa1 [p.n.x,p.n.y,p.n.z]=g3 p.n:=by unfold Qa1;rw[hd,hg];rfl
  have hgd:Qa2 [p.n.x,p.n.y,p.n.z]=true:=by unfold Qa2;rw[hd];rfl
  rw[hp,hgd];cases g3 p.n==1<;>rfl
theorem Ne9(p:Pln):eb0 p=okp p:=by unfold eb0;rw[Kd4 p];rfl
theorem Oe0(p:Pln):eb1 p=true:=by unfold eb1;rw[Kd4 p];rfl
theorem Cc2(P:oa4)(g n:Nat)(hn:n<=1000000000000000000):lp (ia7 P) ⟨(g:Int),(n:Int)⟩=(1,⟨(Nat.gcd g n:Nat),0⟩):=by
 have:=Gc1 (step:=ia7 P) (mk:=λg n=>(⟨g,n⟩:V6)) (λg n h=>by
  have h0:n≠0:=by omega
  simp[ia7,Ea8,sb4,h,h0]) (λg=>by simp[ia7,Ea8,sb4]) (g:Int) (n:Int) (by omega) (by omega) (by omega)
 rw[this,ze5]
theorem xd1 {v : V3} (h1 : Sm 1000000000000000000 v.x) (h2 : Sm 1000000000000000000 v.y) (h3 : Sm 1000000000000000000 v.z) :
  tb6 v=if g3 v=0 then some (.tup [.agg (tV.row ⟨0,0,0⟩),i 0],[]) else some (.tup [.agg (tV.row ⟨W (Int.tdiv v.x (g3 v)),W (Int.tdiv v.y (g3 v)),W (Int.tdiv v.z (g3 v))⟩),i (g3 v)],[]):=by
 have ne:∀{x:Int},Sm 1000000000000000000 x->(x==(-9223372036854775808:Int))=false:=λ{x} h=>by
  have:=h.1
  rw[beq_eq_false_iff_ne];omega
 have bd:∀{x:Int},Sm 1000000000000000000 x->x.natAbs<=1000000000000000000:=λ{x} h=>by obtain⟨h1,h2⟩:=h;omega
 have l1:=Cc2 ⟨0,v.x,v.y,v.z,v.x,v.y,v.z⟩ 0 v.x.natAbs (bd h1);rw[Nat.gcd_zero_left] at l1;have l2:=Cc2 ⟨1,v.x,v.y,v.z,v.x,v.y,v.z⟩ v.x.natAbs v.y.natAbs (bd h2);have l3:=Cc2 ⟨2,v.x,v.y,v.z,v.x,v.y,v.z⟩ (Nat.gcd v.x.natAbs v.y.natAbs) v.z.natAbs (bd h3);unfold tb6;simp only[Yb5 h1,Yb5 h2,Yb5 h3,Yb6 h1,Yb6 h2,Yb6 h3];rw[show (⟨0,(v.x.natAbs:Int)⟩:V6)=⟨((0:Nat):Int),(v.x.natAbs:Int)⟩ from rfl]
 simp only[l1,l2,l3,ne h1,ne h2,ne h3];rw[show ((Nat.gcd (Nat.gcd v.x.natAbs v.y.natAbs) v.z.natAbs:Nat):Int)=g3 v from rfl]
 by_cases h:g3 v=0
 ·rw[if_pos h,show (g3 v==0)=true from by rw[h];rfl];rfl
 ·rw[if_neg h,show (g3 v==0)=false from by rw[beq_eq_false_iff_ne];exact h];rfl
theorem Wc6{v:V3}(h1:Sm 1000000000000000000 v.x)(h2:Sm 1000000000000000000 v.y)(h3:Sm 1000000000000000000 v.z):(Ra6 v).2=g3 v:=by
 unfold Ra6;rw[xd1 h1 h2 h3];split
 ·rename_i h;rw[h];rfl
 ·rfl
theorem df7{v:V3}(h1:Sm 1000000000000000000 v.x)(h2:Sm 1000000000000000000 v.y)(h3:Sm 1000000000000000000 v.z)(h:g3 v≠0):Ra6 v=(⟨W (Int.tdiv v.x (g3 v)),W (Int.tdiv v.y (g3 v)),W (Int.tdiv v.z (g3 v))⟩,g3 v):=by
 unfold Ra6;rw[xd1 h1 h2 h3,if_neg h];rfl
theorem ze6{v:V3}(h1:Sm 1000000000000000000 v.x)(h2:Sm 1000000000000000000 v.y)(h3:Sm 1000000000000000000 v.z):tb7 v=true:=by
 unfold tb7;rw[xd1 h1 h2 h3]
 split<;>rfl
theorem nd9(p:Pln):fb9 p=some (b (okp p),[]):=by
 unfold fb9 okp;cases hw:[p.n.x,p.n.y,p.n.z].all (smb 4608) with
 |false =>
  simp only[List.all_cons,List.all_nil,Qim,smb] at hw;cases h1:decide (p.n.x < -4608)<;>cases h2:decide (p.n.x>4608)<;>cases h3:decide (p.n.y < -4608)<;>cases h4:decide (p.n.y>4608)<;>cases h5:decide (p.n.z < -4608)<;>cases h6:decide (p.n.z>4608)<;>simp only[h1,h2,h3,h4,h5,h6] at hw ⊢<;>first | rfl | cases hw
 |true =>
  obtain⟨h1,h2,h3⟩:=sm3 hw;rw[bf (decide_eq_false (by have:=h1.1;omega)),bf (decide_eq_false (by have:=h1.2;omega)),bf (decide_eq_false (by have:=h2.1;omega)),bf (decide_eq_false (by have:=h2.2;omega)),bf (decide_eq_false (by have:=h3.1;omega)),bf (decide_eq_false (by have:=h3.2;omega))]
  have k1:=h1.mono (m:=1000000000000000000) (by omega)
  have k2:=h2.mono (m:=1000000000000000000) (by omega)
  have k3:=h3.mono (m:=1000000000000000000) (by omega)
  rw[bt (ze6 k1 k2 k3),Wc6 k1 k2 k3];cases g3 p.n==1 with
  |false=>rfl
  |true =>
   simp only[List.all_cons,List.all_nil,Qim,smb,Bool.true_and];rw[j5];by_cases ha:p.b < -2097152
   ·rw[bf (decide_eq_false (by omega)),show decide (p.b < -2097152)=true from decide_eq_true ha];rfl
   ·rw[bt (decide_eq_true (by omega)),show decide (p.b < -2097152)=false from decide_eq_false ha]
    congr 3;by_cases hc:p.b<=2097152
    ·rw[decide_eq_true hc,decide_eq_false (by omega)];rfl
    ·rw[decide_eq_false hc,decide_eq_true (by omega)];rfl
theorem ze7(p:Pln):gb0 p=okp p:=by unfold gb0;rw[nd9 p];rfl
theorem Kd5(p:Pln):gb1 p=true:=by unfold gb1;rw[nd9 p];rfl
def chk(l:List Pln):Int:=if (l.length:Int)>48 then 2 else if l.all okp then 0 else 12
theorem Kd6(l:List Pln)(hl:l.length<=1000000000):Wa1 l=some (i (chk l),[]):=by
 have hk1:∀p,Fa8 p=some (b (!okp p),[]):=λp=>by unfold Fa8;rw[Oe0,Ne9];rfl
 have hp1:∀p,Va9 p=!okp p:=λp=>by unfold Va9;rw[hk1];rfl
 have hg1:∀p,Wa0 p=true:=λp=>by unfold Wa0;rw[hk1];rfl
 have h:=Ua7 (step:=J6 ⟨l,(l.length:Int)⟩) (mk:=λj=>(⟨(j:Int)⟩:o7)) (c:=λp=>!okp p) (u:=1) (fin:=2) tP l hl
  (λj hj=>by
   simp only[J6,G8,Int.toNat_natCast,hp1,hg1,r8 hj (by omega)]
   rw[bt (Vb8 hj),bt (d9 hj),j5])
  (by simp only[J6,G8];rw[bf (Kb8 (Qie _))]) 0 (Qif _)
 rw[Qib] at h;have e:(l.any λx=>!okp x)=!l.all okp:=by rw[Qij]
 unfold Wa1 ea9 D1 ma6 I1 chk;simp only[i8,n9];rw[show (⟨0⟩:o7)=⟨((0:Nat):Int)⟩ from rfl,h,e]
 by_cases hn:(l.length:Int)>48
 ·rw[bt (decide_eq_true hn),if_pos hn]
 ·rw[bf (decide_eq_false hn),if_neg hn];cases l.all okp with
  |true=>rfl
  |false =>
   simp only[Qix,if_true,Qid];show sl true (sl (Nat.beq 1 1) (sl (decide (((l.findIdx λp=>!okp p:Nat):Int)>=0)) _ _) _) _=_
   rw[show decide (((l.findIdx λp=>!okp p:Nat):Int)>=0)=true from decide_eq_true (by omega)]
   rfl
theorem Nc8(l:List Pln)(hl:l.length<=1000000000):pa0 l=chk l:=by unfold pa0;rw[Kd6 l hl];rfl
theorem xd2(l:List Pln)(hl:l.length<=1000000000):Ja2 l=true:=by unfold Ja2;rw[Kd6 l hl];rfl
theorem od0(l:List Pln)(hl:l.length<=1000000000):gb2 l=some (i (chk l),[]):=by
 have h:=lc8 (step:=Ea9 ⟨l⟩) (mk:=λj=>(⟨(j:Int)⟩:ba9)) (c:=λp=>!okp p) (u:=1) (fin:=2) tP l hl
  (λj hj=>by
   simp only[Ea9,ya5,Int.toNat_natCast,ze7,Kd5,r8 hj (by omega)]
   rw[bt (Vb8 hj),bt (d9 hj),j5])
  (by simp only[Ea9,ya5];rw[bf (Kb8 (Qie _))]) 0 (Qif _)
 rw[Qib] at h;have e:(l.any λx=>!okp x)=!l.all okp:=by rw[Qij]
 unfold gb2 chk;simp only[i8,n9];rw[show (⟨0⟩:ba9)=⟨((0:Nat):Int)⟩ from rfl,h,e]
 by_cases hn:(l.length:Int)>48
 ·rw[bt (decide_eq_true hn),if_pos hn]
 ·rw[bf (decide_eq_false hn),if_neg hn];cases l.all okp<;>rfl
theorem Kd7(l:List Pln)(hl:l.length<=1000000000):gb3 l=chk l:=by unfold gb3;rw[od0 l hl];rfl
theorem Kd8(l:List Pln)(hl:l.length<=1000000000):gb4 l=true:=by unfold gb4;rw[od0 l hl];rfl
theorem za7{l:List Pln}:chk l=0↔l.length<=48/\∀p∈l,okp p=true:=by
 unfold chk;by_cases hn:(l.length:Int)>48
 ·rw[if_pos hn];exact⟨λh=>absurd h (by decide),λh=>by omega⟩
 ·rw[if_neg hn];cases h:l.all okp with
  |true=>exact⟨λ_=>⟨by omega,Qir.1 h⟩,λ_=>rfl⟩
  |false=>exact⟨λh=>absurd h (by decide),λh'=>by rw[Qir.2 h'.2] at h;cases h⟩
theorem btD{p:Prop}{inst:Decidable p}(h:p){α:Type}(t e:α):sl (@decide p inst) t e=t:=bt (decide_eq_true h) t e
theorem bfD{p:Prop}{inst:Decidable p}(h:¬ p){α:Type}(t e:α):sl (@decide p inst) t e=e:=bf (decide_eq_false h) t e
theorem l0{j n:Nat}(h:j<n):(j:Int)<(n:Int):=Int.ofNat_lt.2 h
theorem D7{j n:Nat}(h:¬ j<n):¬ (j:Int)<(n:Int):=λh'=>h (Int.ofNat_lt.1 h')
theorem Xa2 {σ τ α : Type} {step : σ → Stp σ} {mk : Nat → τ → σ} {f : α → List α → τ → τ} {g : List α → τ → τ} {fin : τ → Nat} (l : List α) (I : Nat → τ → Prop) (hl : l.length ≤ 1000000000)
  (g0:∀a,g [] a=a) (g1:∀x r a,g (x::r) a=g r (f x r a))
  (h:∀j a (hj:j<l.length),I j a->step (mk j a)=.next (mk (j+1) (f l[j] (l.drop (j+1)) a))/\I (j+1) (f l[j] (l.drop (j+1)) a))
  (hf:∀j a,l.length<=j->I j a->step (mk j a)=.exit (fin a)) (j0:Nat) (a:τ) (hi:I j0 a) :
  lp step (mk j0 a)=(fin (g (l.drop j0) a),mk (max j0 l.length) (g (l.drop j0) a))/\I (max j0 l.length) (g (l.drop j0) a):=by
 have key:=lc7 (step:=step) (I:=λm s=>∃j b,m=l.length-j/\max j l.length=max j0 l.length/\s=mk j b/\I j b/\g (l.drop j) b=g (l.drop j0) a)
  (Q:=λu s=>u=fin (g (l.drop j0) a)/\s=mk (max j0 l.length) (g (l.drop j0) a)/\I (max j0 l.length) (g (l.drop j0) a)) (λm s ⟨j,b,hm,hj,hs,hb,he⟩=>by
   subst hs;by_cases hlt:j<l.length
   ·obtain⟨h1,h2⟩:=h j b hlt hb;refine .inr ⟨_,l.length-(j+1),by omega,h1,j+1,_,rfl,by omega,rfl,h2,?_⟩
    rw[<- he,Qio hlt,g1]
   ·have hd:l.drop j=[]:=Qiaa (by omega)
    rw[hd,g0] at he;have hj':j=max j0 l.length:=by omega
    subst he;rw[<- hj'];exact .inl ⟨_,hf j _ (by omega) hb,rfl,rfl,hb⟩) (l.length-j0) (mk j0 a) (by omega) ⟨j0,a,rfl,rfl,rfl,hi,rfl⟩
 exact⟨Prod.ext key.1 key.2.1,key.2.2⟩
noncomputable def za8(r:List Pln)(p q:Pln)(out:List Pt)(s:Pln):List Pt :=
 if (mpt p q s).2&&(!Rb9 out (mpt p q s).1&&inn r (mpt p q s).1) then out++[(mpt p q s).1] else out
noncomputable def ib4(r:List Pln)(p q:Pln)(l:List Pln)(out:List Pt):List Pt:=l.foldl (za8 r p q) out
noncomputable def Ta2(r:List Pln)(p:Pln):List Pln->List Pt->List Pt
 |[],out=>out
 |q::l,out=>Ta2 r p l (ib4 r p q l out)
noncomputable def mc8(r:List Pln):List Pln->List Pt->List Pt
 |[],out=>out
 |p::l,out=>mc8 r l (Ta2 r p l out)
noncomputable def cor(r:List Pln):List Pt:=mc8 r r []
def Bds(r:List Pln):Prop:=∀p∈r,Bd p
theorem Cc3(r:List Pln)(p q:Pln)(out:List Pt)(s:Pln):(za8 r p q out s).length<=out.length+1:=by
 unfold za8;split
 ·simp
 ·omega
theorem uc6(r:List Pln)(p q:Pln):∀(l:List Pln) (out:List Pt),(ib4 r p q l out).length<=out.length+l.length
 |[],out=>Nat.le_refl _
 |s::l,out=>by
  have h1:=Cc3 r p q out s;have h2:=uc6 r p q l (za8 r p q out s);show (ib4 r p q l (za8 r p q out s)).length<=_;simp only[List.length_cons];omega
theorem Wc7(r:List Pln)(p:Pln):∀(l:List Pln) (out:List Pt),l.length<=200->(Ta2 r p l out).length<=out.length+200*l.length
 |[],out,_=>by simp[Ta2]
 |q::l,out,h=>by
  simp only[List.length_cons] at h ⊢;have h1:=uc6 r p q l out;have h2:=Wc7 r p l (ib4 r p q l out) (by omega)
  show (Ta2 r p l (ib4 r p q l out)).length<=_;omega
theorem Kd9(r:List Pln):∀(l:List Pln) (out:List Pt),l.length<=200->(mc8 r l out).length<=out.length+40000*l.length
 |[],out,_=>by simp[mc8]
 |p::l,out,h=>by
  simp only[List.length_cons] at h ⊢;have h1:=Wc7 r p l out (by omega)
  have h2:=Kd9 r l (Ta2 r p l out) (by omega)
  show (mc8 r l (Ta2 r p l out)).length<=_;omega
theorem xd3(r:List Pln)(_:Bds r)(hr:r.length<=200):(cor r).length<=8000000:=by
 have:=Kd9 r r [] hr
 rw[List.length_nil] at this;show (mc8 r r []).length<=_;omega
noncomputable def ph(out:List Pt):Nat:=match out with
 |[]=>0
 |_::_=>1
theorem Ld0(x:Pt):Rb9 [] x=false:=rfl
theorem uc7{α:Type}(t:Ty α)(l:List α)(n k:Nat):gL t (l.drop n) k=gL t l (n+k):=by simp[gL,Qil,List.getElem?_drop]
theorem Ld1{n:Nat}{l:List Pt}(hn:n=l.length)(h:l.length<=1000000000):(Nat.beq n (len (bL tX l))&&Nat.ble ((n+1)*32) room)=true:=by
 subst hn;rw[qa8,Qit,Bool.true_and];exact Ua6 (by omega)
theorem de8(l:List Pt)(x:Pt):app (bL tX l) [[i x.px,i x.py,i x.pz,i x.pw]]=bL tX (l++[x]):=bb0 tX l [x]
@[reducible] noncomputable def fc7(k:Nat)(out:List Pt):v8:=⟨ph out,(k:Int),out.length,bL tX out⟩
theorem df8(l:List Pt):slR tX (bL tX l) 0 l.length=l:=zc6 tX l
theorem Oe1 (r : List Pln) (hb : Bds r) (hr : r.length ≤ 200) (a c k : Nat) (ha : a < r.length) (hc : c < r.length) (out : List Pt) (ho : out.length ≤ 1000000000) (hk : k < r.length) :
  T0 ⟨r,a,c⟩ (fc7 k out)=.next (fc7 (k+1) (za8 r r[a] r[c] out r[k])):=by
 have hin:∀x,Gb4 r x=inn r x:=λx=>Bf6 r x (by omega)
 have hig:∀x,Gb5 r x=true:=λx=>Bf7 r x (by omega)
 have hth:∀x,Sa3 out x=Rb9 out x:=λx=>Ne7 out x ho
 have htg:∀x,Sa4 out x=true:=λx=>Ne8 out x ho
 have hme:=Ne4 (hb _ (Qih ha)) (hb _ (Qih hc)) (hb _ (Qih hk));have hmg:=Ne5 (hb _ (Qih ha)) (hb _ (Qih hc)) (hb _ (Qih hk));unfold T0;cases out with
 |nil =>
  show U9 Stp.next Stp.exit Stp.fail _ (fc7 k [])=_;simp only[U9,fc7,Int.toNat_natCast,i8,p7,fb6 tP ha,fb6 tP hc,fb6 tP hk,hme,hmg,hin,hig,hth,htg,r8 hk (by omega)]
  rw[btD (l0 hk),bt (d9 ha),bt (d9 hc),bt (d9 hk),j5];unfold za8;rw[Ld0];cases (mpt r[a] r[c] r[k]).2 with
  |false=>rfl
  |true =>
   cases inn r (mpt r[a] r[c] r[k]).1 with
   |false=>rfl
   |true=>rfl
 |cons o os =>
  show V0 Stp.next Stp.exit Stp.fail _ (fc7 k (o::os))=_;simp only[V0,fc7,Int.toNat_natCast,i8,p7,fb6 tP ha,fb6 tP hc,fb6 tP hk,hme,hmg,hin,hig,df8,zc7,hth,htg,r8 hk (by omega)]
  rw[btD (l0 hk),bt (d9 ha),bt (d9 hc),bt (d9 hk),j5,Ld1 rfl ho,de8];unfold za8;cases (mpt r[a] r[c] r[k]).2 with
  |false=>rfl
  |true =>
   cases inn r (mpt r[a] r[c] r[k]).1 with
   |false=>cases Rb9 (o::os) (mpt r[a] r[c] r[k]).1<;>rfl
   |true =>
    cases Rb9 (o::os) (mpt r[a] r[c] r[k]).1 with
    |true=>rfl
    |false =>
     show Stp.next (⟨1,((k+1:Nat):Int),(o::os).length+1,bL tX (o::os++[(mpt r[a] r[c] r[k]).1])⟩:v8)=_;simp[ph]
theorem df9(r:List Pln)(a c k:Nat)(out:List Pt)(hk:r.length<=k):T0 ⟨r,a,c⟩ (fc7 k out)=.exit (ph out+1):=by
 unfold T0;have this:¬ ((k:Int)<(r.length:Int)):=by omega
 cases out with
 |nil =>
  show U9 Stp.next Stp.exit Stp.fail _ (fc7 k [])=_;simp only[U9,fc7];rw[bfD this];rfl
 |cons o os =>
  show V0 Stp.next Stp.exit Stp.fail _ (fc7 k (o::os))=_;simp only[V0,fc7];rw[bfD this];rfl
theorem Oe2 (r : List Pln) (hb : Bds r) (hr : r.length ≤ 200) (a c : Nat) (ha : a < r.length) (hc : c < r.length) (k : Nat) (out : List Pt) (ho : out.length ≤ 100000000) :
  ∃m,lp (T0 ⟨r,a,c⟩) (fc7 k out)=(ph (ib4 r r[a] r[c] (r.drop k) out)+1,fc7 m (ib4 r r[a] r[c] (r.drop k) out)) :=
 ⟨_,(Xa2 (mk:=fc7) (f:=λs _ out=>za8 r r[a] r[c] out s) (g:=λl out=>ib4 r r[a] r[c] l out) (fin:=λout=>ph out+1) r (λj o=>o.length+k<=out.length+j) (by omega)
  (λ_=>rfl) (λ_ _ _=>rfl) (λj o hj hi=>⟨Oe1 r hb hr a c j ha hc o (by omega) hj,by have:=Cc3 r r[a] r[c] o r[j];show (za8 r r[a] r[c] o r[j]).length+k<=out.length+(j+1);omega⟩)
  (λj o hj _=>df9 r a c j o hj) k out (by omega)).1⟩
@[reducible] noncomputable def fc8(r:List Pln)(j:Nat)(out:List Pt):y6:=⟨ph out,r,(j:Int),out.length,bL tX out⟩
theorem Oe3 (r : List Pln) (hb : Bds r) (hr : r.length ≤ 200) (a j : Nat) (ha : a < r.length) (out : List Pt) (ho : out.length ≤ 100000000) (hj : j < r.length) :
  N8 ⟨a⟩ (fc8 r j out)=.next (fc8 r (j+1) (ib4 r r[a] r[j] (r.drop (j+1)) out)):=by
 obtain⟨m,hm⟩:=Oe2 r hb hr a j ha hj (j+1) out ho;unfold N8;generalize ib4 r r[a] r[j] (r.drop (j+1)) out=res at *
 cases out with
 |nil =>
  show V1 Stp.next Stp.exit Stp.fail _ (fc8 r j [])=_;simp only[V1,fc8,i8,n9,r8 hj (by omega)]
  rw[show (⟨0,((j+1:Nat):Int),0,[]⟩:v8)=fc7 (j+1) [] from rfl,hm,btD (l0 hj)]
  cases res<;>rfl
 |cons o os =>
  show V2 Stp.next Stp.exit Stp.fail _ (fc8 r j (o::os))=_;simp only[V2,fc8,i8,n9,r8 hj (by omega)]
  rw[show (⟨1,((j+1:Nat):Int),(o::os).length,bL tX (o::os)⟩:v8)=fc7 (j+1) (o::os) from rfl,hm,btD (l0 hj)]
  cases res<;>rfl
theorem ef0(r:List Pln)(a j:Nat)(out:List Pt)(hj:r.length<=j):N8 ⟨a⟩ (fc8 r j out)=.exit (ph out+1):=by
 unfold N8;have this:¬ ((j:Int)<(r.length:Int)):=by omega
 cases out with
 |nil =>
  show V1 Stp.next Stp.exit Stp.fail _ (fc8 r j [])=_;simp only[V1,fc8];rw[bfD this];rfl
 |cons o os =>
  show V2 Stp.next Stp.exit Stp.fail _ (fc8 r j (o::os))=_;simp only[V2,fc8];rw[bfD this];rfl
theorem Oe4 (r : List Pln) (hb : Bds r) (hr : r.length ≤ 200) (a : Nat) (ha : a < r.length) (j : Nat) (out : List Pt) (ho : out.length ≤ 40000 * a) :
  ∃m,lp (N8 ⟨a⟩) (fc8 r j out)=(ph (Ta2 r r[a] (r.drop j) out)+1,fc8 r m (Ta2 r r[a] (r.drop j) out))/\(Ta2 r r[a] (r.drop j) out).length<=40000*(a+1):=by
 have hk:=Xa2 (step:=N8 ⟨a⟩) (mk:=fc8 r) (f:=λq l out=>ib4 r r[a] q l out) (g:=λl out=>Ta2 r r[a] l out) (fin:=λout=>ph out+1) r (λk o=>o.length<=40000*a+200*(k-j)/\j<=k/\k<=j+r.length) (by omega)
  (λ_=>rfl) (λ_ _ _=>rfl) (λk o hj hi=>⟨Oe3 r hb hr a k ha o (by omega) hj,by
   have:=uc6 r r[a] r[k] (r.drop (k+1)) o
   rw[Qii] at this;show (ib4 r r[a] r[k] (r.drop (k+1)) o).length<=40000*a+200*(k+1-j)/\j<=k+1/\k+1<=j+r.length
   omega⟩)
  (λk o hj _=>ef0 r a k o hj) j out (by omega)
 exact⟨_,hk.1,by have:=hk.2;omega⟩
@[reducible] noncomputable def mc9(r:List Pln)(j:Nat)(out:List Pt):C9:=⟨ph out,r,(j:Int),out.length,bL tX out⟩
theorem de9 (r : List Pln) (hb : Bds r) (hr : r.length ≤ 200) (a : Nat) (ha : a < r.length) (out : List Pt) (ho : out.length ≤ 40000 * a) :
  T1 ⟨⟩ (mc9 r a out)=.next (mc9 r (a+1) (Ta2 r r[a] (r.drop (a+1)) out))/\(Ta2 r r[a] (r.drop (a+1)) out).length<=40000*(a+1):=by
 obtain⟨m,hm,hl⟩:=Oe4 r hb hr a ha (a+1) out ho;refine⟨?_,hl⟩
 clear hl
 unfold T1;generalize Ta2 r r[a] (r.drop (a+1)) out=res at *
 cases out with
 |nil =>
  show V4 Stp.next Stp.exit Stp.fail _ (mc9 r a [])=_;simp only[V4,mc9,i8,n9,r8 ha (by omega)]
  rw[show (⟨0,r,((a+1:Nat):Int),0,[]⟩:y6)=fc8 r (a+1) [] from rfl,hm,btD (l0 ha)]
  cases res<;>rfl
 |cons o os =>
  show V5 Stp.next Stp.exit Stp.fail _ (mc9 r a (o::os))=_;simp only[V5,mc9,i8,n9,r8 ha (by omega)]
  rw[show (⟨1,r,((a+1:Nat):Int),(o::os).length,bL tX (o::os)⟩:y6)=fc8 r (a+1) (o::os) from rfl,hm,btD (l0 ha)]
  cases res<;>rfl
theorem ef1(r:List Pln)(j:Nat)(out:List Pt)(hj:r.length<=j):T1 ⟨⟩ (mc9 r j out)=.exit (ph out+1):=by
 unfold T1;have this:¬ ((j:Int)<(r.length:Int)):=by omega
 cases out with
 |nil =>
  show V4 Stp.next Stp.exit Stp.fail _ (mc9 r j [])=_;simp only[V4,mc9];rw[bfD this];rfl
 |cons o os =>
  show V5 Stp.next Stp.exit Stp.fail _ (mc9 r j (o::os))=_;simp only[V5,mc9];rw[bfD this];rfl
theorem Oe5(r:List Pln)(hb:Bds r)(hr:r.length<=200):∃m,lp (T1 ⟨⟩) (mc9 r 0 [])=(ph (cor r)+1,mc9 r m (cor r))/\(cor r).length<=8000000:=by
 have hk:=Xa2 (step:=T1 ⟨⟩) (mk:=mc9 r) (f:=λq l out=>Ta2 r q l out) (g:=λl out=>mc8 r l out) (fin:=λout=>ph out+1) r (λk o=>o.length<=40000*k/\k<=r.length) (by omega)
  (λ_=>rfl) (λ_ _ _=>rfl) (λk o hj hi=>⟨(de9 r hb hr k hj o hi.1).1,(de9 r hb hr k hj o hi.1).2,hj⟩)
  (λk o hj _=>ef1 r k o hj) 0 [] (by simp)
 exact⟨_,hk.1,by have:=hk.2;rw[show max 0 r.length=r.length by omega] at this;have h1:=this.1;show (mc8 r r []).length<=_;rw[Qib] at h1;omega⟩
noncomputable def slX(l:List Pt):a7×List a8:=match l with
 |[]=>(.v (.slice none 0 0),[])
 |_::_=>(.sl 0 0 l.length 0,[⟨136,4,bL tX l,true,false,0⟩])
theorem xd4(l:List Pt):(one (r1L tX)).rd (slX l)=some l:=by
 cases l with
 |nil=>rfl
 |cons x l =>
  show Bool.rec (motive:=λ_=>Option (List Pt)) none (some (slR tX (bL tX (x::l)) 0 (x::l).length)) (Bool.and true (okS tX (bL tX (x::l)) 0 (x::l).length))=_
  rw[zc6,zc7];rfl
theorem Hc1(r:List Pln)(hb:Bds r)(hr:r.length<=200):Na2 r=some (slX (cor r)):=by
 obtain⟨m,hm,_⟩:=Oe5 r hb hr;unfold Na2;simp only[i8,n9];rw[show (⟨0,r,0,0,[]⟩:C9)=mc9 r 0 [] from rfl,hm]
 cases cor r<;>rfl
theorem na8{ρ:Type}(R:RR ρ){x:a7×List a8}{r:ρ}(h:R.rd x=some r):Q5 R (some x)=r:=by
 show Option.rec (motive:=λ_=>ρ) R.d (λx=>x) (R.rd x)=r
 rw[h]
theorem za9{ρ:Type}(R:RR ρ){x:a7×List a8}{r:ρ}(h:R.rd x=some r):okO R (some x)=true:=by
 show Option.rec (motive:=λ_=>Bool) false (λ_=>true) (R.rd x)=true
 rw[h]
theorem Wc8(r:List Pln)(hb:Bds r)(hr:r.length<=200):Na3 r=cor r:=by unfold Na3;rw[Hc1 r hb hr];exact na8 _ (xd4 _)
theorem Wc9(r:List Pln)(hb:Bds r)(hr:r.length<=200):Na4 r=true:=by unfold Na4;rw[Hc1 r hb hr];exact za9 _ (xd4 _)
noncomputable def gd2(x:Pt):List a7:=[i x.px,i x.py,i x.pz,i x.pw,b true]
noncomputable def Qb5(l:List Pt):List (List a7):=l.map gd2
@[reducible] noncomputable def flK:List (Nat×CK):=[(0,.int .i64),(1,.int .i64),(2,.int .i64),(3,.int .i64)]
theorem Ld2(x q:Pt):fc2 flK [i x.px,i x.py,i x.pz,i x.pw] (gd2 q)=eqX x q:=by
 show Bool.and (decide (x.px=q.px)) (Bool.and (decide (x.py=q.py)) (Bool.and (decide (x.pz=q.pz)) (Bool.and (decide (x.pw=q.pw)) true)))=_;unfold eqX;have h:∀a c:Int,decide (a=c)=(c==a):=λa c=>by rw[Bool.eq_iff_iff,decide_eq_true_eq,beq_iff_eq];exact eq_comm
 rw[h,h,h,h]
theorem Xc0(x:Pt):∀l,pc4 4 flK [i x.px,i x.py,i x.pz,i x.pw] (Qb5 l)=Rb9 l x
 |[]=>rfl
 |q::l=>by
  have ih:=Xc0 x l;unfold pc4 at ih ⊢;show Option.rec (motive:=λ_=>Bool) false (λr=>toB (hdA (e8 r 4))) (Bool.rec (motive:=λ_=>Option (List a7)) (Fc3 flK [i x.px,i x.py,i x.pz,i x.pw] (Qb5 l)) (some (gd2 q)) (fc2 flK [i x.px,i x.py,i x.pz,i x.pw] (gd2 q)))=Rb9 (q::l) x
  rw[Ld2];unfold Rb9 at ih ⊢;rw[List.any_cons];cases eqX x q with
  |true=>rfl
  |false=>exact ih
theorem od1(x:Pt):∀l,Rb9 l x=false->Cb1 flK [i x.px,i x.py,i x.pz,i x.pw] (gd2 x) (Qb5 l)=Qb5 (l++[x])
 |[],_=>rfl
 |q::l,h=>by
  unfold Rb9 at h;rw[List.any_cons,Bool.or_eq_false_iff] at h;show Bool.rec (motive:=λ_=>List (List a7)) (gd2 q::Cb1 flK [i x.px,i x.py,i x.pz,i x.pw] (gd2 x) (Qb5 l)) (gd2 x::Qb5 l) (fc2 flK [i x.px,i x.py,i x.pz,i x.pw] (gd2 q))=_
  rw[Ld2,h.1,od1 x l h.2];rfl
@[reducible] noncomputable def fc9(k:Nat)(out:List Pt):g7:=⟨ph out,(k:Int),out.length,bL tX out,Qb5 out⟩
structure C2(P:f9)(r:List Pln)(p q:Pln)(lo:Nat):Prop where
 ns:P.He0=(r.drop lo).length
 gs:P.xb5=λk=>tP.row (gL tP r (lo+k))
 is:P.ae5=((r.drop lo).length:Int)
 p1:(⟨⟨P.aa2,P.aa3,P.aa4⟩,P.aa5⟩:Pln)=p
 q1:(⟨⟨P.Da3,P.Da4,P.Da5⟩,P.Pb4⟩:Pln)=q
 r1:P.Ka0=r
theorem xd5(s:Pln):(⟨⟨toI (hdA (tP.row s)),toI (hdA (tlA (tP.row s))),toI (hdA (tlA (tlA (tP.row s))))⟩,toI (hdA (tlA (tlA (tlA (tP.row s)))))⟩:Pln)=s:=rfl
theorem xd6(s:Pln):((Nat.ble 4 (len (tP.row s)))&&(Ka2 [CK.int .i64,CK.int .i64,CK.int .i64,CK.int .i64] (tP.row s)))=true:=rfl
theorem Oe6 {P : f9} {r : List Pln} {p q : Pln} {lo : Nat} (h : C2 P r p q lo) (hb : Bds r) (hr : r.length ≤ 200) (hp : Bd p) (hq : Bd q) (k : Nat) (out : List Pt) (ho : out.length ≤ 1000000000) (hk : k < (r.drop lo).length) :
  A3 P (fc9 k out)=.next (fc9 (k+1) (za8 r p q out (r.drop lo)[k])):=by
 have hwi:∀x,ia8 r x=inn r x:=λx=>Kd0 r x (by omega)
 have hwg:∀x,ia9 r x=true:=λx=>Kd1 r x (by omega)
 have hs:gL tP r (lo+k)=(r.drop lo)[k]:=by rw[<- uc7,fb6 tP hk]
 have hbs:Bd (r.drop lo)[k]:=hb _ (List.mem_of_mem_drop (Qih hk));have hd:(r.drop lo).length<=200:=by rw[Qii];omega
 have hme:=df4 hp hq hbs;have hmg:=df5 hp hq hbs;obtain⟨x1,x2,x3,x4,x5,x6,x7,x8,x9,x10,x11,x12,x13,x14,x15,x16,x17,x18,x19,x20,x21⟩:=P;obtain⟨ns,gs,is,p1,q1,r1⟩:=h
 simp only at ns gs is p1 q1 r1
 have r1:=r1.symm;subst ns gs is r1;unfold A3;cases out with
 |nil =>
  show B9 Stp.next Stp.exit Stp.fail _ (fc9 k [])=_;simp only[B9,fc9,Int.toNat_natCast,i8,p7,p1,q1,hs,xd5,xd6,hme,hmg,hwi,hwg,r8 hk (by omega)]
  rw[btD (l0 hk),bt (d9 hk),j5,j5];unfold za8;rw[Ld0];cases (mpt p q (r.drop lo)[k]).2 with
  |false=>rfl
  |true =>
   cases inn r (mpt p q (r.drop lo)[k]).1 with
   |false=>rfl
   |true=>rfl
 |cons o os =>
  show C0 Stp.next Stp.exit Stp.fail _ (fc9 k (o::os))=_;simp only[C0,fc9,Int.toNat_natCast,i8,p7,p1,q1,hs,xd5,xd6,hme,hmg,hwi,hwg,r8 hk (by omega),Xc0]
  rw[btD (l0 hk),bt (d9 hk),j5,j5,Ld1 rfl ho,de8];unfold za8;cases (mpt p q (r.drop lo)[k]).2 with
  |false=>rfl
  |true =>
   cases hx:Rb9 (o::os) (mpt p q (r.drop lo)[k]).1 with
   |true=>rfl
   |false =>
    cases inn r (mpt p q (r.drop lo)[k]).1 with
    |false=>rfl
    |true =>
     show Stp.next (⟨1,((k+1:Nat):Int),(o::os).length+1,bL tX (o::os++[(mpt p q (r.drop lo)[k]).1]),Cb1 flK [i (mpt p q (r.drop lo)[k]).1.px,i (mpt p q (r.drop lo)[k]).1.py,i (mpt p q (r.drop lo)[k]).1.pz,i (mpt p q (r.drop lo)[k]).1.pw] (gd2 (mpt p q (r.drop lo)[k]).1) (Qb5 (o::os))⟩:g7)=_;rw[od1 _ _ hx];simp[ph]
theorem ef2{P:f9}{r:List Pln}{p q:Pln}{lo:Nat}(h:C2 P r p q lo)(k:Nat)(out:List Pt)(hk:(r.drop lo).length<=k):A3 P (fc9 k out)=.exit (ph out+1):=by
 obtain⟨x1,x2,x3,x4,x5,x6,x7,x8,x9,x10,x11,x12,x13,x14,x15,x16,x17,x18,x19,x20,x21⟩:=P;obtain⟨ns,gs,is,p1,q1,r1⟩:=h
 simp only at ns gs is p1 q1 r1
 have r1:=r1.symm;subst ns gs is r1;unfold A3;have this:¬ ((k:Int)<((r.drop lo).length:Int)):=by omega
 cases out with
 |nil =>
  show B9 Stp.next Stp.exit Stp.fail _ (fc9 k [])=_;simp only[B9,fc9];rw[bfD this];rfl
 |cons o os =>
  show C0 Stp.next Stp.exit Stp.fail _ (fc9 k (o::os))=_;simp only[C0,fc9];rw[bfD this];rfl
theorem Oe7 {P : f9} {r : List Pln} {p q : Pln} {lo : Nat} (h : C2 P r p q lo) (hb : Bds r) (hr : r.length ≤ 200) (hp : Bd p) (hq : Bd q) (out : List Pt) (ho : out.length ≤ 100000000) :
  ∃m,lp (A3 P) (fc9 0 out)=(ph (ib4 r p q (r.drop lo) out)+1,fc9 m (ib4 r p q (r.drop lo) out)):=by
 have hd:(r.drop lo).length<=200:=by rw[Qii];omega
 exact⟨_,(Xa2 (mk:=fc9) (f:=λs _ out=>za8 r p q out s) (g:=λl out=>ib4 r p q l out) (fin:=λout=>ph out+1) (r.drop lo) (λj o=>o.length<=out.length+j) (by omega)
  (λ_=>rfl) (λ_ _ _=>rfl) (λj o hj hi=>⟨Oe6 h hb hr hp hq j o (by omega) hj,by have:=Cc3 r p q o (r.drop lo)[j];show (za8 r p q o (r.drop lo)[j]).length<=out.length+(j+1);omega⟩)
  (λj o hj _=>ef2 h j o hj) 0 out (by omega)).1⟩
@[reducible] noncomputable def gc0(r:List Pln)(j:Nat)(out:List Pt):i7:=⟨ph out,r,(j:Int),r,r,out.length,bL tX out,Qb5 out⟩
structure C1(P:g8)(r:List Pln)(p:Pln)(a:Nat):Prop where
 i3:P.is3=(a:Int)
 ns:P.jd4=(r.drop (a+1)).length
 gs:P.Jb1=λk=>tP.row (gL tP r (a+1+k))
 is:P.sa6=((r.drop (a+1)).length:Int)
 p1:(⟨⟨P.aa2,P.aa3,P.aa4⟩,P.aa5⟩:Pln)=p
theorem Oe8 {P : g8} {r : List Pln} {p : Pln} {a : Nat} (h : C1 P r p a) (hb : Bds r) (hr : r.length ≤ 200) (hp : Bd p) (j : Nat) (out : List Pt) (ho : out.length ≤ 100000000) (hj : j < (r.drop (a + 1)).length) :
  A4 P (gc0 r j out)=.next (gc0 r (j+1) (ib4 r p (r.drop (a+1))[j] ((r.drop (a+1)).drop (j+1)) out)):=by
 have hs:gL tP r (a+1+j)=(r.drop (a+1))[j]:=by rw[<- uc7,fb6 tP hj]
 have hbs:Bd (r.drop (a+1))[j]:=hb _ (List.mem_of_mem_drop (Qih hj));have hd:=hj;rw[Qii] at hd;have hW:W (W ((a:Int)+(j:Int))+2)=((a+1+(j+1):Nat):Int):=by rw[Kb7,qa9 (by omega) (by omega)];omega
 have hdl:(r.drop (a+1)).length<=4611686018427387904:=by rw[Qii];omega
 have hlo:inB ((a+1+(j+1):Nat):Int) (r.length+1)=true:=d9 (by omega)
 rw[List.drop_drop];generalize hq:(r.drop (a+1))[j]=q at *
 obtain⟨x1,x2,x3,x4,x5,x6,x7,x8,x9,x10⟩:=P;obtain⟨i3,ns,gs,is,p1⟩:=h
 simp only at i3 ns gs is p1
 subst i3 ns gs is;unfold A4;have key:∀(P2:f9),C2 P2 r p q (a+1+(j+1))->_:=λP2 h2=>Oe7 h2 hb hr hp hbs out ho
 cases out with
 |nil =>
  show C3 Stp.next Stp.exit Stp.fail _ (gc0 r j [])=_;simp only[C3,gc0,i8,n9,r8 hj hdl,hW,Int.toNat_natCast,hs,xd6,hlo];rw[show (⟨0,0,0,[],[]⟩:g7)=fc9 0 [] from rfl]
  generalize hP:f9.mk _ _ _ _ _ _ _ _ _ _ _ _ _ _ _ _ _ _ _ _ _=P2;obtain⟨m,hm⟩:=key P2 (by
   subst hP;exact⟨by simp,rfl,by simp,p1,xd5 q,rfl⟩)
  rw[hm,btD (l0 hj),bt (d9 hj)];cases ib4 r p q (r.drop (a+1+(j+1))) []<;>rfl
 |cons o os =>
  show C4 Stp.next Stp.exit Stp.fail _ (gc0 r j (o::os))=_;simp only[C4,gc0,i8,n9,r8 hj hdl,hW,Int.toNat_natCast,hs,xd6,hlo];rw[show (⟨1,0,(o::os).length,bL tX (o::os),Qb5 (o::os)⟩:g7)=fc9 0 (o::os) from rfl]
  generalize hP:f9.mk _ _ _ _ _ _ _ _ _ _ _ _ _ _ _ _ _ _ _ _ _=P2;obtain⟨m,hm⟩:=key P2 (by
   subst hP;exact⟨by simp,rfl,by simp,p1,xd5 q,rfl⟩)
  rw[hm,btD (l0 hj),bt (d9 hj)];cases ib4 r p q (r.drop (a+1+(j+1))) (o::os)<;>rfl
theorem ef3{P:g8}{r:List Pln}{p:Pln}{a:Nat}(h:C1 P r p a)(j:Nat)(out:List Pt)(hj:(r.drop (a+1)).length<=j):A4 P (gc0 r j out)=.exit (ph out+1):=by
 obtain⟨x1,x2,x3,x4,x5,x6,x7,x8,x9,x10⟩:=P;obtain⟨i3,ns,gs,is,p1⟩:=h
 simp only at i3 ns gs is p1
 subst i3 ns gs is;unfold A4;have this:¬ ((j:Int)<((r.drop (a+1)).length:Int)):=by omega
 cases out with
 |nil =>
  show C3 Stp.next Stp.exit Stp.fail _ (gc0 r j [])=_;simp only[C3,gc0];rw[bfD this];rfl
 |cons o os =>
  show C4 Stp.next Stp.exit Stp.fail _ (gc0 r j (o::os))=_;simp only[C4,gc0];rw[bfD this];rfl
theorem Oe9 {P : g8} {r : List Pln} {p : Pln} {a : Nat} (h : C1 P r p a) (hb : Bds r) (hr : r.length ≤ 200) (hp : Bd p) (out : List Pt) (ho : out.length ≤ 10000000) :
  ∃m,lp (A4 P) (gc0 r 0 out)=(ph (Ta2 r p (r.drop (a+1)) out)+1,gc0 r m (Ta2 r p (r.drop (a+1)) out)):=by
 have hd:(r.drop (a+1)).length<=200:=by rw[Qii];omega
 exact⟨_,(Xa2 (mk:=gc0 r) (f:=λq l out=>ib4 r p q l out) (g:=λl out=>Ta2 r p l out) (fin:=λout=>ph out+1) (r.drop (a+1)) (λk o=>o.length<=out.length+200*k) (by omega)
  (λ_=>rfl) (λ_ _ _=>rfl) (λk o hj hi=>⟨Oe8 h hb hr hp k o (by omega) hj,by
   have:=uc6 r p (r.drop (a+1))[k] ((r.drop (a+1)).drop (k+1)) o
   rw[Qii] at this;show (ib4 r p (r.drop (a+1))[k] ((r.drop (a+1)).drop (k+1)) o).length<=out.length+200*(k+1)
   omega⟩)
  (λk o hj _=>ef3 h k o hj) 0 out (by omega)).1⟩
@[reducible] noncomputable def nc0(r:List Pln)(j:Nat)(out:List Pt):l7:=⟨ph out,r,(j:Int),r,r,out.length,bL tX out,Qb5 out⟩
theorem Pe0 {P : r9} (r : List Pln) (h : P.qa5 = (r.length : Int)) (hb : Bds r) (hr : r.length ≤ 200) (a : Nat) (ha : a < r.length) (out : List Pt) (ho : out.length ≤ 40000 * a) :
  A5 P (nc0 r a out)=.next (nc0 r (a+1) (Ta2 r r[a] (r.drop (a+1)) out)):=by
 have hbs:Bd r[a]:=hb _ (Qih ha);have hlo:inB ((a+1:Nat):Int) (r.length+1)=true:=d9 (by omega)
 have key:∀(P2:g8),C1 P2 r r[a] a->_:=λP2 h2=>Oe9 h2 hb hr hbs out (by omega)
 obtain⟨x1⟩:=P
 simp only at h
 subst h;unfold A5;cases out with
 |nil =>
  show C5 Stp.next Stp.exit Stp.fail _ (nc0 r a [])=_;simp only[C5,nc0,i8,n9,r8 ha (by omega),Int.toNat_natCast,hlo,fb6 tP ha]
  rw[show (⟨0,r,0,r,r,0,[],[]⟩:i7)=gc0 r 0 [] from rfl]
  generalize hP:g8.mk _ _ _ _ _ _ _ _ _ _=P2;obtain⟨m,hm⟩:=key P2 (by
   subst hP;exact⟨rfl,by simp,rfl,by simp,rfl⟩)
  rw[hm,btD (l0 ha),bt (d9 ha)];cases Ta2 r r[a] (r.drop (a+1)) []<;>rfl
 |cons o os =>
  show C6 Stp.next Stp.exit Stp.fail _ (nc0 r a (o::os))=_;simp only[C6,nc0,i8,n9,r8 ha (by omega),Int.toNat_natCast,hlo,fb6 tP ha]
  rw[show (⟨1,r,0,r,r,(o::os).length,bL tX (o::os),Qb5 (o::os)⟩:i7)=gc0 r 0 (o::os) from rfl]
  generalize hP:g8.mk _ _ _ _ _ _ _ _ _ _=P2;obtain⟨m,hm⟩:=key P2 (by
   subst hP;exact⟨rfl,by simp,rfl,by simp,rfl⟩)
  rw[hm,btD (l0 ha),bt (d9 ha)];cases Ta2 r r[a] (r.drop (a+1)) (o::os)<;>rfl
theorem ef4{P:r9}(r:List Pln)(h:P.qa5=(r.length:Int))(j:Nat)(out:List Pt)(hj:r.length<=j):A5 P (nc0 r j out)=.exit (ph out+1):=by
 obtain⟨x1⟩:=P
 simp only at h
 subst h;unfold A5;have this:¬ ((j:Int)<(r.length:Int)):=by omega
 cases out with
 |nil =>
  show C5 Stp.next Stp.exit Stp.fail _ (nc0 r j [])=_;simp only[C5,nc0];rw[bfD this];rfl
 |cons o os =>
  show C6 Stp.next Stp.exit Stp.fail _ (nc0 r j (o::os))=_;simp only[C6,nc0];rw[bfD this];rfl
theorem Pe1(r:List Pln)(hb:Bds r)(hr:r.length<=200):∃m,lp (A5 ⟨(r.length:Int)⟩) (nc0 r 0 [])=(ph (cor r)+1,nc0 r m (cor r)) :=
 ⟨_,(Xa2 (step:=A5 ⟨(r.length:Int)⟩) (mk:=nc0 r) (f:=λq l out=>Ta2 r q l out) (g:=λl out=>mc8 r l out) (fin:=λout=>ph out+1) r (λk o=>o.length<=40000*k) (by omega)
  (λ_=>rfl) (λ_ _ _=>rfl) (λk o hj hi=>⟨Pe0 r rfl hb hr k hj o hi,by
   have h1:=Wc7 r r[k] (r.drop (k+1)) o (by rw[Qii];omega)
   rw[Qii] at h1;show (Ta2 r r[k] (r.drop (k+1)) o).length<=40000*(k+1)
   omega⟩)
  (λk o hj _=>ef4 r rfl k o hj) 0 [] (by simp)).1⟩
theorem Xc1(r:List Pln)(hb:Bds r)(hr:r.length<=200):aa6 r=some (slX (cor r)):=by
 obtain⟨m,hm⟩:=Pe1 r hb hr;unfold aa6;simp only[i8,n9];rw[show (⟨0,r,0,r,r,0,[],[]⟩:l7)=nc0 r 0 [] from rfl,hm]
 cases cor r<;>rfl
theorem od2(r:List Pln)(hb:Bds r)(hr:r.length<=200):aa7 r=cor r:=by unfold aa7;rw[Xc1 r hb hr];exact na8 _ (xd4 _)
theorem od3(r:List Pln)(hb:Bds r)(hr:r.length<=200):aa8 r=true:=by unfold aa8;rw[Xc1 r hb hr];exact za9 _ (xd4 _)
noncomputable def slP(l:List Pln):a7×List a8:=(.sl 0 0 l.length 0,[⟨73,4,bL tP l,true,false,0⟩])
theorem nc1(l:List Pln):(one (r1L tP)).rd (slP l)=some l:=by
 show Bool.rec (motive:=λ_=>Option (List Pln)) none (some (slR tP (bL tP l) 0 l.length)) (Bool.and true (okS tP (bL tP l) 0 l.length))=_
 rw[zc6,zc7];rfl
theorem od4{α:Type}(t:Ty α)(l:List α):(one (r1L t)).rd (eL t l,[])=some l:=by
 show Bool.rec (motive:=λ_=>Option (List α)) none (some (rt t l)) (Bool.and (Nat.beq t.es t.es) (okE t l))=_
 rw[i8,p7,Qit];rfl
noncomputable def ws:List Pln:=[⟨⟨1,0,0⟩,24⟩,⟨⟨-1,0,0⟩,24⟩,⟨⟨0,1,0⟩,24⟩,⟨⟨0,-1,0⟩,24⟩,⟨⟨0,0,1⟩,24⟩,⟨⟨0,0,-1⟩,24⟩]
theorem Xe9:Bds ws:=by
 intro p hp
 have:okp p=true:=by
  have h:ws.all okp=true:=by decide
  exact Qir.1 h p hp
 exact Cc1 this
noncomputable def Hb6(lo hi:V3):List Pln:=[⟨⟨1,0,0⟩,hi.x⟩,⟨⟨-1,0,0⟩,W (0-lo.x)⟩,⟨⟨0,1,0⟩,hi.y⟩,⟨⟨0,-1,0⟩,W (0-lo.y)⟩,⟨⟨0,0,1⟩,hi.z⟩,⟨⟨0,0,-1⟩,W (0-lo.z)⟩]
theorem ze8(lo hi:V3):dc9 lo hi=some (slP (Hb6 lo hi)):=rfl
theorem qf3(lo hi:V3):ec0 lo hi=Hb6 lo hi:=by unfold ec0;rw[ze8];exact na8 _ (nc1 _)
theorem qf4(lo hi:V3):ec1 lo hi=true:=by unfold ec1;rw[ze8];exact za9 _ (nc1 _)
theorem ef5:Hb6 ⟨-24,-24,-24⟩ ⟨24,24,24⟩=ws:=by
 simp only[Hb6,ws];rw[show W (0 - -24)=24 from by rw[le7];rfl]
theorem Pe2{l:List Pln}:Nat.beq (len (bL tP l)) 0=l.isEmpty:=by rw[qa8];cases l<;>rfl
theorem ze9(c:List Pln)(hc:c.length<=1000000000):Gb6 c=some (slP (c++ws)):=by
 unfold Gb6;simp only[sb5,qf3,qf4,ef5,Pe2];have h6:(0+len (bL tP c))=c.length:=by rw[qa8];omega
 have hw:len (bL tP ws)=6:=rfl;rw[h6,hw];have e1:Nat.ble (c.length*32) room=true:=Ua6 (by omega)
 have e2:Nat.ble ((c.length+6)*32) room=true:=Ua6 (by omega)
 have e3:app (app [] (bL tP c)) (bL tP ws)=bL tP (c++ws):=bb0 tP c ws;have e4:Nat.beq c.length (len (app [] (bL tP c)))=true:=by
  rw[show app [] (bL tP c)=bL tP c from rfl,qa8,Qit]
 rw[e1,e2,e3,e4];cases c with
 |nil=>rfl
 |cons p c =>
  show some (a7.sl 0 0 ((p::c).length+6) 0,[(⟨73,4,bL tP (p::c++ws),true,false,0⟩:a8)])=_;unfold slP;rw[Qia];rfl
theorem Ye0(c:List Pln)(hc:c.length<=1000000000):Gb7 c=c++ws:=by unfold Gb7;rw[ze9 c hc];exact na8 _ (nc1 _)
theorem Ye1(c:List Pln)(hc:c.length<=1000000000):Gb8 c=true:=by unfold Gb8;rw[ze9 c hc];exact za9 _ (nc1 _)
theorem Ae0{l:List (List Pln)}{j:Nat}(h:j<l.length):gL (tLs tP) l j=l[j]:=fb6 (tLs tP) h
theorem Ld3(ls:List (List Pln))(hn:ls.length<=1000000000)(hl:ls.flatten.length<=1000000000):∃m,lp (K5 ⟨ls,ls,(ls.length:Int)⟩) ⟨0,0⟩=(1,⟨(ls.flatten.length:Int),m⟩):=by
 have h:=Xa2 (step:=K5 ⟨ls,ls,(ls.length:Int)⟩) (mk:=λj (n:Nat)=>(⟨(n:Int),(j:Int)⟩:s7)) (f:=λl _ n=>n+l.length) (g:=λl n=>n+l.flatten.length) (fin:=λ_=>1) ls
  (λj n=>n+(ls.drop j).flatten.length=ls.flatten.length) hn (λ_=>rfl) (λx r a=>by simp only[List.flatten_cons,Qia];omega)
  (λj n hj hi=>by
   rw[Qio hj,List.flatten_cons,Qia] at hi;have hW:W ((n:Int)+(ls[j].length:Int))=((n+ls[j].length:Nat):Int):=by rw[qa9 (by omega) (by omega)];omega
   refine⟨?_,by show n+ls[j].length+(ls.drop (j+1)).flatten.length=_;omega⟩
   simp only[K5,P0,Int.toNat_natCast,Ae0 hj,hW,r8 hj (by omega)]
   rw[btD (l0 hj),bt (d9 hj),bfD (by omega)])
  (λj n hj _=>by
   simp only[K5,P0];rw[bfD (by omega)]) 0 0 (by simp)
 have h:=h.1;rw[Qib,Qid] at h;exact⟨_,h⟩
theorem Ae1{ls:List (List Pln)}(h:ls.flatten=[]){j:Nat}(hj:j<ls.length):ls[j]=[]:=by
 rw[List.flatten_eq_nil_iff] at h;exact h _ (Qih hj)
theorem ee0(ls:List (List Pln))(hn:ls.length<=1000000000)(hl:ls.flatten=[]):∃s,lp (E4 ⟨ls,(ls.length:Int)⟩) ⟨0,0,0,[]⟩=(1,s):=by
 have h:=Xa2 (step:=E4 ⟨ls,(ls.length:Int)⟩) (mk:=λj (_:Unit)=>(⟨0,(j:Int),0,[]⟩:j8)) (f:=λ_ _ n=>n) (g:=λ_ n=>n) (fin:=λ_=>1) ls
  (λ_ _=>True) hn (λ_=>rfl) (λx r a=>rfl)
  (λj n hj hi=>by
   refine⟨?_,trivial⟩;show C7 Stp.next Stp.exit Stp.fail _ _=_;simp only[C7,Int.toNat_natCast,Ae0 hj,Ae1 hl hj,r8 hj (by omega)]
   rw[btD (l0 hj),bt (d9 hj)]
   rfl)
  (λj n hj _=>by
   show C7 Stp.next Stp.exit Stp.fail _ _=_;simp only[C7];rw[bfD (by omega)]) 0 () trivial
 exact⟨_,h.1⟩
noncomputable def Eb4(t:Nat)(d:List Pln):List (List a7):=app (bL tP d) (List.replicate (t-d.length) wd8)
theorem Ae2(t:Nat)(d:List Pln)(h:d.length<=t):len (Eb4 t d)=t:=by
 unfold Eb4;rw[J1,l9,Qia,<- l9,qa8,List.length_replicate];omega
theorem Ae3(t:Nat)(d l:List Pln)(h:d.length+l.length<=t):app (M8 (Eb4 t d) d.length) (app (bL tP l) (e8 (Eb4 t d) (d.length+len (bL tP l))))=Eb4 t (d++l):=by
 have hd:(bL tP d).length=d.length:=by rw[<- l9,qa8]
 unfold Eb4;rw[qa8,<- bb0];simp only[J1,N0,N1];rw[List.take_left' hd,List.append_assoc];congr 2;rw[List.drop_append,Qiaa (by omega),List.nil_append,hd,List.drop_replicate,Qia]
 congr 1;omega
theorem Ld4(ls:List (List Pln))(hn:ls.length<=1000000000):∃m,lp (E4 ⟨ls,(ls.length:Int)⟩) ⟨1,0,0,List.replicate ls.flatten.length wd8⟩=(2,⟨1,m,ls.flatten.length,bL tP ls.flatten⟩):=by
 have h:=Xa2 (step:=E4 ⟨ls,(ls.length:Int)⟩) (mk:=λj (d:List Pln)=>(⟨1,(j:Int),d.length,Eb4 ls.flatten.length d⟩:j8)) (f:=λl _ d=>d++l) (g:=λl d=>d++l.flatten) (fin:=λ_=>2) ls
  (λj d=>d.length+(ls.drop j).flatten.length=ls.flatten.length) hn (λ_=>by simp) (λx r a=>by simp)
  (λj d hj hi=>by
   rw[Qio hj,List.flatten_cons,Qia] at hi;refine⟨?_,by show (d++ls[j]).length+(ls.drop (j+1)).flatten.length=_;rw[Qia];omega⟩
   show C8 Stp.next Stp.exit Stp.fail _ _=_;simp only[C8,Int.toNat_natCast,Ae0 hj,r8 hj (by omega),sb5]
   rw[Ae3 _ _ _ (by omega),Ae2 _ _ (by omega),qa8,btD (l0 hj),bt (d9 hj),bt (by rw[Nat.ble_eq];omega),Qia])
  (λj d hj _=>by
   show C8 Stp.next Stp.exit Stp.fail _ _=_;simp only[C8];rw[bfD (by omega)]) 0 [] (by simp)
 have h:=h.1;rw[Qib,List.nil_append] at h;have e:Eb4 ls.flatten.length ls.flatten=bL tP ls.flatten:=by unfold Eb4;rw[Nat.sub_self,J1];simp
 rw[e] at h;exact⟨_,h⟩
theorem Ye2(ls:List (List Pln))(hn:ls.length<=1000000000)(hl:ls.flatten.length<=1000000000):Hb3 ls=some (slP (ls.flatten++ws)):=by
 have hc:s9 ls=if ls.flatten=[] then ⟨1,0,[]⟩ else ⟨2,ls.flatten.length,bL tP ls.flatten⟩:=by
  unfold s9 L0;simp only[i8,n9];obtain⟨m,hm⟩:=Ld3 ls hn hl;rw[hm];by_cases h0:ls.flatten=[]
  ·obtain⟨s,hs⟩:=ee0 ls hn h0;rw[if_pos h0,hs];rw[show (⟨(ls.flatten.length:Int),m⟩:s7)=⟨0,m⟩ by rw[h0];rfl]
   rfl
  ·obtain⟨m',hm'⟩:=Ld4 ls hn;rw[if_neg h0];simp only[Int.toNat_natCast];rw[hm'];have h1:0<ls.flatten.length:=List.length_pos_iff.2 h0;have e1:((ls.flatten.length:Int)==0)=false:=by rw[beq_eq_false_iff_ne];omega
   have e2:Bool.and (decide ((0:Int)<(ls.flatten.length:Int))) (Nat.ble (ls.flatten.length*32) room)=true:=by
    rw[Ua6 (by omega),decide_eq_true (by omega)]
    rfl
   rw[e1,e2];rfl
 unfold Hb3;simp only[i8,p7,hc];by_cases h0:ls.flatten=[]
 ·rw[if_pos h0,h0];rfl
 ·rw[if_neg h0];generalize ls.flatten=c at *
  have e:∀(d:List Pln) (p:Pln),app (bL tP d) [[i p.n.x,i p.n.y,i p.n.z,i p.b]]=bL tP (d++[p]):=λd p=>bb0 tP d [p]
  have c1:=e c ⟨⟨1,0,0⟩,24⟩;have c2:=e (c++[⟨⟨1,0,0⟩,24⟩]) ⟨⟨-1,0,0⟩,24⟩;have c3:=e (c++[⟨⟨1,0,0⟩,24⟩]++[⟨⟨-1,0,0⟩,24⟩]) ⟨⟨0,1,0⟩,24⟩;have c4:=e (c++[⟨⟨1,0,0⟩,24⟩]++[⟨⟨-1,0,0⟩,24⟩]++[⟨⟨0,1,0⟩,24⟩]) ⟨⟨0,-1,0⟩,24⟩;have c5:=e (c++[⟨⟨1,0,0⟩,24⟩]++[⟨⟨-1,0,0⟩,24⟩]++[⟨⟨0,1,0⟩,24⟩]++[⟨⟨0,-1,0⟩,24⟩]) ⟨⟨0,0,1⟩,24⟩;have c6:=e (c++[⟨⟨1,0,0⟩,24⟩]++[⟨⟨-1,0,0⟩,24⟩]++[⟨⟨0,1,0⟩,24⟩]++[⟨⟨0,-1,0⟩,24⟩]++[⟨⟨0,0,1⟩,24⟩]) ⟨⟨0,0,-1⟩,24⟩
  simp only at c1 c2 c3 c4 c5 c6
  simp only[c1,c2,c3,c4,c5,c6,qa8,Qia,List.length_singleton];have g:∀n:Nat,n<=1000000010->(Nat.beq n n&&Nat.ble ((n+1)*32) room)=true:=λn h=>by rw[Qit,Ua6 (by omega)];rfl
  rw[g _ (by omega),g _ (by omega),g _ (by omega),g _ (by omega),g _ (by omega),g _ (by omega)]
  show some (a7.sl 0 0 (c.length+1+1+1+1+1+1) 0,[(⟨73,4,bL tP _,true,false,0⟩:a8)])=_;unfold slP;rw[Qia];simp only[List.append_assoc];rfl
theorem qf5(ls:List (List Pln))(hn:ls.length<=1000000000)(hl:ls.flatten.length<=1000000000):bb8 ls=ls.flatten++ws:=by unfold bb8;rw[Ye2 ls hn hl];exact na8 _ (nc1 _)
theorem qf6(ls:List (List Pln))(hn:ls.length<=1000000000)(hl:ls.flatten.length<=1000000000):bb9 ls=true:=by unfold bb9;rw[Ye2 ls hn hl];exact za9 _ (nc1 _)
theorem Ye3(c:List Pln)(hc:c.length<=1000000000):bb8 [c]=c++ws:=by
 have:[c].flatten=c:=by simp
 rw[qf5 [c] (by simp) (by rw[this];exact hc),this]
theorem Ye4(c:List Pln)(hc:c.length<=1000000000):bb9 [c]=true:=by
 have:[c].flatten=c:=by simp
 exact qf6 [c] (by simp) (by rw[this];exact hc)
theorem od5(ls:List (List Pln))(hn:ls.length<=1000000000)(hl:∀c∈ls,c.length<=1000000000):Wa5 ls=some (b (ls.all λc=>chk c==0),[]):=by
 have hv:∀c∈ls,Wa2 c=!(chk c==0)/\Wa3 c=true:=λc hc=>by
  have:Ga0 c=some (b (!(chk c==0)),[]):=by
   unfold Ga0;simp only[i8,p7,Nc8 c (hl c hc),xd2 c (hl c hc)];rfl
  unfold Wa2 Wa3;rw[this];exact⟨rfl,rfl⟩
 have h:=Ua7 (step:=J7 ⟨ls,(ls.length:Int)⟩) (mk:=λj=>(⟨(j:Int)⟩:o8)) (c:=λc=>!(chk c==0)) (u:=1) (fin:=2) (tLs tP) ls hn
  (λj hj=>by
   have hm:=hv _ (ga4 (tLs tP) hj);simp only[J7,G9,Int.toNat_natCast,i8,p7,hm.1,hm.2,r8 hj (by omega)]
   rw[btD (l0 hj),bt (d9 hj),j5,j5])
  (by simp only[J7,G9];rw[bfD (D7 (Qie _))]) 0 (Qif _)
 rw[Qib] at h;have e:(ls.any λc=>!(chk c==0))=!ls.all λc=>chk c==0:=by rw[Qij]
 unfold Wa5 fa0 D2 ma7 I4;simp only[i8,n9];rw[show (⟨0⟩:o8)=⟨((0:Nat):Int)⟩ from rfl,h,e]
 cases ls.all λc=>chk c==0 with
 |true=>rfl
 |false =>
  simp only[Qix,if_true,Qid];show sl true (sl (Nat.beq 1 1) (some (b (!(decide (((ls.findIdx λc=>!(chk c==0):Nat):Int)>=0))),[])) _) _=_
  rw[show decide (((ls.findIdx λc=>!(chk c==0):Nat):Int)>=0)=true from decide_eq_true (by omega)]
  rfl
theorem Ld5(ls:List (List Pln))(hn:ls.length<=1000000000)(hl:∀c∈ls,c.length<=1000000000):pa1 ls=ls.all λc=>chk c==0:=by unfold pa1;rw[od5 ls hn hl];rfl
theorem Ld6(ls:List (List Pln))(hn:ls.length<=1000000000)(hl:∀c∈ls,c.length<=1000000000):pa2 ls=true:=by unfold pa2;rw[od5 ls hn hl];rfl
theorem Xc2(c:List Pln)(hc:c.length<=1000000000):pa1 [c]=(chk c==0):=by
 rw[Ld5 [c] (by simp) (by simpa using hc)]
 simp
theorem Xc3(c:List Pln)(hc:c.length<=1000000000):pa2 [c]=true:=Ld6 [c] (by simp) (by simpa using hc)
noncomputable def pos(X:List Pt)(p:Pln):Bool:=X.any λx=>decide (rm p x>0)
noncomputable def Kc4(r:List Pln):Bool:=r.all (pos (cor r))
theorem Ae4(p:Pln)(X:List Pt)(hX:X.length<=1000000000):pa4 ⟨p.n.x,p.n.y,p.n.z,p.b,X⟩=⟨1,!pos X p⟩:=by
 have hw:∀x:Pt,wa6 ⟨x.px,x.py,x.pz,x.pw,p.n.x,p.n.y,p.n.z,p.b⟩=⟨decide (rm p x>0)⟩:=λx=>by
  show V8.mk (decide (va7 p x>0))=_;rw[xd0]
 have h:=Ua7 (step:=L8 ⟨X,(X.length:Int),p.n.x,p.n.y,p.n.z,p.b⟩) (mk:=λj=>(⟨(j:Int)⟩:q8)) (c:=λx=>decide (rm p x>0)) (u:=1) (fin:=2) tX X hX
  (λj hj=>by
   simp only[L8,J8,Int.toNat_natCast,hw,r8 hj (by omega)]
   rw[btD (l0 hj),bt (d9 hj)])
  (by simp only[L8,J8];rw[bfD (D7 (Qie _))]) 0 (Qif _)
 rw[Qib] at h;unfold pa4 T3 ha1 E6 ra1 K6 pos;simp only[i8,n9];rw[show (⟨0⟩:q8)=⟨((0:Nat):Int)⟩ from rfl,h]
 cases X.any λx=>decide (rm p x>0) with
 |false=>rfl
 |true =>
  simp only[if_true,Qid];show da2.mk 1 (!(decide (((X.findIdx λx=>decide (rm p x>0):Nat):Int)>=0)))=_
  rw[show decide (((X.findIdx λx=>decide (rm p x>0):Nat):Int)>=0)=true from decide_eq_true (by omega)]
theorem ee1(r:List Pln)(hb:Bds r)(hr:r.length<=200):ka3 r=some (b (Kc4 r),[]):=by
 have hX:(cor r).length<=1000000000:=Qiu (xd3 r hb hr) (by omega)
 have h:=Ua7 (step:=J9 ⟨r,(r.length:Int)⟩) (mk:=λj=>(⟨(j:Int),cor r⟩:o9)) (c:=λp=>!pos (cor r) p) (u:=1) (fin:=2) tP r (by omega)
  (λj hj=>by
   simp only[J9,H4,Int.toNat_natCast,i8,n9,Ae4 _ _ hX,r8 hj (by omega)]
   rw[btD (l0 hj),bt (d9 hj)]
   rfl)
  (by simp only[J9,H4];rw[bfD (D7 (Qie _))]) 0 (Qif _)
 rw[Qib] at h;have e:(r.any λp=>!pos (cor r) p)=!r.all (pos (cor r)):=by rw[Qij]
 unfold ka3 fa2 D3 ma9 I5 Kc4;simp only[i8,n9,p7,od2 r hb hr,od3 r hb hr];rw[show (⟨0,cor r⟩:o9)=⟨((0:Nat):Int),cor r⟩ from rfl,h,e]
 cases r.all (pos (cor r)) with
 |true=>rfl
 |false =>
  simp only[Qix,if_true,Qid];show some (b (!(decide (((r.findIdx λp=>!pos (cor r) p:Nat):Int)>=0))),[])=_
  rw[show decide (((r.findIdx λp=>!pos (cor r) p:Nat):Int)>=0)=true from decide_eq_true (by omega)]
  rfl
theorem Ae5(r:List Pln)(hb:Bds r)(hr:r.length<=200):ka4 r=Kc4 r:=by unfold ka4;rw[ee1 r hb hr];rfl
theorem Ae6(r:List Pln)(hb:Bds r)(hr:r.length<=200):ka5 r=true:=by unfold ka5;rw[ee1 r hb hr];rfl
theorem Xd8(r:List Pln)(X:List Pt)(hr:r.length<=200)(hX:X.length<=1000000000)(a:Nat)(ha:a<r.length):∃m,lp (Ba3 ⟨r,X,(a:Int)⟩) ⟨false,0⟩=(1,⟨pos X r[a],m⟩):=by
 have h:=dc3 (step:=Ba3 ⟨r,X,(a:Int)⟩) (mk:=λj (c:Bool)=>(⟨c,(j:Int)⟩:oa5)) (f:=λc x=>c||decide (rm r[a] x>0)) (fin:=1) tX X (λ_ _=>True) hX
  (λj c hj _=>⟨by
   simp only[Ba3,Fa0,Int.toNat_natCast,Nc6,r8 hj (by omega),fb6 tP ha,d9 ha,d9 hj]
   rw[btD (l0 hj)];cases c<;>rfl,trivial⟩)
  (λc _=>by simp only[Ba3,Fa0];rw[bfD (D7 (Qie _))]) 0 (Qif _) false trivial
 have h:=h.1;rw[Qib] at h;have e:∀(l:List Pt) (c:Bool),l.foldl (λc x=>c||decide (rm r[a] x>0)) c=(c||l.any λx=>decide (rm r[a] x>0)):=by
  intro l
  induction l with
  |nil=>intro c;simp
  |cons x l ih=>intro c;rw[List.foldl_cons,ih,List.any_cons,Bool.or_assoc]
 rw[e,Bool.false_or] at h;exact⟨_,h⟩
theorem ee2(r:List Pln)(hb:Bds r)(hr:r.length<=200):tb8 r=some (b (Kc4 r),[]):=by
 have hX:(cor r).length<=1000000000:=Qiu (xd3 r hb hr) (by omega)
 have h:=lc8 (step:=Na6 ⟨⟩) (mk:=λj=>(⟨r,cor r,(j:Int)⟩:ga5)) (c:=λp=>!pos (cor r) p) (u:=1) (fin:=2) tP r (by omega)
  (λj hj=>by
   obtain⟨m,hm⟩:=Xd8 r (cor r) hr hX j hj;simp only[Na6,Fa1,i8,n9,hm,r8 hj (by omega),fb6 tP hj]
   rw[btD (l0 hj)]
   rfl)
  (by simp only[Na6,Fa1];rw[bfD (D7 (Qie _))]) 0 (Qif _)
 rw[Qib] at h;have e:(r.any λp=>!pos (cor r) p)=!r.all (pos (cor r)):=by rw[Qij]
 unfold tb8 Kc4;simp only[i8,n9,p7,Wc8 r hb hr,Wc9 r hb hr];rw[show (⟨r,cor r,0⟩:ga5)=⟨r,cor r,((0:Nat):Int)⟩ from rfl,h,e]
 cases r.all (pos (cor r))<;>rfl
theorem ef6(r:List Pln)(hb:Bds r)(hr:r.length<=200):Lb8 r=Kc4 r:=by unfold Lb8;rw[ee2 r hb hr];rfl
theorem ef7(r:List Pln)(hb:Bds r)(hr:r.length<=200):Lb9 r=true:=by unfold Lb9;rw[ee2 r hb hr];rfl
theorem Qa3{c:List Pln}(h:(chk c==0)=true):Bds (c++ws)/\(c++ws).length<=200:=by
 rw[beq_iff_eq,za7] at h;refine⟨λp hp=>?_,by rw[Qia,show ws.length=6 from rfl];omega⟩
 rcases Qiv.1 hp with hp|hp
 ·exact Cc1 (h.2 p hp)
 ·exact Xe9 p hp
noncomputable def pts(c:List Pln):List Pt:=if chk c==0 then cor (c++ws) else []
noncomputable def ful(c:List Pln):Bool:=(chk c==0)&&Kc4 (c++ws)
theorem Ld7{c:List Pln}(hc:c.length<=1000000000):∃x,Oa3 c=some x/\(one (r1L tX)).rd x=some (pts c):=by
 unfold Oa3 pts;simp only[i8,p7,Xc2 c hc,Xc3 c hc,Ye3 c hc,Ye4 c hc];cases h:chk c==0 with
 |false=>exact⟨_,rfl,rfl⟩
 |true =>
  obtain⟨h1,h2⟩:=Qa3 h;rw[od2 _ h1 h2,od3 _ h1 h2];exact⟨_,rfl,od4 tX _⟩
theorem Yb7{c:List Pln}(hc:c.length<=1000000000):ja0 c=pts c:=by
 obtain⟨x,h1,h2⟩:=Ld7 hc;unfold ja0;rw[h1];exact na8 _ h2
theorem Yb8{c:List Pln}(hc:c.length<=1000000000):ja1 c=true:=by
 obtain⟨x,h1,h2⟩:=Ld7 hc;unfold ja1;rw[h1];exact za9 _ h2
theorem od6{c:List Pln}(hc:c.length<=1000000000):∃x,Va1 c=some x/\(one (r1L tX)).rd x=some (pts c):=by
 unfold Va1 pts;simp only[i8,p7,Kd7 c hc,Kd8 c hc,Ye0 c hc,Ye1 c hc];have e:(chk c != 0)=!(chk c==0):=rfl;rw[e];cases h:chk c==0 with
 |false=>exact⟨_,rfl,rfl⟩
 |true =>
  obtain⟨h1,h2⟩:=Qa3 h;rw[Wc8 _ h1 h2,Wc9 _ h1 h2];exact⟨_,rfl,od4 tX _⟩
theorem oe0{c:List Pln}(hc:c.length<=1000000000):nb9 c=pts c:=by
 obtain⟨x,h1,h2⟩:=od6 hc;unfold nb9;rw[h1];exact na8 _ h2
theorem oe1{c:List Pln}(hc:c.length<=1000000000):ob0 c=true:=by
 obtain⟨x,h1,h2⟩:=od6 hc;unfold ob0;rw[h1];exact za9 _ h2
theorem ee3{c:List Pln}(hc:c.length<=1000000000):ib3 c=some (b (ful c),[]):=by
 unfold ib3 ful;simp only[i8,p7,Xc2 c hc,Xc3 c hc,Ye3 c hc,Ye4 c hc];cases h:chk c==0 with
 |false=>rfl
 |true =>
  obtain⟨h1,h2⟩:=Qa3 h;rw[Ae5 _ h1 h2,Ae6 _ h1 h2];rfl
theorem nc2{c:List Pln}(hc:c.length<=1000000000):ja2 c=ful c:=by unfold ja2;rw[ee3 hc];rfl
theorem nc3{c:List Pln}(hc:c.length<=1000000000):ja3 c=true:=by unfold ja3;rw[ee3 hc];rfl
theorem Ld8{c:List Pln}(hc:c.length<=1000000000):tb9 c=some (b (ful c),[]):=by
 unfold tb9 ful;simp only[i8,p7,Kd7 c hc,Kd8 c hc,Ye0 c hc,Ye1 c hc];cases h:chk c==0 with
 |false=>rfl
 |true =>
  obtain⟨h1,h2⟩:=Qa3 h;rw[ef6 _ h1 h2,ef7 _ h1 h2];rfl
theorem Pe3{c:List Pln}(hc:c.length<=1000000000):Mb0 c=ful c:=by unfold Mb0;rw[Ld8 hc];rfl
theorem Pe4{c:List Pln}(hc:c.length<=1000000000):Mb1 c=true:=by unfold Mb1;rw[Ld8 hc];rfl
set_option maxRecDepth 100000
structure re3 where
 is1:Int
 fc0:List Int
 i5:Int
structure re4 where
 alt:Nat
 (is0 i5:Int)
structure if8 where
 is1:Int
 fc0:List Int
 i5:Int
structure if9 where
 alt:Nat
 (jb3 jb4 jb5:Int)
 fc0:List Int
 i5:Int
noncomputable def qb9(x:V3)(y:V3):V3:=(⟨W (x.x-y.x),W (x.y-y.y),W (x.z-y.z)⟩:V3)
noncomputable def uc8(x:V3):Option (a7×List a8):=(sl (decide (x.x<(-24))) (some (b false,[])) (sl (decide (x.x>24)) (some (b false,[])) (sl (decide (x.y<(-24))) (some (b false,[])) (sl (decide (x.y>24)) (some (b false,[])) (sl (decide (x.z<(-24))) (some (b false,[])) (sl (decide (x.z>24)) (some (b false,[])) (some (b true,[]))))))))
noncomputable def Hb7(x:V3):Bool:=Q5 (one r1B) (uc8 x)
noncomputable def Hb8(x:V3):Bool:=okO (one r1B) (uc8 x)
noncomputable def eb3(x:V3)(y:V3)(z:V3):Option (a7×List a8):=let t1:=(Hb7 x);let t2:=(Hb7 y);let t3:=(Hb7 z);let t4:=(qb9 y x);let t5:=(qb9 z x);let t6:=(X8 t4 t5);let t7:=(Ra6 t6);let t8:=(Sa2 t7.1 x);(sl (Hb8 x) (sl (!t1) (some (.tup [.agg [i 0,i 0,i 0,i 0],b false],[])) (sl (Hb8 y) (sl (!t2) (some (.tup [.agg [i 0,i 0,i 0,i 0],b false],[])) (sl (Hb8 z) (sl (!t3) (some (.tup [.agg [i 0,i 0,i 0,i 0],b false],[])) (sl (tb7 t6) (sl (t7.2==0) (some (.tup [.agg [i 0,i 0,i 0,i 0],b false],[])) (some (.tup [.agg [i t7.1.x,i t7.1.y,i t7.1.z,i t8],b true],[]))) none)) none)) none)) none)
noncomputable def gd3(x:V3)(y:V3)(z:V3):Pln×Bool:=Q5 (two r1P r1B) (eb3 x y z)
noncomputable def Eb5(x:V3)(y:V3)(z:V3):Bool:=okO (two r1P r1B) (eb3 x y z)
noncomputable def Nb2(x:Pln)(y:V3):Option (a7×List a8):=let t1:=(gb0 x);let t2:=(Hb7 y);let t3:=(Sa2 x.n y);(sl (gb1 x) (sl (!t1) (some (i 0,[])) (sl (Hb8 y) (sl (!t2) (some (i 0,[])) (sl (decide ((W (t3-x.b))<0)) (some (i (-1),[])) (sl (decide ((W (t3-x.b))>0)) (some (i 1,[])) (some (i 0,[]))))) none)) none)
noncomputable def Xd9(x:Pln)(y:V3):Int:=Q5 (one r1I) (Nb2 x y)
noncomputable def Xc4(x:Pln)(y:V3):Bool:=okO (one r1I) (Nb2 x y)
noncomputable def Yb9:List (Nat×Sum):=[]
theorem Kc5:g9 prog G Yb9:=trivial
structure Aa0 where
 (j9 i5 k8 i9 aa2 aa3 aa4 aa5:Int)
structure R8 where
 is7:Int
noncomputable def Hb9(p:Aa0)(s:R8):St:=⟨ra 5 (.ptr 0 0 0 0::.ptr 1 0 0 0::i s.is7::ra 42 []),[⟨0,4,[[i p.j9,i p.i5,i p.k8,i p.i9]],true,false,0⟩,⟨0,4,[[i p.aa2,i p.aa3,i p.aa4,i p.aa5]],true,false,0⟩]⟩
noncomputable def W4{α:Type}(k:R8->α)(e:Nat->α)(z:α)(p:Aa0)(s:R8):α:=(sl (decide (s.is7<4)) (sl (inB s.is7 4) (sl ((Nat.ble ((0+(s.is7.toNat*1))+1) 4)&&(Ka2 [CK.int .i64] (e8 [i p.j9,i p.i5,i p.k8,i p.i9] (0+(s.is7.toNat*1))))) (sl (inB s.is7 4) (sl ((Nat.ble ((0+(s.is7.toNat*1))+1) 4)&&(Ka2 [CK.int .i64] (e8 [i p.aa2,i p.aa3,i p.aa4,i p.aa5] (0+(s.is7.toNat*1))))) (sl (decide ((toI (hdA (e8 [i p.j9,i p.i5,i p.k8,i p.i9] (0+(s.is7.toNat*1)))))<(toI (hdA (e8 [i p.aa2,i p.aa3,i p.aa4,i p.aa5] (0+(s.is7.toNat*1))))))) (e 1) (sl (inB s.is7 4) (sl ((Nat.ble ((0+(s.is7.toNat*1))+1) 4)&&(Ka2 [CK.int .i64] (e8 [i p.j9,i p.i5,i p.k8,i p.i9] (0+(s.is7.toNat*1))))) (sl (inB s.is7 4) (sl ((Nat.ble ((0+(s.is7.toNat*1))+1) 4)&&(Ka2 [CK.int .i64] (e8 [i p.aa2,i p.aa3,i p.aa4,i p.aa5] (0+(s.is7.toNat*1))))) (sl (decide ((toI (hdA (e8 [i p.j9,i p.i5,i p.k8,i p.i9] (0+(s.is7.toNat*1)))))>(toI (hdA (e8 [i p.aa2,i p.aa3,i p.aa4,i p.aa5] (0+(s.is7.toNat*1))))))) (e 2) (k ⟨W (s.is7+1)⟩)) z) z) z) z)) z) z) z) z) (e 3))
noncomputable def K7(p:Aa0)(s:R8):Stp R8:=W4 .next .exit .fail p s
noncomputable def lb6:Lo Aa0 R8:=⟨En Yb9,0,We7,[1,1,1,0,1,4,4],[5,6,7],.p,[⟨ru2 5 (sPq 0::sPq 1::sIq::ru2 42 []),[⟨0,4,true,some [kLq 4]⟩,⟨0,4,true,some [kLq 4]⟩],λa H=>(⟨hIq H 0 0 0,hIq H 0 0 1,hIq H 0 0 2,hIq H 0 0 3,hIq H 1 0 0,hIq H 1 0 1,hIq H 1 0 2,hIq H 1 0 3⟩,⟨aIq a 7⟩)⟩],K7,[(none,λp s=>⟨[i (-1)],[]⟩),(none,λp s=>⟨[i 1],[]⟩),(some 0,λp s=>upq (Hb9 p s) [(32,i s.is7),(33,b (decide (s.is7<4)))])],Hb9⟩
theorem Cc4:lb6.Ok:=Lo.ok [] (by kernel_rfl) .nil rfl (.cons (λa H=>by kernel_rfl) .nil) λp s=>(.of @W4 (λF _ _ _ _ _=>by unfold W4;(repeat' apply l5 (f:=F))<;>rfl) (by kernel_rfl))
noncomputable def ra2(x:Pln)(y:Pln):Option (a7×List a8):=let t1:=(lp (K7 (⟨x.n.x,x.n.y,x.n.z,x.b,y.n.x,y.n.y,y.n.z,y.b⟩:Aa0)) (⟨0⟩:R8));(sl (Nat.beq t1.1 1) (some (i (-1),[])) (sl (Nat.beq t1.1 2) (some (i 1,[])) (sl (Nat.beq t1.1 3) (some (i 0,[])) none)))
noncomputable def Oa4(x:Pln)(y:Pln):Int:=Q5 (one r1I) (ra2 x y)
noncomputable def Eb6(x:Pln)(y:Pln):Bool:=okO (one r1I) (ra2 x y)
noncomputable def ic9:Sum:=ta3 (oa3 tP) (oa3 tP) (λx y=>.guard (Eb6 x y) (.ret ((one r1I).enc (Oa4 x y),[])))
theorem Xc5:e7 prog G 182 ic9:=Gb0 (bd zf7 Kc5) (one r1I) (o:=ra2) λx y=>Da7 (.s .p (.s .p (.s .p (.s (.s .p (.b (.u lb6.ls))) .p)))) [lb6.pr] (by kernel_rfl) (.cons Cc4 .nil) (by kernel_rfl)
structure Xa3 where
 X5:List V3
 (is3 is4 is5:Int)
 bs7:Bool
 (j9 i5 k8 i9:Int)
structure Ja3 where
 is8:Int
noncomputable def ub9{α:Type}(k:Ja3->α)(e:Nat->α)(z:α)(p:Xa3)(s:Ja3):α:=let t1:=(Xd9 (⟨(⟨p.j9,p.i5,p.k8⟩:V3),p.i9⟩:Pln) (gL tV p.X5 s.is8.toNat));(sl (decide (s.is8<(↑(List.length p.X5):Int))) (sl p.bs7 (sl (inB s.is8 (List.length p.X5)) (sl (Xc4 (⟨(⟨p.j9,p.i5,p.k8⟩:V3),p.i9⟩:Pln) (gL tV p.X5 s.is8.toNat)) (sl (t1 != 0) (e 1) (k ⟨W (s.is8+1)⟩)) z) z) (e 2)) (e 3))
noncomputable def Oa5(p:Xa3)(s:Ja3):Stp Ja3:=ub9 .next .exit .fail p s
structure Nb3 where
 (is3 is4:Int)
structure Ja4 where
 X5:List V3
 is5:Int
noncomputable def vb0{α:Type}(k:Ja4->α)(e:Nat->α)(z:α)(p:Nb3)(s:Ja4):α:=let t1:=(gd3 (gL tV s.X5 p.is3.toNat) (gL tV s.X5 p.is4.toNat) (gL tV s.X5 s.is5.toNat));let t2:=(lp (Oa5 (⟨rt tV s.X5,p.is3,p.is4,s.is5,t1.2,t1.1.n.x,t1.1.n.y,t1.1.n.z,t1.1.b⟩:Xa3)) (⟨0⟩:Ja3));(sl (decide (s.is5<p.is4)) (sl (inB p.is3 (List.length s.X5)) (sl (inB p.is4 (List.length s.X5)) (sl (inB s.is5 (List.length s.X5)) (sl (Eb5 (gL tV s.X5 p.is3.toNat) (gL tV s.X5 p.is4.toNat) (gL tV s.X5 s.is5.toNat)) (sl ((cnE tV s.X5)&&true) (sl (Nat.beq t2.1 1) (e 1) (sl (Nat.beq t2.1 2) (k ⟨rt tV s.X5,W (s.is5+1)⟩) (sl (Nat.beq t2.1 3) (k ⟨rt tV s.X5,W (s.is5+1)⟩) z))) z) z) z) z) z) (e 2))
noncomputable def Oa6(p:Nb3)(s:Ja4):Stp Ja4:=vb0 .next .exit .fail p s
structure Nb4 where
 is3:Int
structure Ja5 where
 X5:List V3
 is4:Int
noncomputable def vb1{α:Type}(k:Ja5->α)(e:Nat->α)(z:α)(p:Nb4)(s:Ja5):α:=let t1:=(lp (Oa6 (⟨p.is3,s.is4⟩:Nb3)) (⟨rt tV s.X5,0⟩:Ja4));(sl (decide (s.is4<p.is3)) (sl ((cnE tV s.X5)&&true) (sl (Nat.beq t1.1 1) (e 1) (sl (Nat.beq t1.1 2) (k ⟨t1.2.X5,W (s.is4+1)⟩) z)) z) (e 2))
noncomputable def Oa7(p:Nb4)(s:Ja5):Stp Ja5:=vb1 .next .exit .fail p s
structure Nb5 where
structure Ja6 where
 X5:List V3
 is3:Int
noncomputable def vb2{α:Type}(k:Ja6->α)(e:Nat->α)(z:α)(p:Nb5)(s:Ja6):α:=let t1:=(lp (Oa7 (⟨s.is3⟩:Nb4)) (⟨rt tV s.X5,0⟩:Ja5));(sl (decide (s.is3<(↑(List.length s.X5):Int))) (sl ((cnE tV s.X5)&&true) (sl (Nat.beq t1.1 1) (e 1) (sl (Nat.beq t1.1 2) (k ⟨t1.2.X5,W (s.is3+1)⟩) z)) z) (e 2))
noncomputable def Oa8(p:Nb5)(s:Ja6):Stp Ja6:=vb2 .next .exit .fail p s
noncomputable def Xc6(x:List V3):Option (a7×List a8):=let t1:=(lp (Oa8 (⟨⟩:Nb5)) (⟨rt tV x,0⟩:Ja6));(sl ((cnE tV x)&&true) (sl (Nat.beq t1.1 1) (some (b false,[])) (sl (Nat.beq t1.1 2) (some (b true,[])) none)) none)
structure He3 where
 X5:List V3
structure He4 where
 is3:Int
structure He5 where
 Cf8:List V3
 (j9 i5 k8 i9:Int)
structure He6 where
 is5:Int
structure Ye5 where
 b9:List Pln
 (j9 i5 k8 i9:Int)
structure Ye6 where
 is5:Int
structure He7 where
 X5:List V3
 (is6 is7:Int)
structure He8 where
 ph:Nat
 is8:Int
 Ze6:List Pln
structure He9 where
 is6:Int
structure Ie0 where
 ph:Nat
 X5:List V3
 is7:Int
 Ze6:List Pln
structure Ie1 where
structure Ie2 where
 ph:Nat
 X5:List V3
 is6:Int
 Ze6:List Pln
structure Ae7 where
 is4:Int
structure Ae8 where
 ph:Nat
 is6:Int
 fc0:List Int
 i5:Int
 ns5:Nat
 eh1:List (List a7)
noncomputable def Hc2:List (Nat×Sum):=[]
theorem xd7:g9 prog G Hc2:=trivial
structure Xa4 where
 (b9 ga2:List Pln)
structure ha5 where
 is5:Int
noncomputable def jc0(p:Xa4)(s:ha5):St:=⟨eL tP p.b9::eL tP p.ga2::ra 3 (i s.is5::ra 20 []),[]⟩
noncomputable def Ga6{α:Type}(k:ha5->α)(e:Nat->α)(z:α)(p:Xa4)(s:ha5):α:=(sl (decide (s.is5<(↑(List.length p.b9):Int))) (sl (inB s.is5 (List.length p.b9)) (sl (inB s.is5 (List.length p.ga2)) (sl (!(((gL tP p.b9 s.is5.toNat).n.x==(gL tP p.ga2 s.is5.toNat).n.x)&&(((gL tP p.b9 s.is5.toNat).n.y==(gL tP p.ga2 s.is5.toNat).n.y)&&(((gL tP p.b9 s.is5.toNat).n.z==(gL tP p.ga2 s.is5.toNat).n.z)&&(((gL tP p.b9 s.is5.toNat).b==(gL tP p.ga2 s.is5.toNat).b)&&true))))) (e 1) (k ⟨W (s.is5+1)⟩)) z) z) (e 2))
noncomputable def Oa9(p:Xa4)(s:ha5):Stp ha5:=Ga6 .next .exit .fail p s
noncomputable def Nb6:Lo Xa4 ha5:=⟨En Hc2,0,lf0,[1,1,0,1,4,4],[0,1,5],.p,[⟨sLq tP::sLq tP::ru2 3 (sIq::ru2 20 []),[],λa H=>(⟨aLq tP a 0,aLq tP a 1⟩,⟨aIq a 5⟩)⟩],Oa9,[(none,λp s=>⟨[b false],[]⟩),(some 0,λp s=>upq (jc0 p s) [(11,i s.is5),(12,eL tP p.b9),(13,i (↑(List.length p.b9):Int)),(14,b (decide (s.is5<(↑(List.length p.b9):Int))))])],jc0⟩
theorem gd4:Nb6.Ok:=Lo.ok [] (by kernel_rfl) .nil rfl (.cons (λa H=>by kernel_rfl) .nil) λp s=>(.of @Ga6 (λF _ _ _ _ _=>by unfold Ga6;(repeat' apply l5 (f:=F))<;>rfl) (by kernel_rfl))
noncomputable def vb3(x:List Pln)(y:List Pln):Option (a7×List a8):=let t1:=(lp (Oa9 (⟨rt tP x,rt tP y⟩:Xa4)) (⟨0⟩:ha5));(sl ((↑(List.length x):Int) != (↑(List.length y):Int)) (some (b false,[])) (sl ((cnE tP x)&&((cnE tP y)&&true)) (sl (Nat.beq t1.1 1) (some (b false,[])) (sl (Nat.beq t1.1 2) (some (b true,[])) none)) none))
noncomputable def Nb7(x:List Pln)(y:List Pln):Bool:=Q5 (one r1B) (vb3 x y)
noncomputable def Nb8(x:List Pln)(y:List Pln):Bool:=okO (one r1B) (vb3 x y)
noncomputable def Xc7:Sum:=ta3 (ba7 tP) (ba7 tP) (λx y=>.guard (Nb8 x y) (.ret ((one r1B).enc (Nb7 x y),[])))
theorem Ld9:e7 prog G 23 Xc7:=Gb0 (bd b23 xd7) (one r1B) (o:=vb3) λx y=>Da7 (.s .p (.s .p (.s (.s .p (.b (.u Nb6.ls))) .p))) [Nb6.pr] (by kernel_rfl) (.cons gd4 .nil) (by kernel_rfl)
structure Ye7 where
 is6:Int
structure Ye8 where
 ns5:Nat
 eh0:List (List a7)
theorem Md0{Q:Pt->Prop}(r:List Pln)(p q:Pln):∀(l:List Pln) (out:List Pt),(∀s∈l,(mpt p q s).2=true->inn r (mpt p q s).1=true->Q (mpt p q s).1)->(∀x∈out,Q x)->∀x∈ib4 r p q l out,Q x
 |[],out,_,h=>h
 |s::l,out,hs,h=>Md0 r p q l (za8 r p q out s) (λt ht=>hs t (Qig _ ht)) λx hx=>by
  unfold za8 at hx
  split at hx
  ·rename_i hc;rw[Qic,Qic] at hc
   rcases Qiv.1 hx with hx|hx
   ·exact h x hx
   ·rw[List.mem_singleton] at hx;subst hx;exact hs s Qiy hc.1 hc.2.2
  ·exact h x hx
theorem Md1{Q:Pt->Prop}(r:List Pln)(p:Pln):∀(l:List Pln) (out:List Pt),(∀q∈l,∀s∈l,(mpt p q s).2=true->inn r (mpt p q s).1=true->Q (mpt p q s).1)->(∀x∈out,Q x)->∀x∈Ta2 r p l out,Q x
 |[],out,_,h=>h
 |q::l,out,hs,h=>Md1 r p l _ (λa ha t ht=>hs a (Qig _ ha) t (Qig _ ht)) (Md0 r p q l out (λt ht=>hs q Qiy t (Qig _ ht)) h)
theorem Md2{Q:Pt->Prop}(r:List Pln):∀(l:List Pln) (out:List Pt),(∀p∈l,∀q∈l,∀s∈l,(mpt p q s).2=true->inn r (mpt p q s).1=true->Q (mpt p q s).1)->(∀x∈out,Q x)->∀x∈mc8 r l out,Q x
 |[],out,_,h=>h
 |p::l,out,hs,h=>Md2 r l _ (λa ha c hc t ht=>hs a (Qig _ ha) c (Qig _ hc) t (Qig _ ht)) (Md1 r p l out (λc hc t ht=>hs p Qiy c (Qig _ hc) t (Qig _ ht)) h)
theorem xd8{Q:Pt->Prop}{r:List Pln}(hs:∀p∈r,∀q∈r,∀s∈r,(mpt p q s).2=true->inn r (mpt p q s).1=true->Q (mpt p q s).1):∀x∈cor r,Q x :=
 Md2 r r [] hs λx hx=>by cases hx
structure Okx(x:Pt):Prop where
 w1:0<x.pw
 w2:x.pw<=600000000000
 c1:Sm 300000000000000 x.px
 c2:Sm 300000000000000 x.py
 c3:Sm 300000000000000 x.pz
theorem Nb9{r:List Pln}(hb:Bds r):∀x∈cor r,Okx x:=xd8 λp hp q hq s hs h _=>by
 obtain⟨h1,h2,h3,h4,h5⟩:=Xd6 (hb p hp) (hb q hq) (hb s hs) h;exact⟨h1,h5,h2,h3,h4⟩
theorem ee4{c:List Pln}:∀x∈pts c,Okx x:=by
 unfold pts;cases h:chk c==0 with
 |false=>intro x hx;cases hx
 |true=>exact Nb9 (Qa3 h).1
theorem uc9(c:List Pln):(pts c).length<=8000000:=by
 unfold pts;cases h:chk c==0 with
 |false=>exact Qif _
 |true=>exact xd3 _ (Qa3 h).1 (Qa3 h).2
theorem Ae9{x y:Int}(hy:0<y):Int.tmod x y+y*Int.tdiv x y=x/\-y<Int.tmod x y/\Int.tmod x y<y:=by
 refine⟨Int.tmod_add_mul_tdiv x y,?_,Int.tmod_lt_of_pos x hy⟩
 have:=Int.lt_tmod_of_pos x hy
 omega
theorem ee5{x y q r:Int}(hy:0<y)(h:r+y*q=x)(h1:0<=r)(h2:r<y):x / y=q:=((Int.ediv_emod_unique hy).2 ⟨h,h1,h2⟩).1
theorem Pe5{x y:Int}(hx:Sm 300000000000000 x)(hy:0<y):Sm 300000000000000 (Int.tdiv x y):=M9 hx hy
theorem Md3{x y:Int}(hx:Sm 300000000000000 x)(hy:0<y):Wa8 x y=some (i (x / y),[]):=by
 have hz:(y==0)=false:=by rw[beq_eq_false_iff_ne];omega
 obtain⟨h1,h2,h3⟩:=Ae9 (x:=x) hy;have hb:=Pe5 hx hy;unfold Wa8;rw[bf hz,bf hz,Ga5 (hb.mono (by omega))]
 by_cases h:Int.tmod x y<0
 ·rw[btD h,ee5 hy (q:=Int.tdiv x y-1) (r:=Int.tmod x y+y) (by rw[Int.mul_sub];omega) (by omega) (by omega),qa9 (by have:=hb.1;omega) (by have:=hb.2;omega)]
 ·rw[bfD h,ee5 hy h1 (by omega) h3]
theorem ec3{x y:Int}(hx:Sm 300000000000000 x)(hy:0<y):ha3 x y=x / y:=by unfold ha3;rw[Md3 hx hy];rfl
theorem ec4{x y:Int}(hx:Sm 300000000000000 x)(hy:0<y):ha4 x y=true:=by unfold ha4;rw[Md3 hx hy];rfl
noncomputable def vb4(s:V3×V3)(x:Pt):V3×V3 :=
 (⟨if x.px / x.pw<s.1.x then x.px / x.pw else s.1.x,if x.py / x.pw<s.1.y then x.py / x.pw else s.1.y,if x.pz / x.pw<s.1.z then x.pz / x.pw else s.1.z⟩,
  ⟨if W (0 - -x.px / x.pw)>s.2.x then W (0 - -x.px / x.pw) else s.2.x,if W (0 - -x.py / x.pw)>s.2.y then W (0 - -x.py / x.pw) else s.2.y,if W (0 - -x.pz / x.pw)>s.2.z then W (0 - -x.pz / x.pw) else s.2.z⟩)
noncomputable def bnd(c:List Pln):V3×V3×Bool :=
 if ful c then (((pts c).foldl vb4 (⟨24,24,24⟩,⟨-24,-24,-24⟩)).1,((pts c).foldl vb4 (⟨24,24,24⟩,⟨-24,-24,-24⟩)).2,true) else (⟨0,0,0⟩,⟨0,0,0⟩,false)
theorem Be0{x:Int}(h:Sm 300000000000000 x):W (0-x)=-x:=by obtain⟨h1,h2⟩:=h;rw[qa9 (by omega) (by omega)];omega
theorem Sm.neg{n x:Int}(h:Sm n x):Sm n (-x):=⟨by have:=h.2;omega,by have:=h.1;omega⟩
noncomputable def qf7(r:V3×V3×Bool):a7:=.tup [.agg (tV.row r.1),.agg (tV.row r.2.1),b r.2.2]
theorem Yd0(X:List Pt)(hX:X.length<=8000000)(hok:∀x∈X,Okx x)(s:V3×V3):∃m,lp (na7 ⟨X,(X.length:Int)⟩) ⟨0,s.1.x,s.1.y,s.1.z,s.2.x,s.2.y,s.2.z⟩=(1,⟨m,(X.foldl vb4 s).1.x,(X.foldl vb4 s).1.y,(X.foldl vb4 s).1.z,(X.foldl vb4 s).2.x,(X.foldl vb4 s).2.y,(X.foldl vb4 s).2.z⟩):=by
 have h:=dc3 (step:=na7 ⟨X,(X.length:Int)⟩) (mk:=λj (s:V3×V3)=>(⟨(j:Int),s.1.x,s.1.y,s.1.z,s.2.x,s.2.y,s.2.z⟩:da4)) (f:=vb4) (fin:=1) tX X (λ_ _=>True) (by omega)
  (λj s hj _=>⟨by
   have hx:=hok _ (ga4 tX hj);simp only[na7,ua5,Int.toNat_natCast,Be0 hx.c1,Be0 hx.c2,Be0 hx.c3,ec3 hx.c1 hx.w1,ec3 hx.c2 hx.w1,ec3 hx.c3 hx.w1,ec4 hx.c1 hx.w1,ec4 hx.c2 hx.w1,ec4 hx.c3 hx.w1,
    ec3 hx.c1.neg hx.w1,ec3 hx.c2.neg hx.w1,ec3 hx.c3.neg hx.w1,ec4 hx.c1.neg hx.w1,ec4 hx.c2.neg hx.w1,ec4 hx.c3.neg hx.w1,r8 hj (by omega)]
   rw[btD (l0 hj),bt (d9 hj)]
   rfl,trivial⟩)
  (λs _=>by simp only[na7,ua5];rw[bfD (D7 (Qie _))]) 0 (Qif _) s trivial
 have h:=h.1;rw[Qib] at h;exact⟨_,h⟩
theorem Md4{c:List Pln}(hc:c.length<=1000000000):Wa9 c=some (qf7 (bnd c),[]):=by
 have ht:V7 ⟨24,24,24⟩ (-1)=⟨-24,-24,-24⟩:=by
  unfold V7;rw[show W (24*-1)=-24 from by rw[le7];rfl]
 obtain⟨m,hm⟩:=Yd0 (pts c) (uc9 c) ee4 (⟨24,24,24⟩,⟨-24,-24,-24⟩);unfold Wa9 bnd;simp only[i8,p7,n9,nc2 hc,nc3 hc,Yb7 hc,Yb8 hc,ht,hm];cases ful c<;>rfl
theorem ee6(r:V3×V3×Bool):(Fd7 r1V r1V r1B).rd (qf7 r,[])=some r:=rfl
theorem ee7{c:List Pln}(hc:c.length<=1000000000):Xa0 c=bnd c:=by unfold Xa0;rw[Md4 hc];exact na8 _ (ee6 _)
theorem ee8{c:List Pln}(hc:c.length<=1000000000):Xa1 c=true:=by unfold Xa1;rw[Md4 hc];exact za9 _ (ee6 _)
theorem Be1(x:Pln):(x.n.x==x.n.x&&(x.n.y==x.n.y&&(x.n.z==x.n.z&&(x.b==x.b&&true))))=true:=by simp
theorem ee9(l:List Pln)(hl:l.length<=1000000000):vb3 l l=some (b true,[]):=by
 have h:=lc8 (step:=Oa9 ⟨l,l⟩) (mk:=λj=>(⟨(j:Int)⟩:ha5)) (c:=λ_=>false) (u:=1) (fin:=2) tP l hl
  (λj hj=>by
   simp only[Oa9,Ga6,Int.toNat_natCast,r8 hj (by omega),Be1]
   rw[btD (l0 hj),bt (d9 hj),bt (d9 hj)]
   rfl)
  (by simp only[Oa9,Ga6];rw[bfD (D7 (Qie _))]) 0 (Qif _)
 rw[Qib,show (l.any λ_=>false)=false by simp] at h
 unfold vb3;simp only[i8,n9];rw[show (⟨0⟩:ha5)=⟨((0:Nat):Int)⟩ from rfl,h,bf (by simp)]
 rfl
theorem ef8(l:List Pln)(hl:l.length<=1000000000):Nb7 l l=true:=by unfold Nb7;rw[ee9 l hl];rfl
theorem ef9(l:List Pln)(hl:l.length<=1000000000):Nb8 l l=true:=by unfold Nb8;rw[ee9 l hl];rfl
def Nx{σ:Type}(x:Stp σ)(E:Nat->Prop)(N:σ->Prop):Prop:=(∃t,x=.exit t/\E t)\/∃s,x=.next s/\N s
theorem Nx.sl{σ:Type}{c:Bool}{t e:Stp σ}{E:Nat->Prop}{N:σ->Prop}(h1:c=true->Nx t E N)(h2:c=false->Nx e E N):Nx (sl c t e) E N:=by cases c;exact h2 rfl;exact h1 rfl
theorem Nx.ex{σ:Type}{t:Nat}{E:Nat->Prop}{N:σ->Prop}(h:E t):Nx (.exit t) E N:=.inl ⟨t,rfl,h⟩
theorem Nx.nx{σ:Type}{s:σ}{E:Nat->Prop}{N:σ->Prop}(h:N s):Nx (.next s) E N:=.inr ⟨s,rfl,h⟩
theorem pa5 {σ τ : Type} {step : σ → Stp σ} {mk : Nat → τ → σ} (n : Nat) (I : Nat → τ → Prop) (E : Nat → σ → Prop) (hn : n ≤ 1000000000)
  (h:∀j a,j<n->I j a->Nx (step (mk j a)) (λt=>E t (mk j a)) (λs=>∃a',s=mk (j+1) a'/\I (j+1) a'))
  (hf:∀j a,n<=j->I j a->∃t,step (mk j a)=.exit t/\E t (mk j a)) (j0:Nat) (a:τ) (hi:I j0 a):∃t s,lp step (mk j0 a)=(t,s)/\E t s:=by
 have key:=lc7 (step:=step) (I:=λm s=>∃j a,m=n-j/\s=mk j a/\I j a) (Q:=E) (λm s ⟨j,a,hm,hs,ha⟩=>by
  subst hs;by_cases hlt:j<n
  ·rcases h j a hlt ha with h1|⟨s',h1,a',h2,h3⟩
   ·exact .inl h1
   ·subst h2;exact .inr ⟨_,n-(j+1),by omega,h1,j+1,a',rfl,rfl,h3⟩
  ·exact .inl (hf j a (by omega) ha)) (n-j0) (mk j0 a) (by omega) ⟨j0,a,rfl,rfl,hi⟩
 exact⟨_,_,rfl,key⟩
def Rd{ρ:Type}(R:RR ρ)(o:Option (a7×List a8))(P:ρ->Prop):Prop:=∃x r,o=some x/\R.rd x=some r/\P r
theorem Rd.p{ρ:Type}{R:RR ρ}{o:Option (a7×List a8)}{P:ρ->Prop}(h:Rd R o P):P (Q5 R o):=by
 obtain⟨x,r,h1,h2,h3⟩:=h;rw[h1,na8 R h2];exact h3
theorem Rd.g{ρ:Type}{R:RR ρ}{o:Option (a7×List a8)}{P:ρ->Prop}(h:Rd R o P):okO R o=true:=by
 obtain⟨x,r,h1,h2,h3⟩:=h;rw[h1];exact za9 R h2
theorem Rd.sl{ρ:Type}{R:RR ρ}{c:Bool}{t e:Option (a7×List a8)}{P:ρ->Prop}(h1:c=true->Rd R t P)(h2:c=false->Rd R e P):Rd R (sl c t e) P:=by cases c;exact h2 rfl;exact h1 rfl
def inV(v:V3):Bool:=smb 24 v.x&&(smb 24 v.y&&smb 24 v.z)
theorem fe0(v:V3):inV v=true↔Sm 24 v.x/\Sm 24 v.y/\Sm 24 v.z:=by unfold inV;rw[Qic,Qic,Bb1,Bb1,Bb1]
theorem Be2(v:V3):uc8 v=some (b (inV v),[]):=by
 unfold uc8 inV smb;cases h1:decide (v.x < -24)<;>cases h2:decide (v.x>24)<;>cases h3:decide (v.y < -24)<;>cases h4:decide (v.y>24)<;>cases h5:decide (v.z < -24)<;>cases h6:decide (v.z>24)<;>rfl
theorem qf8(v:V3):Hb7 v=inV v:=by unfold Hb7;rw[Be2];rfl
theorem Ye9(v:V3):Hb8 v=true:=by unfold Hb8;rw[Be2];rfl
def sub(a b:V3):V3:=⟨a.x-b.x,a.y-b.y,a.z-b.z⟩
theorem fe1{a b:V3}(ha:inV a=true)(hb:inV b=true):qb9 a b=sub a b/\Sm 48 (sub a b).x/\Sm 48 (sub a b).y/\Sm 48 (sub a b).z:=by
 rw[fe0] at ha hb;obtain⟨⟨a1,a2⟩,⟨a3,a4⟩,a5,a6⟩:=ha;obtain⟨⟨b1,b2⟩,⟨b3,b4⟩,b5,b6⟩:=hb;unfold qb9 sub;rw[qa9 (by omega) (by omega),qa9 (by omega) (by omega),qa9 (by omega) (by omega)]
 exact⟨rfl,⟨by show _<=a.x-b.x;omega,by show a.x-b.x<=_;omega⟩,⟨by show _<=a.y-b.y;omega,by show a.y-b.y<=_;omega⟩,⟨by show _<=a.z-b.z;omega,by show a.z-b.z<=_;omega⟩⟩
theorem gd5 {a b c : V3} (ha : inV a = true) (hb : inV b = true) (hc : inV c = true) :
  X8 (qb9 b a) (qb9 c a)=k9 (sub b a) (sub c a)/\Sm 4608 (k9 (sub b a) (sub c a)).x/\Sm 4608 (k9 (sub b a) (sub c a)).y/\Sm 4608 (k9 (sub b a) (sub c a)).z:=by
 obtain⟨e1,⟨u1,u2⟩,⟨u3,u4⟩,u5,u6⟩:=fe1 hb ha;obtain⟨e2,⟨v1,v2⟩,⟨v3,v4⟩,v5,v6⟩:=fe1 hc ha;rw[e1,e2,uc4];generalize sub b a=p at *
 generalize sub c a=q at *
 have h1:=mb u3 u4 v5 v6;have h2:=mb u5 u6 v3 v4;have h3:=mb u5 u6 v1 v2;have h4:=mb u1 u2 v5 v6;have h5:=mb u1 u2 v3 v4;have h6:=mb u3 u4 v1 v2;have k:Sm 4608 (k9 p q).x/\Sm 4608 (k9 p q).y/\Sm 4608 (k9 p q).z:=by unfold Sm k9;simp only;omega
 obtain⟨k1,k2,k3⟩:=k;rw[Ga5 (k1.mono (by omega)),Ga5 (k2.mono (by omega)),Ga5 (k3.mono (by omega))]
 exact⟨rfl,k1,k2,k3⟩
def gd6(a b c:V3):Pln×Bool :=
 if inV a&&(inV b&&inV c) then
  if g3 (k9 (sub b a) (sub c a))=0 then (⟨⟨0,0,0⟩,0⟩,false)
  else (⟨⟨Int.tdiv (k9 (sub b a) (sub c a)).x (g3 (k9 (sub b a) (sub c a))),Int.tdiv (k9 (sub b a) (sub c a)).y (g3 (k9 (sub b a) (sub c a))),Int.tdiv (k9 (sub b a) (sub c a)).z (g3 (k9 (sub b a) (sub c a)))⟩,
   dot ⟨Int.tdiv (k9 (sub b a) (sub c a)).x (g3 (k9 (sub b a) (sub c a))),Int.tdiv (k9 (sub b a) (sub c a)).y (g3 (k9 (sub b a) (sub c a))),Int.tdiv (k9 (sub b a) (sub c a)).z (g3 (k9 (sub b a) (sub c a)))⟩ a⟩,true)
 else (⟨⟨0,0,0⟩,0⟩,false)
theorem oe2(v:V3):0<=g3 v:=by unfold g3;omega
theorem Yd1(a c d:V3):eb3 a c d=some (.tup [.agg (tP.row (gd6 a c d).1),b (gd6 a c d).2],[]):=by
 unfold eb3 gd6;simp only[qf8,Ye9];cases ha:inV a with
 |false=>rfl
 |true =>
  cases hc:inV c with
  |false=>rfl
  |true =>
   cases hd:inV d with
   |false=>rfl
   |true =>
    obtain⟨e,k1,k2,k3⟩:=gd5 ha hc hd;rw[e];generalize k9 (sub c a) (sub d a)=n at *
    have m1:=k1.mono (m:=1000000000000000000) (by omega)
    have m2:=k2.mono (m:=1000000000000000000) (by omega)
    have m3:=k3.mono (m:=1000000000000000000) (by omega)
    rw[ze6 m1 m2 m3,Wc6 m1 m2 m3];by_cases h0:g3 n=0
    ·rw[show (g3 n==0)=true from by rw[h0];rfl]
     simp only[Bool.and_self,if_true,h0];rfl
    ·have hp:=oe2 n;have q1:=M9 (g:=g3 n) k1 (by omega)
     have q2:=M9 (g:=g3 n) k2 (by omega)
     have q3:=M9 (g:=g3 n) k3 (by omega)
     rw[show (g3 n==0)=false from by rw[beq_eq_false_iff_ne];exact h0,df7 m1 m2 m3 h0]
     simp only[Bool.and_self,if_true,h0,if_false];rw[Ga5 (q1.mono (by omega)),Ga5 (q2.mono (by omega)),Ga5 (q3.mono (by omega))]
     have hdot:Sa2 ⟨Int.tdiv n.x (g3 n),Int.tdiv n.y (g3 n),Int.tdiv n.z (g3 n)⟩ a=dot ⟨Int.tdiv n.x (g3 n),Int.tdiv n.y (g3 n),Int.tdiv n.z (g3 n)⟩ a:=by
      unfold Sa2;simp only[Kb7,lc6];obtain⟨⟨a1,a2⟩,⟨a3,a4⟩,a5,a6⟩:=(fe0 a).1 ha;have r1:=mb q1.1 q1.2 a1 a2;have r2:=mb q2.1 q2.2 a3 a4;have r3:=mb q3.1 q3.2 a5 a6;rw[qa9 (by omega) (by omega)]
      rfl
     rw[hdot];rfl
theorem oe3(a b c:V3):Eb5 a b c=true:=by unfold Eb5;rw[Yd1];rfl
theorem Pe6(p:Pln)(v:V3):Rd (one r1I) (Nb2 p v) (λ_=>True):=by
 unfold Nb2;simp only[Kd5,Ye9,j5];exact Rd.sl (λ_=>⟨_,_,rfl,rfl,trivial⟩) λ_=>Rd.sl (λ_=>⟨_,_,rfl,rfl,trivial⟩) λ_=>Rd.sl (λ_=>⟨_,_,rfl,rfl,trivial⟩) λ_=>Rd.sl (λ_=>⟨_,_,rfl,rfl,trivial⟩) λ_=>⟨_,_,rfl,rfl,trivial⟩
theorem ff0(p:Pln)(v:V3):Xc4 p v=true:=(Pe6 p v).g
theorem qf9(P:Xa3)(hl:P.X5.length<=1000000000):∃t s,lp (Oa5 P) ⟨0⟩=(t,s)/\(t=1\/t=2\/t=3):=by
 obtain⟨l,x1,x2,x3,x4,x5,x6,x7,x8⟩:=P;refine pa5 (step:=Oa5 ⟨l,x1,x2,x3,x4,x5,x6,x7,x8⟩) (mk:=λj (_:Unit)=>(⟨(j:Int)⟩:Ja3)) l.length (λ_ _=>True) (λt _=>t=1\/t=2\/t=3) hl (λj a hj _=>?_) (λj a hj _=>?_) 0 () trivial
 ·simp only[Oa5,ub9,ff0,Int.toNat_natCast,r8 hj (show l.length<=4611686018427387904 from Qiu hl (by omega))]
  rw[btD (l0 hj),bt (d9 hj),j5];exact Nx.sl (λ_=>Nx.sl (λ_=>.ex (by simp)) λ_=>.nx ⟨(),rfl,trivial⟩) λ_=>.ex (by simp)
 ·simp only[Oa5,ub9];rw[bfD (by omega)]
  exact⟨_,rfl,by simp⟩
theorem rf0(l:List V3)(hl:l.length<=1000000000)(a c:Nat)(ha:a<l.length)(hc:c<a):∃t s,lp (Oa6 ⟨(a:Int),(c:Int)⟩) ⟨l,0⟩=(t,s)/\((t=1\/t=2)/\s.X5=l):=by
 refine pa5 (step:=Oa6 ⟨(a:Int),(c:Int)⟩) (mk:=λj (_:Unit)=>(⟨l,(j:Int)⟩:Ja4)) c (λ_ _=>True) (λt s=>(t=1\/t=2)/\s.X5=l) (by omega) (λj x hj _=>?_) (λj x hj _=>?_) 0 () trivial
 ·simp only[Oa6,vb0,oe3,Int.toNat_natCast,i8,n9,r8 hj (show c<=4611686018427387904 by omega)]
  rw[btD (l0 hj),bt (d9 ha),bt (d9 (show c<l.length by omega)),bt (d9 (show j<l.length by omega)),j5]
  generalize hP:Xa3.mk _ _ _ _ _ _ _ _ _=P3;obtain⟨t,s,h1,h2⟩:=qf9 P3 (by subst hP;exact hl)
  rw[h1]
  rcases h2 with rfl|rfl|rfl
  ·exact .ex (by simp)
  ·exact .nx ⟨(),rfl,trivial⟩
  ·exact .nx ⟨(),rfl,trivial⟩
 ·simp only[Oa6,vb0];rw[bfD (by omega)]
  exact⟨_,rfl,by simp⟩
theorem rf1(l:List V3)(hl:l.length<=1000000000)(a:Nat)(ha:a<l.length):∃t s,lp (Oa7 ⟨(a:Int)⟩) ⟨l,0⟩=(t,s)/\((t=1\/t=2)/\s.X5=l):=by
 refine pa5 (step:=Oa7 ⟨(a:Int)⟩) (mk:=λj (_:Unit)=>(⟨l,(j:Int)⟩:Ja5)) a (λ_ _=>True) (λt s=>(t=1\/t=2)/\s.X5=l) (by omega) (λj x hj _=>?_) (λj x hj _=>?_) 0 () trivial
 ·simp only[Oa7,vb1,i8,n9,r8 hj (show a<=4611686018427387904 by omega)]
  obtain⟨t,s,h1,h2,h3⟩:=rf0 l hl a j ha hj;rw[btD (l0 hj),h1]
  rcases h2 with rfl|rfl
  ·exact .ex (by simp)
  ·exact .nx ⟨(),by rw[h3],trivial⟩
 ·simp only[Oa7,vb1];rw[bfD (by omega)]
  exact⟨_,rfl,by simp⟩
theorem Jb9(l:List V3)(hl:l.length<=1000000000):Rd (one r1B) (Xc6 l) (λ_=>True):=by
 have key:∃t s,lp (Oa8 ⟨⟩) ⟨l,0⟩=(t,s)/\(t=1\/t=2):=by
  refine pa5 (step:=Oa8 ⟨⟩) (mk:=λj (_:Unit)=>(⟨l,(j:Int)⟩:Ja6)) l.length (λ_ _=>True) (λt s=>t=1\/t=2) hl (λj x hj _=>?_) (λj x hj _=>?_) 0 () trivial
  ·simp only[Oa8,vb2,i8,n9,r8 hj (show l.length<=4611686018427387904 by omega)]
   obtain⟨t,s,h1,h2,h3⟩:=rf1 l hl j hj;rw[btD (l0 hj),h1]
   rcases h2 with rfl|rfl
   ·exact .ex (by simp)
   ·exact .nx ⟨(),by rw[h3],trivial⟩
  ·simp only[Oa8,vb2];rw[bfD (by omega)]
   exact⟨_,rfl,by simp⟩
 obtain⟨t,s,h1,h2⟩:=key;unfold Xc6;simp only[i8,n9];rw[h1]
 rcases h2 with rfl|rfl<;>exact⟨_,_,rfl,rfl,trivial⟩
theorem ff1(p q:Pln):Rd (one r1I) (ra2 p q) (λ_=>True):=by
 have key:∃t s,lp (K7 ⟨p.n.x,p.n.y,p.n.z,p.b,q.n.x,q.n.y,q.n.z,q.b⟩) ⟨0⟩=(t,s)/\(t=1\/t=2\/t=3):=by
  refine pa5 (step:=K7 ⟨p.n.x,p.n.y,p.n.z,p.b,q.n.x,q.n.y,q.n.z,q.b⟩) (mk:=λj (_:Unit)=>(⟨(j:Int)⟩:R8)) 4 (λ_ _=>True) (λt s=>t=1\/t=2\/t=3) (by omega) (λj x hj _=>?_) (λj x hj _=>?_) 0 () trivial
  ·have hn:=r8 hj (show 4<=4611686018427387904 by omega)
   simp only[K7,W4,Int.toNat_natCast,hn];have hlt:(j:Int)<4:=by omega
   have hin:=d9 hj;have g:∀x1 x2 x3 x4:Int,((Nat.ble ((0+(j*1))+1) 4)&&(Ka2 [CK.int .i64] (e8 [i x1,i x2,i x3,i x4] (0+(j*1)))))=true:=by
    intro x1 x2 x3 x4
    match j,hj with
    |0,_=>rfl
    |1,_=>rfl
    |2,_=>rfl
    |3,_=>rfl
   rw[btD hlt];simp only[hin,g,j5];exact Nx.sl (λ_=>.ex (by simp)) λ_=>Nx.sl (λ_=>.ex (by simp)) λ_=>.nx ⟨(),rfl,trivial⟩
  ·simp only[K7,W4];rw[bfD (by omega)]
   exact⟨_,rfl,by simp⟩
 obtain⟨t,s,h1,h2⟩:=key;unfold ra2
 simp only
 rw[h1]
 rcases h2 with rfl|rfl|rfl<;>exact⟨_,_,rfl,rfl,trivial⟩
theorem ff2(p q:Pln):Eb6 p q=true:=(ff1 p q).g
theorem Yd2(l:List Pln)(n:Nat)(h:n<=l.length):n5 (λk=>(λk=>tP.row (gL tP l k)) (0+k)) (List.range (n-0))=bL tP (l.take n):=by
 rw[<- sb5,o5,o5,List.length_take,Nat.min_eq_left h,Nat.sub_zero];apply List.map_congr_left;intro k hk;rw[List.mem_range] at hk;show tP.row (gL tP l (0+k))=tP.row (gL tP (l.take n) k);congr 1;simp[gL,Qil,List.getElem?_take,hk]
theorem Yd3(l:List Pln)(n:Nat):n5 (λk=>(λk=>tP.row (gL tP l k)) (n+k)) (List.range (l.length-n))=bL tP (l.drop n):=by
 rw[<- sb5,o5,o5,Qii];apply List.map_congr_left;intro k hk;show tP.row (gL tP l (n+k))=tP.row (gL tP (l.drop n) k);rw[uc7]
theorem Be3(l:List Pln)(x1 x2 x3 x4:Int):app (bL tP l) [[i x1,i x2,i x3,i x4]]=bL tP (l++[⟨⟨x1,x2,x3⟩,x4⟩]):=bb0 tP l [⟨⟨x1,x2,x3⟩,x4⟩]
def Md5(x:List Pln)(y:Pln)(n:Nat):List Pln:=x.take n++(y::x.drop n)
theorem ff3{l:List Pln}{n:Nat}{r:List (List a7)}{P:List Pln->Prop}(hn:n=l.length)(hr:r=bL tP l)(h:P l):Rd (one (r1L tP)) (some (.sl 0 0 n 0,[⟨73,4,r,true,false,0⟩])) P:=by
 subst hn hr;exact⟨_,l,rfl,nc1 l,h⟩
structure Fc(ph:Nat)(out:List Pln)(m:Nat):Prop where
 h:(ph=0/\out=[])\/ph=1
 l:out.length<=m
theorem Fc.more{ph m m':Nat}{out:List Pln}(h:Fc ph out m)(hm:m<=m'):Fc ph out m':=⟨h.h,Qiu h.l hm⟩
theorem Nc9{l:List Pln}{k:Nat}(h:k<l.length):ldR tP (bL tP l) (0+k)=true:=by rw[Qid];exact Vd1 tP h
theorem vc0{l:List Pln}{k:Nat}(h:k<l.length):rdR tP (bL tP l) (0+k)=gL tP l k:=by rw[Qid];exact Vd0 tP h
theorem Yd4{α:Type}(t:Ty α)(k:Nat)(l:List α):(one (r1L t)).rd (.sl 0 0 l.length 0,[⟨k,t.es,bL t l,true,false,0⟩])=some l:=by
 show Bool.rec (motive:=λ_=>Option (List α)) none (some (slR t (bL t l) 0 l.length)) (Bool.and (Nat.beq t.es t.es) (okS t (bL t l) 0 l.length))=_
 rw[zc6,zc7,Qit];rfl
theorem Be4{l:List Pln}{n:Nat}{r:List (List a7)}{P:List Pln->Prop}(hn:n<=l.length)(hr:r=bL tP l)(h:P (l.take n)):Rd (one (r1L tP)) (some (.sl 0 0 n 0,[⟨73,4,r,true,false,0⟩])) P:=by
 subst hr;have e1:slR tP (bL tP l) 0 n=l.take n:=lc5 tP (by rw[List.length_take];omega) λk hk=>by
  rw[Qid,ba2 tP (by omega)]
  congr 1;simp[gL,Qil,List.getElem?_take,hk]
 have e2:okS tP (bL tP l) 0 n=true:=Kb6 tP (f:=λk=>gL tP l k) λk hk=>by rw[Qid,ba2 tP (by omega)]
 refine⟨_,l.take n,rfl,?_,h⟩;show Bool.rec (motive:=λ_=>Option (List Pln)) none (some (slR tP (bL tP l) 0 n)) (Bool.and true (okS tP (bL tP l) 0 n))=_
 rw[e1,e2];rfl
structure eb4 where
 (jb3 jb4 jb5 xb4:Int)
 d8:List Pt
noncomputable def Zb0:List (Nat×Sum):=[(153,Ab9)]
theorem Kc6:g9 prog G Zb0:=⟨Mb3,trivial⟩
structure Aa1 where
 He1:List Pt
 is8:Int
 d8:List Pt
 (aa2 aa3 aa4 aa5:Int)
structure R9 where
 (is4 is9:Int)
noncomputable def Ib0(p:Aa1)(s:R9):St:=⟨.unk::.unk::.ptr 1 0 0 0::.unk::i s.is4::.unk::.unk::eL tX p.He1::i p.is8::i s.is9::ra 12 [],[⟨0,1,[[eL tX p.d8]],true,false,0⟩,⟨0,4,[[i p.aa2,i p.aa3,i p.aa4,i p.aa5]],true,false,0⟩]⟩
noncomputable def pa6{α:Type}(k:R9->α)(e:Nat->α)(z:α)(p:Aa1)(s:R9):α:=let t1:=(va7 (⟨(⟨p.aa2,p.aa3,p.aa4⟩:V3),p.aa5⟩:Pln) (gL tX p.He1 s.is9.toNat));(sl (decide (s.is9<p.is8)) (sl (inB s.is9 (List.length p.He1)) (sl (t1==0) (k ⟨W (s.is4+1),W (s.is9+1)⟩) (k ⟨s.is4,W (s.is9+1)⟩)) z) (e 1))
noncomputable def ua6(p:Aa1)(s:R9):Stp R9:=pa6 .next .exit .fail p s
noncomputable def lb7:Lo Aa1 R9:=⟨En Zb0,1,We1,[1,1,0,1,4,4],[2,4,7,8,9],.p,[⟨sUq::sUq::sPq 1::sUq::sIq::sUq::sUq::sLq tX::sIq::sIq::ru2 12 [],[⟨0,1,true,some [[.c 4 (nL tX)]]⟩,⟨0,4,true,some [kLq 4]⟩],λa H=>(⟨aLq tX a 7,aIq a 8,hLq tX H 0 0 0,hIq H 1 0 0,hIq H 1 0 1,hIq H 1 0 2,hIq H 1 0 3⟩,⟨aIq a 4,aIq a 9⟩)⟩],ua6,[(some 0,λp s=>upq (Ib0 p s) [(10,b (decide (s.is9<p.is8)))])],Ib0⟩
theorem Cc5:lb7.Ok:=Lo.ok [] (by kernel_rfl) .nil rfl (.cons (λa H=>by kernel_rfl) .nil) λp s=>(.of @pa6 (λF _ _ _ _ _=>by unfold pa6;(repeat' apply l5 (f:=F))<;>rfl) (by kernel_rfl))
structure Ba6 where
 alt:Nat
 bs0:Bool
 d8:List Pt
noncomputable def Ba7{α:Type}(kk:Ba6->α)(x:eb4):α:=let t1:=(lp (ua6 (⟨rt tX x.d8,(↑(List.length x.d8):Int),rt tX x.d8,x.jb3,x.jb4,x.jb5,x.xb4⟩:Aa1)) (⟨0,0⟩:R9));(sl ((cnE tX x.d8)&&((cnE tX x.d8)&&true)) (sl (Nat.beq t1.1 1) (kk ⟨1,decide (t1.2.is4<3),rt tX x.d8⟩) (kk ⟨0,false,[]⟩)) (kk ⟨0,false,[]⟩))
noncomputable def ra3(x:eb4):Ba6:=Ba7 (λr=>r) x
noncomputable def vb5(x:eb4)(r:Ba6):DT (a7×List a8):=(.ite (Nat.beq r.alt 1) (.ret (b r.bs0,[⟨0,1,[[eL tX r.d8]],true,false,0⟩])) .fail)
theorem gd7{α β:Type}(F:α->β)(kk:Ba6->α)(x:eb4):F (Ba7 kk x)=Ba7 (λr=>F (kk r)) x:=by unfold Ba7;(repeat' apply l5 (f:=F))<;>rfl
noncomputable def Eb7:Sum:=Ta1 ⟨[.agg (kLq 4),sPq 0],[⟨0,1,true,some [[.c 4 (nL tX)]]⟩],λa H=>(⟨cIq a 0 0,cIq a 0 1,cIq a 0 2,cIq a 0 3,hLq tX H 0 0 0⟩,())⟩ (λx=>vb5 x (ra3 x))
theorem Zb1:e7 prog G 152 Eb7:=L3 (enc:=λx=>⟨[.agg [i x.jb3,i x.jb4,i x.jb5,i x.xb4],.ptr 0 0 0 0],[⟨0,1,[[eL tX x.d8]],true,false,0⟩]⟩) (λa H=>by kernel_rfl) (bd xf8 Kc6) λx=>Da7 (.s .p (.s .p (.s (.s .p (.b (.u lb7.ls))) .p))) [lb7.pr] (by kernel_rfl) (.cons Cc5 .nil) (Qip (b:=Ba7 (λr=>(vb5 x r).run) x) (by kernel_rfl) (gd7 (λr=>(vb5 x r).run) (λr=>r) x).symm)
structure Z3 where
 ns0:Nat
 eh0:List (List a7)
 B5:List Pt
noncomputable def Ga7:List (Nat×Sum):=[(152,Eb7)]
theorem ob8:g9 prog G Ga7:=⟨Zb1,trivial⟩
structure M1 where
 ns0:Nat
 is7:Int
 eh0:List (List a7)
structure p5 where
 is8:Int
 B5:List Pt
noncomputable def Aa2(p:M1)(s:p5):St:=⟨.sl 0 0 p.ns0 0::.fn 152 [.ptr 1 0 0 0]::ra 5 (i p.is7::i s.is8::ra 10 []),[⟨73,4,p.eh0,true,false,0⟩,⟨0,1,[[eL tX s.B5]],true,false,0⟩]⟩
noncomputable def H5{α:Type}(k:p5->α)(e:Nat->α)(z:α)(p:M1)(s:p5):α:=let t1:=(ra3 ⟨(rdR tP p.eh0 (0+s.is8.toNat)).n.x,(rdR tP p.eh0 (0+s.is8.toNat)).n.y,(rdR tP p.eh0 (0+s.is8.toNat)).n.z,(rdR tP p.eh0 (0+s.is8.toNat)).b,rt tX s.B5⟩);(sl (decide (s.is8<p.is7)) (sl (inB s.is8 p.ns0) (sl (ldR tP p.eh0 (0+s.is8.toNat)) (sl ((cnE tX s.B5)&&true) (sl (Nat.beq t1.alt 1) (sl t1.bs0 (e 1) (k ⟨W (s.is8+1),t1.d8⟩)) z) z) z) z) (e 2))
noncomputable def K0(p:M1)(s:p5):Stp p5:=H5 .next .exit .fail p s
noncomputable def ha6:Lo M1 p5:=⟨En Ga7,2,Id3,[1,0,1,4,4],[0,1,7,8],.p,[⟨.s (.o (.sl 0 0 (some 0) none))::.fn 152 [.o (.ptr 1 0 0 0)]::ru2 5 (sIq::sIq::ru2 10 []),[⟨73,4,true,none⟩,⟨0,1,true,some [[.c 4 (nL tX)]]⟩],λa H=>(⟨slN (slT a 0),aIq a 7,elT H 0⟩,⟨aIq a 8,hLq tX H 1 0 0⟩)⟩],K0,[(none,λp s=>let t1:=(ra3 ⟨(rdR tP p.eh0 (0+s.is8.toNat)).n.x,(rdR tP p.eh0 (0+s.is8.toNat)).n.y,(rdR tP p.eh0 (0+s.is8.toNat)).n.z,(rdR tP p.eh0 (0+s.is8.toNat)).b,rt tX s.B5⟩);⟨[i s.is8],[⟨73,4,p.eh0,true,false,0⟩,⟨0,1,[[eL tX t1.d8]],true,false,0⟩]⟩),(some 0,λp s=>upq (Aa2 p s) [(9,b (decide (s.is8<p.is7)))])],Aa2⟩
theorem lb8:ha6.Ok:=Lo.ok [] (by kernel_rfl) .nil rfl (.cons (λa H=>by kernel_rfl) .nil) λp s=>(.of @H5 (λF _ _ _ _ _=>by unfold H5;(repeat' apply l5 (f:=F))<;>rfl) (by kernel_rfl))
structure Z4 where
 alt:Nat
 is0:Int
 B5:List Pt
noncomputable def I6{α:Type}(kk:Z4->α)(x:Z3):α:=let t1:=(lp (K0 (⟨x.ns0,(↑x.ns0:Int),x.eh0⟩:M1)) (⟨0,rt tX x.B5⟩:p5));let t2:=(ra3 ⟨(rdR tP x.eh0 (0+t1.2.is8.toNat)).n.x,(rdR tP x.eh0 (0+t1.2.is8.toNat)).n.y,(rdR tP x.eh0 (0+t1.2.is8.toNat)).n.z,(rdR tP x.eh0 (0+t1.2.is8.toNat)).b,rt tX t1.2.B5⟩);(sl ((cnE tX x.B5)&&true) (sl (Nat.beq t1.1 1) (kk ⟨1,t1.2.is8,t2.d8⟩) (sl (Nat.beq t1.1 2) (kk ⟨1,-1,t1.2.B5⟩) (kk ⟨0,0,[]⟩))) (kk ⟨0,0,[]⟩))
noncomputable def Z5(x:Z3):Z4:=I6 (λr=>r) x
noncomputable def ka6(x:Z3)(r:Z4):DT (a7×List a8):=(.ite (Nat.beq r.alt 1) (.ret (i r.is0,[⟨73,4,x.eh0,true,false,0⟩,⟨0,1,[[eL tX r.B5]],true,false,0⟩])) .fail)
theorem yb4{α β:Type}(F:α->β)(kk:Z4->α)(x:Z3):F (I6 kk x)=I6 (λr=>F (kk r)) x:=by unfold I6;(repeat' apply l5 (f:=F))<;>rfl
noncomputable def La6:Sum:=Ta1 ⟨[.s (.o (.sl 0 0 (some 0) none)),.fn 152 [.o (.ptr 1 0 0 0)]],[⟨73,4,true,none⟩,⟨0,1,true,some [[.c 4 (nL tX)]]⟩],λa H=>(⟨slN (slT a 0),elT H 0,hLq tX H 1 0 0⟩,())⟩ (λx=>ka6 x (Z5 x))
theorem vb6:e7 prog G 139 La6:=L3 (enc:=λx=>⟨[.sl 0 0 x.ns0 0,.fn 152 [.ptr 1 0 0 0]],[⟨73,4,x.eh0,true,false,0⟩,⟨0,1,[[eL tX x.B5]],true,false,0⟩]⟩) (λa H=>by kernel_rfl) (bd Ne3 ob8) λx=>Da7 (.s .p (.s (.s .p (.b (.u ha6.ls))) .p)) [ha6.pr] (by kernel_rfl) (.cons lb8 .nil) (Qip (b:=I6 (λr=>(ka6 x r).run) x) (by kernel_rfl) (yb4 (λr=>(ka6 x r).run) (λr=>r) x).symm)
structure Z6 where
 ns0:Nat
 eh0:List (List a7)
 B5:List Pt
noncomputable def Ga8:List (Nat×Sum):=[(139,La6),(152,Eb7)]
theorem ob9:g9 prog G Ga8:=⟨vb6,Zb1,trivial⟩
structure M2 where
 ns0:Nat
structure u7 where
 (is5 is6:Int)
 eh0:List (List a7)
 B5:List Pt
noncomputable def Aa3(p:M2)(s:u7):St:=⟨.sl 0 0 p.ns0 0::.fn 152 [.ptr 1 0 0 0]::ra 3 (i s.is5::i s.is6::ra 35 []),[⟨73,4,s.eh0,true,false,0⟩,⟨0,1,[[eL tX s.B5]],true,false,0⟩]⟩
noncomputable def H6{α:Type}(k:u7->α)(e:Nat->α)(z:α)(p:M2)(s:u7):α:=let t1:=(ra3 ⟨(rdR tP s.eh0 (0+s.is6.toNat)).n.x,(rdR tP s.eh0 (0+s.is6.toNat)).n.y,(rdR tP s.eh0 (0+s.is6.toNat)).n.z,(rdR tP s.eh0 (0+s.is6.toNat)).b,rt tX s.B5⟩);(sl (decide (s.is6<(↑p.ns0:Int))) (sl (inB s.is6 p.ns0) (sl (ldR tP s.eh0 (0+s.is6.toNat)) (sl ((cnE tX s.B5)&&true) (sl (Nat.beq t1.alt 1) (sl (!t1.bs0) (sl (inB s.is5 p.ns0) (sl ((Nat.blt (0+s.is5.toNat) (len s.eh0))&&(Nat.ble (0+4) (len (i6 s.eh0 (0+s.is5.toNat))))) (k ⟨W (s.is5+1),W (s.is6+1),setAt s.eh0 (0+s.is5.toNat) (ta0 (i6 s.eh0 (0+s.is5.toNat)) 0 [i (rdR tP s.eh0 (0+s.is6.toNat)).n.x,i (rdR tP s.eh0 (0+s.is6.toNat)).n.y,i (rdR tP s.eh0 (0+s.is6.toNat)).n.z,i (rdR tP s.eh0 (0+s.is6.toNat)).b]),t1.d8⟩) z) z) (k ⟨s.is5,W (s.is6+1),s.eh0,t1.d8⟩)) z) z) z) z) (e 1))
noncomputable def D4(p:M2)(s:u7):Stp u7:=H6 .next .exit .fail p s
noncomputable def ha7:Lo M2 u7:=⟨En Ga8,2,We0,[1,1,1,0,1,4,4],[0,1,5,6],.p,[⟨.s (.o (.sl 0 0 (some 0) none))::.fn 152 [.o (.ptr 1 0 0 0)]::ru2 3 (sIq::sIq::ru2 35 []),[⟨73,4,true,none⟩,⟨0,1,true,some [[.c 4 (nL tX)]]⟩],λa H=>(⟨slN (slT a 0)⟩,⟨aIq a 5,aIq a 6,elT H 0,hLq tX H 1 0 0⟩)⟩],D4,[(some 0,λp s=>upq (Aa3 p s) [(16,i s.is6),(17,.sl 0 0 p.ns0 0),(18,i (↑p.ns0:Int)),(19,b (decide (s.is6<(↑p.ns0:Int))))])],Aa3⟩
theorem lb9:ha7.Ok:=Lo.ok [] (by kernel_rfl) .nil rfl (.cons (λa H=>by kernel_rfl) .nil) λp s=>(.of @H6 (λF _ _ _ _ _=>by unfold H6;(repeat' apply l5 (f:=F))<;>rfl) (by kernel_rfl))
structure Z7 where
 (alt ns0:Nat)
 eh0:List (List a7)
 B5:List Pt
noncomputable def I7{α:Type}(kk:Z7->α)(x:Z6):α:=let t1:=(Z5 ⟨x.ns0,x.eh0,rt tX x.B5⟩);let t2:=(lp (D4 (⟨x.ns0⟩:M2)) (⟨t1.is0,W (t1.is0+1),x.eh0,rt tX t1.B5⟩:u7));(sl ((cnE tX x.B5)&&true) (sl (Nat.beq t1.alt 1) (sl (t1.is0==(-1)) (kk ⟨1,x.ns0,x.eh0,t1.B5⟩) (sl ((cnE tX t1.B5)&&true) (sl (Nat.beq t2.1 1) (sl (inB t2.2.is5 (x.ns0+1)) (sl (inB t2.2.is5 (x.ns0+1)) (kk ⟨1,t2.2.is5.toNat-0,app (M8 t2.2.eh0 (0+t2.2.is5.toNat)) (app (List.replicate (x.ns0-t2.2.is5.toNat) [i 0,i 0,i 0,i 0]) (e8 t2.2.eh0 ((0+t2.2.is5.toNat)+(x.ns0-t2.2.is5.toNat)))),t2.2.B5⟩) (kk ⟨0,0,[],[]⟩)) (kk ⟨0,0,[],[]⟩)) (kk ⟨0,0,[],[]⟩)) (kk ⟨0,0,[],[]⟩))) (kk ⟨0,0,[],[]⟩)) (kk ⟨0,0,[],[]⟩))
noncomputable def I8(x:Z6):Z7:=I7 (λr=>r) x
noncomputable def ka7(x:Z6)(r:Z7):DT (a7×List a8):=(.ite (Nat.beq r.alt 1) (.ret (.sl 0 0 r.ns0 0,[⟨73,4,r.eh0,true,false,0⟩,⟨0,1,[[eL tX r.B5]],true,false,0⟩])) .fail)
theorem yb5{α β:Type}(F:α->β)(kk:Z7->α)(x:Z6):F (I7 kk x)=I7 (λr=>F (kk r)) x:=by unfold I7;(repeat' apply l5 (f:=F))<;>rfl
noncomputable def na0:Sum:=Ta1 ⟨[.s (.o (.sl 0 0 (some 0) none)),.fn 152 [.o (.ptr 1 0 0 0)]],[⟨73,4,true,none⟩,⟨0,1,true,some [[.c 4 (nL tX)]]⟩],λa H=>(⟨slN (slT a 0),elT H 0,hLq tX H 1 0 0⟩,())⟩ (λx=>ka7 x (I8 x))
theorem Ga9:e7 prog G 150 na0:=L3 (enc:=λx=>⟨[.sl 0 0 x.ns0 0,.fn 152 [.ptr 1 0 0 0]],[⟨73,4,x.eh0,true,false,0⟩,⟨0,1,[[eL tX x.B5]],true,false,0⟩]⟩) (λa H=>by kernel_rfl) (bd pf7 ob9) λx=>Da7 (.s .p (.s .p (.s .p (.s (.s .p (.b (.u ha7.ls))) .p)))) [ha7.pr] (by kernel_rfl) (.cons lb9 .nil) (Qip (b:=I7 (λr=>(ka7 x r).run) x) (by kernel_rfl) (yb5 (λr=>(ka7 x r).run) (λr=>r) x).symm)
structure ha8 where
 ns0:Nat
 eh0:List (List a7)
noncomputable def ua7:List (Nat×Sum):=[]
theorem Eb8:g9 prog G ua7:=trivial
structure E5 where
 (ns0 os4 ns4:Nat)
structure q7 where
 (is3 is5:Int)
 eh0:List (List a7)
noncomputable def La7(p:E5)(s:q7):St:=⟨.sl 0 0 p.ns0 0::.unk::.unk::i s.is3::.sl 0 p.os4 p.ns4 0::i s.is5::ra 55 [],[⟨73,4,s.eh0,true,false,0⟩]⟩
noncomputable def N5{α:Type}(k:q7->α)(e:Nat->α)(z:α)(p:E5)(s:q7):α:=(sl (decide (s.is5<(↑p.ns4:Int))) (sl (inB s.is5 p.ns4) (sl (ldR tP s.eh0 (p.os4+s.is5.toNat)) (sl (inB (W (s.is5-1)) p.ns4) (sl (ldR tP s.eh0 (p.os4+(W (s.is5-1)).toNat)) (sl (!(((rdR tP s.eh0 (p.os4+s.is5.toNat)).n.x==(rdR tP s.eh0 (p.os4+(W (s.is5-1)).toNat)).n.x)&&(((rdR tP s.eh0 (p.os4+s.is5.toNat)).n.y==(rdR tP s.eh0 (p.os4+(W (s.is5-1)).toNat)).n.y)&&(((rdR tP s.eh0 (p.os4+s.is5.toNat)).n.z==(rdR tP s.eh0 (p.os4+(W (s.is5-1)).toNat)).n.z)&&(((rdR tP s.eh0 (p.os4+s.is5.toNat)).b==(rdR tP s.eh0 (p.os4+(W (s.is5-1)).toNat)).b)&&true))))) (sl (inB s.is5 p.ns4) (sl (ldR tP s.eh0 (p.os4+s.is5.toNat)) (sl (inB s.is3 p.ns0) (sl ((Nat.blt (0+s.is3.toNat) (len s.eh0))&&(Nat.ble (0+4) (len (i6 s.eh0 (0+s.is3.toNat))))) (k ⟨W (s.is3+1),W (s.is5+1),setAt s.eh0 (0+s.is3.toNat) (ta0 (i6 s.eh0 (0+s.is3.toNat)) 0 [i (rdR tP s.eh0 (p.os4+s.is5.toNat)).n.x,i (rdR tP s.eh0 (p.os4+s.is5.toNat)).n.y,i (rdR tP s.eh0 (p.os4+s.is5.toNat)).n.z,i (rdR tP s.eh0 (p.os4+s.is5.toNat)).b])⟩) z) z) z) z) (k ⟨s.is3,W (s.is5+1),s.eh0⟩)) z) z) z) z) (e 1))
noncomputable def s8(p:E5)(s:q7):Stp q7:=N5 .next .exit .fail p s
noncomputable def ra4:Lo E5 q7:=⟨En ua7,1,ye4,[1,1,0,1,4,4,1,0,4,1,2,1,0,1,4,4],[0,3,4,5],.p,[⟨.s (.o (.sl 0 0 (some 0) none))::sUq::sUq::sIq::.s (.o (.sl 0 0 none none))::sIq::ru2 55 [],[⟨73,4,true,none⟩],λa H=>(⟨slN (slT a 0),slO (slT a 4),slN (slT a 4)⟩,⟨aIq a 3,aIq a 5,elT H 0⟩)⟩],s8,[(some 2,λp s=>upq (La7 p s) [(29,i s.is5),(30,.sl 0 p.os4 p.ns4 0),(31,i (↑p.ns4:Int)),(32,b (decide (s.is5<(↑p.ns4:Int))))])],La7⟩
theorem yb6:ra4.Ok:=Lo.ok [] (by kernel_rfl) .nil rfl (.cons (λa H=>by kernel_rfl) .nil) λp s=>(.of @N5 (λF _ _ _ _ _=>by unfold N5;(repeat' apply l5 (f:=F))<;>rfl) (by kernel_rfl))
structure Q3 where
 ns0:Nat
 eh0:List (List a7)
structure w6 where
 is3:Int
noncomputable def La8(p:Q3)(s:w6):St:=⟨.sl 0 0 p.ns0 0::.unk::.unk::i s.is3::ra 57 [],[⟨73,4,p.eh0,true,false,0⟩]⟩
noncomputable def N6{α:Type}(k:w6->α)(e:Nat->α)(z:α)(p:Q3)(s:w6):α:=let t1:=(lp (s8 (⟨p.ns0,0+s.is3.toNat,p.ns0-s.is3.toNat⟩:E5)) (⟨s.is3,1,p.eh0⟩:q7));(sl (decide (s.is3<(↑p.ns0:Int))) (sl (inB s.is3 p.ns0) (sl (ldR tP p.eh0 (0+s.is3.toNat)) (sl (inB (W (s.is3-1)) p.ns0) (sl (ldR tP p.eh0 (0+(W (s.is3-1)).toNat)) (sl (((rdR tP p.eh0 (0+s.is3.toNat)).n.x==(rdR tP p.eh0 (0+(W (s.is3-1)).toNat)).n.x)&&(((rdR tP p.eh0 (0+s.is3.toNat)).n.y==(rdR tP p.eh0 (0+(W (s.is3-1)).toNat)).n.y)&&(((rdR tP p.eh0 (0+s.is3.toNat)).n.z==(rdR tP p.eh0 (0+(W (s.is3-1)).toNat)).n.z)&&(((rdR tP p.eh0 (0+s.is3.toNat)).b==(rdR tP p.eh0 (0+(W (s.is3-1)).toNat)).b)&&true)))) (sl (inB s.is3 (p.ns0+1)) (sl (Nat.beq t1.1 1) (sl (inB t1.2.is3 (p.ns0+1)) (sl (inB t1.2.is3 (p.ns0+1)) (e 1) z) z) z) z) (k ⟨W (s.is3+1)⟩)) z) z) z) z) (e 2))
noncomputable def P1(p:Q3)(s:w6):Stp w6:=N6 .next .exit .fail p s
noncomputable def ra5:Lo Q3 w6:=⟨En ua7,1,ye4,[1,1,0,1,4,4],[0,3],.s .p (.s (.b (.s .p (.c (.s .p (.s (.s .p (.b (.u ra4.ls))) .p)) .p))) .p),[⟨.s (.o (.sl 0 0 (some 0) none))::sUq::sUq::sIq::ru2 57 [],[⟨73,4,true,none⟩],λa H=>(⟨slN (slT a 0),elT H 0⟩,⟨aIq a 3⟩)⟩],P1,[(none,λp s=>let t1:=(lp (s8 (⟨p.ns0,0+s.is3.toNat,p.ns0-s.is3.toNat⟩:E5)) (⟨s.is3,1,p.eh0⟩:q7));⟨[.sl 0 0 (t1.2.is3.toNat-0) 0],[⟨73,4,app (M8 t1.2.eh0 (0+t1.2.is3.toNat)) (app (List.replicate (p.ns0-t1.2.is3.toNat) [i 0,i 0,i 0,i 0]) (e8 t1.2.eh0 ((0+t1.2.is3.toNat)+(p.ns0-t1.2.is3.toNat)))),true,false,0⟩]⟩),(some 0,λp s=>upq (La8 p s) [(10,i s.is3),(11,.sl 0 0 p.ns0 0),(12,i (↑p.ns0:Int)),(13,b (decide (s.is3<(↑p.ns0:Int))))])],La8⟩
theorem yb7:ra5.Ok:=Lo.ok [ra4.pr] (by kernel_rfl) (.cons yb6 .nil) rfl (.cons (λa H=>by kernel_rfl) .nil) λp s=>(.of @N6 (λF _ _ _ _ _=>by unfold N6;(repeat' apply l5 (f:=F))<;>rfl) (by kernel_rfl))
structure ha9 where
 (alt ns0:Nat)
 eh0:List (List a7)
noncomputable def O0{α:Type}(kk:ha9->α)(x:ha8):α:=let t1:=(lp (P1 (⟨x.ns0,x.eh0⟩:Q3)) (⟨1⟩:w6));let t2:=(lp (s8 (⟨x.ns0,0+t1.2.is3.toNat,x.ns0-t1.2.is3.toNat⟩:E5)) (⟨t1.2.is3,1,x.eh0⟩:q7));(sl (decide ((↑x.ns0:Int)<2)) (kk ⟨1,x.ns0,x.eh0⟩) (sl (Nat.beq t1.1 1) (kk ⟨1,t2.2.is3.toNat-0,app (M8 t2.2.eh0 (0+t2.2.is3.toNat)) (app (List.replicate (x.ns0-t2.2.is3.toNat) [i 0,i 0,i 0,i 0]) (e8 t2.2.eh0 ((0+t2.2.is3.toNat)+(x.ns0-t2.2.is3.toNat))))⟩) (sl (Nat.beq t1.1 2) (kk ⟨1,x.ns0,x.eh0⟩) (kk ⟨0,0,[]⟩))))
noncomputable def W5(x:ha8):ha9:=O0 (λr=>r) x
noncomputable def ua8(x:ha8)(r:ha9):DT (a7×List a8):=(.ite (Nat.beq r.alt 1) (.ret (.sl 0 0 r.ns0 0,[⟨73,4,r.eh0,true,false,0⟩])) .fail)
theorem Ob0{α β:Type}(F:α->β)(kk:ha9->α)(x:ha8):F (O0 kk x)=O0 (λr=>F (kk r)) x:=by unfold O0;(repeat' apply l5 (f:=F))<;>rfl
noncomputable def wa8:Sum:=Ta1 ⟨[.s (.o (.sl 0 0 (some 0) none))],[⟨73,4,true,none⟩],λa H=>(⟨slN (slT a 0),elT H 0⟩,())⟩ (λx=>ua8 x (W5 x))
theorem Sa7:e7 prog G 154 wa8:=L3 (enc:=λx=>⟨[.sl 0 0 x.ns0 0],[⟨73,4,x.eh0,true,false,0⟩]⟩) (λa H=>by kernel_rfl) (bd pf8 Eb8) λx=>Da7 (.s .p (.s .p (.s (.s .p (.b (.u ra5.ls))) .p))) [ra5.pr] (by kernel_rfl) (.cons yb7 .nil) (Qip (b:=O0 (λr=>(ua8 x r).run) x) (by kernel_rfl) (Ob0 (λr=>(ua8 x r).run) (λr=>r) x).symm)
noncomputable def Xc8:List (Nat×Sum):=[]
theorem Kc7:g9 prog G Xc8:=trivial
noncomputable def Pa0(x:Int)(y:Int):Option (a7×List a8):=(sl (decide (x<y)) (some (i (-1),[])) (sl (decide (x>y)) (some (i 1,[])) (some (i 0,[]))))
noncomputable def ra6(x:Int)(y:Int):Int:=Q5 (one r1I) (Pa0 x y)
noncomputable def ra7(x:Int)(y:Int):Bool:=okO (one r1I) (Pa0 x y)
noncomputable def jc1:Sum:=ta3 cI cI (λx y=>.guard (ra7 x y) (.ret ((one r1I).enc (ra6 x y),[])))
theorem Xc9:e7 prog G 141 jc1:=Gb0 (bd xf5 Kc7) (one r1I) (o:=Pa0) λx y=>A7 (by kernel_rfl)
noncomputable def Cc6:List (Nat×Sum):=[(141,jc1)]
theorem vc1:g9 prog G Cc6:=⟨Xc9,trivial⟩
noncomputable def Aa4(x:Pln)(y:Pln):Option (a7×List a8):=let t1:=(ra6 x.n.x y.n.x);let t2:=(ra6 x.n.y y.n.y);let t3:=(ra6 x.n.z y.n.z);let t4:=(ra6 x.b y.b);(sl (ra7 x.n.x y.n.x) (sl (t1==0) (sl (ra7 x.n.y y.n.y) (sl (t2==0) (sl (ra7 x.n.z y.n.z) (sl (t3==0) (sl (ra7 x.b y.b) (sl (t4==0) (some (i t4,[])) (some (i t4,[]))) none) (some (i t3,[]))) none) (some (i t2,[]))) none) (some (i t1,[]))) none)
noncomputable def Qa4(x:Pln)(y:Pln):Int:=Q5 (one r1I) (Aa4 x y)
noncomputable def Qa5(x:Pln)(y:Pln):Bool:=okO (one r1I) (Aa4 x y)
noncomputable def mb0:Sum:=ta3 (oa3 tP) (oa3 tP) (λx y=>.guard (Qa5 x y) (.ret ((one r1I).enc (Qa4 x y),[])))
theorem Cc7:e7 prog G 122 mb0:=Gb0 (bd xf0 vc1) (one r1I) (o:=Aa4) λx y=>A7 (by kernel_rfl)
noncomputable def gd8:List (Nat×Sum):=[(109,Wa6),(110,ec2),(111,Ra7)]
theorem Yc0:g9 prog G gd8:=⟨eb2,mc7,mb9,trivial⟩
noncomputable def Xa5(x:List Pln)(y:List Pln):Option (a7×List a8):=let t1:=(pa1 [rt tP x,rt tP y]);let t2:=(bb8 [rt tP x,rt tP y]);let t3:=(ka4 (rt tP t2));(sl ((okE tP x)&&((okE tP y)&&true)) (sl (pa2 [rt tP x,rt tP y]) (sl (!t1) (some (b true,[])) (sl ((okE tP x)&&((okE tP y)&&true)) (sl (bb9 [rt tP x,rt tP y]) (sl (okE tP t2) (sl (ka5 (rt tP t2)) (some (b (!t3),[])) none) none) none) none)) none) none)
noncomputable def wa9(x:List Pln)(y:List Pln):Bool:=Q5 (one r1B) (Xa5 x y)
noncomputable def xa0(x:List Pln)(y:List Pln):Bool:=okO (one r1B) (Xa5 x y)
noncomputable def pb0:Sum:=ta3 (ba7 tP) (ba7 tP) (λx y=>.guard (xa0 x y) (.ret ((one r1B).enc (wa9 x y),[])))
theorem Eb9:e7 prog G 56 pb0:=Gb0 (bd b56 Yc0) (one r1B) (o:=Xa5) λx y=>A7 (by kernel_rfl)
structure Qa6 where
 (jb3 jb4 jb5 xb4:Int)
 b8:List Pln
noncomputable def Cc8:List (Nat×Sum):=[(115,Db0)]
theorem vc2:g9 prog G Cc8:=⟨Xb8,trivial⟩
structure Aa5 where
 alt:Nat
 bs0:Bool
noncomputable def na9{α:Type}(kk:Aa5->α)(x:Qa6):α:=let t1:=(ia8 (rt tP x.b8) (⟨x.jb3,x.jb4,x.jb5,x.xb4⟩:Pt));(sl (okE tP x.b8) (sl (ia9 (rt tP x.b8) (⟨x.jb3,x.jb4,x.jb5,x.xb4⟩:Pt)) (kk ⟨1,!t1⟩) (kk ⟨0,false⟩)) (kk ⟨0,false⟩))
noncomputable def Qa7(x:Qa6):Aa5:=na9 (λr=>r) x
noncomputable def cb2(x:Qa6)(r:Aa5):DT (a7×List a8):=(.ite (Nat.beq r.alt 1) (.ret (b r.bs0,[⟨0,1,[[eL tP x.b8]],true,false,0⟩])) .fail)
theorem Kc8{α β:Type}(F:α->β)(kk:Aa5->α)(x:Qa6):F (na9 kk x)=na9 (λr=>F (kk r)) x:=by unfold na9;(repeat' apply l5 (f:=F))<;>rfl
noncomputable def Qb6:Sum:=Ta1 ⟨[.agg (kLq 4),sPq 0],[⟨0,1,true,some [[.c 4 (nL tP)]]⟩],λa H=>(⟨cIq a 0 0,cIq a 0 1,cIq a 0 2,cIq a 0 3,hLq tP H 0 0 0⟩,())⟩ (λx=>cb2 x (Qa7 x))
theorem Cc9:e7 prog G 114 Qb6:=L3 (enc:=λx=>⟨[.agg [i x.jb3,i x.jb4,i x.jb5,i x.xb4],.ptr 0 0 0 0],[⟨0,1,[[eL tP x.b8]],true,false,0⟩]⟩) (λa H=>by kernel_rfl) (bd wf5 vc2) λx=>A7 (Qip (b:=na9 (λr=>(cb2 x r).run) x) (by kernel_rfl) (Kc8 (λr=>(cb2 x r).run) (λr=>r) x).symm)
structure Z8 where
 S5:List Pt
 b8:List Pln
noncomputable def Ha0:List (Nat×Sum):=[(114,Qb6)]
theorem pb1:g9 prog G Ha0:=⟨Cc9,trivial⟩
structure M3 where
 S5:List Pt
 is7:Int
structure p6 where
 is8:Int
 b8:List Pln
noncomputable def Aa6(p:M3)(s:p6):St:=⟨eL tX p.S5::.fn 114 [.ptr 0 0 0 0]::ra 5 (i p.is7::i s.is8::ra 10 []),[⟨0,1,[[eL tP s.b8]],true,false,0⟩]⟩
noncomputable def H7{α:Type}(k:p6->α)(e:Nat->α)(z:α)(p:M3)(s:p6):α:=let t1:=(Qa7 ⟨(gL tX p.S5 s.is8.toNat).px,(gL tX p.S5 s.is8.toNat).py,(gL tX p.S5 s.is8.toNat).pz,(gL tX p.S5 s.is8.toNat).pw,rt tP s.b8⟩);(sl (decide (s.is8<p.is7)) (sl (inB s.is8 (List.length p.S5)) (sl ((cnE tP s.b8)&&true) (sl (Nat.beq t1.alt 1) (sl t1.bs0 (e 1) (k ⟨W (s.is8+1),rt tP s.b8⟩)) z) z) z) (e 2))
noncomputable def K1(p:M3)(s:p6):Stp p6:=H7 .next .exit .fail p s
noncomputable def ia0:Lo M3 p6:=⟨En Ha0,1,ye7,[1,0,1,4,4],[0,1,7,8],.p,[⟨sLq tX::.fn 114 [.o (.ptr 0 0 0 0)]::ru2 5 (sIq::sIq::ru2 10 []),[⟨0,1,true,some [[.c 4 (nL tP)]]⟩],λa H=>(⟨aLq tX a 0,aIq a 7⟩,⟨aIq a 8,hLq tP H 0 0 0⟩)⟩],K1,[(none,λp s=>⟨[i s.is8],[⟨0,1,[[eL tP (rt tP s.b8)]],true,false,0⟩]⟩),(some 0,λp s=>upq (Aa6 p s) [(9,b (decide (s.is8<p.is7)))])],Aa6⟩
theorem mb1:ia0.Ok:=Lo.ok [] (by kernel_rfl) .nil rfl (.cons (λa H=>by kernel_rfl) .nil) λp s=>(.of @H7 (λF _ _ _ _ _=>by unfold H7;(repeat' apply l5 (f:=F))<;>rfl) (by kernel_rfl))
structure Z9 where
 alt:Nat
 is0:Int
 b8:List Pln
noncomputable def I9{α:Type}(kk:Z9->α)(x:Z8):α:=let t1:=(lp (K1 (⟨rt tX x.S5,(↑(List.length x.S5):Int)⟩:M3)) (⟨0,rt tP x.b8⟩:p6));(sl ((cnE tX x.S5)&&((cnE tP x.b8)&&true)) (sl (Nat.beq t1.1 1) (kk ⟨1,t1.2.is8,rt tP t1.2.b8⟩) (sl (Nat.beq t1.1 2) (kk ⟨1,-1,t1.2.b8⟩) (kk ⟨0,0,[]⟩))) (kk ⟨0,0,[]⟩))
noncomputable def na1(x:Z8):Z9:=I9 (λr=>r) x
noncomputable def ka8(x:Z8)(r:Z9):DT (a7×List a8):=(.ite (Nat.beq r.alt 1) (.ret (i r.is0,[⟨0,1,[[eL tP r.b8]],true,false,0⟩])) .fail)
theorem yb8{α β:Type}(F:α->β)(kk:Z9->α)(x:Z8):F (I9 kk x)=I9 (λr=>F (kk r)) x:=by unfold I9;(repeat' apply l5 (f:=F))<;>rfl
noncomputable def La9:Sum:=Ta1 ⟨[sLq tX,.fn 114 [.o (.ptr 0 0 0 0)]],[⟨0,1,true,some [[.c 4 (nL tP)]]⟩],λa H=>(⟨aLq tX a 0,hLq tP H 0 0 0⟩,())⟩ (λx=>ka8 x (na1 x))
theorem vb7:e7 prog G 171 La9:=L3 (enc:=λx=>⟨[eL tX x.S5,.fn 114 [.ptr 0 0 0 0]],[⟨0,1,[[eL tP x.b8]],true,false,0⟩]⟩) (λa H=>by kernel_rfl) (bd qf0 pb1) λx=>Da7 (.s .p (.s (.s .p (.b (.u ia0.ls))) .p)) [ia0.pr] (by kernel_rfl) (.cons mb1 .nil) (Qip (b:=I9 (λr=>(ka8 x r).run) x) (by kernel_rfl) (yb8 (λr=>(ka8 x r).run) (λr=>r) x).symm)
structure S1 where
 S5:List Pt
 b8:List Pln
noncomputable def ib5:List (Nat×Sum):=[(171,La9)]
theorem cb3:g9 prog G ib5:=⟨vb7,trivial⟩
structure S3 where
 alt:Nat
 bs0:Bool
 b8:List Pln
noncomputable def D5{α:Type}(kk:S3->α)(x:S1):α:=let t1:=(na1 ⟨rt tX x.S5,rt tP x.b8⟩);(sl ((cnE tX x.S5)&&((cnE tP x.b8)&&true)) (sl (Nat.beq t1.alt 1) (kk ⟨1,decide (t1.is0>=0),t1.b8⟩) (kk ⟨0,false,[]⟩)) (kk ⟨0,false,[]⟩))
noncomputable def fa3(x:S1):S3:=D5 (λr=>r) x
noncomputable def da5(x:S1)(r:S3):DT (a7×List a8):=(.ite (Nat.beq r.alt 1) (.ret (b r.bs0,[⟨0,1,[[eL tP r.b8]],true,false,0⟩])) .fail)
theorem mb2{α β:Type}(F:α->β)(kk:S3->α)(x:S1):F (D5 kk x)=D5 (λr=>F (kk r)) x:=by unfold D5;(repeat' apply l5 (f:=F))<;>rfl
noncomputable def Aa7:Sum:=Ta1 ⟨[sLq tX,.fn 114 [.o (.ptr 0 0 0 0)]],[⟨0,1,true,some [[.c 4 (nL tP)]]⟩],λa H=>(⟨aLq tX a 0,hLq tP H 0 0 0⟩,())⟩ (λx=>da5 x (fa3 x))
theorem ib6:e7 prog G 112 Aa7:=L3 (enc:=λx=>⟨[eL tX x.S5,.fn 114 [.ptr 0 0 0 0]],[⟨0,1,[[eL tP x.b8]],true,false,0⟩]⟩) (λa H=>by kernel_rfl) (bd pf2 cb3) λx=>A7 (Qip (b:=D5 (λr=>(da5 x r).run) x) (by kernel_rfl) (mb2 (λr=>(da5 x r).run) (λr=>r) x).symm)
noncomputable def Yc1:List (Nat×Sum):=[(55,va8),(109,Wa6),(113,Ba5),(112,Aa7)]
theorem Kc9:g9 prog G Yc1:=⟨wa7,eb2,Ga3,ib6,trivial⟩
noncomputable def Pa1(x:List Pln)(y:List Pln):Option (a7×List a8):=let t1:=(ja2 (rt tP x));let t2:=(pa1 [rt tP y]);let t3:=(ja0 (rt tP x));let t4:=(fa3 ⟨rt tX t3,rt tP y⟩);(sl (okE tP x) (sl (ja3 (rt tP x)) (sl t1 (sl ((okE tP y)&&true) (sl (pa2 [rt tP y]) (sl t2 (sl (okE tP x) (sl (ja1 (rt tP x)) (sl ((cnE tX t3)&&((cnE tP y)&&true)) (sl (Nat.beq t4.alt 1) (some (b (!t4.bs0),[])) none) none) none) none) (some (b false,[]))) none) none) (some (b false,[]))) none) none)
noncomputable def eb5(x:List Pln)(y:List Pln):Bool:=Q5 (one r1B) (Pa1 x y)
noncomputable def eb6(x:List Pln)(y:List Pln):Bool:=okO (one r1B) (Pa1 x y)
noncomputable def jc2:Sum:=ta3 (ba7 tP) (ba7 tP) (λx y=>.guard (eb6 x y) (.ret ((one r1B).enc (eb5 x y),[])))
theorem Yc2:e7 prog G 57 jc2:=Gb0 (bd b57 Kc9) (one r1B) (o:=Pa1) λx y=>A7 (by kernel_rfl)
noncomputable def Md6:List (Nat×Sum):=[]
theorem xd9:g9 prog G Md6:=trivial
structure Ob1 where
 (i9 xc8 xc9 yc0 yc1 yc2:Int)
noncomputable def vb8{α:Type}(kk:Ob1->α)(x:V3)(y:V3):α:=(kk ⟨y.x,W (0-x.x),y.y,W (0-x.y),y.z,W (0-x.z)⟩)
noncomputable def xa1(x:V3)(y:V3):Ob1:=vb8 (λr=>r) x y
noncomputable def Zb2(r:Ob1):DT (a7×List a8):=.ret (.sl 0 0 6 0,[⟨73,4,[[i 1,i 0,i 0,i r.i9],[i (-1),i 0,i 0,i r.xc8],[i 0,i 1,i 0,i r.xc9],[i 0,i (-1),i 0,i r.yc0],[i 0,i 0,i 1,i r.yc1],[i 0,i 0,i (-1),i r.yc2]],true,false,0⟩])
theorem Yd5{α β:Type}(F:α->β)(kk:Ob1->α)(x:V3)(y:V3):F (vb8 kk x y)=vb8 (λr=>F (kk r)) x y:=by unfold vb8;(repeat' apply l5 (f:=F))<;>rfl
noncomputable def nc4:Sum:=ta3 (oa3 tV) (oa3 tV) (λx y=>Zb2 (xa1 x y))
theorem Hc3:e7 prog G 63 nc4:=Ia9 (bd b63 xd9) λx y=>A7 (Qip (b:=vb8 (λr=>(Zb2 r).run) x y) (by kernel_rfl) (Yd5 (λr=>(Zb2 r).run) (λr=>r) x y).symm)
noncomputable def has(c:List Pln)(v:V3):Bool:=(chk c==0)&&(inV v&&inn c ⟨v.x,v.y,v.z,1⟩)
theorem Md7{a c:List Pln}(ha:(chk a==0)=true)(hc:(chk c==0)=true):Bds (a++c++ws)/\(a++c++ws).length<=200:=by
 rw[beq_iff_eq,za7] at ha hc;refine⟨λp hp=>?_,by rw[Qia,Qia,show ws.length=6 from rfl];omega⟩
 rcases Qiv.1 hp with hp|hp
 ·rcases Qiv.1 hp with hp|hp
  ·exact Cc1 (ha.2 p hp)
  ·exact Cc1 (hc.2 p hp)
 ·exact Xe9 p hp
noncomputable def apart(a c:List Pln):Bool:=!((chk a==0)&&(chk c==0))||!Kc4 (a++c++ws)
theorem Md8{a c:List Pln}(ha:a.length<=100000000)(hc:c.length<=100000000):Xa5 a c=some (b (apart a c),[]):=by
 have hn:[a,c].length<=1000000000:=by simp
 have hl:∀x∈[a,c],x.length<=1000000000:=by
  intro x hx;simp only[List.mem_cons,List.not_mem_nil,or_false] at hx
  rcases hx with rfl|rfl<;>omega
 have hf:[a,c].flatten=a++c:=by simp
 have hfl:[a,c].flatten.length<=1000000000:=by rw[hf,Qia];omega
 unfold Xa5 apart;simp only[i8,p7,Ld5 _ hn hl,Ld6 _ hn hl,qf5 _ hn hfl,qf6 _ hn hfl,hf,List.all_cons,List.all_nil,Qim];cases h1:chk a==0 with
 |false=>rfl
 |true =>
  cases h2:chk c==0 with
  |false=>rfl
  |true =>
   obtain⟨q1,q2⟩:=Md7 h1 h2;rw[Ae5 _ q1 q2,Ae6 _ q1 q2];rfl
theorem yd0{a c:List Pln}(ha:a.length<=100000000)(hc:c.length<=100000000):wa9 a c=apart a c:=by unfold wa9;rw[Md8 ha hc];rfl
theorem yd1{a c:List Pln}(ha:a.length<=100000000)(hc:c.length<=100000000):xa0 a c=true:=by unfold xa0;rw[Md8 ha hc];rfl
noncomputable def lies(a c:List Pln):Bool:=ful a&&((chk c==0)&&(pts a).all (inn c))
theorem Yd6(x:Pt)(c:List Pln)(hc:c.length<=1000000000):Qa7 ⟨x.px,x.py,x.pz,x.pw,c⟩=⟨1,!inn c x⟩:=by
 unfold Qa7 na9;simp only[i8,p7,j5];show sl (ia9 c x) (Aa5.mk 1 (!ia8 c x)) _=_;rw[Kd0 c x hc,Kd1 c x hc];rfl
theorem od7{a c:List Pln}(ha:a.length<=1000000000)(hc:c.length<=1000000000):Pa1 a c=some (b (lies a c),[]):=by
 have hX:=uc9 a;have h:=Ua7 (step:=K1 ⟨pts a,((pts a).length:Int)⟩) (mk:=λj=>(⟨(j:Int),c⟩:p6)) (c:=λx=>!inn c x) (u:=1) (fin:=2) tX (pts a) (by omega)
  (λj hj=>by
   simp only[K1,H7,Int.toNat_natCast,i8,n9,Yd6 _ _ hc,r8 hj (show (pts a).length<=4611686018427387904 by omega)]
   rw[btD (l0 hj),bt (d9 hj)]
   rfl)
  (by simp only[K1,H7];rw[bfD (D7 (Qie _))]) 0 (Qif _)
 rw[Qib] at h;have e:((pts a).any λx=>!inn c x)=!(pts a).all (inn c):=by rw[Qij]
 unfold Pa1 fa3 D5 na1 I9 lies;simp only[i8,n9,p7,nc2 ha,nc3 ha,Xc2 c hc,Xc3 c hc,Yb7 ha,Yb8 ha];rw[show (⟨0,c⟩:p6)=⟨((0:Nat):Int),c⟩ from rfl,h,e]
 cases ful a with
 |false=>rfl
 |true =>
  cases chk c==0 with
  |false=>rfl
  |true =>
   cases (pts a).all (inn c) with
   |true=>rfl
   |false =>
    simp only[Qix,if_true,Qid];show some (b (!(decide ((((pts a).findIdx λx=>!inn c x:Nat):Int)>=0))),[])=_
    rw[show decide ((((pts a).findIdx λx=>!inn c x:Nat):Int)>=0)=true from decide_eq_true (by omega)]
    rfl
theorem Be5{a c:List Pln}(ha:a.length<=1000000000)(hc:c.length<=1000000000):eb5 a c=lies a c:=by unfold eb5;rw[od7 ha hc];rfl
theorem Be6{a c:List Pln}(ha:a.length<=1000000000)(hc:c.length<=1000000000):eb6 a c=true:=by unfold eb6;rw[od7 ha hc];rfl
end Go.Ev.Ce
namespace Go.Ev.L
open Go Go.Ev Go.Sort Go.Proofs
section
variable{α:Type}[Inhabited α]{P:Program}{G:Nat->List Value}{g:FuncId}{S:Sum}{t:Ty α}{enc:α->List Value}{cf:α->α->Int}
theorem Pe7 (hc : e7 P G g S) (hS : ∀ x y, (S [.agg (t.row x), .agg (t.row y)] []).run = some (i (cf x y), [])) (hG : ∀ n, G n = []) (he : ∀ x, t.row x = (enc x).map .v) (k blk off size : Nat) (w : World) :
  CmpLays P g #[] enc k cf blk off size w:=by
 intro m os dk _ x y;generalize sortWorldK enc k w blk off m dk os=w0;have hrow:∀(z:α),fa7 (λ_=>⟨0,0,0⟩) [] (λ_ _=>False) w0 (.agg (t.row z)) (.agg (enc z).toArray):=λz=>by
  refine .agg _ _ (by rw[he];simp) λi u u' hu hu'=>?_
  rw[he,Qiq] at hu;have hu':(enc z)[i]?=some u':=by simpa using hu'
  rw[hu'] at hu;injection hu with hu;subst hu;exact .v _
 obtain⟨_,h⟩:=hc _ _ _ _ (hS x y) (λk=>w0.heap.size<=k) (λ_=>⟨0,0,0⟩) (λ_ _=>False) w0 [.agg (enc x).toArray,.agg (enc y).toArray]
  ⟨λid b hb=>by simp at hb,λid id' b b' hb=>by simp at hb,λb o hf=>hf.elim,λk hk=>hk⟩ rfl
  (λi u u' hu hu'=>by
   match i,hu,hu' with
   |0,hu,hu'=>cases hu;cases hu';exact .val (hrow x)
   |1,hu,hu'=>cases hu;cases hu';exact .val (hrow y))
  (λn c v hv=>by rw[hG] at hv;simp at hv)
 refine h.mono λe w' ⟨r',h1,ρ',F',h2,h3,h4⟩=>?_
 have h5:=ea0 h4;subst h5;refine⟨h1,w'.drawn-w0.drawn,w'.heap.extract w0.heap.size w'.heap.size,?_⟩;have hd:=h2.ext.drawn;have hs:=h2.ext.size;have hheap:w'.heap=w0.heap++w'.heap.extract w0.heap.size w'.heap.size:=by
  apply Array.ext_getElem?;intro j
  rcases Nat.lt_or_ge j w0.heap.size with hj|hj
  ·rw[Qin hj,h2.ext.block j hj (by omega)]
  ·rw[Array.getElem?_append_right hj,Array.getElem?_extract];have e:w0.heap.size+(j-w0.heap.size)=j:=by omega
   rw[e];split
   ·rfl
   ·rw[Qiab (by omega)]
 obtain⟨hp,tp,dr,os',out⟩:=w';have e1:=h2.ext.os;have e2:=h2.ext.tape;have e3:=h2.ext.output
 simp only at e1 e2 e3 hd hheap
 subst e1 e2 e3;unfold grow World.drewN
 simp only
 congr 1;omega
noncomputable def Be7(t:Ty α)(g:Nat)(et:Nat)(srt:List α->List α):Sum:=λargs blks=>match args,blks with
 |[.sl 0 0 n 0,.fn g' []],[⟨et',es',el,true,false,0⟩] =>
  Bool.rec (motive:=λ_=>DT (a7×List a8)) .fail (.guard (Bool.and (Nat.ble n room) (Bool.and (Nat.ble n (len el)) (okS t el 0 n))) (.ret (.v (.tuple #[]),[⟨et',es',app (bL t (srt (slR t el 0 n))) (e8 el n),true,false,0⟩])))
   (Bool.and (Nat.beq g' g) (Bool.and (Nat.beq et' et) (Nat.beq es' t.es)))
 |_,_=>.fail
theorem vc3(l:List α)(j:Nat)(h:j<l.length):l.toArray[j]! = l[j]:=by
 rw[getElem!_pos l.toArray j (by simpa using h)]
 simp
theorem Pe8 {f : FuncId} {et : Nat} {srt : List α → List α} (hcall : rb9 P f) (hes : 0 < t.es) (he : ∀ x, t.row x = (enc x).map .v) (hx : ∀ r, t.ok r = true → r = t.row (t.rd r)) (h1 : ∀ x, ∀ v ∈ enc x, v.oneCell' = true)
  (hlen:∀l,(srt l).length=l.length) (hcl:∀blk off size w,CmpLays P g #[] enc t.es cf blk off size w)
  (hcon:∀(blk cap:Nat) (d:Array α) (w:World),(∀off size,CmpLays P g #[] enc t.es cf blk off size w)->HoldsK enc t.es w blk 0 d->blk<w.heap.size->d.size<4611686018427387904 ->
   Calls P f #[.slice (some ⟨blk,0,none⟩) d.size cap,.func (.func g) #[] #[]] w λe w'=>e=.returned (.tuple #[])/\∃n os,w'=sortWorldK enc t.es w blk 0 n (srt d.toList).toArray os) :
  e7 P G f (Be7 t g et srt):=by
 intro args blks r out hr W ρ F w args' hH hl hargs hG;refine⟨hcall,?_⟩;unfold Be7 at hr
 split at hr
 case h_2=>cases hr
 rename_i n g' et' es' el;cases hb0:Bool.and (Nat.beq g' g) (Bool.and (Nat.beq et' et) (Nat.beq es' t.es)) with
 |false=>rw[hb0] at hr;cases hr
 |true =>
 rw[hb0] at hr;rw[Qic,Qic] at hb0;have q1:=Qis hb0.1;have q2:=Qis hb0.2.1;have q3:=Qis hb0.2.2;subst q1 q2 q3;obtain⟨hg0,hr⟩:=DT.run_guard_some hr;rw[Qic,Qic] at hg0;have hroom:n<=room:=Qiac hg0.1;have hn:=Qiac hg0.2.1;rw[l9] at hn;have hok:=hg0.2.2;injection hr with hr;injection hr with p1 p2;subst p1 p2
 match args',hl with
 |[v0,v1],_ =>
 obtain⟨a,cap,b,rfl,hb,hd,_,hncap,hspot,hcap,hq⟩:=Ma3 (hargs 0 _ _ rfl rfl);obtain⟨vs1,rfl,hvs1,_⟩:=Jb7 (hargs 1 _ _ rfl rfl);have hvs1:vs1=#[]:=Array.eq_empty_of_size_eq_zero (by simpa using hvs1.symm)
 subst hvs1;rw[qb3] at *
 have hb:b=⟨et',t.es,el,true,false,0⟩:=by simpa using hb.symm
 subst hb;obtain⟨ha,hsz,hne⟩:=hq rfl;have ha:a=⟨(ρ 0).blk,(ρ 0).off+0*t.es,none⟩:=ha.resolve_left λh=>by omega
 obtain⟨cc,tt,fr,hB⟩:=hH.blk 0 _ rfl rfl;obtain⟨hfr,hW,hoff,hsize,hnF,het⟩:=hB.own rfl;subst hfr;rw[hoff,Nat.zero_mul,Nat.add_zero] at ha;subst ha;generalize hbk:(ρ 0).blk=blk at *
 -- the rows asq data
 have hrow:∀j,j<n->i6 el j=(enc (gL t (slR t el 0 n) j)).map .v:=λj hj=>by
  have h2:t.ok (i6 el (0+j))=true:=Qir.1 hok j (by simpa using hj)
  rw[Qid] at h2;rw[<- he,slR,be9 t _ hj,Qid];exact hx _ h2
 have hld:(slR t el 0 n).length=n:=be8 ..;have hk:∀x,(enc x).length=t.es:=λx=>by have:=t.h0 x;rw[l9,he] at this;simpa using this
 have hlt:blk<w.heap.size:=by
  have:=hB.obj
  rcases Nat.lt_or_ge blk w.heap.size with h|h
  ·exact h
  ·rw[hbk,Qiab h] at this;cases this
 have hobj:w.heap[blk]?=some (.cells cc tt (0,0)):=by rw[<- hbk];exact hB.obj
 have hgd:∀(l:List α) (j:Nat) (h:j<l.length),gL t l j=l[j]:=λl j h=>by simp[gL,Qil,Qik h]
 have hdm:∀q,q<n*t.es->q / t.es<n/\q % t.es<t.es/\(q / t.es)*t.es+q % t.es=q:=λq hq=>⟨Nat.div_lt_of_lt_mul (by rw[Nat.mul_comm];exact hq),Nat.mod_lt _ hes,Nat.div_add_mod' q t.es⟩
 have hrowAt:∀j,j<el.length->el[j]?=some (i6 el j):=λj hj=>by
  unfold i6;rw[D6,Qik hj]
 have hH0:HoldsK enc t.es w blk 0 (slR t el 0 n).toArray:=by
  intro q hq;have hq:q<n*t.es:=by rw[size_flatK] at hq;simpa [hld] using hq
  obtain⟨e1,e2,e3⟩:=hdm q hq;rw[get_flatK _ _ _ _ (by simpa [hld] using hq),vc3 _ _ (by rw[hld];exact e1),<- hgd _ _ (by rw[hld];exact e1)]
  have hcx:(i6 el (q / t.es))[q % t.es]?=some (.v ((enc (gL t (slR t el 0 n) (q / t.es)))[q % t.es]!)):=by
   rw[hrow _ e1,Qiq,Qik (by rw[hk];exact e2),getElem!_pos _ _ (by rw[hk];exact e2)]
   rfl
  obtain⟨x',h5,h6⟩:=hB.cell (q / t.es) _ (q % t.es) _ (hrowAt _ (by omega)) hcx
  have h6:x'=(enc (gL t (slR t el 0 n) (q / t.es)))[q % t.es]! :=by cases h6;rfl
  subst h6;rw[hoff] at h5;simp only[e3,Qid] at h5;constructor
  ·simp only[World.cell?,hobj,Qid];simpa using h5
  ·simp[World.frozen?,hobj]
 have hds:(slR t el 0 n).toArray.size=n:=by simpa using hld
 have hmax:n<4611686018427387904:=by unfold room at hroom;omega
 have hcalls:=hcon blk cap (slR t el 0 n).toArray w (λoff size=>hcl blk off size w) hH0 hlt (by rw[hds];exact hmax)
 rw[hds] at hcalls;refine hcalls.mono λe w' ⟨h5,m,os,h6⟩=>⟨_,h5,ρ,F,?_⟩
 generalize hsd:srt (slR t el 0 n)=sd at *
 have hsl:sd.length=n:=by rw[<- hsd,hlen,hld]
 have h6:w'=grow (mapBlock (Sort.ahead w m) blk (putCells id 0 (flatK enc t.es sd.toArray))) os:=h6;have hw'size:w'.heap.size=w.heap.size+os.size:=by rw[h6];simp[mapBlock]
 have hold:∀k,k<w.heap.size->k≠blk->w'.heap[k]?=w.heap[k]?:=λk h7 h8=>by
  rw[h6];simp only[grow,mapBlock];rw[Qin (by simpa using h7),Qiad]
  simp[Ne.symm h8]
 have hnew:w'.heap[blk]?=some (.cells (putCells id 0 (flatK enc t.es sd.toArray) cc) tt (0,0)):=by
  rw[h6];simp only[grow,mapBlock];rw[Qin (by simpa using hlt),Qiad]
  simp[hobj,onCells]
 have hcells:∀b o,F b o->w'.cell? ⟨b,o,none⟩=w.cell? ⟨b,o,none⟩:=λb o hf=>by
  have h7:b≠blk:=λh8=>hnF o (h8 ▸ hf)
  have:=Jb5 (hH.frz b o hf)
  simp only[World.cell?,hold b this h7]
 have hpc:∀q,q<cc.size->(putCells id 0 (flatK enc t.es sd.toArray) cc)[q]?=if q<n*t.es then some ((enc sd.toArray[q / t.es]!)[q % t.es]!) else cc[q]?:=λq hq=>by
  simp only[putCells,Array.getElem?_mapIdx,Array.getElem?_eq_getElem hq,Option.map_some,size_flatK,Qif,true_and,Qid,Nat.sub_zero,id]
  have:sd.toArray.size=n:=by simpa using hsl
  rw[this];split
  ·next h7=>rw[get_flatK _ _ _ _ (by rw[this];exact h7)]
  ·rfl
 have hel:(app (bL t sd) (e8 el n)).length=el.length:=by
  rw[J1,Qia,<- l9 (bL t sd),qa8,hsl,N1,Qii];omega
 have hnrow:∀(j:Nat) r,(app (bL t sd) (e8 el n))[j]?=some r->(j<n/\r=t.row (gL t sd j))\/(n<=j/\el[j]?=some r):=λj r hr=>by
  have hlb:(bL t sd).length=n:=by rw[<- l9,qa8,hsl]
  rw[J1] at hr
  rcases Nat.lt_or_ge j n with h7|h7
  ·rw[List.getElem?_append_left (by omega)] at hr
   left;refine⟨h7,?_⟩;unfold bL at hr;rw[o5,Qiq,Qik (by omega)] at hr
   injection hr with hr;rw[<- hr,hgd sd j (by omega)]
  ·rw[List.getElem?_append_right (by omega),hlb,N1,List.getElem?_drop] at hr
   right;exact⟨h7,by rw[<- hr];congr 1;omega⟩
 have hcs:el.length*t.es<=cc.size:=by have:=hB.len;rw[hsize] at this;exact this
 refine⟨⟨⟨?_,?_,?_,by omega,λk h7 h8=>hold k h7 λh9=>h8 (h9 ▸ hW),hcells,?_⟩,λid b hb=>?_,λ_ _ h=>h,λ_ _ h=>.inl h,λid b' hb' hn'=>?_⟩,⟨λid b hb hd'=>?_,λid id' b b' hb hb' h7 h8 h9 h10=>?_,λb o hf=>by rw[hcells b o hf];exact hH.frz b o hf,λk hk'=>hH.new k (by omega)⟩,.ofv _⟩
 ·rw[h6];rfl
 ·rw[h6];rfl
 ·rw[h6];rfl
 ·rw[h6];exact Nat.le_add_right _ _
 ·match id,hb with
  |0,hb =>
   cases hb;exact⟨_,rfl,rfl,Nat.le_refl _,λ_=>⟨rfl,rfl,by simp only[hel];exact Nat.le_refl _⟩⟩
 ·match id,hb' with
  |0,hb'=>cases hb';exact absurd rfl (hn' ⟨et',t.es,el,true,false,0⟩ rfl)
 ·match id,hb with
  |0,hb =>
   cases hb;refine⟨_,tt,(0,0),by rw[hbk];exact hnew,?_,?_,?_,?_,λ_=>⟨rfl,by rw[hbk];exact hW,hoff,?_,by rw[hbk];exact hnF,het⟩,λh=>by cases h⟩
   ·rw[hoff,hsize];simp[putCells]
   ·simp only[hel];exact hB.len
   ·intro j r hr
    rcases hnrow j r hr with⟨_,h8⟩|⟨_,h8⟩
    ·rw[h8,<- l9];exact t.h0 _
    ·exact hB.rows j r h8
   ·intro j r c x hr hc;rw[hoff,Qid]
    rcases hnrow j r hr with⟨h7,h8⟩|⟨h7,h8⟩
    ·subst h8;have hclt:c<t.es:=by
      have:=(List.getElem?_eq_some_iff.1 hc).1
      rw[<- l9,t.h0] at this;exact this
     have hq:j*t.es+c<n*t.es:=by
      have:=Qiw t.es (show j+1<=n from h7)
      rw[Nat.add_mul,Nat.one_mul] at this;omega
     have hqn:n*t.es<=el.length*t.es:=Qiw _ hn;have e1:(j*t.es+c) / t.es=j:=by rw[Nat.mul_comm,Nat.mul_add_div hes,Nat.div_eq_of_lt hclt,Nat.add_zero]
     have e2:(j*t.es+c) % t.es=c:=by rw[Nat.mul_comm,Nat.mul_add_mod,Nat.mod_eq_of_lt hclt]
     rw[he,Qiq,Qik (by rw[hk];exact hclt)] at hc
     injection hc with hc;subst hc;refine⟨(enc (gL t sd j))[c]'(by rw[hk];exact hclt),?_,.v _ (h1 _ _ (Qih _))⟩
     rw[hpc _ (Nat.lt_of_lt_of_le hq (Qiu hqn hcs)),if_pos hq,e1,e2,vc3 _ _ (by omega),hgd sd j (by omega),getElem!_pos _ _ (by rw[hk];exact hclt)]
    ·obtain⟨x',h9,h10⟩:=hB.cell j r c x h8 hc;rw[hoff,Qid] at h9;have hq:¬ j*t.es+c<n*t.es:=by
      have:=Qiw t.es h7
      omega
     have hlt':j*t.es+c<cc.size:=(Array.getElem?_eq_some_iff.1 h9).1;exact⟨x',by rw[hpc _ hlt',if_neg hq];exact h9,h10.adv (λ_ _ h=>h) hcells⟩
   ·rw[hsize];simp[putCells]
 ·match id,hb,id',hb' with
  |0,hb,0,hb'=>exact absurd rfl h10
end
end Go.Ev.L
namespace Go.Proofs
open Go.Shelf
set_option maxRecDepth 100000 in
def Ce.sortLay_ren:Go.Shelf.Ren:=⟨fun | 6=>121 | 15=>180 | 14=>179 | 28=>207 | 29=>208 | 20=>199 | 21=>200 | 22=>201 | 23=>202 | 24=>203 | 25=>204 | 26=>205 | 27=>206 | 46=>223 | 47=>224 | 48=>225 | 49=>226 | 50=>227 | 57=>233 | n=>n,fun | 22=>24 | 24=>73 | 25=>148 | 3=>3 | 39=>173 | 0=>0 | 53=>197 | 55=>199 | 4=>4 | 46=>191 | 45=>190 | 50=>50 | 5=>5 | 9=>9 | 66=>210 | 70=>214 | 76=>218 | 77=>219 | n=>n,fun | n=>n⟩
set_option maxRecDepth 100000 in
theorem Ce.sortLay:Go.Proofs.SlLaysF0.n6 Tryz.prog Ce.sortLay_ren:={
 mixed:=by kernel_rfl
 f6:=⟨Tryz.f121.name,by decide,Tryz.func121.trans (congrArg some (by kernel_rfl))⟩
 f14:=⟨Tryz.f179.name,by decide,Tryz.func179.trans (congrArg some (by kernel_rfl))⟩
 f15:=Tryz.func180.trans (congrArg some (by kernel_rfl))
 f20:=⟨Tryz.f199.name,by decide,Tryz.func199.trans (congrArg some (by kernel_rfl))⟩
 f21:=⟨Tryz.f200.name,by decide,Tryz.func200.trans (congrArg some (by kernel_rfl))⟩
 f22:=⟨Tryz.f201.name,by decide,Tryz.func201.trans (congrArg some (by kernel_rfl))⟩
 f23:=⟨Tryz.f202.name,by decide,Tryz.func202.trans (congrArg some (by kernel_rfl))⟩
 f24:=⟨Tryz.f203.name,by decide,Tryz.func203.trans (congrArg some (by kernel_rfl))⟩
 f25:=⟨Tryz.f204.name,by decide,Tryz.func204.trans (congrArg some (by kernel_rfl))⟩
 f26:=⟨Tryz.f205.name,by decide,Tryz.func205.trans (congrArg some (by kernel_rfl))⟩
 f27:=⟨Tryz.f206.name,by decide,Tryz.func206.trans (congrArg some (by kernel_rfl))⟩
 f28:=Tryz.func207.trans (congrArg some (by kernel_rfl))
 f29:=Tryz.func208.trans (congrArg some (by kernel_rfl))
 f46:=⟨Tryz.f223.name,by decide,Tryz.func223.trans (congrArg some (by kernel_rfl))⟩
 f47:=Tryz.func224.trans (congrArg some (by kernel_rfl))
 f48:=Tryz.func225.trans (congrArg some (by kernel_rfl))
 f49:=⟨Tryz.f226.name,by decide,Tryz.func226.trans (congrArg some (by kernel_rfl))⟩
 f50:=⟨Tryz.f227.name,by decide,Tryz.func227.trans (congrArg some (by kernel_rfl))⟩
 f57:=⟨Tryz.f233.name,by decide,Tryz.func233.trans (congrArg some (by kernel_rfl))⟩
 t0:=Tryz.underlying0
 a0:=Tryz.isAgg0
 z0:=Tryz.sizeOf0
 v0:=Tryz.zeroValue0
 t3:=Tryz.underlying3
 a3:=Tryz.isAgg3
 z3:=Tryz.sizeOf3
 v3:=Tryz.zeroValue3
 t4:=Tryz.underlying4
 a4:=Tryz.isAgg4
 z4:=Tryz.sizeOf4
 v4:=Tryz.zeroValue4
 t5:=Tryz.underlying5
 a5:=Tryz.isAgg5
 z5:=Tryz.sizeOf5
 v5:=Tryz.zeroValue5
 t9:=Tryz.underlying9
 a9:=Tryz.isAgg9
 z9:=Tryz.sizeOf9
 v9:=Tryz.zeroValue9
 t22:=Tryz.underlying24
 a22:=Tryz.isAgg24
 z22:=Tryz.sizeOf24
 v22:=Tryz.zeroValue24
 t25:=Tryz.underlying148
 a25:=Tryz.isAgg148
 z25:=Tryz.sizeOf148
 v25:=Tryz.zeroValue148
 t39:=Tryz.underlying173
 a39:=Tryz.isAgg173
 z39:=Tryz.sizeOf173
 v39:=Tryz.zeroValue173
 t45:=Tryz.underlying190
 a45:=Tryz.isAgg190
 z45:=Tryz.sizeOf190
 v45:=Tryz.zeroValue190
 t46:=Tryz.underlying191
 a46:=Tryz.isAgg191
 z46:=Tryz.sizeOf191
 v46:=Tryz.zeroValue191
 t50:=Tryz.underlying50
 a50:=Tryz.isAgg50
 z50:=Tryz.sizeOf50
 v50:=Tryz.zeroValue50
 t53:=Tryz.underlying197
 a53:=Tryz.isAgg197
 z53:=Tryz.sizeOf197
 v53:=Tryz.zeroValue197
 t55:=Tryz.underlying199
 a55:=Tryz.isAgg199
 z55:=Tryz.sizeOf199
 v55:=Tryz.zeroValue199
 t66:=Tryz.underlying210
 a66:=Tryz.isAgg210
 z66:=Tryz.sizeOf210
 v66:=Tryz.zeroValue210
 t70:=Tryz.underlying214
 a70:=Tryz.isAgg214
 z70:=Tryz.sizeOf214
 v70:=Tryz.zeroValue214
 t76:=Tryz.underlying218
 a76:=Tryz.isAgg218
 z76:=Tryz.sizeOf218
 v76:=Tryz.zeroValue218
 t77:=Tryz.underlying219
 a77:=Tryz.isAgg219
 z77:=Tryz.sizeOf219
 v77:=Tryz.zeroValue219 }
end Go.Proofs
namespace Go.Ev.Ce
open Go Go.Ev Go.Ev.L Go.Proofs Go.Sort
def vb9(x y:Int):Int:=if x<y then -1 else if x>y then 1 else 0
def na2(x y:Pln):Int :=
 if vb9 x.n.x y.n.x=0 then if vb9 x.n.y y.n.y=0 then if vb9 x.n.z y.n.z=0 then vb9 x.b y.b else vb9 x.n.z y.n.z else vb9 x.n.y y.n.y else vb9 x.n.x y.n.x
theorem Oc0(x y:Int):vb9 x y<0↔x<y:=by unfold vb9;split<;>(try split)<;>omega
theorem yd2(x y:Int):vb9 x y=0↔x=y:=by unfold vb9;split<;>(try split)<;>omega
def LtP(x y:Pln):Prop:=x.n.x<y.n.x\/x.n.x=y.n.x/\(x.n.y<y.n.y\/x.n.y=y.n.y/\(x.n.z<y.n.z\/x.n.z=y.n.z/\x.b<y.b))
instance(x y:Pln):Decidable (LtP x y):=by unfold LtP;exact inferInstance
theorem yd3(x y:Pln):na2 x y<0↔LtP x y:=by
 have h1:=Oc0 x.n.x y.n.x;have h2:=yd2 x.n.x y.n.x;have h3:=Oc0 x.n.y y.n.y;have h4:=yd2 x.n.y y.n.y;have h5:=Oc0 x.n.z y.n.z;have h6:=yd2 x.n.z y.n.z;have h7:=Oc0 x.b y.b;unfold na2 LtP;split
 ·split
  ·split<;>omega
  ·omega
 ·omega
theorem cb4(x y:Pln):ltOf na2 x y=decide (LtP x y):=by
 unfold ltOf;rw[decide_eq_decide];exact yd3 x y
theorem rf2:SWO (ltOf na2) where
 irrefl x:=by rw[cb4];simp[LtP]
 trans x y z h1 h2:=by rw[cb4,decide_eq_true_eq] at *;unfold LtP at *;omega
 ntrans x y z h1 h2:=by rw[cb4,decide_eq_false_iff_not] at *;unfold LtP at *;omega
theorem Bf8(x y:Pln)(h1:ltOf na2 x y=false)(h2:ltOf na2 y x=false):x=y:=by
 rw[cb4,decide_eq_false_iff_not] at *
 unfold LtP at *
 obtain⟨⟨a,b,c⟩,d⟩:=x;obtain⟨⟨a',b',c'⟩,d'⟩:=y
 simp only at *
 have:a=a'/\b=b'/\c=c'/\d=d':=by omega
 obtain⟨rfl,rfl,rfl,rfl⟩:=this;rfl
theorem Md9(x y:Int):Pa0 x y=some (i (vb9 x y),[]):=by
 unfold Pa0 vb9;simp only[sb4,decide_eq_true_eq]
 split<;>(try split)<;>rfl
theorem Pe9(x y:Int):ra6 x y=vb9 x y:=by unfold ra6;rw[Md9];rfl
theorem Qe0(x y:Int):ra7 x y=true:=by unfold ra7;rw[Md9];rfl
theorem Yc3(x y:Pln):Aa4 x y=some (i (na2 x y),[]):=by
 unfold Aa4 na2;simp only[Pe9,Qe0,sb4,beq_iff_eq,if_true]
 repeat' (first | rfl | split)
theorem rf3(x y:Pln):Qa4 x y=na2 x y:=by unfold Qa4;rw[Yc3];rfl
theorem rf4(x y:Pln):Qa5 x y=true:=by unfold Qa5;rw[Yc3];rfl
theorem rf5(x y:Pln):(mb0 [.agg (tP.row x),.agg (tP.row y)] []).run=some (i (na2 x y),[]):=by
 have:(mb0 [.agg (tP.row x),.agg (tP.row y)] []).run=sel (Qa5 x y) (some (i (Qa4 x y),[])) none:=by kernel_rfl
 rw[this,rf4,rf3]
def Ac5(p:Pln):List Value:=[.int .i64 p.n.x,.int .i64 p.n.y,.int .i64 p.n.z,.int .i64 p.b]
instance:Inhabited Pln:=⟨⟨⟨0,0,0⟩,0⟩⟩
def Sa8(l:List Pln):List Pln:=l.mergeSort λx y=>!ltOf na2 y x
theorem ec5(l:List Pln):(Sa8 l).length=l.length:=List.length_mergeSort l
noncomputable def ua9:Sum:=Be7 tP 122 73 Sa8
theorem Be8:Ce.sortLay_ren.f 6=121:=by kernel_rfl
theorem od8:Ce.sortLay_ren.t 24=73:=by kernel_rfl
set_option maxRecDepth 100000 in
theorem Pa2:e7 prog G 121 ua9:=by
 refine Pe8 (enc:=Ac5) (cf:=na2) ⟨_,Tryz.func121,by kernel_rfl,of_decide_eq_true (by kernel_rfl)⟩ (by decide) (λ_=>rfl) (λr h=>bb1 (n:=4) h) (λx v hv=>?_) ec5
  (λblk off size w=>Pe7 Cc7 rf5 (λ_=>rfl) (λ_=>rfl) _ _ _ _ _) (λblk cap d w hcl hH hb hs=>?_)
 ·simp[Ac5] at hv
  rcases hv with rfl|rfl|rfl|rfl<;>rfl
 ·have eg:∀args w,(callFunc 122 args).run Tryz.prog w=.ok (.enter 122 args) w:=enters_of Tryz.func122 (by kernel_rfl) rfl
  have:=AnyQ.slices_SortFunc Ce.sortLay 4 (by rw[od8];exact Tryz.isAgg73) (by rw[od8];exact Tryz.sizeOf73) Ac5 (λ_=>rfl) (λx v hv=>by simp[Ac5] at hv;rcases hv with rfl | rfl | rfl | rfl<;>rfl) na2 rf2 122 #[] blk 0 cap d w eg (hcl 0 d.size) hH hb hs
  rw[Be8] at this;refine this.mono λe w' ⟨h1,d',n,os,h2,h3,h4⟩=>⟨h1,n,os,?_⟩
  have h5:=sorted_unique_holds rf2 Bf8 d d' h2 h3;rw[h4];show _=sortWorldK Ac5 4 w blk 0 n (d.toList.mergeSort λx y=>!ltOf na2 y x).toArray os
  rw[<- h5]
end Go.Ev.Ce
namespace Go.Ev.Ce
open Go Go.Ev Go.Ev.L Go.Proofs
set_option maxRecDepth 100000
noncomputable def Sb0:List (Nat×Sum):=[]
theorem Ob2:g9 prog G Sb0:=trivial
structure pa7 where
 (alt ns0:Nat)
 eh0:List (List a7)
noncomputable def T4{α:Type}(kk:pa7->α)(x:Pln×List Pln):α:=(sl (Nat.beq 0 0&&Nat.ble ((0+(len (n5 (λk=>(tP).row (gL tP (x.1::x.2) k)) (List.range (List.length x.2+1)))))*32) room) (kk ⟨1,(0+(len (n5 (λk=>(tP).row (gL tP (x.1::x.2) k)) (List.range (List.length x.2+1))))),(app [] (n5 (λk=>(tP).row (gL tP (x.1::x.2) k)) (List.range (List.length x.2+1))))⟩) (kk ⟨0,0,[]⟩))
noncomputable def pa8(x:Pln×List Pln):pa7:=T4 (λr=>r) x
noncomputable def Ca5(r:pa7):DT (a7×List a8):=(.ite (Nat.beq r.alt 1) (.ret (.sl 0 0 r.ns0 0,[⟨73,4,r.eh0,true,false,0⟩])) .fail)
theorem Zb3{α β:Type}(F:α->β)(kk:pa7->α)(x:Pln×List Pln):F (T4 kk x)=T4 (λr=>F (kk r)) x:=by unfold T4;(repeat' apply l5 (f:=F))<;>rfl
noncomputable def ib7:Sum:=ca7 (ue3 tP) (λx=>Ca5 (pa8 x))
theorem Sb1:e7 prog G 151 ib7:=Kb5 (bd df1 Ob2) λx=>A7 (Qip (b:=T4 (λr=>(Ca5 r).run) x) (by kernel_rfl) (Zb3 (λr=>(Ca5 r).run) (λr=>r) x).symm)
noncomputable def yd4:List (Nat×Sum):=[(55,va8),(113,Ba5),(151,ib7),(150,na0),(121,ua9),(154,wa8)]
theorem gd9:g9 prog G yd4:=⟨wa7,Ga3,Sb1,Ga9,Pa2,Sa7,trivial⟩
noncomputable def ib8(x:Pln×List Pln):Option (a7×List a8):=let t1:=(ja2 (rt tP (x.1::x.2)));let t2:=(ja0 (rt tP (x.1::x.2)));let t3:=(pa8 (hC tP (λk=>(tP).row (gL tP (x.1::x.2) k)),tC tP (List.length x.2) (λk=>(tP).row (gL tP (x.1::x.2) k))));let t4:=(I8 ⟨t3.ns0,t3.eh0,rt tX t2⟩);let t5:=(W5 ⟨t4.ns0,app (bL tP (Sa8 (slR tP t4.eh0 0 t4.ns0))) (e8 t4.eh0 t4.ns0)⟩);(sl (okE tP (x.1::x.2)) (sl (ja3 (rt tP (x.1::x.2))) (sl (!t1) (some (.v (.slice none 0 0),[])) (sl (okE tP (x.1::x.2)) (sl (ja1 (rt tP (x.1::x.2))) (sl (okL tP (List.length x.2+1) (λk=>(tP).row (gL tP (x.1::x.2) k))) (sl (Nat.beq t3.alt 1) (sl ((cnE tX t2)&&true) (sl (Nat.beq t4.alt 1) (sl (Bool.and (Nat.ble t4.ns0 room) (Bool.and (Nat.ble t4.ns0 (len t4.eh0)) (okS tP t4.eh0 0 t4.ns0))) (sl (Nat.beq t5.alt 1) (some (.sl 0 0 t5.ns0 0,[⟨73,4,t5.eh0,true,false,0⟩])) none) none) none) none) none) none) none) none)) none) none)
noncomputable def Hc4(x:Pln×List Pln):List Pln:=Q5 (one (r1L tP)) (ib8 x)
noncomputable def Hc5(x:Pln×List Pln):Bool:=okO (one (r1L tP)) (ib8 x)
noncomputable def Nd0:Sum:=ca7 (ue3 tP) (λx=>.guard (Hc5 x) (.ret ((one (r1L tP)).enc (Hc4 x),[])))
theorem yd5:e7 prog G 98 Nd0:=Ta0 (bd b98 gd9) (one (r1L tP)) (o:=ib8) λx=>A7 (by kernel_rfl)
end Go.Ev.Ce
