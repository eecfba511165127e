/- Own work. -/
import Derived.Test.YtekgjjgbdcgldaaGreatEvOE1
set_option linter.all false
def Qia:=@List.drop_zero
def Qib:=@List.length_append
def Qic:=@Nat.lt_irrefl
def Qid:=@List.length_drop
def Qie:=@Nat.zero_le
def Qif:=@List.mem_cons_of_mem
def Qig:=@Bool.and_eq_true
def Qih:=@List.getElem_mem
def Qii:=@List.not_all_eq_any_not
def Qij:=@Nat.zero_add
def Qik:=@Nat.beq_refl
def Qil:=@Bool.and_true
def Qim:=@List.drop_eq_getElem_cons
def Qin:=@List.length_take
def Qio:=@List.mem_of_mem_drop
def Qip:=@List.mem_cons_self
def Qiq:=@List.getD_eq_getElem?_getD
def Qir:=@List.append_assoc
def Qis:=@Bool.not_eq_true
def Qit:=@List.all_eq_true
def Qiu:=@List.mem_append
def Qiv:=@List.drop_eq_nil_of_le
def Qiw:=@Bool.not_false
def Qix:=@List.map_congr_left
def Qiy:=@Nat.le_trans
namespace Go.Ev.Ce
open Go Go.Ev Go.Ev.L Go.Proofs
noncomputable def inn(l:List Pln)(x:Pt):Bool:=l.all λp=>!decide (rm p x<0)
theorem ke9(l:List Pln)(x:Pt):inn l x=!l.any λp=>decide (rm p x<0):=by unfold inn;rw[List.not_any_eq_all_not]
theorem zf4(p:Pln)(x:Pt):lb4 ⟨p.n.x,p.n.y,p.n.z,p.b,x.px,x.py,x.pz,x.pw⟩=⟨decide (rm p x<0)⟩:=by
 show za5.mk (decide (wa7 p x<0))=_;rw[Dd6]
theorem We6(l:List Pln)(x:Pt)(hl:l.length<=1000000000):Z1 ⟨l,x.px,x.py,x.pz,x.pw⟩=⟨1,if l.any (λp=>decide (rm p x<0)) then ((l.findIdx (λp=>decide (rm p x<0)):Nat):Int) else -1⟩:=by
 have h:=Qa3 (step:=I9 ⟨l,(l.length:Int),x.px,x.py,x.pz,x.pw⟩) (mk:=λj=>(⟨(j:Int)⟩:p6)) (c:=λp=>decide (rm p x<0)) (u:=1) (fin:=2) tP l hl
  (λj hj=>by
   simp only[I9,G4,Int.toNat_natCast,zf4,o4 hj (by omega)]
   rw[bt (Yb4 hj),bt (f7 hj)])
  (by simp only[I9,G4];rw[bf (Nb1 (Qic _))]) 0 (Qie _)
 rw[Qia] at h;unfold Z1 H5;simp only[i5,i8];rw[show (⟨0⟩:p6)=⟨((0:Nat):Int)⟩ from rfl,h]
 split
 ·simp only[Qij];rfl
 ·rfl
theorem ud1(l:List Pln)(x:Pt)(hl:l.length<=1000000000):Oa2 l x=some (b (inn l x),[]):=by
 unfold Oa2 fa8 D4;simp only[i5,i8,We6 l x hl,ke9];split
 ·rename_i h;rw[h,show decide (((l.findIdx (λp=>decide (rm p x<0)):Nat):Int)>=0)=true from decide_eq_true (by omega)];rfl
 ·rename_i h;rw[Qis] at h;rw[h];rfl
theorem He2(l:List Pln)(x:Pt)(hl:l.length<=1000000000):Ca4 l x=inn l x:=by unfold Ca4;rw[ud1 l x hl];rfl
theorem He3(l:List Pln)(x:Pt)(hl:l.length<=1000000000):Ca5 l x=true:=by unfold Ca5;rw[ud1 l x hl];rfl
theorem gf7(l:List Pln)(x:Pt)(hl:l.length<=1000000000):Zb6 l x=some (b (inn l x),[]):=by
 have h:=lb0 (step:=gb5 ⟨l,x.px,x.py,x.pz,x.pw⟩) (mk:=λj=>(⟨(j:Int)⟩:xa4)) (c:=λp=>decide (rm p x<0)) (u:=1) (fin:=2) tP l hl
  (λj hj=>by
   simp only[gb5,Va8,Int.toNat_natCast,Tc4,o4 hj (by omega)]
   rw[bt (Yb4 hj),bt (f7 hj)])
  (by simp only[gb5,Va8];rw[bf (Nb1 (Qic _))]) 0 (Qie _)
 rw[Qia] at h;unfold Zb6;simp only[i5,i8,ke9];rw[show (⟨0⟩:xa4)=⟨((0:Nat):Int)⟩ from rfl,h]
 split
 ·rename_i h;rw[h];rfl
 ·rename_i h;rw[Qis] at h;rw[h];rfl
theorem Mf1(l:List Pln)(x:Pt)(hl:l.length<=1000000000):Ib4 l x=inn l x:=by unfold Ib4;rw[gf7 l x hl];rfl
theorem Mf2(l:List Pln)(x:Pt)(hl:l.length<=1000000000):Ib5 l x=true:=by unfold Ib5;rw[gf7 l x hl];rfl
def eqX(x q:Pt):Bool:=q.px==x.px&&(q.py==x.py&&(q.pz==x.pz&&(q.pw==x.pw&&true)))
theorem le0(x q:Pt):eqX x q=true↔q=x:=by
 unfold eqX;simp only[Qil,Qig,beq_iff_eq];exact⟨λ⟨h1,h2,h3,h4⟩=>by cases q;cases x;simp_all,λh=>by subst h;exact⟨rfl,rfl,rfl,rfl⟩⟩
def bc5(l:List Pt)(x:Pt):Bool:=l.any (eqX x)
theorem He4(l:List Pt)(x:Pt):bc5 l x=true↔x∈l:=by
 unfold bc5;rw[List.any_eq_true];exact⟨λ⟨q,h,e⟩=>(le0 x q).1 e ▸ h,λh=>⟨x,h,(le0 x x).2 rfl⟩⟩
theorem Qd9(l:List Pt)(x:Pt)(hl:l.length<=1000000000):gb6 l x=some (b (bc5 l x),[]):=by
 have h:=lb0 (step:=Fa4 ⟨l,x.px,x.py,x.pz,x.pw⟩) (mk:=λj=>(⟨(j:Int)⟩:ca2)) (c:=eqX x) (u:=1) (fin:=2) tX l hl
  (λj hj=>by
   simp only[Fa4,za3,Int.toNat_natCast,o4 hj (by omega)]
   rw[bt (Yb4 hj),bt (f7 hj)]
   rfl)
  (by simp only[Fa4,za3];rw[bf (Nb1 (Qic _))]) 0 (Qie _)
 rw[Qia] at h;unfold gb6;simp only[i5,i8];rw[show (⟨0⟩:ca2)=⟨((0:Nat):Int)⟩ from rfl,h]
 unfold bc5;split
 ·rename_i h;rw[h];rfl
 ·rename_i h;rw[Qis] at h;rw[h];rfl
theorem We7(l:List Pt)(x:Pt)(hl:l.length<=1000000000):Ta3 l x=bc5 l x:=by unfold Ta3;rw[Qd9 l x hl];rfl
theorem We8(l:List Pt)(x:Pt)(hl:l.length<=1000000000):Ta4 l x=true:=by unfold Ta4;rw[Qd9 l x hl];rfl
def smb(n x:Int):Bool:=!decide (x < -n)&&!decide (x>n)
theorem pb6(n x:Int):smb n x=true↔Sm n x:=by unfold smb Sm;simp only[Qig,Bool.not_eq_true',decide_eq_false_iff_not];omega
theorem bd8(n:Int)(l:List Int)(hn:0<=n/\n<=1000000000)(hl:l.length<=1000000000):Ga3 n l=some (b (l.all (smb n)),[]):=by
 have hW:W (0-n)=-n:=by rw[ha0 (by omega) (by omega)];omega
 have h:=lb0 (step:=qa1 ⟨n,l,(l.length:Int)⟩) (mk:=λj=>(⟨(j:Int)⟩:O1)) (c:=λx=>!smb n x) (u:=1) (fin:=2) tI l hl
  (λj hj=>by
   simp only[qa1,la2,Int.toNat_natCast,o4 hj (by omega),hW]
   rw[bt (Yb4 hj),bt (f7 hj)];unfold smb;cases decide (gL tI l j < -n)<;>cases decide (gL tI l j>n)<;>rfl)
  (by simp only[qa1,la2];rw[bf (Nb1 (Qic _))]) 0 (Qie _)
 rw[Qia] at h;unfold Ga3;simp only[i5,i8];rw[show (⟨0⟩:O1)=⟨((0:Nat):Int)⟩ from rfl,h]
 have e:(l.any λx=>!smb n x)=!l.all (smb n):=by rw[Qii]
 rw[e];cases l.all (smb n)<;>rfl
theorem ud2(n:Int)(l:List Int)(hn:0<=n/\n<=1000000000)(hl:l.length<=1000000000):Ga4 n l=l.all (smb n):=by unfold Ga4;rw[bd8 n l hn hl];rfl
theorem ud3(n:Int)(l:List Int)(hn:0<=n/\n<=1000000000)(hl:l.length<=1000000000):Ga5 n l=true:=by unfold Ga5;rw[bd8 n l hn hl];rfl
theorem Rd0{n:Int}(h:Sm 1000000000000000000 n):Ja8 n=(n.natAbs:Int):=by
 unfold Ja8;obtain⟨h1,h2⟩:=h;rw[ha0 (by omega) (by omega)]
 split<;>omega
theorem zc2{n:Int}(h:Sm 1000000000000000000 n):Fa5 n=some (i (n.natAbs:Int),[]):=by
 unfold Fa5;obtain⟨h1,h2⟩:=h;rw[ha0 (by omega) (by omega)]
 by_cases h:n<0
 ·rw[bt (decide_eq_true h)];congr 3;omega
 ·rw[bf (decide_eq_false h)];congr 3;omega
theorem bc6{n:Int}(h:Sm 1000000000000000000 n):ua2 n=(n.natAbs:Int):=by unfold ua2;rw[zc2 h];rfl
theorem bc7{n:Int}(h:Sm 1000000000000000000 n):ua3 n=true:=by unfold ua3;rw[zc2 h];rfl
def g3(v:V3):Int:=(Nat.gcd (Nat.gcd v.x.natAbs v.y.natAbs) v.z.natAbs:Nat)
theorem He5(g n:Nat):eu (g:Int) (n:Int)=(Nat.gcd g n:Nat):=by rw[Ce7 (by omega) (by omega)];rfl
theorem nd1(P:fa1)(g n:Nat)(hn:n<=1000000000000000000):lp (ba7 P) ⟨(g:Int),(n:Int)⟩=(1,⟨(Nat.gcd g n:Nat),0⟩):=by
 have:=Kc8 (step:=ba7 P) (mk:=λg n=>(⟨g,n⟩:Q0)) (λg n h=>by
  have h0:n≠0:=by omega
  simp[ba7,ha3,tb3,h,h0]) (λg=>by simp[ba7,ha3,tb3]) (g:Int) (n:Int) (by omega) (by omega) (by omega)
 rw[this,He5]
theorem ee6(l:List Int)(hl:l.length<=1000000000)(hb:∀x∈l,Sm 1000000000000000000 x):za9 l=some (i (l.foldl (λg x=>Nat.gcd g x.natAbs) 0:Nat),[]):=by
 have h := wc5 (step := la3 ⟨(l.length : Int)⟩) (mk := fun j (a : Nat) => (⟨(a : Int), l, (j : Int)⟩ : L7)) (f := fun g x => Nat.gcd g x.natAbs) (fin := 2) tI l (fun _ _ => True) hl (fun j a hj _ => ⟨by
   have hm:=hb _ (ta9 tI hj);have hne:(gL tI l j==(-9223372036854775808:Int))=false:=by
    have:=hm.1
    rw[beq_eq_false_iff_ne];omega
   have hs:(gL tI l j).natAbs<=1000000000000000000:=by obtain⟨h1,h2⟩:=hm;omega
   simp only[la3,ha4,Int.toNat_natCast,i5,i8,Rd0 hm,nd1 _ _ _ hs,o4 hj (by omega)]
   rw[bt (Yb4 hj),bt (f7 hj),bf hne]
   rfl,trivial⟩) (λa _=>by simp only[la3,ha4];rw[bf (Nb1 (Qic _))]) 0 (Qie _) 0 trivial
 have h:=h.1;rw[Qia] at h;unfold za9;simp only[i5,i8];rw[show (⟨0,l,0⟩:L7)=⟨((0:Nat):Int),l,((0:Nat):Int)⟩ from rfl,h]
 rfl
def okp(p:Pln):Bool:=[p.n.x,p.n.y,p.n.z].all (smb 4608)&&(g3 p.n==1&&[p.b].all (smb 2097152))
theorem mf5(p:Pln):Bd p↔[p.n.x,p.n.y,p.n.z].all (smb 4608)=true/\[p.b].all (smb 2097152)=true:=by
 simp only[List.all_cons,List.all_nil,Qil,Qig,pb6,Sm];exact⟨λh=>⟨⟨⟨h.x1,h.x2⟩,⟨h.y1,h.y2⟩,h.z1,h.z2⟩,h.b1,h.b2⟩,λ⟨⟨⟨a,b⟩,⟨c,d⟩,e,f⟩,g,h⟩=>⟨a,b,c,d,e,f,g,h⟩⟩
theorem Pb1{p:Pln}(h:okp p=true):Bd p:=by
 unfold okp at h;rw[Qig,Qig] at h;exact (mf5 p).2 ⟨h.1,h.2.2⟩
theorem sm3{v:V3}(h:[v.x,v.y,v.z].all (smb 4608)=true):Sm 4608 v.x/\Sm 4608 v.y/\Sm 4608 v.z:=by
 simpa only[List.all_cons,List.all_nil,Qil,Qig,pb6] using h
theorem Rd1(p:Pln):Oa4 p=some (b (okp p),[]):=by
 unfold Oa4 okp;have l3:[p.n.x,p.n.y,p.n.z].length<=1000000000:=by simp
 have l1:[p.b].length<=1000000000:=by simp
 simp only[ud2 4608 _ (by omega) l3,ud3 4608 _ (by omega) l3,ud2 2097152 _ (by omega) l1,ud3 2097152 _ (by omega) l1]
 cases hw:[p.n.x,p.n.y,p.n.z].all (smb 4608) with
 |false=>rfl
 |true =>
  obtain⟨h1,h2,h3⟩:=sm3 hw;have hd:=ee6 [p.n.x,p.n.y,p.n.z] l3 (by
   intro x hx;simp only[List.mem_cons,List.not_mem_nil,or_false] at hx
   rcases hx with rfl|rfl|rfl
   ·exact h1.mono (by omega)
   ·exact h2.mono (by omega)
   ·exact h3.mono (by omega))
  have hg:([p.n.x,p.n.y,p.n.z].foldl (λg x=>Nat.gcd g x.natAbs) 0:Nat)=Nat.gcd (Nat.gcd p.n.x.natAbs p.n.y.natAbs) p.n.z.natAbs:=by
   simp only[List.foldl_cons,List.foldl_nil,Nat.gcd_zero_left]
  have hp:Qa5 [p.n.x,p.n.y,p.n.z]=g3 p.n:=by unfold Qa5;rw[hd,hg];rfl
  have hgd:Qa6 [p.n.x,p.n.y,p.n.z]=true:=by unfold Qa6;rw[hd];rfl
  rw[hp,hgd];cases g3 p.n==1<;>rfl
theorem We9(p:Pln):eb6 p=okp p:=by unfold eb6;rw[Rd1 p];rfl
theorem Xe0(p:Pln):eb7 p=true:=by unfold eb7;rw[Rd1 p];rfl
theorem Gc6(P:pa6)(g n:Nat)(hn:n<=1000000000000000000):lp (ka3 P) ⟨(g:Int),(n:Int)⟩=(1,⟨(Nat.gcd g n:Nat),0⟩):=by
 have:=Kc8 (step:=ka3 P) (mk:=λg n=>(⟨g,n⟩:W6)) (λg n h=>by
  have h0:n≠0:=by omega
  simp[ka3,Fa6,tb3,h,h0]) (λg=>by simp[ka3,Fa6,tb3]) (g:Int) (n:Int) (by omega) (by omega) (by omega)
 rw[this,He5]
theorem Dd7 {v : V3} (h1 : Sm 1000000000000000000 v.x) (h2 : Sm 1000000000000000000 v.y) (h3 : Sm 1000000000000000000 v.z) :
  ub7 v=if g3 v=0 then some (.tup [.agg (tV.row ⟨0,0,0⟩),i 0],[]) else some (.tup [.agg (tV.row ⟨W (Int.tdiv v.x (g3 v)),W (Int.tdiv v.y (g3 v)),W (Int.tdiv v.z (g3 v))⟩),i (g3 v)],[]):=by
 have ne:∀{x:Int},Sm 1000000000000000000 x->(x==(-9223372036854775808:Int))=false:=λ{x} h=>by
  have:=h.1
  rw[beq_eq_false_iff_ne];omega
 have bd:∀{x:Int},Sm 1000000000000000000 x->x.natAbs<=1000000000000000000:=λ{x} h=>by obtain⟨h1,h2⟩:=h;omega
 have l1:=Gc6 ⟨0,v.x,v.y,v.z,v.x,v.y,v.z⟩ 0 v.x.natAbs (bd h1);rw[Nat.gcd_zero_left] at l1;have l2:=Gc6 ⟨1,v.x,v.y,v.z,v.x,v.y,v.z⟩ v.x.natAbs v.y.natAbs (bd h2);have l3:=Gc6 ⟨2,v.x,v.y,v.z,v.x,v.y,v.z⟩ (Nat.gcd v.x.natAbs v.y.natAbs) v.z.natAbs (bd h3);unfold ub7;simp only[bc6 h1,bc6 h2,bc6 h3,bc7 h1,bc7 h2,bc7 h3];rw[show (⟨0,(v.x.natAbs:Int)⟩:W6)=⟨((0:Nat):Int),(v.x.natAbs:Int)⟩ from rfl]
 simp only[l1,l2,l3,ne h1,ne h2,ne h3];rw[show ((Nat.gcd (Nat.gcd v.x.natAbs v.y.natAbs) v.z.natAbs:Nat):Int)=g3 v from rfl]
 by_cases h:g3 v=0
 ·rw[if_pos h,show (g3 v==0)=true from by rw[h];rfl];rfl
 ·rw[if_neg h,show (g3 v==0)=false from by rw[beq_eq_false_iff_ne];exact h];rfl
theorem bd9{v:V3}(h1:Sm 1000000000000000000 v.x)(h2:Sm 1000000000000000000 v.y)(h3:Sm 1000000000000000000 v.z):(Sa2 v).2=g3 v:=by
 unfold Sa2;rw[Dd7 h1 h2 h3];split
 ·rename_i h;rw[h];rfl
 ·rfl
theorem mf6{v:V3}(h1:Sm 1000000000000000000 v.x)(h2:Sm 1000000000000000000 v.y)(h3:Sm 1000000000000000000 v.z)(h:g3 v≠0):Sa2 v=(⟨W (Int.tdiv v.x (g3 v)),W (Int.tdiv v.y (g3 v)),W (Int.tdiv v.z (g3 v))⟩,g3 v):=by
 unfold Sa2;rw[Dd7 h1 h2 h3,if_neg h];rfl
theorem He6{v:V3}(h1:Sm 1000000000000000000 v.x)(h2:Sm 1000000000000000000 v.y)(h3:Sm 1000000000000000000 v.z):ub8 v=true:=by
 unfold ub8;rw[Dd7 h1 h2 h3]
 split<;>rfl
theorem ud4(p:Pln):gb7 p=some (b (okp p),[]):=by
 unfold gb7 okp;cases hw:[p.n.x,p.n.y,p.n.z].all (smb 4608) with
 |false =>
  simp only[List.all_cons,List.all_nil,Qil,smb] at hw;cases h1:decide (p.n.x < -4608)<;>cases h2:decide (p.n.x>4608)<;>cases h3:decide (p.n.y < -4608)<;>cases h4:decide (p.n.y>4608)<;>cases h5:decide (p.n.z < -4608)<;>cases h6:decide (p.n.z>4608)<;>simp only[h1,h2,h3,h4,h5,h6] at hw ⊢<;>first | rfl | cases hw
 |true =>
  obtain⟨h1,h2,h3⟩:=sm3 hw;rw[bf (decide_eq_false (by have:=h1.1;omega)),bf (decide_eq_false (by have:=h1.2;omega)),bf (decide_eq_false (by have:=h2.1;omega)),bf (decide_eq_false (by have:=h2.2;omega)),bf (decide_eq_false (by have:=h3.1;omega)),bf (decide_eq_false (by have:=h3.2;omega))]
  have k1:=h1.mono (m:=1000000000000000000) (by omega)
  have k2:=h2.mono (m:=1000000000000000000) (by omega)
  have k3:=h3.mono (m:=1000000000000000000) (by omega)
  rw[bt (He6 k1 k2 k3),bd9 k1 k2 k3];cases g3 p.n==1 with
  |false=>rfl
  |true =>
   simp only[List.all_cons,List.all_nil,Qil,smb,Bool.true_and];rw[g9];by_cases ha:p.b < -2097152
   ·rw[bf (decide_eq_false (by omega)),show decide (p.b < -2097152)=true from decide_eq_true ha];rfl
   ·rw[bt (decide_eq_true (by omega)),show decide (p.b < -2097152)=false from decide_eq_false ha]
    congr 3;by_cases hc:p.b<=2097152
    ·rw[decide_eq_true hc,decide_eq_false (by omega)];rfl
    ·rw[decide_eq_false hc,decide_eq_true (by omega)];rfl
theorem Rd2(p:Pln):gb8 p=okp p:=by unfold gb8;rw[ud4 p];rfl
theorem cd0(p:Pln):gb9 p=true:=by unfold gb9;rw[ud4 p];rfl
def chk(l:List Pln):Int:=if (l.length:Int)>48 then 2 else if l.all okp then 0 else 12
theorem Rd3(l:List Pln)(hl:l.length<=1000000000):Xa1 l=some (i (chk l),[]):=by
 have hk1:∀p,Ga6 p=some (b (!okp p),[]):=λp=>by unfold Ga6;rw[Xe0,We9];rfl
 have hp1:∀p,Wa9 p=!okp p:=λp=>by unfold Wa9;rw[hk1];rfl
 have hg1:∀p,Xa0 p=true:=λp=>by unfold Xa0;rw[hk1];rfl
 have h:=Qa3 (step:=J0 ⟨l,(l.length:Int)⟩) (mk:=λj=>(⟨(j:Int)⟩:p7)) (c:=λp=>!okp p) (u:=1) (fin:=2) tP l hl
  (λj hj=>by
   simp only[J0,G5,Int.toNat_natCast,hp1,hg1,o4 hj (by omega)]
   rw[bt (Yb4 hj),bt (f7 hj),g9])
  (by simp only[J0,G5];rw[bf (Nb1 (Qic _))]) 0 (Qie _)
 rw[Qia] at h;have e:(l.any λx=>!okp x)=!l.all okp:=by rw[Qii]
 unfold Xa1 fa9 D5 oa1 H6 chk;simp only[i5,i8];rw[show (⟨0⟩:p7)=⟨((0:Nat):Int)⟩ from rfl,h,e]
 by_cases hn:(l.length:Int)>48
 ·rw[bt (decide_eq_true hn),if_pos hn]
 ·rw[bf (decide_eq_false hn),if_neg hn];cases l.all okp with
  |true=>rfl
  |false =>
   simp only[Qiw,if_true,Qij];show sl true (sl (Nat.beq 1 1) (sl (decide (((l.findIdx λp=>!okp p:Nat):Int)>=0)) _ _) _) _=_
   rw[show decide (((l.findIdx λp=>!okp p:Nat):Int)>=0)=true from decide_eq_true (by omega)]
   rfl
theorem Tc6(l:List Pln)(hl:l.length<=1000000000):qa3 l=chk l:=by unfold qa3;rw[Rd3 l hl];rfl
theorem Dd8(l:List Pln)(hl:l.length<=1000000000):Ja9 l=true:=by unfold Ja9;rw[Rd3 l hl];rfl
theorem ud5(l:List Pln)(hl:l.length<=1000000000):hb5 l=some (i (chk l),[]):=by
 have h:=lb0 (step:=Fa7 ⟨l⟩) (mk:=λj=>(⟨(j:Int)⟩:ca3)) (c:=λp=>!okp p) (u:=1) (fin:=2) tP l hl
  (λj hj=>by
   simp only[Fa7,za4,Int.toNat_natCast,Rd2,cd0,o4 hj (by omega)]
   rw[bt (Yb4 hj),bt (f7 hj),g9])
  (by simp only[Fa7,za4];rw[bf (Nb1 (Qic _))]) 0 (Qie _)
 rw[Qia] at h;have e:(l.any λx=>!okp x)=!l.all okp:=by rw[Qii]
 unfold hb5 chk;simp only[i5,i8];rw[show (⟨0⟩:ca3)=⟨((0:Nat):Int)⟩ from rfl,h,e]
 by_cases hn:(l.length:Int)>48
 ·rw[bt (decide_eq_true hn),if_pos hn]
 ·rw[bf (decide_eq_false hn),if_neg hn];cases l.all okp<;>rfl
theorem Rd4(l:List Pln)(hl:l.length<=1000000000):hb6 l=chk l:=by unfold hb6;rw[ud5 l hl];rfl
theorem Rd5(l:List Pln)(hl:l.length<=1000000000):hb7 l=true:=by unfold hb7;rw[ud5 l hl];rfl
theorem Ha3{l:List Pln}:chk l=0↔l.length<=48/\∀p∈l,okp p=true:=by
 unfold chk;by_cases hn:(l.length:Int)>48
 ·rw[if_pos hn];exact⟨λh=>absurd h (by decide),λh=>by omega⟩
 ·rw[if_neg hn];cases h:l.all okp with
  |true=>exact⟨λ_=>⟨by omega,Qit.1 h⟩,λ_=>rfl⟩
  |false=>exact⟨λh=>absurd h (by decide),λh'=>by rw[Qit.2 h'.2] at h;cases h⟩
theorem btD{p:Prop}{inst:Decidable p}(h:p){α:Type}(t e:α):sl (@decide p inst) t e=t:=bt (decide_eq_true h) t e
theorem bfD{p:Prop}{inst:Decidable p}(h:¬ p){α:Type}(t e:α):sl (@decide p inst) t e=e:=bf (decide_eq_false h) t e
theorem i6{j n:Nat}(h:j<n):(j:Int)<(n:Int):=Int.ofNat_lt.2 h
theorem r8{j n:Nat}(h:¬ j<n):¬ (j:Int)<(n:Int):=λh'=>h (Int.ofNat_lt.1 h')
theorem Xa7 {σ τ α : Type} {step : σ → Stp σ} {mk : Nat → τ → σ} {f : α → List α → τ → τ} {g : List α → τ → τ} {fin : τ → Nat} (l : List α) (I : Nat → τ → Prop) (hl : l.length ≤ 1000000000)
  (g0:∀a,g [] a=a) (g1:∀x r a,g (x::r) a=g r (f x r a))
  (h:∀j a (hj:j<l.length),I j a->step (mk j a)=.next (mk (j+1) (f l[j] (l.drop (j+1)) a))/\I (j+1) (f l[j] (l.drop (j+1)) a))
  (hf:∀j a,l.length<=j->I j a->step (mk j a)=.exit (fin a)) (j0:Nat) (a:τ) (hi:I j0 a) :
  lp step (mk j0 a)=(fin (g (l.drop j0) a),mk (max j0 l.length) (g (l.drop j0) a))/\I (max j0 l.length) (g (l.drop j0) a):=by
 have key:=pc4 (step:=step) (I:=λm s=>∃j b,m=l.length-j/\max j l.length=max j0 l.length/\s=mk j b/\I j b/\g (l.drop j) b=g (l.drop j0) a)
  (Q:=λu s=>u=fin (g (l.drop j0) a)/\s=mk (max j0 l.length) (g (l.drop j0) a)/\I (max j0 l.length) (g (l.drop j0) a)) (λm s ⟨j,b,hm,hj,hs,hb,he⟩=>by
   subst hs;by_cases hlt:j<l.length
   ·obtain⟨h1,h2⟩:=h j b hlt hb;refine .inr ⟨_,l.length-(j+1),by omega,h1,j+1,_,rfl,by omega,rfl,h2,?_⟩
    rw[<- he,Qim hlt,g1]
   ·have hd:l.drop j=[]:=Qiv (by omega)
    rw[hd,g0] at he;have hj':j=max j0 l.length:=by omega
    subst he;rw[<- hj'];exact .inl ⟨_,hf j _ (by omega) hb,rfl,rfl,hb⟩) (l.length-j0) (mk j0 a) (by omega) ⟨j0,a,rfl,rfl,rfl,hi,rfl⟩
 exact⟨Prod.ext key.1 key.2.1,key.2.2⟩
noncomputable def Ha4(r:List Pln)(p q:Pln)(out:List Pt)(s:Pln):List Pt :=
 if (mpt p q s).2&&(!bc5 out (mpt p q s).1&&inn r (mpt p q s).1) then out++[(mpt p q s).1] else out
noncomputable def mb5(r:List Pln)(p q:Pln)(l:List Pln)(out:List Pt):List Pt:=l.foldl (Ha4 r p q) out
noncomputable def Xa8(r:List Pln)(p:Pln):List Pln->List Pt->List Pt
 |[],out=>out
 |q::l,out=>Xa8 r p l (mb5 r p q l out)
noncomputable def zc3(r:List Pln):List Pln->List Pt->List Pt
 |[],out=>out
 |p::l,out=>zc3 r l (Xa8 r p l out)
noncomputable def cor(r:List Pln):List Pt:=zc3 r r []
def Bds(r:List Pln):Prop:=∀p∈r,Bd p
theorem Gc7(r:List Pln)(p q:Pln)(out:List Pt)(s:Pln):(Ha4 r p q out s).length<=out.length+1:=by
 unfold Ha4;split
 ·simp
 ·omega
theorem zc4(r:List Pln)(p q:Pln):∀(l:List Pln) (out:List Pt),(mb5 r p q l out).length<=out.length+l.length
 |[],out=>Nat.le_refl _
 |s::l,out=>by
  have h1:=Gc7 r p q out s;have h2:=zc4 r p q l (Ha4 r p q out s);show (mb5 r p q l (Ha4 r p q out s)).length<=_;simp only[List.length_cons];omega
theorem cd1(r:List Pln)(p:Pln):∀(l:List Pln) (out:List Pt),l.length<=200->(Xa8 r p l out).length<=out.length+200*l.length
 |[],out,_=>by simp[Xa8]
 |q::l,out,h=>by
  simp only[List.length_cons] at h ⊢;have h1:=zc4 r p q l out;have h2:=cd1 r p l (mb5 r p q l out) (by omega)
  show (Xa8 r p l (mb5 r p q l out)).length<=_;omega
theorem Rd6(r:List Pln):∀(l:List Pln) (out:List Pt),l.length<=200->(zc3 r l out).length<=out.length+40000*l.length
 |[],out,_=>by simp[zc3]
 |p::l,out,h=>by
  simp only[List.length_cons] at h ⊢;have h1:=cd1 r p l out (by omega)
  have h2:=Rd6 r l (Xa8 r p l out) (by omega)
  show (zc3 r l (Xa8 r p l out)).length<=_;omega
theorem Dd9(r:List Pln)(_:Bds r)(hr:r.length<=200):(cor r).length<=8000000:=by
 have:=Rd6 r r [] hr
 rw[List.length_nil] at this;show (zc3 r r []).length<=_;omega
noncomputable def ph(out:List Pt):Nat:=match out with
 |[]=>0
 |_::_=>1
theorem Rd7(x:Pt):bc5 [] x=false:=rfl
theorem zc5{α:Type}(t:Ty α)(l:List α)(n k:Nat):gL t (l.drop n) k=gL t l (n+k):=by simp[gL,Qiq,List.getElem?_drop]
theorem Rd8{n:Nat}{l:List Pt}(hn:n=l.length)(h:l.length<=1000000000):(Nat.beq n (len (bL tX l))&&Nat.ble ((n+1)*32) room)=true:=by
 subst hn;rw[P7,Qik,Bool.true_and];exact ca1 (by omega)
theorem le1(l:List Pt)(x:Pt):app (bL tX l) [[i x.px,i x.py,i x.pz,i x.pw]]=bL tX (l++[x]):=Ra8 tX l [x]
@[reducible] noncomputable def jc5(k:Nat)(out:List Pt):w7:=⟨ph out,(k:Int),out.length,bL tX out⟩
theorem mf7(l:List Pt):slR tX (bL tX l) 0 l.length=l:=Mb9 tX l
theorem Xe1 (r : List Pln) (hb : Bds r) (hr : r.length ≤ 200) (a c k : Nat) (ha : a < r.length) (hc : c < r.length) (out : List Pt) (ho : out.length ≤ 1000000000) (hk : k < r.length) :
  T4 ⟨r,a,c⟩ (jc5 k out)=.next (jc5 (k+1) (Ha4 r r[a] r[c] out r[k])):=by
 have hin:∀x,Ib4 r x=inn r x:=λx=>Mf1 r x (by omega)
 have hig:∀x,Ib5 r x=true:=λx=>Mf2 r x (by omega)
 have hth:∀x,Ta3 out x=bc5 out x:=λx=>We7 out x ho
 have htg:∀x,Ta4 out x=true:=λx=>We8 out x ho
 have hme:=We4 (hb _ (Qih ha)) (hb _ (Qih hc)) (hb _ (Qih hk));have hmg:=We5 (hb _ (Qih ha)) (hb _ (Qih hc)) (hb _ (Qih hk));unfold T4;cases out with
 |nil =>
  show V6 Stp.next Stp.exit Stp.fail _ (jc5 k [])=_;simp only[V6,jc5,Int.toNat_natCast,i5,q8,Ta2 tP ha,Ta2 tP hc,Ta2 tP hk,hme,hmg,hin,hig,hth,htg,o4 hk (by omega)]
  rw[btD (i6 hk),bt (f7 ha),bt (f7 hc),bt (f7 hk),g9];unfold Ha4;rw[Rd7];cases (mpt r[a] r[c] r[k]).2 with
  |false=>rfl
  |true =>
   cases inn r (mpt r[a] r[c] r[k]).1 with
   |false=>rfl
   |true=>rfl
 |cons o os =>
  show V7 Stp.next Stp.exit Stp.fail _ (jc5 k (o::os))=_;simp only[V7,jc5,Int.toNat_natCast,i5,q8,Ta2 tP ha,Ta2 tP hc,Ta2 tP hk,hme,hmg,hin,hig,mf7,Nb0,hth,htg,o4 hk (by omega)]
  rw[btD (i6 hk),bt (f7 ha),bt (f7 hc),bt (f7 hk),g9,Rd8 rfl ho,le1];unfold Ha4;cases (mpt r[a] r[c] r[k]).2 with
  |false=>rfl
  |true =>
   cases inn r (mpt r[a] r[c] r[k]).1 with
   |false=>cases bc5 (o::os) (mpt r[a] r[c] r[k]).1<;>rfl
   |true =>
    cases bc5 (o::os) (mpt r[a] r[c] r[k]).1 with
    |true=>rfl
    |false =>
     show Stp.next (⟨1,((k+1:Nat):Int),(o::os).length+1,bL tX (o::os++[(mpt r[a] r[c] r[k]).1])⟩:w7)=_;simp[ph]
theorem mf8(r:List Pln)(a c k:Nat)(out:List Pt)(hk:r.length<=k):T4 ⟨r,a,c⟩ (jc5 k out)=.exit (ph out+1):=by
 unfold T4;have this:¬ ((k:Int)<(r.length:Int)):=by omega
 cases out with
 |nil =>
  show V6 Stp.next Stp.exit Stp.fail _ (jc5 k [])=_;simp only[V6,jc5];rw[bfD this];rfl
 |cons o os =>
  show V7 Stp.next Stp.exit Stp.fail _ (jc5 k (o::os))=_;simp only[V7,jc5];rw[bfD this];rfl
theorem Xe2 (r : List Pln) (hb : Bds r) (hr : r.length ≤ 200) (a c : Nat) (ha : a < r.length) (hc : c < r.length) (k : Nat) (out : List Pt) (ho : out.length ≤ 100000000) :
  ∃m,lp (T4 ⟨r,a,c⟩) (jc5 k out)=(ph (mb5 r r[a] r[c] (r.drop k) out)+1,jc5 m (mb5 r r[a] r[c] (r.drop k) out)) :=
 ⟨_,(Xa7 (mk:=jc5) (f:=λs _ out=>Ha4 r r[a] r[c] out s) (g:=λl out=>mb5 r r[a] r[c] l out) (fin:=λout=>ph out+1) r (λj o=>o.length+k<=out.length+j) (by omega)
  (λ_=>rfl) (λ_ _ _=>rfl) (λj o hj hi=>⟨Xe1 r hb hr a c j ha hc o (by omega) hj,by have:=Gc7 r r[a] r[c] o r[j];show (Ha4 r r[a] r[c] o r[j]).length+k<=out.length+(j+1);omega⟩)
  (λj o hj _=>mf8 r a c j o hj) k out (by omega)).1⟩
@[reducible] noncomputable def jc6(r:List Pln)(j:Nat)(out:List Pt):y9:=⟨ph out,r,(j:Int),out.length,bL tX out⟩
theorem Xe3 (r : List Pln) (hb : Bds r) (hr : r.length ≤ 200) (a j : Nat) (ha : a < r.length) (out : List Pt) (ho : out.length ≤ 100000000) (hj : j < r.length) :
  O0 ⟨a⟩ (jc6 r j out)=.next (jc6 r (j+1) (mb5 r r[a] r[j] (r.drop (j+1)) out)):=by
 obtain⟨m,hm⟩:=Xe2 r hb hr a j ha hj (j+1) out ho;unfold O0;generalize mb5 r r[a] r[j] (r.drop (j+1)) out=res at *
 cases out with
 |nil =>
  show V8 Stp.next Stp.exit Stp.fail _ (jc6 r j [])=_;simp only[V8,jc6,i5,i8,o4 hj (by omega)]
  rw[show (⟨0,((j+1:Nat):Int),0,[]⟩:w7)=jc5 (j+1) [] from rfl,hm,btD (i6 hj)]
  cases res<;>rfl
 |cons o os =>
  show V9 Stp.next Stp.exit Stp.fail _ (jc6 r j (o::os))=_;simp only[V9,jc6,i5,i8,o4 hj (by omega)]
  rw[show (⟨1,((j+1:Nat):Int),(o::os).length,bL tX (o::os)⟩:w7)=jc5 (j+1) (o::os) from rfl,hm,btD (i6 hj)]
  cases res<;>rfl
theorem mf9(r:List Pln)(a j:Nat)(out:List Pt)(hj:r.length<=j):O0 ⟨a⟩ (jc6 r j out)=.exit (ph out+1):=by
 unfold O0;have this:¬ ((j:Int)<(r.length:Int)):=by omega
 cases out with
 |nil =>
  show V8 Stp.next Stp.exit Stp.fail _ (jc6 r j [])=_;simp only[V8,jc6];rw[bfD this];rfl
 |cons o os =>
  show V9 Stp.next Stp.exit Stp.fail _ (jc6 r j (o::os))=_;simp only[V9,jc6];rw[bfD this];rfl
theorem Xe4 (r : List Pln) (hb : Bds r) (hr : r.length ≤ 200) (a : Nat) (ha : a < r.length) (j : Nat) (out : List Pt) (ho : out.length ≤ 40000 * a) :
  ∃m,lp (O0 ⟨a⟩) (jc6 r j out)=(ph (Xa8 r r[a] (r.drop j) out)+1,jc6 r m (Xa8 r r[a] (r.drop j) out))/\(Xa8 r r[a] (r.drop j) out).length<=40000*(a+1):=by
 have hk:=Xa7 (step:=O0 ⟨a⟩) (mk:=jc6 r) (f:=λq l out=>mb5 r r[a] q l out) (g:=λl out=>Xa8 r r[a] l out) (fin:=λout=>ph out+1) r (λk o=>o.length<=40000*a+200*(k-j)/\j<=k/\k<=j+r.length) (by omega)
  (λ_=>rfl) (λ_ _ _=>rfl) (λk o hj hi=>⟨Xe3 r hb hr a k ha o (by omega) hj,by
   have:=zc4 r r[a] r[k] (r.drop (k+1)) o
   rw[Qid] at this;show (mb5 r r[a] r[k] (r.drop (k+1)) o).length<=40000*a+200*(k+1-j)/\j<=k+1/\k+1<=j+r.length
   omega⟩)
  (λk o hj _=>mf9 r a k o hj) j out (by omega)
 exact⟨_,hk.1,by have:=hk.2;omega⟩
@[reducible] noncomputable def qc7(r:List Pln)(j:Nat)(out:List Pt):D3:=⟨ph out,r,(j:Int),out.length,bL tX out⟩
theorem le2 (r : List Pln) (hb : Bds r) (hr : r.length ≤ 200) (a : Nat) (ha : a < r.length) (out : List Pt) (ho : out.length ≤ 40000 * a) :
  T5 ⟨⟩ (qc7 r a out)=.next (qc7 r (a+1) (Xa8 r r[a] (r.drop (a+1)) out))/\(Xa8 r r[a] (r.drop (a+1)) out).length<=40000*(a+1):=by
 obtain⟨m,hm,hl⟩:=Xe4 r hb hr a ha (a+1) out ho;refine⟨?_,hl⟩
 clear hl
 unfold T5;generalize Xa8 r r[a] (r.drop (a+1)) out=res at *
 cases out with
 |nil =>
  show W4 Stp.next Stp.exit Stp.fail _ (qc7 r a [])=_;simp only[W4,qc7,i5,i8,o4 ha (by omega)]
  rw[show (⟨0,r,((a+1:Nat):Int),0,[]⟩:y9)=jc6 r (a+1) [] from rfl,hm,btD (i6 ha)]
  cases res<;>rfl
 |cons o os =>
  show W5 Stp.next Stp.exit Stp.fail _ (qc7 r a (o::os))=_;simp only[W5,qc7,i5,i8,o4 ha (by omega)]
  rw[show (⟨1,r,((a+1:Nat):Int),(o::os).length,bL tX (o::os)⟩:y9)=jc6 r (a+1) (o::os) from rfl,hm,btD (i6 ha)]
  cases res<;>rfl
theorem nf3(r:List Pln)(j:Nat)(out:List Pt)(hj:r.length<=j):T5 ⟨⟩ (qc7 r j out)=.exit (ph out+1):=by
 unfold T5;have this:¬ ((j:Int)<(r.length:Int)):=by omega
 cases out with
 |nil =>
  show W4 Stp.next Stp.exit Stp.fail _ (qc7 r j [])=_;simp only[W4,qc7];rw[bfD this];rfl
 |cons o os =>
  show W5 Stp.next Stp.exit Stp.fail _ (qc7 r j (o::os))=_;simp only[W5,qc7];rw[bfD this];rfl
theorem Xe5(r:List Pln)(hb:Bds r)(hr:r.length<=200):∃m,lp (T5 ⟨⟩) (qc7 r 0 [])=(ph (cor r)+1,qc7 r m (cor r))/\(cor r).length<=8000000:=by
 have hk:=Xa7 (step:=T5 ⟨⟩) (mk:=qc7 r) (f:=λq l out=>Xa8 r q l out) (g:=λl out=>zc3 r l out) (fin:=λout=>ph out+1) r (λk o=>o.length<=40000*k/\k<=r.length) (by omega)
  (λ_=>rfl) (λ_ _ _=>rfl) (λk o hj hi=>⟨(le2 r hb hr k hj o hi.1).1,(le2 r hb hr k hj o hi.1).2,hj⟩)
  (λk o hj _=>nf3 r k o hj) 0 [] (by simp)
 exact⟨_,hk.1,by have:=hk.2;rw[show max 0 r.length=r.length by omega] at this;have h1:=this.1;show (zc3 r r []).length<=_;rw[Qia] at h1;omega⟩
noncomputable def slX(l:List Pt):b7×List b9:=match l with
 |[]=>(.v (.slice none 0 0),[])
 |_::_=>(.sl 0 0 l.length 0,[⟨136,4,bL tX l,true,false,0⟩])
theorem Ed0(l:List Pt):(one (r1L tX)).rd (slX l)=some l:=by
 cases l with
 |nil=>rfl
 |cons x l =>
  show Bool.rec (motive:=λ_=>Option (List Pt)) none (some (slR tX (bL tX (x::l)) 0 (x::l).length)) (Bool.and true (okS tX (bL tX (x::l)) 0 (x::l).length))=_
  rw[Mb9,Nb0];rfl
theorem Lc8(r:List Pln)(hb:Bds r)(hr:r.length<=200):Na6 r=some (slX (cor r)):=by
 obtain⟨m,hm,_⟩:=Xe5 r hb hr;unfold Na6;simp only[i5,i8];rw[show (⟨0,r,0,0,[]⟩:D3)=qc7 r 0 [] from rfl,hm]
 cases cor r<;>rfl
theorem Ca8{ρ:Type}(R:RR ρ){x:b7×List b9}{r:ρ}(h:R.rd x=some r):N9 R (some x)=r:=by
 show Option.rec (motive:=λ_=>ρ) R.d (λx=>x) (R.rd x)=r
 rw[h]
theorem Oa8{ρ:Type}(R:RR ρ){x:b7×List b9}{r:ρ}(h:R.rd x=some r):okO R (some x)=true:=by
 show Option.rec (motive:=λ_=>Bool) false (λ_=>true) (R.rd x)=true
 rw[h]
theorem cd2(r:List Pln)(hb:Bds r)(hr:r.length<=200):Na7 r=cor r:=by unfold Na7;rw[Lc8 r hb hr];exact Ca8 _ (Ed0 _)
theorem cd3(r:List Pln)(hb:Bds r)(hr:r.length<=200):Na8 r=true:=by unfold Na8;rw[Lc8 r hb hr];exact Oa8 _ (Ed0 _)
noncomputable def nd2(x:Pt):List b7:=[i x.px,i x.py,i x.pz,i x.pw,b true]
noncomputable def Sb8(l:List Pt):List (List b7):=l.map nd2
@[reducible] noncomputable def flK:List (Nat×CK):=[(0,.int .i64),(1,.int .i64),(2,.int .i64),(3,.int .i64)]
theorem Rd9(x q:Pt):jc0 flK [i x.px,i x.py,i x.pz,i x.pw] (nd2 q)=eqX x q:=by
 show Bool.and (decide (x.px=q.px)) (Bool.and (decide (x.py=q.py)) (Bool.and (decide (x.pz=q.pz)) (Bool.and (decide (x.pw=q.pw)) true)))=_;unfold eqX;have h:∀a c:Int,decide (a=c)=(c==a):=λa c=>by rw[Bool.eq_iff_iff,decide_eq_true_eq,beq_iff_eq];exact eq_comm
 rw[h,h,h,h]
theorem cd4(x:Pt):∀l,tc8 4 flK [i x.px,i x.py,i x.pz,i x.pw] (Sb8 l)=bc5 l x
 |[]=>rfl
 |q::l=>by
  have ih:=cd4 x l;unfold tc8 at ih ⊢;show Option.rec (motive:=λ_=>Bool) false (λr=>toB (hdA (f9 r 4))) (Bool.rec (motive:=λ_=>Option (List b7)) (Kc0 flK [i x.px,i x.py,i x.pz,i x.pw] (Sb8 l)) (some (nd2 q)) (jc0 flK [i x.px,i x.py,i x.pz,i x.pw] (nd2 q)))=bc5 (q::l) x
  rw[Rd9];unfold bc5 at ih ⊢;rw[List.any_cons];cases eqX x q with
  |true=>rfl
  |false=>exact ih
theorem ud6(x:Pt):∀l,bc5 l x=false->Db6 flK [i x.px,i x.py,i x.pz,i x.pw] (nd2 x) (Sb8 l)=Sb8 (l++[x])
 |[],_=>rfl
 |q::l,h=>by
  unfold bc5 at h;rw[List.any_cons,Bool.or_eq_false_iff] at h;show Bool.rec (motive:=λ_=>List (List b7)) (nd2 q::Db6 flK [i x.px,i x.py,i x.pz,i x.pw] (nd2 x) (Sb8 l)) (nd2 x::Sb8 l) (jc0 flK [i x.px,i x.py,i x.pz,i x.pw] (nd2 q))=_
  rw[Rd9,h.1,ud6 x l h.2];rfl
@[reducible] noncomputable def jc7(k:Nat)(out:List Pt):l5:=⟨ph out,(k:Int),out.length,bL tX out,Sb8 out⟩
structure C2(P:l0)(r:List Pln)(p q:Pln)(lo:Nat):Prop where
 ns:P.Re1=(r.drop lo).length
 gs:P.yb7=λk=>tP.row (gL tP r (lo+k))
 is:P.he8=((r.drop lo).length:Int)
 p1:(⟨⟨P.aa5,P.aa6,P.aa7⟩,P.aa8⟩:Pln)=p
 q1:(⟨⟨P.fb9,P.gb0,P.gb1⟩,P.Rb8⟩:Pln)=q
 r1:P.Ka6=r
theorem Ed1(s:Pln):(⟨⟨toI (hdA (tP.row s)),toI (hdA (tlA (tP.row s))),toI (hdA (tlA (tlA (tP.row s))))⟩,toI (hdA (tlA (tlA (tlA (tP.row s)))))⟩:Pln)=s:=rfl
theorem Ed2(s:Pln):((Nat.ble 4 (len (tP.row s)))&&(na9 [CK.int .i64,CK.int .i64,CK.int .i64,CK.int .i64] (tP.row s)))=true:=rfl
theorem Xe6 {P : l0} {r : List Pln} {p q : Pln} {lo : Nat} (h : C2 P r p q lo) (hb : Bds r) (hr : r.length ≤ 200) (hp : Bd p) (hq : Bd q) (k : Nat) (out : List Pt) (ho : out.length ≤ 1000000000) (hk : k < (r.drop lo).length) :
  A5 P (jc7 k out)=.next (jc7 (k+1) (Ha4 r p q out (r.drop lo)[k])):=by
 have hwi:∀x,Ca4 r x=inn r x:=λx=>He2 r x (by omega)
 have hwg:∀x,Ca5 r x=true:=λx=>He3 r x (by omega)
 have hs:gL tP r (lo+k)=(r.drop lo)[k]:=by rw[<- zc5,Ta2 tP hk]
 have hbs:Bd (r.drop lo)[k]:=hb _ (Qio (Qih hk));have hd:(r.drop lo).length<=200:=by rw[Qid];omega
 have hme:=mf3 hp hq hbs;have hmg:=mf4 hp hq hbs;obtain⟨x1,x2,x3,x4,x5,x6,x7,x8,x9,x10,x11,x12,x13,x14,x15,x16,x17,x18,x19,x20,x21⟩:=P;obtain⟨ns,gs,is,p1,q1,r1⟩:=h
 simp only at ns gs is p1 q1 r1
 have r1:=r1.symm;subst ns gs is r1;unfold A5;cases out with
 |nil =>
  show C5 Stp.next Stp.exit Stp.fail _ (jc7 k [])=_;simp only[C5,jc7,Int.toNat_natCast,i5,q8,p1,q1,hs,Ed1,Ed2,hme,hmg,hwi,hwg,o4 hk (by omega)]
  rw[btD (i6 hk),bt (f7 hk),g9,g9];unfold Ha4;rw[Rd7];cases (mpt p q (r.drop lo)[k]).2 with
  |false=>rfl
  |true =>
   cases inn r (mpt p q (r.drop lo)[k]).1 with
   |false=>rfl
   |true=>rfl
 |cons o os =>
  show C6 Stp.next Stp.exit Stp.fail _ (jc7 k (o::os))=_;simp only[C6,jc7,Int.toNat_natCast,i5,q8,p1,q1,hs,Ed1,Ed2,hme,hmg,hwi,hwg,o4 hk (by omega),cd4]
  rw[btD (i6 hk),bt (f7 hk),g9,g9,Rd8 rfl ho,le1];unfold Ha4;cases (mpt p q (r.drop lo)[k]).2 with
  |false=>rfl
  |true =>
   cases hx:bc5 (o::os) (mpt p q (r.drop lo)[k]).1 with
   |true=>rfl
   |false =>
    cases inn r (mpt p q (r.drop lo)[k]).1 with
    |false=>rfl
    |true =>
     show Stp.next (⟨1,((k+1:Nat):Int),(o::os).length+1,bL tX (o::os++[(mpt p q (r.drop lo)[k]).1]),Db6 flK [i (mpt p q (r.drop lo)[k]).1.px,i (mpt p q (r.drop lo)[k]).1.py,i (mpt p q (r.drop lo)[k]).1.pz,i (mpt p q (r.drop lo)[k]).1.pw] (nd2 (mpt p q (r.drop lo)[k]).1) (Sb8 (o::os))⟩:l5)=_;rw[ud6 _ _ hx];simp[ph]
theorem nf4{P:l0}{r:List Pln}{p q:Pln}{lo:Nat}(h:C2 P r p q lo)(k:Nat)(out:List Pt)(hk:(r.drop lo).length<=k):A5 P (jc7 k out)=.exit (ph out+1):=by
 obtain⟨x1,x2,x3,x4,x5,x6,x7,x8,x9,x10,x11,x12,x13,x14,x15,x16,x17,x18,x19,x20,x21⟩:=P;obtain⟨ns,gs,is,p1,q1,r1⟩:=h
 simp only at ns gs is p1 q1 r1
 have r1:=r1.symm;subst ns gs is r1;unfold A5;have this:¬ ((k:Int)<((r.drop lo).length:Int)):=by omega
 cases out with
 |nil =>
  show C5 Stp.next Stp.exit Stp.fail _ (jc7 k [])=_;simp only[C5,jc7];rw[bfD this];rfl
 |cons o os =>
  show C6 Stp.next Stp.exit Stp.fail _ (jc7 k (o::os))=_;simp only[C6,jc7];rw[bfD this];rfl
theorem Xe7 {P : l0} {r : List Pln} {p q : Pln} {lo : Nat} (h : C2 P r p q lo) (hb : Bds r) (hr : r.length ≤ 200) (hp : Bd p) (hq : Bd q) (out : List Pt) (ho : out.length ≤ 100000000) :
  ∃m,lp (A5 P) (jc7 0 out)=(ph (mb5 r p q (r.drop lo) out)+1,jc7 m (mb5 r p q (r.drop lo) out)):=by
 have hd:(r.drop lo).length<=200:=by rw[Qid];omega
 exact⟨_,(Xa7 (mk:=jc7) (f:=λs _ out=>Ha4 r p q out s) (g:=λl out=>mb5 r p q l out) (fin:=λout=>ph out+1) (r.drop lo) (λj o=>o.length<=out.length+j) (by omega)
  (λ_=>rfl) (λ_ _ _=>rfl) (λj o hj hi=>⟨Xe6 h hb hr hp hq j o (by omega) hj,by have:=Gc7 r p q o (r.drop lo)[j];show (Ha4 r p q o (r.drop lo)[j]).length<=out.length+(j+1);omega⟩)
  (λj o hj _=>nf4 h j o hj) 0 out (by omega)).1⟩
@[reducible] noncomputable def jc8(r:List Pln)(j:Nat)(out:List Pt):l7:=⟨ph out,r,(j:Int),r,r,out.length,bL tX out,Sb8 out⟩
structure C1(P:l6)(r:List Pln)(p:Pln)(a:Nat):Prop where
 i3:P.is3=(a:Int)
 ns:P.qd1=(r.drop (a+1)).length
 gs:P.Lb6=λk=>tP.row (gL tP r (a+1+k))
 is:P.Jc8=((r.drop (a+1)).length:Int)
 p1:(⟨⟨P.aa5,P.aa6,P.aa7⟩,P.aa8⟩:Pln)=p
theorem Xe8 {P : l6} {r : List Pln} {p : Pln} {a : Nat} (h : C1 P r p a) (hb : Bds r) (hr : r.length ≤ 200) (hp : Bd p) (j : Nat) (out : List Pt) (ho : out.length ≤ 100000000) (hj : j < (r.drop (a + 1)).length) :
  A6 P (jc8 r j out)=.next (jc8 r (j+1) (mb5 r p (r.drop (a+1))[j] ((r.drop (a+1)).drop (j+1)) out)):=by
 have hs:gL tP r (a+1+j)=(r.drop (a+1))[j]:=by rw[<- zc5,Ta2 tP hj]
 have hbs:Bd (r.drop (a+1))[j]:=hb _ (Qio (Qih hj));have hd:=hj;rw[Qid] at hd;have hW:W (W ((a:Int)+(j:Int))+2)=((a+1+(j+1):Nat):Int):=by rw[tb5,ha0 (by omega) (by omega)];omega
 have hdl:(r.drop (a+1)).length<=4611686018427387904:=by rw[Qid];omega
 have hlo:inB ((a+1+(j+1):Nat):Int) (r.length+1)=true:=f7 (by omega)
 rw[List.drop_drop];generalize hq:(r.drop (a+1))[j]=q at *
 obtain⟨x1,x2,x3,x4,x5,x6,x7,x8,x9,x10⟩:=P;obtain⟨i3,ns,gs,is,p1⟩:=h
 simp only at i3 ns gs is p1
 subst i3 ns gs is;unfold A6;have key:∀(P2:l0),C2 P2 r p q (a+1+(j+1))->_:=λP2 h2=>Xe7 h2 hb hr hp hbs out ho
 cases out with
 |nil =>
  show C7 Stp.next Stp.exit Stp.fail _ (jc8 r j [])=_;simp only[C7,jc8,i5,i8,o4 hj hdl,hW,Int.toNat_natCast,hs,Ed2,hlo];rw[show (⟨0,0,0,[],[]⟩:l5)=jc7 0 [] from rfl]
  generalize hP:l0.mk _ _ _ _ _ _ _ _ _ _ _ _ _ _ _ _ _ _ _ _ _=P2;obtain⟨m,hm⟩:=key P2 (by
   subst hP;exact⟨by simp,rfl,by simp,p1,Ed1 q,rfl⟩)
  rw[hm,btD (i6 hj),bt (f7 hj)];cases mb5 r p q (r.drop (a+1+(j+1))) []<;>rfl
 |cons o os =>
  show C8 Stp.next Stp.exit Stp.fail _ (jc8 r j (o::os))=_;simp only[C8,jc8,i5,i8,o4 hj hdl,hW,Int.toNat_natCast,hs,Ed2,hlo];rw[show (⟨1,0,(o::os).length,bL tX (o::os),Sb8 (o::os)⟩:l5)=jc7 0 (o::os) from rfl]
  generalize hP:l0.mk _ _ _ _ _ _ _ _ _ _ _ _ _ _ _ _ _ _ _ _ _=P2;obtain⟨m,hm⟩:=key P2 (by
   subst hP;exact⟨by simp,rfl,by simp,p1,Ed1 q,rfl⟩)
  rw[hm,btD (i6 hj),bt (f7 hj)];cases mb5 r p q (r.drop (a+1+(j+1))) (o::os)<;>rfl
theorem nf5{P:l6}{r:List Pln}{p:Pln}{a:Nat}(h:C1 P r p a)(j:Nat)(out:List Pt)(hj:(r.drop (a+1)).length<=j):A6 P (jc8 r j out)=.exit (ph out+1):=by
 obtain⟨x1,x2,x3,x4,x5,x6,x7,x8,x9,x10⟩:=P;obtain⟨i3,ns,gs,is,p1⟩:=h
 simp only at i3 ns gs is p1
 subst i3 ns gs is;unfold A6;have this:¬ ((j:Int)<((r.drop (a+1)).length:Int)):=by omega
 cases out with
 |nil =>
  show C7 Stp.next Stp.exit Stp.fail _ (jc8 r j [])=_;simp only[C7,jc8];rw[bfD this];rfl
 |cons o os =>
  show C8 Stp.next Stp.exit Stp.fail _ (jc8 r j (o::os))=_;simp only[C8,jc8];rw[bfD this];rfl
theorem Xe9 {P : l6} {r : List Pln} {p : Pln} {a : Nat} (h : C1 P r p a) (hb : Bds r) (hr : r.length ≤ 200) (hp : Bd p) (out : List Pt) (ho : out.length ≤ 10000000) :
  ∃m,lp (A6 P) (jc8 r 0 out)=(ph (Xa8 r p (r.drop (a+1)) out)+1,jc8 r m (Xa8 r p (r.drop (a+1)) out)):=by
 have hd:(r.drop (a+1)).length<=200:=by rw[Qid];omega
 exact⟨_,(Xa7 (mk:=jc8 r) (f:=λq l out=>mb5 r p q l out) (g:=λl out=>Xa8 r p l out) (fin:=λout=>ph out+1) (r.drop (a+1)) (λk o=>o.length<=out.length+200*k) (by omega)
  (λ_=>rfl) (λ_ _ _=>rfl) (λk o hj hi=>⟨Xe8 h hb hr hp k o (by omega) hj,by
   have:=zc4 r p (r.drop (a+1))[k] ((r.drop (a+1)).drop (k+1)) o
   rw[Qid] at this;show (mb5 r p (r.drop (a+1))[k] ((r.drop (a+1)).drop (k+1)) o).length<=out.length+200*(k+1)
   omega⟩)
  (λk o hj _=>nf5 h k o hj) 0 out (by omega)).1⟩
@[reducible] noncomputable def qc8(r:List Pln)(j:Nat)(out:List Pt):n8:=⟨ph out,r,(j:Int),r,r,out.length,bL tX out,Sb8 out⟩
theorem Ye0 {P : u7} (r : List Pln) (h : P.ra5 = (r.length : Int)) (hb : Bds r) (hr : r.length ≤ 200) (a : Nat) (ha : a < r.length) (out : List Pt) (ho : out.length ≤ 40000 * a) :
  A7 P (qc8 r a out)=.next (qc8 r (a+1) (Xa8 r r[a] (r.drop (a+1)) out)):=by
 have hbs:Bd r[a]:=hb _ (Qih ha);have hlo:inB ((a+1:Nat):Int) (r.length+1)=true:=f7 (by omega)
 have key:∀(P2:l6),C1 P2 r r[a] a->_:=λP2 h2=>Xe9 h2 hb hr hbs out (by omega)
 obtain⟨x1⟩:=P
 simp only at h
 subst h;unfold A7;cases out with
 |nil =>
  show C9 Stp.next Stp.exit Stp.fail _ (qc8 r a [])=_;simp only[C9,qc8,i5,i8,o4 ha (by omega),Int.toNat_natCast,hlo,Ta2 tP ha]
  rw[show (⟨0,r,0,r,r,0,[],[]⟩:l7)=jc8 r 0 [] from rfl]
  generalize hP:l6.mk _ _ _ _ _ _ _ _ _ _=P2;obtain⟨m,hm⟩:=key P2 (by
   subst hP;exact⟨rfl,by simp,rfl,by simp,rfl⟩)
  rw[hm,btD (i6 ha),bt (f7 ha)];cases Xa8 r r[a] (r.drop (a+1)) []<;>rfl
 |cons o os =>
  show D0 Stp.next Stp.exit Stp.fail _ (qc8 r a (o::os))=_;simp only[D0,qc8,i5,i8,o4 ha (by omega),Int.toNat_natCast,hlo,Ta2 tP ha]
  rw[show (⟨1,r,0,r,r,(o::os).length,bL tX (o::os),Sb8 (o::os)⟩:l7)=jc8 r 0 (o::os) from rfl]
  generalize hP:l6.mk _ _ _ _ _ _ _ _ _ _=P2;obtain⟨m,hm⟩:=key P2 (by
   subst hP;exact⟨rfl,by simp,rfl,by simp,rfl⟩)
  rw[hm,btD (i6 ha),bt (f7 ha)];cases Xa8 r r[a] (r.drop (a+1)) (o::os)<;>rfl
theorem nf6{P:u7}(r:List Pln)(h:P.ra5=(r.length:Int))(j:Nat)(out:List Pt)(hj:r.length<=j):A7 P (qc8 r j out)=.exit (ph out+1):=by
 obtain⟨x1⟩:=P
 simp only at h
 subst h;unfold A7;have this:¬ ((j:Int)<(r.length:Int)):=by omega
 cases out with
 |nil =>
  show C9 Stp.next Stp.exit Stp.fail _ (qc8 r j [])=_;simp only[C9,qc8];rw[bfD this];rfl
 |cons o os =>
  show D0 Stp.next Stp.exit Stp.fail _ (qc8 r j (o::os))=_;simp only[D0,qc8];rw[bfD this];rfl
theorem Ye1(r:List Pln)(hb:Bds r)(hr:r.length<=200):∃m,lp (A7 ⟨(r.length:Int)⟩) (qc8 r 0 [])=(ph (cor r)+1,qc8 r m (cor r)) :=
 ⟨_,(Xa7 (step:=A7 ⟨(r.length:Int)⟩) (mk:=qc8 r) (f:=λq l out=>Xa8 r q l out) (g:=λl out=>zc3 r l out) (fin:=λout=>ph out+1) r (λk o=>o.length<=40000*k) (by omega)
  (λ_=>rfl) (λ_ _ _=>rfl) (λk o hj hi=>⟨Ye0 r rfl hb hr k hj o hi,by
   have h1:=cd1 r r[k] (r.drop (k+1)) o (by rw[Qid];omega)
   rw[Qid] at h1;show (Xa8 r r[k] (r.drop (k+1)) o).length<=40000*(k+1)
   omega⟩)
  (λk o hj _=>nf6 r rfl k o hj) 0 [] (by simp)).1⟩
theorem cd5(r:List Pln)(hb:Bds r)(hr:r.length<=200):aa9 r=some (slX (cor r)):=by
 obtain⟨m,hm⟩:=Ye1 r hb hr;unfold aa9;simp only[i5,i8];rw[show (⟨0,r,0,r,r,0,[],[]⟩:n8)=qc8 r 0 [] from rfl,hm]
 cases cor r<;>rfl
theorem ud7(r:List Pln)(hb:Bds r)(hr:r.length<=200):ba0 r=cor r:=by unfold ba0;rw[cd5 r hb hr];exact Ca8 _ (Ed0 _)
theorem ud8(r:List Pln)(hb:Bds r)(hr:r.length<=200):ba1 r=true:=by unfold ba1;rw[cd5 r hb hr];exact Oa8 _ (Ed0 _)
noncomputable def slP(l:List Pln):b7×List b9:=(.sl 0 0 l.length 0,[⟨73,4,bL tP l,true,false,0⟩])
theorem qc9(l:List Pln):(one (r1L tP)).rd (slP l)=some l:=by
 show Bool.rec (motive:=λ_=>Option (List Pln)) none (some (slR tP (bL tP l) 0 l.length)) (Bool.and true (okS tP (bL tP l) 0 l.length))=_
 rw[Mb9,Nb0];rfl
theorem zc6{α:Type}(t:Ty α)(l:List α):(one (r1L t)).rd (eL t l,[])=some l:=by
 show Bool.rec (motive:=λ_=>Option (List α)) none (some (rt t l)) (Bool.and (Nat.beq t.es t.es) (okE t l))=_
 rw[i5,q8,Qik];rfl
noncomputable def ws:List Pln:=[⟨⟨1,0,0⟩,24⟩,⟨⟨-1,0,0⟩,24⟩,⟨⟨0,1,0⟩,24⟩,⟨⟨0,-1,0⟩,24⟩,⟨⟨0,0,1⟩,24⟩,⟨⟨0,0,-1⟩,24⟩]
theorem gf8:Bds ws:=by
 intro p hp
 have:okp p=true:=by
  have h:ws.all okp=true:=by decide
  exact Qit.1 h p hp
 exact Pb1 this
noncomputable def nd3(lo hi:V3):List Pln:=[⟨⟨1,0,0⟩,hi.x⟩,⟨⟨-1,0,0⟩,W (0-lo.x)⟩,⟨⟨0,1,0⟩,hi.y⟩,⟨⟨0,-1,0⟩,W (0-lo.y)⟩,⟨⟨0,0,1⟩,hi.z⟩,⟨⟨0,0,-1⟩,W (0-lo.z)⟩]
theorem He7(lo hi:V3):hc8 lo hi=some (slP (nd3 lo hi)):=rfl
theorem gf9(lo hi:V3):Ib6 lo hi=nd3 lo hi:=by unfold Ib6;rw[He7];exact Ca8 _ (qc9 _)
theorem hf0(lo hi:V3):Ib7 lo hi=true:=by unfold Ib7;rw[He7];exact Oa8 _ (qc9 _)
theorem nf7:nd3 ⟨-24,-24,-24⟩ ⟨24,24,24⟩=ws:=by
 simp only[nd3,ws];rw[show W (0 - -24)=24 from by rw[Ce3];rfl]
theorem Ye2{l:List Pln}:Nat.beq (len (bL tP l)) 0=l.isEmpty:=by rw[P7];cases l<;>rfl
theorem He8(c:List Pln)(hc:c.length<=1000000000):Ib8 c=some (slP (c++ws)):=by
 unfold Ib8;simp only[tb4,gf9,hf0,nf7,Ye2];have h6:(0+len (bL tP c))=c.length:=by rw[P7];omega
 have hw:len (bL tP ws)=6:=rfl;rw[h6,hw];have e1:Nat.ble (c.length*32) room=true:=ca1 (by omega)
 have e2:Nat.ble ((c.length+6)*32) room=true:=ca1 (by omega)
 have e3:app (app [] (bL tP c)) (bL tP ws)=bL tP (c++ws):=Ra8 tP c ws;have e4:Nat.beq c.length (len (app [] (bL tP c)))=true:=by
  rw[show app [] (bL tP c)=bL tP c from rfl,P7,Qik]
 rw[e1,e2,e3,e4];cases c with
 |nil=>rfl
 |cons p c =>
  show some (b7.sl 0 0 ((p::c).length+6) 0,[(⟨73,4,bL tP (p::c++ws),true,false,0⟩:b9)])=_;unfold slP;rw[Qib];rfl
theorem hf3(c:List Pln)(hc:c.length<=1000000000):Ib9 c=c++ws:=by unfold Ib9;rw[He8 c hc];exact Ca8 _ (qc9 _)
theorem hf4(c:List Pln)(hc:c.length<=1000000000):Jb0 c=true:=by unfold Jb0;rw[He8 c hc];exact Oa8 _ (qc9 _)
theorem He9{l:List (List Pln)}{j:Nat}(h:j<l.length):gL (tLs tP) l j=l[j]:=Ta2 (tLs tP) h
theorem Sd0(ls:List (List Pln))(hn:ls.length<=1000000000)(hl:ls.flatten.length<=1000000000):∃m,lp (K6 ⟨ls,ls,(ls.length:Int)⟩) ⟨0,0⟩=(1,⟨(ls.flatten.length:Int),m⟩):=by
 have h:=Xa7 (step:=K6 ⟨ls,ls,(ls.length:Int)⟩) (mk:=λj (n:Nat)=>(⟨(n:Int),(j:Int)⟩:u8)) (f:=λl _ n=>n+l.length) (g:=λl n=>n+l.flatten.length) (fin:=λ_=>1) ls
  (λj n=>n+(ls.drop j).flatten.length=ls.flatten.length) hn (λ_=>rfl) (λx r a=>by simp only[List.flatten_cons,Qib];omega)
  (λj n hj hi=>by
   rw[Qim hj,List.flatten_cons,Qib] at hi;have hW:W ((n:Int)+(ls[j].length:Int))=((n+ls[j].length:Nat):Int):=by rw[ha0 (by omega) (by omega)];omega
   refine⟨?_,by show n+ls[j].length+(ls.drop (j+1)).flatten.length=_;omega⟩
   simp only[K6,P5,Int.toNat_natCast,He9 hj,hW,o4 hj (by omega)]
   rw[btD (i6 hj),bt (f7 hj),bfD (by omega)])
  (λj n hj _=>by
   simp only[K6,P5];rw[bfD (by omega)]) 0 0 (by simp)
 have h:=h.1;rw[Qia,Qij] at h;exact⟨_,h⟩
theorem Ie0{ls:List (List Pln)}(h:ls.flatten=[]){j:Nat}(hj:j<ls.length):ls[j]=[]:=by
 rw[List.flatten_eq_nil_iff] at h;exact h _ (Qih hj)
theorem le3(ls:List (List Pln))(hn:ls.length<=1000000000)(hl:ls.flatten=[]):∃s,lp (E3 ⟨ls,(ls.length:Int)⟩) ⟨0,0,0,[]⟩=(1,s):=by
 have h:=Xa7 (step:=E3 ⟨ls,(ls.length:Int)⟩) (mk:=λj (_:Unit)=>(⟨0,(j:Int),0,[]⟩:m9)) (f:=λ_ _ n=>n) (g:=λ_ n=>n) (fin:=λ_=>1) ls
  (λ_ _=>True) hn (λ_=>rfl) (λx r a=>rfl)
  (λj n hj hi=>by
   refine⟨?_,trivial⟩;show D1 Stp.next Stp.exit Stp.fail _ _=_;simp only[D1,Int.toNat_natCast,He9 hj,Ie0 hl hj,o4 hj (by omega)]
   rw[btD (i6 hj),bt (f7 hj)]
   rfl)
  (λj n hj _=>by
   show D1 Stp.next Stp.exit Stp.fail _ _=_;simp only[D1];rw[bfD (by omega)]) 0 () trivial
 exact⟨_,h.1⟩
noncomputable def Gb0(t:Nat)(d:List Pln):List (List b7):=app (bL tP d) (List.replicate (t-d.length) Dd4)
theorem Ie1(t:Nat)(d:List Pln)(h:d.length<=t):len (Gb0 t d)=t:=by
 unfold Gb0;rw[I6,n7,Qib,<- n7,P7,List.length_replicate];omega
theorem Ie2(t:Nat)(d l:List Pln)(h:d.length+l.length<=t):app (q9 (Gb0 t d) d.length) (app (bL tP l) (f9 (Gb0 t d) (d.length+len (bL tP l))))=Gb0 t (d++l):=by
 have hd:(bL tP d).length=d.length:=by rw[<- n7,P7]
 unfold Gb0;rw[P7,<- Ra8];simp only[I6,L4,L5];rw[List.take_left' hd,Qir];congr 2;rw[List.drop_append,Qiv (by omega),List.nil_append,hd,List.drop_replicate,Qib]
 congr 1;omega
theorem Sd1(ls:List (List Pln))(hn:ls.length<=1000000000):∃m,lp (E3 ⟨ls,(ls.length:Int)⟩) ⟨1,0,0,List.replicate ls.flatten.length Dd4⟩=(2,⟨1,m,ls.flatten.length,bL tP ls.flatten⟩):=by
 have h:=Xa7 (step:=E3 ⟨ls,(ls.length:Int)⟩) (mk:=λj (d:List Pln)=>(⟨1,(j:Int),d.length,Gb0 ls.flatten.length d⟩:m9)) (f:=λl _ d=>d++l) (g:=λl d=>d++l.flatten) (fin:=λ_=>2) ls
  (λj d=>d.length+(ls.drop j).flatten.length=ls.flatten.length) hn (λ_=>by simp) (λx r a=>by simp)
  (λj d hj hi=>by
   rw[Qim hj,List.flatten_cons,Qib] at hi;refine⟨?_,by show (d++ls[j]).length+(ls.drop (j+1)).flatten.length=_;rw[Qib];omega⟩
   show D2 Stp.next Stp.exit Stp.fail _ _=_;simp only[D2,Int.toNat_natCast,He9 hj,o4 hj (by omega),tb4]
   rw[Ie2 _ _ _ (by omega),Ie1 _ _ (by omega),P7,btD (i6 hj),bt (f7 hj),bt (by rw[Nat.ble_eq];omega),Qib])
  (λj d hj _=>by
   show D2 Stp.next Stp.exit Stp.fail _ _=_;simp only[D2];rw[bfD (by omega)]) 0 [] (by simp)
 have h:=h.1;rw[Qia,List.nil_append] at h;have e:Gb0 ls.flatten.length ls.flatten=bL tP ls.flatten:=by unfold Gb0;rw[Nat.sub_self,I6];simp
 rw[e] at h;exact⟨_,h⟩
theorem hf5(ls:List (List Pln))(hn:ls.length<=1000000000)(hl:ls.flatten.length<=1000000000):Jb8 ls=some (slP (ls.flatten++ws)):=by
 have hc:v7 ls=if ls.flatten=[] then ⟨1,0,[]⟩ else ⟨2,ls.flatten.length,bL tP ls.flatten⟩:=by
  unfold v7 L2;simp only[i5,i8];obtain⟨m,hm⟩:=Sd0 ls hn hl;rw[hm];by_cases h0:ls.flatten=[]
  ·obtain⟨s,hs⟩:=le3 ls hn h0;rw[if_pos h0,hs];rw[show (⟨(ls.flatten.length:Int),m⟩:u8)=⟨0,m⟩ by rw[h0];rfl]
   rfl
  ·obtain⟨m',hm'⟩:=Sd1 ls hn;rw[if_neg h0];simp only[Int.toNat_natCast];rw[hm'];have h1:0<ls.flatten.length:=List.length_pos_iff.2 h0;have e1:((ls.flatten.length:Int)==0)=false:=by rw[beq_eq_false_iff_ne];omega
   have e2:Bool.and (decide ((0:Int)<(ls.flatten.length:Int))) (Nat.ble (ls.flatten.length*32) room)=true:=by
    rw[ca1 (by omega),decide_eq_true (by omega)]
    rfl
   rw[e1,e2];rfl
 unfold Jb8;simp only[i5,q8,hc];by_cases h0:ls.flatten=[]
 ·rw[if_pos h0,h0];rfl
 ·rw[if_neg h0];generalize ls.flatten=c at *
  have e:∀(d:List Pln) (p:Pln),app (bL tP d) [[i p.n.x,i p.n.y,i p.n.z,i p.b]]=bL tP (d++[p]):=λd p=>Ra8 tP d [p]
  have c1:=e c ⟨⟨1,0,0⟩,24⟩;have c2:=e (c++[⟨⟨1,0,0⟩,24⟩]) ⟨⟨-1,0,0⟩,24⟩;have c3:=e (c++[⟨⟨1,0,0⟩,24⟩]++[⟨⟨-1,0,0⟩,24⟩]) ⟨⟨0,1,0⟩,24⟩;have c4:=e (c++[⟨⟨1,0,0⟩,24⟩]++[⟨⟨-1,0,0⟩,24⟩]++[⟨⟨0,1,0⟩,24⟩]) ⟨⟨0,-1,0⟩,24⟩;have c5:=e (c++[⟨⟨1,0,0⟩,24⟩]++[⟨⟨-1,0,0⟩,24⟩]++[⟨⟨0,1,0⟩,24⟩]++[⟨⟨0,-1,0⟩,24⟩]) ⟨⟨0,0,1⟩,24⟩;have c6:=e (c++[⟨⟨1,0,0⟩,24⟩]++[⟨⟨-1,0,0⟩,24⟩]++[⟨⟨0,1,0⟩,24⟩]++[⟨⟨0,-1,0⟩,24⟩]++[⟨⟨0,0,1⟩,24⟩]) ⟨⟨0,0,-1⟩,24⟩
  simp only at c1 c2 c3 c4 c5 c6
  simp only[c1,c2,c3,c4,c5,c6,P7,Qib,List.length_singleton];have g:∀n:Nat,n<=1000000010->(Nat.beq n n&&Nat.ble ((n+1)*32) room)=true:=λn h=>by rw[Qik,ca1 (by omega)];rfl
  rw[g _ (by omega),g _ (by omega),g _ (by omega),g _ (by omega),g _ (by omega),g _ (by omega)]
  show some (b7.sl 0 0 (c.length+1+1+1+1+1+1) 0,[(⟨73,4,bL tP _,true,false,0⟩:b9)])=_;unfold slP;rw[Qib];simp only[Qir];rfl
theorem zf5(ls:List (List Pln))(hn:ls.length<=1000000000)(hl:ls.flatten.length<=1000000000):cb1 ls=ls.flatten++ws:=by unfold cb1;rw[hf5 ls hn hl];exact Ca8 _ (qc9 _)
theorem zf6(ls:List (List Pln))(hn:ls.length<=1000000000)(hl:ls.flatten.length<=1000000000):cb2 ls=true:=by unfold cb2;rw[hf5 ls hn hl];exact Oa8 _ (qc9 _)
theorem hf6(c:List Pln)(hc:c.length<=1000000000):cb1 [c]=c++ws:=by
 have:[c].flatten=c:=by simp
 rw[zf5 [c] (by simp) (by rw[this];exact hc),this]
theorem hf7(c:List Pln)(hc:c.length<=1000000000):cb2 [c]=true:=by
 have:[c].flatten=c:=by simp
 exact zf6 [c] (by simp) (by rw[this];exact hc)
theorem ud9(ls:List (List Pln))(hn:ls.length<=1000000000)(hl:∀c∈ls,c.length<=1000000000):Xa5 ls=some (b (ls.all λc=>chk c==0),[]):=by
 have hv:∀c∈ls,Xa2 c=!(chk c==0)/\Xa3 c=true:=λc hc=>by
  have:Ga8 c=some (b (!(chk c==0)),[]):=by
   unfold Ga8;simp only[i5,q8,Tc6 c (hl c hc),Dd8 c (hl c hc)];rfl
  unfold Xa2 Xa3;rw[this];exact⟨rfl,rfl⟩
 have h:=Qa3 (step:=J1 ⟨ls,(ls.length:Int)⟩) (mk:=λj=>(⟨(j:Int)⟩:p8)) (c:=λc=>!(chk c==0)) (u:=1) (fin:=2) (tLs tP) ls hn
  (λj hj=>by
   have hm:=hv _ (ta9 (tLs tP) hj);simp only[J1,G6,Int.toNat_natCast,i5,q8,hm.1,hm.2,o4 hj (by omega)]
   rw[btD (i6 hj),bt (f7 hj),g9,g9])
  (by simp only[J1,G6];rw[bfD (r8 (Qic _))]) 0 (Qie _)
 rw[Qia] at h;have e:(ls.any λc=>!(chk c==0))=!ls.all λc=>chk c==0:=by rw[Qii]
 unfold Xa5 ga0 D6 oa2 H7;simp only[i5,i8];rw[show (⟨0⟩:p8)=⟨((0:Nat):Int)⟩ from rfl,h,e]
 cases ls.all λc=>chk c==0 with
 |true=>rfl
 |false =>
  simp only[Qiw,if_true,Qij];show sl true (sl (Nat.beq 1 1) (some (b (!(decide (((ls.findIdx λc=>!(chk c==0):Nat):Int)>=0))),[])) _) _=_
  rw[show decide (((ls.findIdx λc=>!(chk c==0):Nat):Int)>=0)=true from decide_eq_true (by omega)]
  rfl
theorem Sd2(ls:List (List Pln))(hn:ls.length<=1000000000)(hl:∀c∈ls,c.length<=1000000000):xa7 ls=ls.all λc=>chk c==0:=by unfold xa7;rw[ud9 ls hn hl];rfl
theorem Sd3(ls:List (List Pln))(hn:ls.length<=1000000000)(hl:∀c∈ls,c.length<=1000000000):xa8 ls=true:=by unfold xa8;rw[ud9 ls hn hl];rfl
theorem Sd4(c:List Pln)(hc:c.length<=1000000000):xa7 [c]=(chk c==0):=by
 rw[Sd2 [c] (by simp) (by simpa using hc)]
 simp
theorem Sd5(c:List Pln)(hc:c.length<=1000000000):xa8 [c]=true:=Sd3 [c] (by simp) (by simpa using hc)
noncomputable def pos(X:List Pt)(p:Pln):Bool:=X.any λx=>decide (rm p x>0)
noncomputable def Qc0(r:List Pln):Bool:=r.all (pos (cor r))
theorem Ie3(p:Pln)(X:List Pt)(hX:X.length<=1000000000):qa5 ⟨p.n.x,p.n.y,p.n.z,p.b,X⟩=⟨1,!pos X p⟩:=by
 have hw:∀x:Pt,xa9 ⟨x.px,x.py,x.pz,x.pw,p.n.x,p.n.y,p.n.z,p.b⟩=⟨decide (rm p x>0)⟩:=λx=>by
  show W7.mk (decide (wa7 p x>0))=_;rw[Dd6]
 have h:=Qa3 (step:=M1 ⟨X,(X.length:Int),p.n.x,p.n.y,p.n.z,p.b⟩) (mk:=λj=>(⟨(j:Int)⟩:r7)) (c:=λx=>decide (rm p x>0)) (u:=1) (fin:=2) tX X hX
  (λj hj=>by
   simp only[M1,J2,Int.toNat_natCast,hw,o4 hj (by omega)]
   rw[btD (i6 hj),bt (f7 hj)])
  (by simp only[M1,J2];rw[bfD (r8 (Qic _))]) 0 (Qie _)
 rw[Qia] at h;unfold qa5 T7 ia5 E6 ra8 K7 pos;simp only[i5,i8];rw[show (⟨0⟩:r7)=⟨((0:Nat):Int)⟩ from rfl,h]
 cases X.any λx=>decide (rm p x>0) with
 |false=>rfl
 |true =>
  simp only[if_true,Qij];show da9.mk 1 (!(decide (((X.findIdx λx=>decide (rm p x>0):Nat):Int)>=0)))=_
  rw[show decide (((X.findIdx λx=>decide (rm p x>0):Nat):Int)>=0)=true from decide_eq_true (by omega)]
theorem le4(r:List Pln)(hb:Bds r)(hr:r.length<=200):la8 r=some (b (Qc0 r),[]):=by
 have hX:(cor r).length<=1000000000:=Qiy (Dd9 r hb hr) (by omega)
 have h:=Qa3 (step:=J3 ⟨r,(r.length:Int)⟩) (mk:=λj=>(⟨(j:Int),cor r⟩:p9)) (c:=λp=>!pos (cor r) p) (u:=1) (fin:=2) tP r (by omega)
  (λj hj=>by
   simp only[J3,G7,Int.toNat_natCast,i5,i8,Ie3 _ _ hX,o4 hj (by omega)]
   rw[btD (i6 hj),bt (f7 hj)]
   rfl)
  (by simp only[J3,G7];rw[bfD (r8 (Qic _))]) 0 (Qie _)
 rw[Qia] at h;have e:(r.any λp=>!pos (cor r) p)=!r.all (pos (cor r)):=by rw[Qii]
 unfold la8 ga2 D7 oa4 H8 Qc0;simp only[i5,i8,q8,ud7 r hb hr,ud8 r hb hr];rw[show (⟨0,cor r⟩:p9)=⟨((0:Nat):Int),cor r⟩ from rfl,h,e]
 cases r.all (pos (cor r)) with
 |true=>rfl
 |false =>
  simp only[Qiw,if_true,Qij];show some (b (!(decide (((r.findIdx λp=>!pos (cor r) p:Nat):Int)>=0))),[])=_
  rw[show decide (((r.findIdx λp=>!pos (cor r) p:Nat):Int)>=0)=true from decide_eq_true (by omega)]
  rfl
theorem Ie4(r:List Pln)(hb:Bds r)(hr:r.length<=200):la9 r=Qc0 r:=by unfold la9;rw[le4 r hb hr];rfl
theorem Ie5(r:List Pln)(hb:Bds r)(hr:r.length<=200):ma0 r=true:=by unfold ma0;rw[le4 r hb hr];rfl
theorem ee7(r:List Pln)(X:List Pt)(hr:r.length<=200)(hX:X.length<=1000000000)(a:Nat)(ha:a<r.length):∃m,lp (Ca2 ⟨r,X,(a:Int)⟩) ⟨false,0⟩=(1,⟨pos X r[a],m⟩):=by
 have h:=wc5 (step:=Ca2 ⟨r,X,(a:Int)⟩) (mk:=λj (c:Bool)=>(⟨c,(j:Int)⟩:pa7)) (f:=λc x=>c||decide (rm r[a] x>0)) (fin:=1) tX X (λ_ _=>True) hX
  (λj c hj _=>⟨by
   simp only[Ca2,Fa8,Int.toNat_natCast,Tc4,o4 hj (by omega),Ta2 tP ha,f7 ha,f7 hj]
   rw[btD (i6 hj)];cases c<;>rfl,trivial⟩)
  (λc _=>by simp only[Ca2,Fa8];rw[bfD (r8 (Qic _))]) 0 (Qie _) false trivial
 have h:=h.1;rw[Qia] at h;have e:∀(l:List Pt) (c:Bool),l.foldl (λc x=>c||decide (rm r[a] x>0)) c=(c||l.any λx=>decide (rm r[a] x>0)):=by
  intro l
  induction l with
  |nil=>intro c;simp
  |cons x l ih=>intro c;rw[List.foldl_cons,ih,List.any_cons,Bool.or_assoc]
 rw[e,Bool.false_or] at h;exact⟨_,h⟩
theorem le5(r:List Pln)(hb:Bds r)(hr:r.length<=200):ub9 r=some (b (Qc0 r),[]):=by
 have hX:(cor r).length<=1000000000:=Qiy (Dd9 r hb hr) (by omega)
 have h:=lb0 (step:=Oa0 ⟨⟩) (mk:=λj=>(⟨r,cor r,(j:Int)⟩:ha9)) (c:=λp=>!pos (cor r) p) (u:=1) (fin:=2) tP r (by omega)
  (λj hj=>by
   obtain⟨m,hm⟩:=ee7 r (cor r) hr hX j hj;simp only[Oa0,Fa9,i5,i8,hm,o4 hj (by omega),Ta2 tP hj]
   rw[btD (i6 hj)]
   rfl)
  (by simp only[Oa0,Fa9];rw[bfD (r8 (Qic _))]) 0 (Qie _)
 rw[Qia] at h;have e:(r.any λp=>!pos (cor r) p)=!r.all (pos (cor r)):=by rw[Qii]
 unfold ub9 Qc0;simp only[i5,i8,q8,cd2 r hb hr,cd3 r hb hr];rw[show (⟨r,cor r,0⟩:ha9)=⟨r,cor r,((0:Nat):Int)⟩ from rfl,h,e]
 cases r.all (pos (cor r))<;>rfl
theorem nf8(r:List Pln)(hb:Bds r)(hr:r.length<=200):Ob1 r=Qc0 r:=by unfold Ob1;rw[le5 r hb hr];rfl
theorem nf9(r:List Pln)(hb:Bds r)(hr:r.length<=200):Ob2 r=true:=by unfold Ob2;rw[le5 r hb hr];rfl
theorem eb9{c:List Pln}(h:(chk c==0)=true):Bds (c++ws)/\(c++ws).length<=200:=by
 rw[beq_iff_eq,Ha3] at h;refine⟨λp hp=>?_,by rw[Qib,show ws.length=6 from rfl];omega⟩
 rcases Qiu.1 hp with hp|hp
 ·exact Pb1 (h.2 p hp)
 ·exact gf8 p hp
noncomputable def pts(c:List Pln):List Pt:=if chk c==0 then cor (c++ws) else []
noncomputable def ful(c:List Pln):Bool:=(chk c==0)&&Qc0 (c++ws)
theorem Sd6{c:List Pln}(hc:c.length<=1000000000):∃x,Oa7 c=some x/\(one (r1L tX)).rd x=some (pts c):=by
 unfold Oa7 pts;simp only[i5,q8,Sd4 c hc,Sd5 c hc,hf6 c hc,hf7 c hc];cases h:chk c==0 with
 |false=>exact⟨_,rfl,rfl⟩
 |true =>
  obtain⟨h1,h2⟩:=eb9 h;rw[ud7 _ h1 h2,ud8 _ h1 h2];exact⟨_,rfl,zc6 tX _⟩
theorem cd6{c:List Pln}(hc:c.length<=1000000000):Ca6 c=pts c:=by
 obtain⟨x,h1,h2⟩:=Sd6 hc;unfold Ca6;rw[h1];exact Ca8 _ h2
theorem cd7{c:List Pln}(hc:c.length<=1000000000):Ca7 c=true:=by
 obtain⟨x,h1,h2⟩:=Sd6 hc;unfold Ca7;rw[h1];exact Oa8 _ h2
theorem vd0{c:List Pln}(hc:c.length<=1000000000):∃x,Wa1 c=some x/\(one (r1L tX)).rd x=some (pts c):=by
 unfold Wa1 pts;simp only[i5,q8,Rd4 c hc,Rd5 c hc,hf3 c hc,hf4 c hc];have e:(chk c != 0)=!(chk c==0):=rfl;rw[e];cases h:chk c==0 with
 |false=>exact⟨_,rfl,rfl⟩
 |true =>
  obtain⟨h1,h2⟩:=eb9 h;rw[cd2 _ h1 h2,cd3 _ h1 h2];exact⟨_,rfl,zc6 tX _⟩
theorem ve3{c:List Pln}(hc:c.length<=1000000000):ob6 c=pts c:=by
 obtain⟨x,h1,h2⟩:=vd0 hc;unfold ob6;rw[h1];exact Ca8 _ h2
theorem ve4{c:List Pln}(hc:c.length<=1000000000):ob7 c=true:=by
 obtain⟨x,h1,h2⟩:=vd0 hc;unfold ob7;rw[h1];exact Oa8 _ h2
theorem le6{c:List Pln}(hc:c.length<=1000000000):jb1 c=some (b (ful c),[]):=by
 unfold jb1 ful;simp only[i5,q8,Sd4 c hc,Sd5 c hc,hf6 c hc,hf7 c hc];cases h:chk c==0 with
 |false=>rfl
 |true =>
  obtain⟨h1,h2⟩:=eb9 h;rw[Ie4 _ h1 h2,Ie5 _ h1 h2];rfl
theorem rc0{c:List Pln}(hc:c.length<=1000000000):ka4 c=ful c:=by unfold ka4;rw[le6 hc];rfl
theorem rc1{c:List Pln}(hc:c.length<=1000000000):ka5 c=true:=by unfold ka5;rw[le6 hc];rfl
theorem Sd7{c:List Pln}(hc:c.length<=1000000000):vb0 c=some (b (ful c),[]):=by
 unfold vb0 ful;simp only[i5,q8,Rd4 c hc,Rd5 c hc,hf3 c hc,hf4 c hc];cases h:chk c==0 with
 |false=>rfl
 |true =>
  obtain⟨h1,h2⟩:=eb9 h;rw[nf8 _ h1 h2,nf9 _ h1 h2];rfl
theorem le7{c:List Pln}(hc:c.length<=1000000000):bb4 c=ful c:=by unfold bb4;rw[Sd7 hc];rfl
theorem le8{c:List Pln}(hc:c.length<=1000000000):bb5 c=true:=by unfold bb5;rw[Sd7 hc];rfl
set_option maxRecDepth 100000
structure Qa7 where
 is1:Int
 l8:List Int
 d8:Int
noncomputable def Gc8:List (Nat×Sum):=[(27,Fc9)]
theorem zc7:i9 prog G Gc8:=⟨ad3,trivial⟩
structure Qa8 where
 alt:Nat
 (is0 d8:Int)
noncomputable def pa1{α:Type}(kk:Qa8->α)(x:Qa7):α:=let t1:=(Jb2 (gL tI x.l8 (W ((W (x.d8+1))-1)).toNat) x.is1);(sl (decide (x.d8>=(↑(List.length x.l8):Int))) (kk ⟨1,0,x.d8⟩) (sl (inB (W ((W (x.d8+1))-1)) (List.length x.l8)) (sl (Jb3 (gL tI x.l8 (W ((W (x.d8+1))-1)).toNat) x.is1) (kk ⟨1,t1,W (x.d8+1)⟩) (kk ⟨0,0,0⟩)) (kk ⟨0,0,0⟩)))
noncomputable def o0(x:Qa7):Qa8:=pa1 (λr=>r) x
noncomputable def cb5(x:Qa7)(r:Qa8):DT (b7×List b9):=(.ite (Nat.beq r.alt 1) (.ret (i r.is0,[⟨0,2,[[eL tI x.l8,i r.d8]],true,false,0⟩])) .fail)
theorem Qc1{α β:Type}(F:α->β)(kk:Qa8->α)(x:Qa7):F (pa1 kk x)=pa1 (λr=>F (kk r)) x:=by unfold pa1;(repeat' apply m8 (f:=F))<;>rfl
noncomputable def Aa6:Sum:=Va6 ⟨[sPq 0,sIq],[⟨0,2,true,some [[.c 1 (nL tI),.o (.int .i64)]]⟩],λa H=>(⟨aIq a 1,hLq tI H 0 0 0,hIq H 0 0 1⟩,())⟩ (λx=>cb5 x (o0 x))
theorem Ka1:g7 prog G 68 Aa6:=M9 (enc:=λx=>⟨[.ptr 0 0 0 0,i x.is1],[⟨0,2,[[eL tI x.l8,i x.d8]],true,false,0⟩]⟩) (λa H=>by kernel_rfl) (bd b68 zc7) λx=>y5 (Eq.trans (b:=pa1 (λr=>(cb5 x r).run) x) (by kernel_rfl) (Qc1 (λr=>(cb5 x r).run) (λr=>r) x).symm)
structure ic0 where
 is1:Int
 l8:List Int
 d8:Int
noncomputable def ee8:List (Nat×Sum):=[(68,Aa6)]
theorem Sd8:i9 prog G ee8:=⟨Ka1,trivial⟩
structure ic1 where
 alt:Nat
 (Ba7 Ba8 Ba9:Int)
 l8:List Int
 d8:Int
noncomputable def rb8{α:Type}(kk:ic1->α)(x:ic0):α:=let t1:=(o0 ⟨W ((W (2*x.is1))+1),rt tI x.l8,x.d8⟩);let t2:=(o0 ⟨W ((W (2*x.is1))+1),rt tI (rt tI x.l8),t1.d8⟩);let t3:=(o0 ⟨W ((W (2*x.is1))+1),rt tI (rt tI (rt tI x.l8)),t2.d8⟩);(sl ((cnE tI x.l8)&&true) (sl (Nat.beq t1.alt 1) (sl ((cnE tI (rt tI x.l8))&&true) (sl (Nat.beq t2.alt 1) (sl ((cnE tI (rt tI (rt tI x.l8)))&&true) (sl (Nat.beq t3.alt 1) (kk ⟨1,W (t1.is0-x.is1),W (t2.is0-x.is1),W (t3.is0-x.is1),rt tI (rt tI (rt tI x.l8)),t3.d8⟩) (kk ⟨0,0,0,0,[],0⟩)) (kk ⟨0,0,0,0,[],0⟩)) (kk ⟨0,0,0,0,[],0⟩)) (kk ⟨0,0,0,0,[],0⟩)) (kk ⟨0,0,0,0,[],0⟩)) (kk ⟨0,0,0,0,[],0⟩))
noncomputable def cb6(x:ic0):ic1:=rb8 (λr=>r) x
noncomputable def rc2(x:ic0)(r:ic1):DT (b7×List b9):=(.ite (Nat.beq r.alt 1) (.ret (.agg [i r.Ba7,i r.Ba8,i r.Ba9],[⟨0,2,[[eL tI r.l8,i r.d8]],true,false,0⟩])) .fail)
theorem ve5{α β:Type}(F:α->β)(kk:ic1->α)(x:ic0):F (rb8 kk x)=rb8 (λr=>F (kk r)) x:=by unfold rb8;(repeat' apply m8 (f:=F))<;>rfl
noncomputable def Gc9:Sum:=Va6 ⟨[sPq 0,sIq],[⟨0,2,true,some [[.c 1 (nL tI),.o (.int .i64)]]⟩],λa H=>(⟨aIq a 1,hLq tI H 0 0 0,hIq H 0 0 1⟩,())⟩ (λx=>rc2 x (cb6 x))
theorem cd8:g7 prog G 69 Gc9:=M9 (enc:=λx=>⟨[.ptr 0 0 0 0,i x.is1],[⟨0,2,[[eL tI x.l8,i x.d8]],true,false,0⟩]⟩) (λa H=>by kernel_rfl) (bd b69 Sd8) λx=>y5 (Eq.trans (b:=rb8 (λr=>(rc2 x r).run) x) (by kernel_rfl) (ve5 (λr=>(rc2 x r).run) (λr=>r) x).symm)
noncomputable def ee9:List (Nat×Sum):=[]
theorem Sd9:i9 prog G ee9:=trivial
noncomputable def Ka2(x:V3)(y:V3):V3:=(⟨W (x.x-y.x),W (x.y-y.y),W (x.z-y.z)⟩:V3)
noncomputable def Hc0:Sum:=ta8 (fa0 tV) (fa0 tV) (λx y=>.ret ((one r1V).enc (Ka2 x y),[]))
theorem cd9:g7 prog G 128 Hc0:=Da9 (bd Hf4 Sd9) λx y=>y5 (by kernel_rfl)
noncomputable def ve6:List (Nat×Sum):=[(191,Ja6)]
theorem fe0:i9 prog G ve6:=⟨Wa0,trivial⟩
noncomputable def bc8(x:V3):Option (b7×List b9):=(sl (decide (x.x<(-24))) (some (b false,[])) (sl (decide (x.x>24)) (some (b false,[])) (sl (decide (x.y<(-24))) (some (b false,[])) (sl (decide (x.y>24)) (some (b false,[])) (sl (decide (x.z<(-24))) (some (b false,[])) (sl (decide (x.z>24)) (some (b false,[])) (some (b true,[]))))))))
noncomputable def jb2(x:V3):Bool:=N9 (one r1B) (bc8 x)
noncomputable def jb3(x:V3):Bool:=okO (one r1B) (bc8 x)
noncomputable def zc8:Sum:=V1 (fa0 tV) (λx=>.guard (jb3 x) (.ret ((one r1B).enc (jb2 x),[])))
theorem Hc1:g7 prog G 162 zc8:=Fa2 (bd If8 fe0) (one r1B) (o:=bc8) λx=>y5 (by kernel_rfl)
noncomputable def dd0:List (Nat×Sum):=[(162,zc8),(128,Hc0),(164,Zb5),(163,qc1),(84,hc7)]
theorem Qc2:i9 prog G dd0:=⟨Hc1,cd9,xc4,Lc4,pc8,trivial⟩
noncomputable def Oa9(x:V3)(y:V3)(z:V3):Option (b7×List b9):=let t1:=(jb2 x);let t2:=(jb2 y);let t3:=(jb2 z);let t4:=(Ka2 y x);let t5:=(Ka2 z x);let t6:=(Y3 t4 t5);let t7:=(Sa2 t6);let t8:=(Ca1 t7.1 x);(sl (jb3 x) (sl (!t1) (some (.tup [.agg [i 0,i 0,i 0,i 0],b false],[])) (sl (jb3 y) (sl (!t2) (some (.tup [.agg [i 0,i 0,i 0,i 0],b false],[])) (sl (jb3 z) (sl (!t3) (some (.tup [.agg [i 0,i 0,i 0,i 0],b false],[])) (sl (ub8 t6) (sl (t7.2==0) (some (.tup [.agg [i 0,i 0,i 0,i 0],b false],[])) (some (.tup [.agg [i t7.1.x,i t7.1.y,i t7.1.z,i t8],b true],[]))) none)) none)) none)) none)
noncomputable def ra9(x:V3)(y:V3)(z:V3):Pln×Bool:=N9 (two r1P r1B) (Oa9 x y z)
noncomputable def sa0(x:V3)(y:V3)(z:V3):Bool:=okO (two r1P r1B) (Oa9 x y z)
noncomputable def fb0:Sum:=pc2 (fa0 tV) (fa0 tV) (fa0 tV) (λx y z=>.guard (sa0 x y z) (.ret ((two r1P r1B).enc (ra9 x y z),[])))
theorem wb0:g7 prog G 107 fb0:=se9 (bd Ff8 Qc2) (two r1P r1B) (o:=Oa9) λx y z=>y5 (by kernel_rfl)
noncomputable def Td0:List (Nat×Sum):=[(68,Aa6),(69,Gc9),(107,fb0),(27,Fc9)]
theorem Ed3:i9 prog G Td0:=⟨Ka1,cd8,wb0,ad3,trivial⟩
noncomputable def Sa4(x:List Int):Option (b7×List b9):=let t1:=(o0 ⟨8,rt tI x,0⟩);let t2:=(o0 ⟨17,rt tI (rt tI x),t1.d8⟩);let t3:=(cb6 ⟨8,rt tI (rt tI (rt tI x)),t2.d8⟩);let t4:=(cb6 ⟨8,rt tI t3.l8,t3.d8⟩);let t5:=(cb6 ⟨8,rt tI t4.l8,t4.d8⟩);let t6:=(ra9 (⟨t3.Ba7,t3.Ba8,t3.Ba9⟩:V3) (⟨t4.Ba7,t4.Ba8,t4.Ba9⟩:V3) (⟨t5.Ba7,t5.Ba8,t5.Ba9⟩:V3));let t7:=(Jb2 (W (t2.is0-8)) 3);let w0:Option (b7×List b9):=(sl (Jb3 (W (t2.is0-8)) 3) (sl (t7==1) (some (.agg [i 0,i (W (1-(W (2*(Int.tmod t1.is0 2))))),i 0,i (W (t2.is0-8))],[])) (sl (t7==2) (some (.agg [i 0,i 0,i (W (1-(W (2*(Int.tmod t1.is0 2))))),i (W (t2.is0-8))],[])) (some (.agg [i (W (1-(W (2*(Int.tmod t1.is0 2))))),i 0,i 0,i (W (t2.is0-8))],[])))) none);(sl ((cnE tI x)&&true) (sl (Nat.beq t1.alt 1) (sl ((cnE tI (rt tI x))&&true) (sl (Nat.beq t2.alt 1) (sl ((cnE tI (rt tI (rt tI x)))&&true) (sl (Nat.beq t3.alt 1) (sl ((cnE tI t3.l8)&&true) (sl (Nat.beq t4.alt 1) (sl ((cnE tI t4.l8)&&true) (sl (Nat.beq t5.alt 1) (sl (sa0 (⟨t3.Ba7,t3.Ba8,t3.Ba9⟩:V3) (⟨t4.Ba7,t4.Ba8,t4.Ba9⟩:V3) (⟨t5.Ba7,t5.Ba8,t5.Ba9⟩:V3)) (sl (decide (t1.is0>1)) (sl t6.2 (some (.agg [i t6.1.n.x,i t6.1.n.y,i t6.1.n.z,i t6.1.b],[])) w0) w0) none) none) none) none) none) none) none) none) none) none) none)
noncomputable def ya0(x:List Int):Pln:=N9 (one r1P) (Sa4 x)
noncomputable def wb1(x:List Int):Bool:=okO (one r1P) (Sa4 x)
noncomputable def rc3:Sum:=V1 (R5 tI) (λx=>.guard (wb1 x) (.ret ((one r1P).enc (ya0 x),[])))
theorem Lc9:g7 prog G 51 rc3:=Fa2 (bd b51 Ed3) (one r1P) (o:=Sa4) λx=>y5 (by kernel_rfl)
noncomputable def Td1:List (Nat×Sum):=[(128,Hc0)]
theorem Ed4:i9 prog G Td1:=⟨cd9,trivial⟩
noncomputable def cb7(x:Pln):Pln:=let t1:=(Ka2 (⟨0,0,0⟩:V3) x.n);(⟨t1,W (0-x.b)⟩:Pln)
noncomputable def dd1:Sum:=V1 (fa0 tP) (λx=>.ret ((one r1P).enc (cb7 x),[]))
theorem Td2:g7 prog G 73 dd1:=Bb1 (bd b73 Ed4) λx=>y5 (by kernel_rfl)
noncomputable def Td3:List (Nat×Sum):=[(156,ac0),(162,zc8),(84,hc7)]
theorem Ed5:i9 prog G Td3:=⟨xc8,Hc1,pc8,trivial⟩
noncomputable def Sa5(x:Pln)(y:V3):Option (b7×List b9):=let t1:=(gb8 x);let t2:=(jb2 y);let t3:=(Ca1 x.n y);(sl (gb9 x) (sl (!t1) (some (i 0,[])) (sl (jb3 y) (sl (!t2) (some (i 0,[])) (sl (decide ((W (t3-x.b))<0)) (some (i (-1),[])) (sl (decide ((W (t3-x.b))>0)) (some (i 1,[])) (some (i 0,[]))))) none)) none)
noncomputable def cb8(x:Pln)(y:V3):Int:=N9 (one r1I) (Sa5 x y)
noncomputable def Pb2(x:Pln)(y:V3):Bool:=okO (one r1I) (Sa5 x y)
noncomputable def rc4:Sum:=ta8 (fa0 tP) (fa0 tV) (λx y=>.guard (Pb2 x y) (.ret ((one r1I).enc (cb8 x y),[])))
theorem Mc0:g7 prog G 135 rc4:=Eb2 (bd Hf5 Ed5) (one r1I) (o:=Sa5) λx y=>y5 (by kernel_rfl)
noncomputable def bc9:List (Nat×Sum):=[]
theorem Qc3:i9 prog G bc9:=trivial
structure Aa7 where
 (j8 d8 j9 k8 aa5 aa6 aa7 aa8:Int)
structure S8 where
 is7:Int
noncomputable def Kb1(p:Aa7)(s:S8):St:=⟨ra 5 (.ptr 0 0 0 0::.ptr 1 0 0 0::i s.is7::ra 42 []),[⟨0,4,[[i p.j8,i p.d8,i p.j9,i p.k8]],true,false,0⟩,⟨0,4,[[i p.aa5,i p.aa6,i p.aa7,i p.aa8]],true,false,0⟩]⟩
noncomputable def W9{α:Type}(k:S8->α)(e:Nat->α)(z:α)(p:Aa7)(s:S8):α:=(sl (decide (s.is7<4)) (sl (inB s.is7 4) (sl ((Nat.ble ((0+(s.is7.toNat*1))+1) 4)&&(na9 [CK.int .i64] (f9 [i p.j8,i p.d8,i p.j9,i p.k8] (0+(s.is7.toNat*1))))) (sl (inB s.is7 4) (sl ((Nat.ble ((0+(s.is7.toNat*1))+1) 4)&&(na9 [CK.int .i64] (f9 [i p.aa5,i p.aa6,i p.aa7,i p.aa8] (0+(s.is7.toNat*1))))) (sl (decide ((toI (hdA (f9 [i p.j8,i p.d8,i p.j9,i p.k8] (0+(s.is7.toNat*1)))))<(toI (hdA (f9 [i p.aa5,i p.aa6,i p.aa7,i p.aa8] (0+(s.is7.toNat*1))))))) (e 1) (sl (inB s.is7 4) (sl ((Nat.ble ((0+(s.is7.toNat*1))+1) 4)&&(na9 [CK.int .i64] (f9 [i p.j8,i p.d8,i p.j9,i p.k8] (0+(s.is7.toNat*1))))) (sl (inB s.is7 4) (sl ((Nat.ble ((0+(s.is7.toNat*1))+1) 4)&&(na9 [CK.int .i64] (f9 [i p.aa5,i p.aa6,i p.aa7,i p.aa8] (0+(s.is7.toNat*1))))) (sl (decide ((toI (hdA (f9 [i p.j8,i p.d8,i p.j9,i p.k8] (0+(s.is7.toNat*1)))))>(toI (hdA (f9 [i p.aa5,i p.aa6,i p.aa7,i p.aa8] (0+(s.is7.toNat*1))))))) (e 2) (k ⟨W (s.is7+1)⟩)) z) z) z) z)) z) z) z) z) (e 3))
noncomputable def K8(p:Aa7)(s:S8):Stp S8:=W9 .next .exit .fail p s
noncomputable def mb6:Lo Aa7 S8:=⟨En bc9,0,ff6,[1,1,1,0,1,4,4],[5,6,7],.p,[⟨ru2 5 (sPq 0::sPq 1::sIq::ru2 42 []),[⟨0,4,true,some [kLq 4]⟩,⟨0,4,true,some [kLq 4]⟩],λa H=>(⟨hIq H 0 0 0,hIq H 0 0 1,hIq H 0 0 2,hIq H 0 0 3,hIq H 1 0 0,hIq H 1 0 1,hIq H 1 0 2,hIq H 1 0 3⟩,⟨aIq a 7⟩)⟩],K8,[(none,λp s=>⟨[i (-1)],[]⟩),(none,λp s=>⟨[i 1],[]⟩),(some 0,λp s=>upq (Kb1 p s) [(32,i s.is7),(33,b (decide (s.is7<4)))])],Kb1⟩
theorem Hc2:mb6.Ok:=Lo.ok [] (by kernel_rfl) .nil rfl (.cons (λa H=>by kernel_rfl) .nil) λp s=>(.of @W9 (λF _ _ _ _ _=>by unfold W9;(repeat' apply m8 (f:=F))<;>rfl) (by kernel_rfl))
noncomputable def sa1(x:Pln)(y:Pln):Option (b7×List b9):=let t1:=(lp (K8 (⟨x.n.x,x.n.y,x.n.z,x.b,y.n.x,y.n.y,y.n.z,y.b⟩:Aa7)) (⟨0⟩:S8));(sl (Nat.beq t1.1 1) (some (i (-1),[])) (sl (Nat.beq t1.1 2) (some (i 1,[])) (sl (Nat.beq t1.1 3) (some (i 0,[])) none)))
noncomputable def ca6(x:Pln)(y:Pln):Int:=N9 (one r1I) (sa1 x y)
noncomputable def fb1(x:Pln)(y:Pln):Bool:=okO (one r1I) (sa1 x y)
noncomputable def Gb1:Sum:=ta8 (fa0 tP) (fa0 tP) (λx y=>.guard (fb1 x y) (.ret ((one r1I).enc (ca6 x y),[])))
theorem cc2:g7 prog G 182 Gb1:=Eb2 (bd Kf2 Qc3) (one r1I) (o:=sa1) λx y=>xa3 (.s .p (.s .p (.s .p (.s (.s .p (.b (.u mb6.ls))) .p)))) [mb6.pr] (by kernel_rfl) (.cons Hc2 .nil) (by kernel_rfl)
noncomputable def jb4:List (Nat×Sum):=[(107,fb0),(135,rc4)]
theorem Ed6:i9 prog G jb4:=⟨wb0,Mc0,trivial⟩
structure ya1 where
 i7:List V3
 (is3 is4 is5:Int)
 bs7:Bool
 (j8 d8 j9 k8:Int)
structure ia7 where
 is8:Int
noncomputable def Gb2(p:ya1)(s:ia7):St:=⟨eL tV p.i7::.unk::.unk::i p.is3::i p.is4::i p.is5::.ptr 0 0 0 0::b p.bs7::i s.is8::ra 48 [],[⟨0,4,[[i p.j8,i p.d8,i p.j9,i p.k8]],true,false,0⟩]⟩
noncomputable def ea1{α:Type}(k:ia7->α)(e:Nat->α)(z:α)(p:ya1)(s:ia7):α:=let t1:=(cb8 (⟨(⟨p.j8,p.d8,p.j9⟩:V3),p.k8⟩:Pln) (gL tV p.i7 s.is8.toNat));(sl (decide (s.is8<(↑(List.length p.i7):Int))) (sl p.bs7 (sl (inB s.is8 (List.length p.i7)) (sl (Pb2 (⟨(⟨p.j8,p.d8,p.j9⟩:V3),p.k8⟩:Pln) (gL tV p.i7 s.is8.toNat)) (sl (t1 != 0) (e 1) (k ⟨W (s.is8+1)⟩)) z) z) (e 2)) (e 3))
noncomputable def E4(p:ya1)(s:ia7):Stp ia7:=ea1 .next .exit .fail p s
noncomputable def Pb3:Lo ya1 ia7:=⟨En jb4,0,Fe8,[1,0,1,4,4,1,0,4,1,4,4,1,0,4,1,4,4,1,0,4,1,1,4,4],[0,3,4,5,6,7,8],.p,[⟨sLq tV::sUq::sUq::sIq::sIq::sIq::sPq 0::sBq::sIq::ru2 48 [],[⟨0,4,true,some [kLq 4]⟩],λa H=>(⟨aLq tV a 0,aIq a 3,aIq a 4,aIq a 5,aBq a 7,hIq H 0 0 0,hIq H 0 0 1,hIq H 0 0 2,hIq H 0 0 3⟩,⟨aIq a 8⟩)⟩],E4,[(none,λp s=>⟨[b false],[]⟩),(some 6,λp s=>upq (Gb2 p s) [(41,i s.is8),(42,eL tV p.i7),(43,i (↑(List.length p.i7):Int)),(44,b (decide (s.is8<(↑(List.length p.i7):Int)))),(45,b true),(46,b p.bs7),(47,b p.bs7)]),(some 6,λp s=>upq (Gb2 p s) [(41,i s.is8),(42,eL tV p.i7),(43,i (↑(List.length p.i7):Int)),(44,b (decide (s.is8<(↑(List.length p.i7):Int)))),(45,b false),(46,u),(47,b false)])],Gb2⟩
theorem nd4:Pb3.Ok:=Lo.ok [] (by kernel_rfl) .nil rfl (.cons (λa H=>by kernel_rfl) .nil) λp s=>(.of @ea1 (λF _ _ _ _ _=>by unfold ea1;(repeat' apply m8 (f:=F))<;>rfl) (by kernel_rfl))
structure Xa9 where
 (is3 is4:Int)
structure ia8 where
 i7:List V3
 is5:Int
noncomputable def mc1(p:Xa9)(s:ia8):St:=⟨eL tV s.i7::.unk::.unk::i p.is3::i p.is4::i s.is5::ra 51 [],[]⟩
noncomputable def ma1{α:Type}(k:ia8->α)(e:Nat->α)(z:α)(p:Xa9)(s:ia8):α:=let t1:=(ra9 (gL tV s.i7 p.is3.toNat) (gL tV s.i7 p.is4.toNat) (gL tV s.i7 s.is5.toNat));let t2:=(lp (E4 (⟨rt tV s.i7,p.is3,p.is4,s.is5,t1.2,t1.1.n.x,t1.1.n.y,t1.1.n.z,t1.1.b⟩:ya1)) (⟨0⟩:ia7));(sl (decide (s.is5<p.is4)) (sl (inB p.is3 (List.length s.i7)) (sl (inB p.is4 (List.length s.i7)) (sl (inB s.is5 (List.length s.i7)) (sl (sa0 (gL tV s.i7 p.is3.toNat) (gL tV s.i7 p.is4.toNat) (gL tV s.i7 s.is5.toNat)) (sl ((cnE tV s.i7)&&true) (sl (Nat.beq t2.1 1) (e 1) (sl (Nat.beq t2.1 2) (k ⟨rt tV s.i7,W (s.is5+1)⟩) (sl (Nat.beq t2.1 3) (k ⟨rt tV s.i7,W (s.is5+1)⟩) z))) z) z) z) z) z) (e 2))
noncomputable def U6(p:Xa9)(s:ia8):Stp ia8:=ma1 .next .exit .fail p s
noncomputable def Pb4:Lo Xa9 ia8:=⟨En jb4,0,Fe8,[1,0,1,4,4,1,0,4,1,4,4,1,0,4,1,4,4],[0,3,4,5],.s .p (.s (.b (.s .p (.s .p (.b (.u Pb3.ls))))) .p),[⟨sLq tV::sUq::sUq::sIq::sIq::sIq::ru2 51 [],[],λa H=>(⟨aIq a 3,aIq a 4⟩,⟨aLq tV a 0,aIq a 5⟩)⟩],U6,[(none,λp s=>⟨[b false],[]⟩),(some 4,λp s=>upq (mc1 p s) [(20,i s.is5),(21,i p.is4),(22,b (decide (s.is5<p.is4)))])],mc1⟩
theorem nd5:Pb4.Ok:=Lo.ok [Pb3.pr] (by kernel_rfl) (.cons nd4 .nil) rfl (.cons (λa H=>by kernel_rfl) .nil) λp s=>(.of @ma1 (λF _ _ _ _ _=>by unfold ma1;(repeat' apply m8 (f:=F))<;>rfl) (by kernel_rfl))
structure Ya0 where
 is3:Int
structure ia9 where
 i7:List V3
 is4:Int
noncomputable def mc2(p:Ya0)(s:ia9):St:=⟨eL tV s.i7::.unk::.unk::i p.is3::i s.is4::ra 52 [],[]⟩
noncomputable def ma2{α:Type}(k:ia9->α)(e:Nat->α)(z:α)(p:Ya0)(s:ia9):α:=let t1:=(lp (U6 (⟨p.is3,s.is4⟩:Xa9)) (⟨rt tV s.i7,0⟩:ia8));(sl (decide (s.is4<p.is3)) (sl ((cnE tV s.i7)&&true) (sl (Nat.beq t1.1 1) (e 1) (sl (Nat.beq t1.1 2) (k ⟨t1.2.i7,W (s.is4+1)⟩) z)) z) (e 2))
noncomputable def U7(p:Ya0)(s:ia9):Stp ia9:=ma2 .next .exit .fail p s
noncomputable def Pb5:Lo Ya0 ia9:=⟨En jb4,0,Fe8,[1,0,1,4,4,1,0,4,1,4,4],[0,3,4],.s .p (.s (.b (.s .p (.b (.u Pb4.ls)))) .p),[⟨sLq tV::sUq::sUq::sIq::sIq::ru2 52 [],[],λa H=>(⟨aIq a 3⟩,⟨aLq tV a 0,aIq a 4⟩)⟩],U7,[(none,λp s=>⟨[b false],[]⟩),(some 2,λp s=>upq (mc2 p s) [(15,i s.is4),(16,i p.is3),(17,b (decide (s.is4<p.is3)))])],mc2⟩
theorem nd6:Pb5.Ok:=Lo.ok [Pb4.pr] (by kernel_rfl) (.cons nd5 .nil) rfl (.cons (λa H=>by kernel_rfl) .nil) λp s=>(.of @ma2 (λF _ _ _ _ _=>by unfold ma2;(repeat' apply m8 (f:=F))<;>rfl) (by kernel_rfl))
structure Ya1 where
structure ja0 where
 i7:List V3
 is3:Int
noncomputable def mc3(p:Ya1)(s:ja0):St:=⟨eL tV s.i7::.unk::.unk::i s.is3::ra 53 [],[]⟩
noncomputable def ma3{α:Type}(k:ja0->α)(e:Nat->α)(z:α)(p:Ya1)(s:ja0):α:=let t1:=(lp (U7 (⟨s.is3⟩:Ya0)) (⟨rt tV s.i7,0⟩:ia9));(sl (decide (s.is3<(↑(List.length s.i7):Int))) (sl ((cnE tV s.i7)&&true) (sl (Nat.beq t1.1 1) (e 1) (sl (Nat.beq t1.1 2) (k ⟨t1.2.i7,W (s.is3+1)⟩) z)) z) (e 2))
noncomputable def U8(p:Ya1)(s:ja0):Stp ja0:=ma3 .next .exit .fail p s
noncomputable def Pb6:Lo Ya1 ja0:=⟨En jb4,0,Fe8,[1,0,1,4,4],[0,3],.s .p (.s (.b (.s .p (.b (.u Pb5.ls)))) .p),[⟨sLq tV::sUq::sUq::sIq::ru2 53 [],[],λa H=>(⟨⟩,⟨aLq tV a 0,aIq a 3⟩)⟩],U8,[(none,λp s=>⟨[b false],[]⟩),(some 0,λp s=>upq (mc3 p s) [(9,i s.is3),(10,eL tV s.i7),(11,i (↑(List.length s.i7):Int)),(12,b (decide (s.is3<(↑(List.length s.i7):Int))))])],mc3⟩
theorem nd7:Pb6.Ok:=Lo.ok [Pb5.pr] (by kernel_rfl) (.cons nd6 .nil) rfl (.cons (λa H=>by kernel_rfl) .nil) λp s=>(.of @ma3 (λF _ _ _ _ _=>by unfold ma3;(repeat' apply m8 (f:=F))<;>rfl) (by kernel_rfl))
noncomputable def Sa6(x:List V3):Option (b7×List b9):=let t1:=(lp (U8 (⟨⟩:Ya1)) (⟨rt tV x,0⟩:ja0));(sl ((cnE tV x)&&true) (sl (Nat.beq t1.1 1) (some (b false,[])) (sl (Nat.beq t1.1 2) (some (b true,[])) none)) none)
noncomputable def Sa7(x:List V3):Bool:=N9 (one r1B) (Sa6 x)
noncomputable def cb9(x:List V3):Bool:=okO (one r1B) (Sa6 x)
noncomputable def rc5:Sum:=V1 (R5 tV) (λx=>.guard (cb9 x) (.ret ((one r1B).enc (Sa7 x),[])))
theorem Mc1:g7 prog G 78 rc5:=Fa2 (bd b78 Ed6) (one r1B) (o:=Sa6) λx=>xa3 (.s .p (.s (.s .p (.b (.u Pb6.ls))) .p)) [Pb6.pr] (by kernel_rfl) (.cons nd7 .nil) (by kernel_rfl)
noncomputable def zc9:List (Nat×Sum):=[(162,zc8),(78,rc5)]
theorem nd8:i9 prog G zc9:=⟨Hc1,Mc1,trivial⟩
structure Pa0 where
 i7:List V3
structure Q7 where
 is3:Int
noncomputable def cc3(p:Pa0)(s:Q7):St:=⟨eL tV p.i7::.unk::.unk::i s.is3::ra 17 [],[]⟩
noncomputable def ga3{α:Type}(k:Q7->α)(e:Nat->α)(z:α)(p:Pa0)(s:Q7):α:=let t1:=(jb2 (gL tV p.i7 s.is3.toNat));(sl (decide (s.is3<(↑(List.length p.i7):Int))) (sl (inB s.is3 (List.length p.i7)) (sl (jb3 (gL tV p.i7 s.is3.toNat)) (sl (!t1) (e 1) (k ⟨W (s.is3+1)⟩)) z) z) (e 2))
noncomputable def ea2(p:Pa0)(s:Q7):Stp Q7:=ga3 .next .exit .fail p s
noncomputable def Gb3:Lo Pa0 Q7:=⟨En zc9,0,ef4,[1,1,0,1,4,4],[0,3],.p,[⟨sLq tV::sUq::sUq::sIq::ru2 17 [],[],λa H=>(⟨aLq tV a 0⟩,⟨aIq a 3⟩)⟩],ea2,[(none,λp s=>⟨[i 3],[]⟩),(some 0,λp s=>upq (cc3 p s) [(7,i s.is3),(8,eL tV p.i7),(9,i (↑(List.length p.i7):Int)),(10,b (decide (s.is3<(↑(List.length p.i7):Int))))])],cc3⟩
theorem dd2:Gb3.Ok:=Lo.ok [] (by kernel_rfl) .nil rfl (.cons (λa H=>by kernel_rfl) .nil) λp s=>(.of @ga3 (λF _ _ _ _ _=>by unfold ga3;(repeat' apply m8 (f:=F))<;>rfl) (by kernel_rfl))
noncomputable def Ha5(x:List V3):Option (b7×List b9):=let t1:=(lp (ea2 (⟨rt tV x⟩:Pa0)) (⟨0⟩:Q7));let t2:=(Sa7 (rt tV (rt tV x)));(sl (decide ((↑(List.length x):Int)>48)) (some (i 2,[])) (sl ((cnE tV x)&&true) (sl (Nat.beq t1.1 1) (some (i 3,[])) (sl (Nat.beq t1.1 2) (sl (okE tV (rt tV x)) (sl (cb9 (rt tV (rt tV x))) (sl t2 (some (i 11,[])) (some (i 0,[]))) none) none) none)) none))
noncomputable def jb5(x:List V3):Int:=N9 (one r1I) (Ha5 x)
noncomputable def cc4(x:List V3):Bool:=okO (one r1I) (Ha5 x)
noncomputable def Mc2:Sum:=V1 (R5 tV) (λx=>.guard (cc4 x) (.ret ((one r1I).enc (jb5 x),[])))
theorem Ed7:g7 prog G 125 Mc2:=Fa2 (bd Hf1 nd8) (one r1I) (o:=Ha5) λx=>xa3 (.s .p (.s .p (.s (.s .p (.b (.u Gb3.ls))) .p))) [Gb3.pr] (by kernel_rfl) (.cons dd2 .nil) (by kernel_rfl)
noncomputable def Ac0:List (Nat×Sum):=[(135,rc4)]
theorem nd9:i9 prog G Ac0:=⟨Mc0,trivial⟩
structure Pa1 where
 Nc8:List V3
 (j8 d8 j9 k8:Int)
structure Q8 where
 is5:Int
noncomputable def cc5(p:Pa1)(s:Q8):St:=⟨.unk::eL tV p.Nc8::.ptr 0 0 0 0::.unk::.unk::i s.is5::ra 13 [],[⟨0,4,[[i p.j8,i p.d8,i p.j9,i p.k8]],true,false,0⟩]⟩
noncomputable def ga4{α:Type}(k:Q8->α)(e:Nat->α)(z:α)(p:Pa1)(s:Q8):α:=let t1:=(cb8 (⟨(⟨p.j8,p.d8,p.j9⟩:V3),p.k8⟩:Pln) (gL tV p.Nc8 s.is5.toNat));(sl (decide (s.is5<(↑(List.length p.Nc8):Int))) (sl (inB s.is5 (List.length p.Nc8)) (sl (Pb2 (⟨(⟨p.j8,p.d8,p.j9⟩:V3),p.k8⟩:Pln) (gL tV p.Nc8 s.is5.toNat)) (sl (decide (t1>0)) (e 1) (k ⟨W (s.is5+1)⟩)) z) z) (e 2))
noncomputable def ea3(p:Pa1)(s:Q8):Stp Q8:=ga4 .next .exit .fail p s
noncomputable def Gb4:Lo Pa1 Q8:=⟨En Ac0,0,ef5,[1,0,1,4,4],[1,2,5],.p,[⟨sUq::sLq tV::sPq 0::sUq::sUq::sIq::ru2 13 [],[⟨0,4,true,some [kLq 4]⟩],λa H=>(⟨aLq tV a 1,hIq H 0 0 0,hIq H 0 0 1,hIq H 0 0 2,hIq H 0 0 3⟩,⟨aIq a 5⟩)⟩],ea3,[(none,λp s=>⟨[b false],[]⟩),(some 0,λp s=>upq (cc5 p s) [(6,i s.is5),(7,eL tV p.Nc8),(8,i (↑(List.length p.Nc8):Int)),(9,b (decide (s.is5<(↑(List.length p.Nc8):Int))))])],cc5⟩
theorem dd3:Gb4.Ok:=Lo.ok [] (by kernel_rfl) .nil rfl (.cons (λa H=>by kernel_rfl) .nil) λp s=>(.of @ga4 (λF _ _ _ _ _=>by unfold ga4;(repeat' apply m8 (f:=F))<;>rfl) (by kernel_rfl))
noncomputable def Ha6(x:Pln)(y:List V3):Option (b7×List b9):=let t1:=(lp (ea3 (⟨rt tV y,x.n.x,x.n.y,x.n.z,x.b⟩:Pa1)) (⟨0⟩:Q8));(sl ((cnE tV y)&&true) (sl (Nat.beq t1.1 1) (some (b false,[])) (sl (Nat.beq t1.1 2) (some (b true,[])) none)) none)
noncomputable def wa8(x:Pln)(y:List V3):Bool:=N9 (one r1B) (Ha6 x y)
noncomputable def ka6(x:Pln)(y:List V3):Bool:=okO (one r1B) (Ha6 x y)
noncomputable def Mc3:Sum:=ta8 (fa0 tP) (R5 tV) (λx y=>.guard (ka6 x y) (.ret ((one r1B).enc (wa8 x y),[])))
theorem Ed8:g7 prog G 126 Mc3:=Eb2 (bd Hf2 nd9) (one r1B) (o:=Ha6) λx y=>xa3 (.s .p (.s (.s .p (.b (.u Gb4.ls))) .p)) [Gb4.pr] (by kernel_rfl) (.cons dd3 .nil) (by kernel_rfl)
noncomputable def dd4:List (Nat×Sum):=[(182,Gb1)]
theorem Td4:i9 prog G dd4:=⟨cc2,trivial⟩
structure jb6 where
 d7:List Pln
 (j8 d8 j9 k8:Int)
structure ea4 where
 is5:Int
noncomputable def Ac1(p:jb6)(s:ea4):St:=⟨eL tP p.d7::.unk::.unk::.ptr 0 0 0 0::.unk::i s.is5::ra 42 [],[⟨0,4,[[i p.j8,i p.d8,i p.j9,i p.k8]],true,false,0⟩]⟩
noncomputable def sa2{α:Type}(k:ea4->α)(e:Nat->α)(z:α)(p:jb6)(s:ea4):α:=let t1:=(ca6 (gL tP p.d7 s.is5.toNat) (⟨(⟨p.j8,p.d8,p.j9⟩:V3),p.k8⟩:Pln));(sl (decide (s.is5<(↑(List.length p.d7):Int))) (sl (inB s.is5 (List.length p.d7)) (sl (fb1 (gL tP p.d7 s.is5.toNat) (⟨(⟨p.j8,p.d8,p.j9⟩:V3),p.k8⟩:Pln)) (sl (decide (t1<0)) (k ⟨W (s.is5+1)⟩) (e 1)) z) z) (e 2))
noncomputable def ca7(p:jb6)(s:ea4):Stp ea4:=sa2 .next .exit .fail p s
noncomputable def cc6:Lo jb6 ea4:=⟨En dd4,0,ef6,[1,1,0,4,4],[0,3,5],.p,[⟨sLq tP::sUq::sUq::sPq 0::sUq::sIq::ru2 42 [],[⟨0,4,true,some [kLq 4]⟩],λa H=>(⟨aLq tP a 0,hIq H 0 0 0,hIq H 0 0 1,hIq H 0 0 2,hIq H 0 0 3⟩,⟨aIq a 5⟩)⟩],ca7,[(some 0,λp s=>let t1:=(ca6 (gL tP p.d7 s.is5.toNat) (⟨(⟨p.j8,p.d8,p.j9⟩:V3),p.k8⟩:Pln));⟨eL tP p.d7::.unk::.unk::.ptr 0 0 0 0::.unk::i s.is5::.unk::i s.is5::eL tP p.d7::i (↑(List.length p.d7):Int)::b (decide (s.is5<(↑(List.length p.d7):Int)))::b true::eL tP p.d7::i s.is5::.tptr [i (gL tP p.d7 s.is5.toNat).n.x,i (gL tP p.d7 s.is5.toNat).n.y,i (gL tP p.d7 s.is5.toNat).n.z,i (gL tP p.d7 s.is5.toNat).b]::.agg [i (gL tP p.d7 s.is5.toNat).n.x,i (gL tP p.d7 s.is5.toNat).n.y,i (gL tP p.d7 s.is5.toNat).n.z,i (gL tP p.d7 s.is5.toNat).b]::.agg [i p.j8,i p.d8,i p.j9,i p.k8]::i t1::b (decide (t1<0))::b (decide (t1<0))::ra 28 [],[⟨0,4,[[i p.j8,i p.d8,i p.j9,i p.k8]],true,false,0⟩]⟩),(some 0,λp s=>upq (Ac1 p s) [(7,i s.is5),(8,eL tP p.d7),(9,i (↑(List.length p.d7):Int)),(10,b (decide (s.is5<(↑(List.length p.d7):Int)))),(11,b false),(12,u),(13,u),(14,u),(15,u),(16,u),(17,u),(18,u),(19,b false)])],Ac1⟩
theorem Ed9:cc6.Ok:=Lo.ok [] (by kernel_rfl) .nil rfl (.cons (λa H=>by kernel_rfl) .nil) λp s=>(.of @sa2 (λF _ _ _ _ _=>by unfold sa2;(repeat' apply m8 (f:=F))<;>rfl) (by kernel_rfl))
noncomputable def db0(x:List Pln)(y:Pln):Option (b7×List b9):=let t1:=(lp (ca7 (⟨rt tP x,y.n.x,y.n.y,y.n.z,y.b⟩:jb6)) (⟨0⟩:ea4));let a0:=(o8 (λk=>(λk=>(tP).row (gL tP (rt tP x) k)) (0+k)) (List.range (t1.2.is5.toNat-0)));let a1:=(o8 (λk=>(λk=>(tP).row (gL tP (rt tP x) k)) (t1.2.is5.toNat+k)) (List.range ((List.length (rt tP x))-t1.2.is5.toNat)));let a2:=(inB t1.2.is5 ((List.length (rt tP x))+1));let a3:=(Nat.beq (0+(len a0)) (len (app [] a0))&&Nat.ble (((0+(len a0))+1)*32) room);let a4:=(((0+(len a0))+1)+(len a1));let a5:=(gL tP (rt tP x) t1.2.is5.toNat);let a6:=(Nat.beq 0 0&&Nat.ble ((0+(len a0))*32) room);let w0:Option (b7×List b9):=(sl a2 (sl a6 (sl a3 (sl a2 (sl (Nat.beq ((0+(len a0))+1) (len (app (app [] a0) [[i y.n.x,i y.n.y,i y.n.z,i y.b]]))&&Nat.ble (a4*32) room) (some (.sl 0 0 a4 0,[⟨73,4,app (app (app [] a0) [[i y.n.x,i y.n.y,i y.n.z,i y.b]]) a1,true,false,0⟩])) none) none) none) none) none);let w1:Option (b7×List b9):=(sl (decide (t1.2.is5<(↑(List.length (rt tP x)):Int))) (sl (inB t1.2.is5 (List.length (rt tP x))) (sl ((a5.n.x==y.n.x)&&((a5.n.y==y.n.y)&&((a5.n.z==y.n.z)&&((a5.b==y.b)&&true)))) (some (eL tP (rt tP x),[])) w0) none) w0);(sl ((cnE tP x)&&true) (sl (Nat.beq t1.1 1) w1 (sl (Nat.beq t1.1 2) w1 none)) none)
noncomputable def H9(x:List Pln)(y:Pln):List Pln:=N9 (one (r1L tP)) (db0 x y)
noncomputable def pa2(x:List Pln)(y:Pln):Bool:=okO (one (r1L tP)) (db0 x y)
noncomputable def vd1:Sum:=ta8 (R5 tP) (fa0 tP) (λx y=>.guard (pa2 x y) (.ret ((one (r1L tP)).enc (H9 x y),[])))
theorem fe1:g7 prog G 127 vd1:=Eb2 (bd Hf3 Td4) (one (r1L tP)) (o:=db0) λx y=>xa3 (.s .p (.s .p (.s (.b (.u cc6.ls)) .p))) [cc6.pr] (by kernel_rfl) (.cons Ed9 .nil) (by kernel_rfl)
noncomputable def pb7:List (Nat×Sum):=[(125,Mc2),(107,fb0),(126,Mc3),(127,vd1),(73,dd1)]
theorem od0:i9 prog G pb7:=⟨Ed7,wb0,Ed8,fe1,Td2,trivial⟩
structure ca8 where
 i7:List V3
 (is6 is7:Int)
structure A8 where
 ph:Nat
 is8:Int
 ta0:List Pln
noncomputable def Sb9(p:ca8)(s:A8):St:=⟨eL tV p.i7::ra 4 (.v (.slice none 0 0)::i p.is6::i p.is7::i s.is8::ra 56 []),[]⟩
noncomputable def Tb0(p:ca8)(s:A8):St:=⟨eL tV p.i7::ra 4 (eL tP s.ta0::i p.is6::i p.is7::i s.is8::ra 56 []),[]⟩
noncomputable def dd5(p:ca8)(s:A8):St:=(sel (Nat.beq s.ph 1) (Tb0 p s) (Sb9 p s))
noncomputable def J4{α:Type}(k:A8->α)(e:Nat->α)(z:α)(p:ca8)(s:A8):α:=let t1:=(ra9 (gL tV p.i7 p.is6.toNat) (gL tV p.i7 p.is7.toNat) (gL tV p.i7 s.is8.toNat));let t2:=(wa8 t1.1 (rt tV p.i7));let t3:=(H9 [] t1.1);let t4:=(cb7 t1.1);let t5:=(wa8 t4 (rt tV p.i7));let t6:=(H9 (rt tP t3) t4);let t7:=(H9 [] t4);(sl (decide (s.is8<p.is7)) (sl (inB p.is6 (List.length p.i7)) (sl (inB p.is7 (List.length p.i7)) (sl (inB s.is8 (List.length p.i7)) (sl (sa0 (gL tV p.i7 p.is6.toNat) (gL tV p.i7 p.is7.toNat) (gL tV p.i7 s.is8.toNat)) (sl (!t1.2) (k ⟨0,W (s.is8+1),[]⟩) (sl (okE tV p.i7) (sl (ka6 t1.1 (rt tV p.i7)) (sl t2 (sl (pa2 [] t1.1) (sl (okE tV p.i7) (sl (ka6 t4 (rt tV p.i7)) (sl t5 (sl (okE tP t3) (sl (pa2 (rt tP t3) t4) (k ⟨1,W (s.is8+1),t6⟩) z) z) (k ⟨1,W (s.is8+1),t3⟩)) z) z) z) (sl (okE tV p.i7) (sl (ka6 t4 (rt tV p.i7)) (sl t5 (sl (pa2 [] t4) (k ⟨1,W (s.is8+1),t7⟩) z) (k ⟨0,W (s.is8+1),[]⟩)) z) z)) z) z)) z) z) z) z) (e 1))
noncomputable def J5{α:Type}(k:A8->α)(e:Nat->α)(z:α)(p:ca8)(s:A8):α:=let t1:=(ra9 (gL tV p.i7 p.is6.toNat) (gL tV p.i7 p.is7.toNat) (gL tV p.i7 s.is8.toNat));let t2:=(wa8 t1.1 (rt tV p.i7));let t3:=(H9 (rt tP s.ta0) t1.1);let t4:=(cb7 t1.1);let t5:=(wa8 t4 (rt tV p.i7));let t6:=(H9 (rt tP t3) t4);let t7:=(H9 (rt tP s.ta0) t4);(sl (decide (s.is8<p.is7)) (sl (inB p.is6 (List.length p.i7)) (sl (inB p.is7 (List.length p.i7)) (sl (inB s.is8 (List.length p.i7)) (sl (sa0 (gL tV p.i7 p.is6.toNat) (gL tV p.i7 p.is7.toNat) (gL tV p.i7 s.is8.toNat)) (sl (!t1.2) (k ⟨1,W (s.is8+1),s.ta0⟩) (sl (okE tV p.i7) (sl (ka6 t1.1 (rt tV p.i7)) (sl t2 (sl (okE tP s.ta0) (sl (pa2 (rt tP s.ta0) t1.1) (sl (okE tV p.i7) (sl (ka6 t4 (rt tV p.i7)) (sl t5 (sl (okE tP t3) (sl (pa2 (rt tP t3) t4) (k ⟨1,W (s.is8+1),t6⟩) z) z) (k ⟨1,W (s.is8+1),t3⟩)) z) z) z) z) (sl (okE tV p.i7) (sl (ka6 t4 (rt tV p.i7)) (sl t5 (sl (okE tP s.ta0) (sl (pa2 (rt tP s.ta0) t4) (k ⟨1,W (s.is8+1),t7⟩) z) z) (k ⟨1,W (s.is8+1),s.ta0⟩)) z) z)) z) z)) z) z) z) z) (e 2))
noncomputable def X0(p:ca8)(s:A8):Stp A8:=(sel (Nat.beq s.ph 1) (J5 .next .exit .fail p s) (J4 .next .exit .fail p s))
noncomputable def Gb5:Lo ca8 A8:=⟨En pb7,0,We2,[1,1,1,1,0,1,4,4,1,0,4,1,4,4,1,0,4,1,4,4],[0,5,6,7,8],.p,[⟨sLq tV::ru2 4 (.s (.o .nil)::sIq::sIq::sIq::ru2 56 []),[],λa H=>(⟨aLq tV a 0,aIq a 6,aIq a 7⟩,⟨0,aIq a 8,[]⟩)⟩,⟨sLq tV::ru2 4 (sLq tP::sIq::sIq::sIq::ru2 56 []),[],λa H=>(⟨aLq tV a 0,aIq a 6,aIq a 7⟩,⟨1,aIq a 8,aLq tP a 5⟩)⟩],X0,[(some 4,λp s=>upq (Sb9 p s) [(27,i s.is8),(28,i p.is7),(29,b (decide (s.is8<p.is7)))]),(some 4,λp s=>upq (Tb0 p s) [(27,i s.is8),(28,i p.is7),(29,b (decide (s.is8<p.is7)))])],dd5⟩
theorem dd6:Gb5.Ok:=Lo.ok [] (by kernel_rfl) .nil rfl (.cons (λa H=>by kernel_rfl) (.cons (λa H=>by kernel_rfl) .nil)) λp s=>(.sel (Nat.beq s.ph 1) (.of @J5 (λF _ _ _ _ _=>by unfold J5;(repeat' apply m8 (f:=F))<;>rfl) (by kernel_rfl)) (.of @J4 (λF _ _ _ _ _=>by unfold J4;(repeat' apply m8 (f:=F))<;>rfl) (by kernel_rfl)))
structure ca9 where
 is6:Int
structure A9 where
 ph:Nat
 i7:List V3
 is7:Int
 ta0:List Pln
noncomputable def Tb1(p:ca9)(s:A9):St:=⟨eL tV s.i7::ra 4 (.v (.slice none 0 0)::i p.is6::i s.is7::ra 57 []),[]⟩
noncomputable def Tb2(p:ca9)(s:A9):St:=⟨eL tV s.i7::ra 4 (eL tP s.ta0::i p.is6::i s.is7::ra 57 []),[]⟩
noncomputable def dd7(p:ca9)(s:A9):St:=(sel (Nat.beq s.ph 1) (Tb2 p s) (Tb1 p s))
noncomputable def J6{α:Type}(k:A9->α)(e:Nat->α)(z:α)(p:ca9)(s:A9):α:=let t1:=(lp (X0 (⟨rt tV s.i7,p.is6,s.is7⟩:ca8)) (⟨0,0,[]⟩:A8));(sl (decide (s.is7<p.is6)) (sl ((cnE tV s.i7)&&true) (sl (Nat.beq t1.1 1) (k ⟨0,rt tV s.i7,W (s.is7+1),[]⟩) (sl (Nat.beq t1.1 2) (k ⟨1,rt tV s.i7,W (s.is7+1),t1.2.ta0⟩) z)) z) (e 1))
noncomputable def J7{α:Type}(k:A9->α)(e:Nat->α)(z:α)(p:ca9)(s:A9):α:=let t1:=(lp (X0 (⟨rt tV s.i7,p.is6,s.is7⟩:ca8)) (⟨1,0,rt tP s.ta0⟩:A8));(sl (decide (s.is7<p.is6)) (sl ((cnE tV s.i7)&&((cnE tP s.ta0)&&true)) (sl (Nat.beq t1.1 1) (k ⟨0,rt tV s.i7,W (s.is7+1),[]⟩) (sl (Nat.beq t1.1 2) (k ⟨1,rt tV s.i7,W (s.is7+1),t1.2.ta0⟩) z)) z) (e 2))
noncomputable def X1(p:ca9)(s:A9):Stp A9:=(sel (Nat.beq s.ph 1) (J7 .next .exit .fail p s) (J6 .next .exit .fail p s))
noncomputable def Gb6:Lo ca9 A9:=⟨En pb7,0,We2,[1,1,1,1,0,1,4,4,1,0,4,1,4,4],[0,5,6,7],.s .p (.s (.b (.s .p (.b (.u Gb5.ls)))) .p),[⟨sLq tV::ru2 4 (.s (.o .nil)::sIq::sIq::ru2 57 []),[],λa H=>(⟨aIq a 6⟩,⟨0,aLq tV a 0,aIq a 7,[]⟩)⟩,⟨sLq tV::ru2 4 (sLq tP::sIq::sIq::ru2 57 []),[],λa H=>(⟨aIq a 6⟩,⟨1,aLq tV a 0,aIq a 7,aLq tP a 5⟩)⟩],X1,[(some 2,λp s=>upq (Tb1 p s) [(22,i s.is7),(23,i p.is6),(24,b (decide (s.is7<p.is6)))]),(some 2,λp s=>upq (Tb2 p s) [(22,i s.is7),(23,i p.is6),(24,b (decide (s.is7<p.is6)))])],dd7⟩
theorem dd8:Gb6.Ok:=Lo.ok [Gb5.pr] (by kernel_rfl) (.cons dd6 .nil) rfl (.cons (λa H=>by kernel_rfl) (.cons (λa H=>by kernel_rfl) .nil)) λp s=>(.sel (Nat.beq s.ph 1) (.of @J7 (λF _ _ _ _ _=>by unfold J7;(repeat' apply m8 (f:=F))<;>rfl) (by kernel_rfl)) (.of @J6 (λF _ _ _ _ _=>by unfold J6;(repeat' apply m8 (f:=F))<;>rfl) (by kernel_rfl)))
structure ka7 where
structure C0 where
 ph:Nat
 i7:List V3
 is6:Int
 ta0:List Pln
noncomputable def Tb3(p:ka7)(s:C0):St:=⟨eL tV s.i7::ra 4 (.v (.slice none 0 0)::i s.is6::ra 58 []),[]⟩
noncomputable def Tb4(p:ka7)(s:C0):St:=⟨eL tV s.i7::ra 4 (eL tP s.ta0::i s.is6::ra 58 []),[]⟩
noncomputable def dd9(p:ka7)(s:C0):St:=(sel (Nat.beq s.ph 1) (Tb4 p s) (Tb3 p s))
noncomputable def J8{α:Type}(k:C0->α)(e:Nat->α)(z:α)(p:ka7)(s:C0):α:=let t1:=(lp (X1 (⟨s.is6⟩:ca9)) (⟨0,rt tV s.i7,0,[]⟩:A9));(sl (decide (s.is6<(↑(List.length s.i7):Int))) (sl ((cnE tV s.i7)&&true) (sl (Nat.beq t1.1 1) (k ⟨0,t1.2.i7,W (s.is6+1),[]⟩) (sl (Nat.beq t1.1 2) (k ⟨1,t1.2.i7,W (s.is6+1),t1.2.ta0⟩) z)) z) (e 1))
noncomputable def J9{α:Type}(k:C0->α)(e:Nat->α)(z:α)(p:ka7)(s:C0):α:=let t1:=(lp (X1 (⟨s.is6⟩:ca9)) (⟨1,rt tV s.i7,0,rt tP s.ta0⟩:A9));(sl (decide (s.is6<(↑(List.length s.i7):Int))) (sl ((cnE tV s.i7)&&((cnE tP s.ta0)&&true)) (sl (Nat.beq t1.1 1) (k ⟨0,t1.2.i7,W (s.is6+1),[]⟩) (sl (Nat.beq t1.1 2) (k ⟨1,t1.2.i7,W (s.is6+1),t1.2.ta0⟩) z)) z) (e 2))
noncomputable def va1(p:ka7)(s:C0):Stp C0:=(sel (Nat.beq s.ph 1) (J9 .next .exit .fail p s) (J8 .next .exit .fail p s))
noncomputable def Gb7:Lo ka7 C0:=⟨En pb7,0,We2,[1,1,1,1,0,1,4,4],[0,5,6],.s .p (.s (.b (.s .p (.b (.u Gb6.ls)))) .p),[⟨sLq tV::ru2 4 (.s (.o .nil)::sIq::ru2 58 []),[],λa H=>(⟨⟩,⟨0,aLq tV a 0,aIq a 6,[]⟩)⟩,⟨sLq tV::ru2 4 (sLq tP::sIq::ru2 58 []),[],λa H=>(⟨⟩,⟨1,aLq tV a 0,aIq a 6,aLq tP a 5⟩)⟩],va1,[(some 0,λp s=>upq (Tb3 p s) [(16,i s.is6),(17,eL tV s.i7),(18,i (↑(List.length s.i7):Int)),(19,b (decide (s.is6<(↑(List.length s.i7):Int))))]),(some 0,λp s=>upq (Tb4 p s) [(16,i s.is6),(17,eL tV s.i7),(18,i (↑(List.length s.i7):Int)),(19,b (decide (s.is6<(↑(List.length s.i7):Int))))])],dd9⟩
theorem ed0:Gb7.Ok:=Lo.ok [Gb6.pr] (by kernel_rfl) (.cons dd8 .nil) rfl (.cons (λa H=>by kernel_rfl) (.cons (λa H=>by kernel_rfl) .nil)) λp s=>(.sel (Nat.beq s.ph 1) (.of @J9 (λF _ _ _ _ _=>by unfold J9;(repeat' apply m8 (f:=F))<;>rfl) (by kernel_rfl)) (.of @J8 (λF _ _ _ _ _=>by unfold J8;(repeat' apply m8 (f:=F))<;>rfl) (by kernel_rfl)))
noncomputable def Ha7(x:List V3):Option (b7×List b9):=let t1:=(jb5 (rt tV x));let t2:=(lp (va1 (⟨⟩:ka7)) (⟨0,rt tV x,0,[]⟩:C0));(sl (okE tV x) (sl (cc4 (rt tV x)) (sl (t1 != 0) (some (.tup [.v (.slice none 0 0),i t1],[])) (sl ((cnE tV x)&&true) (sl (Nat.beq t2.1 1) (some (.tup [.v (.slice none 0 0),i 0],[])) (sl (Nat.beq t2.1 2) (some (.tup [eL tP t2.2.ta0,i 0],[])) none)) none)) none) none)
noncomputable def cc7(x:List V3):List Pln×Int:=N9 (two (r1L tP) r1I) (Ha7 x)
noncomputable def Cb3(x:List V3):Bool:=okO (two (r1L tP) r1I) (Ha7 x)
noncomputable def Mc4:Sum:=V1 (R5 tV) (λx=>.guard (Cb3 x) (.ret ((two (r1L tP) r1I).enc (cc7 x),[])))
theorem Fd0:g7 prog G 71 Mc4:=Fa2 (bd b71 od0) (two (r1L tP) r1I) (o:=Ha7) λx=>xa3 (.s .p (.s .p (.s .p (.s .p (.s (.s .p (.b (.u Gb7.ls))) .p))))) [Gb7.pr] (by kernel_rfl) (.cons ed0 .nil) (by kernel_rfl)
noncomputable def mc4:List (Nat×Sum):=[(68,Aa6),(78,rc5)]
theorem ed1:i9 prog G mc4:=⟨Ka1,Mc1,trivial⟩
structure ea5 where
 is4:Int
structure E0 where
 ph:Nat
 is6:Int
 l8:List Int
 d8:Int
 ns5:Nat
 eh1:List (List b7)
noncomputable def Kb2(p:ea5)(s:E0):St:=⟨ra 3 (.ptr 0 0 0 0::i p.is4::.v (.slice none 0 0)::i s.is6::ra 127 []),[⟨0,2,[[eL tI s.l8,i s.d8]],true,false,0⟩]⟩
noncomputable def Kb3(p:ea5)(s:E0):St:=⟨ra 3 (.ptr 0 0 0 0::i p.is4::.sl 1 0 s.ns5 0::i s.is6::ra 127 []),[⟨0,2,[[eL tI s.l8,i s.d8]],true,false,0⟩,⟨27,3,s.eh1,true,false,0⟩]⟩
noncomputable def Qc4(p:ea5)(s:E0):St:=(sel (Nat.beq s.ph 1) (Kb3 p s) (Kb2 p s))
noncomputable def va2{α:Type}(k:E0->α)(e:Nat->α)(z:α)(p:ea5)(s:E0):α:=let t1:=(o0 ⟨17,rt tI s.l8,s.d8⟩);let t2:=(o0 ⟨17,rt tI (rt tI s.l8),t1.d8⟩);let t3:=(o0 ⟨17,rt tI (rt tI (rt tI s.l8)),t2.d8⟩);let t4:=(o0 ⟨6,rt tI (rt tI (rt tI (rt tI s.l8))),t3.d8⟩);let w0:α:=(sl (t4.is0==3) (sl (decide (s.is6>2)) z (k ⟨1,W (s.is6+1),rt tI (rt tI (rt tI (rt tI s.l8))),t4.d8,1,[[i (W (t1.is0-8)),i (W (t2.is0-8)),i (W (t3.is0-8))]]⟩)) (k ⟨1,W (s.is6+1),rt tI (rt tI (rt tI (rt tI s.l8))),t4.d8,1,[[i (W (t1.is0-8)),i (W (t2.is0-8)),i (W (t3.is0-8))]]⟩));(sl (decide (s.is6<p.is4)) (sl ((cnE tI s.l8)&&true) (sl (Nat.beq t1.alt 1) (sl ((cnE tI (rt tI s.l8))&&true) (sl (Nat.beq t2.alt 1) (sl ((cnE tI (rt tI (rt tI s.l8)))&&true) (sl (Nat.beq t3.alt 1) (sl ((cnE tI (rt tI (rt tI (rt tI s.l8))))&&true) (sl (Nat.beq t4.alt 1) (sl (t4.is0==1) (sl (decide (s.is6>1)) z (sl (t4.is0==2) (sl (decide (s.is6>0)) z w0) w0)) (sl (t4.is0==2) (sl (decide (s.is6>0)) z w0) w0)) z) z) z) z) z) z) z) z) (e 1))
noncomputable def O2{α:Type}(k:E0->α)(e:Nat->α)(z:α)(p:ea5)(s:E0):α:=let t1:=(o0 ⟨17,rt tI s.l8,s.d8⟩);let a0:=(n5 s.eh1 (0+(W (s.is6-1)).toNat));let a1:=(Nat.beq s.ns5 (len s.eh1)&&Nat.ble ((s.ns5+1)*24) room);let a3:=(f9 (n5 s.eh1 (0+(W (s.is6-2)).toNat)) 0);let a4:=((Nat.blt (0+(W (s.is6-1)).toNat) (len s.eh1))&&(Nat.ble (2+1) (len a0)));let a5:=(i (W (Int.tdiv (W ((toI (hdA (tlA (f9 a0 0))))+(toI (hdA (tlA a3))))) 2)));let a6:=(i (W (Int.tdiv (W ((toI (hdA (f9 a0 0)))+(toI (hdA a3)))) 2)));let a7:=(app s.eh1 [[a6,a5,i (W (Int.tdiv (W ((toI (hdA (tlA (tlA (f9 a0 0)))))+(toI (hdA (tlA (tlA a3)))))) 2))]]);let a8:=(inB (W (s.is6-1)) s.ns5);let a9:=(i (toI (hdA (tlA (f9 a0 0)))));let a10:=((Nat.blt (0+(W (s.is6-1)).toNat) (len s.eh1))&&(Nat.ble (0+3) (len a0)));let a11:=(i (toI (hdA (f9 a0 0))));let a12:=(app s.eh1 [[a11,a9,i (toI (hdA (tlA (tlA (f9 a0 0)))))]]);let a13:=(i (toI (hdA (f9 a0 2))));let a14:=(rt tI (rt tI s.l8));let t2:=(o0 ⟨17,a14,t1.d8⟩);let t3:=(o0 ⟨17,rt tI a14,t2.d8⟩);let a2:=(rt tI (rt tI a14));let t4:=(o0 ⟨6,a2,t3.d8⟩);let w0:α:=(sl (t4.is0==3) (sl (decide (s.is6>2)) (sl a8 (sl (a4&&(na9 [CK.int .i64] (f9 a0 2))) (sl a1 (k ⟨1,W (s.is6+1),a2,t4.d8,s.ns5+1,app s.eh1 [[i (W (t1.is0-8)),i (W (t2.is0-8)),a13]]⟩) z) z) z) (sl a1 (k ⟨1,W (s.is6+1),a2,t4.d8,s.ns5+1,app s.eh1 [[i (W (t1.is0-8)),i (W (t2.is0-8)),i (W (t3.is0-8))]]⟩) z)) (sl a1 (k ⟨1,W (s.is6+1),a2,t4.d8,s.ns5+1,app s.eh1 [[i (W (t1.is0-8)),i (W (t2.is0-8)),i (W (t3.is0-8))]]⟩) z));let w1:α:=(sl a8 (sl (a10&&(na9 [CK.int .i64,CK.int .i64,CK.int .i64] (f9 a0 0))) (sl (t4.is0==3) (sl (decide (s.is6>2)) (sl a8 (sl (a4&&(na9 [CK.int .i64] (f9 a0 2))) (sl a1 (k ⟨1,W (s.is6+1),a2,t4.d8,s.ns5+1,app s.eh1 [[a11,a9,a13]]⟩) z) z) z) (sl a1 (k ⟨1,W (s.is6+1),a2,t4.d8,s.ns5+1,a12⟩) z)) (sl a1 (k ⟨1,W (s.is6+1),a2,t4.d8,s.ns5+1,a12⟩) z)) z) z);let w2:α:=(sl (t4.is0==3) (sl (decide (s.is6>2)) (sl a8 (sl (a4&&(na9 [CK.int .i64] (f9 a0 2))) (sl a1 (k ⟨1,W (s.is6+1),a2,t4.d8,s.ns5+1,app s.eh1 [[a6,a5,a13]]⟩) z) z) z) (sl a1 (k ⟨1,W (s.is6+1),a2,t4.d8,s.ns5+1,a7⟩) z)) (sl a1 (k ⟨1,W (s.is6+1),a2,t4.d8,s.ns5+1,a7⟩) z));(sl (decide (s.is6<p.is4)) (sl ((cnE tI s.l8)&&true) (sl (Nat.beq t1.alt 1) (sl ((cnE tI (rt tI s.l8))&&true) (sl (Nat.beq t2.alt 1) (sl ((cnE tI a14)&&true) (sl (Nat.beq t3.alt 1) (sl ((cnE tI (rt tI a14))&&true) (sl (Nat.beq t4.alt 1) (sl (t4.is0==1) (sl (decide (s.is6>1)) (sl a8 (sl (a10&&(na9 [CK.int .i64,CK.int .i64,CK.int .i64] (f9 a0 0))) (sl (inB (W (s.is6-2)) s.ns5) (sl (((Nat.blt (0+(W (s.is6-2)).toNat) (len s.eh1))&&(Nat.ble (0+3) (len (n5 s.eh1 (0+(W (s.is6-2)).toNat)))))&&(na9 [CK.int .i64,CK.int .i64,CK.int .i64] a3)) (sl (t4.is0==2) (sl (decide (s.is6>0)) w1 w2) w2) z) z) z) z) (sl (t4.is0==2) (sl (decide (s.is6>0)) w1 w0) w0)) (sl (t4.is0==2) (sl (decide (s.is6>0)) w1 w0) w0)) z) z) z) z) z) z) z) z) (e 2))
noncomputable def Qa9(p:ea5)(s:E0):Stp E0:=(sel (Nat.beq s.ph 1) (O2 .next .exit .fail p s) (va2 .next .exit .fail p s))
noncomputable def wb2:Lo ea5 E0:=⟨En mc4,0,uf7,[1,1,1,1,0,1,4,4],[3,4,5,6],.p,[⟨ru2 3 (sPq 0::sIq::.s (.o .nil)::sIq::ru2 127 []),[⟨0,2,true,some [[.c 1 (nL tI),.o (.int .i64)]]⟩],λa H=>(⟨aIq a 4⟩,⟨0,aIq a 6,hLq tI H 0 0 0,hIq H 0 0 1,0,[]⟩)⟩,⟨ru2 3 (sPq 0::sIq::.s (.o (.sl 1 0 (some 0) none))::sIq::ru2 127 []),[⟨0,2,true,some [[.c 1 (nL tI),.o (.int .i64)]]⟩,⟨27,3,true,none⟩],λa H=>(⟨aIq a 4⟩,⟨1,aIq a 6,hLq tI H 0 0 0,hIq H 0 0 1,slN (slT a 5),elT H 1⟩)⟩],Qa9,[(some 0,λp s=>upq (Kb2 p s) [(18,i s.is6),(19,i p.is4),(20,b (decide (s.is6<p.is4)))]),(some 0,λp s=>upq (Kb3 p s) [(18,i s.is6),(19,i p.is4),(20,b (decide (s.is6<p.is4)))])],Qc4⟩
theorem Qc5:wb2.Ok:=Lo.ok [] (by kernel_rfl) .nil rfl (.cons (λa H=>by kernel_rfl) (.cons (λa H=>by kernel_rfl) .nil)) λp s=>(.sel (Nat.beq s.ph 1) (.of @O2 (λF _ _ _ _ _=>by unfold O2;(repeat' apply m8 (f:=F))<;>rfl) (by kernel_rfl)) (.of @va2 (λF _ _ _ _ _=>by unfold va2;(repeat' apply m8 (f:=F))<;>rfl) (by kernel_rfl)))
noncomputable def Ya2(x:List Int):Option (b7×List b9):=let t1:=(o0 ⟨5,rt tI x,0⟩);let t2:=(lp (Qa9 (⟨W (4+t1.is0)⟩:ea5)) (⟨0,0,rt tI (rt tI x),t1.d8,0,[]⟩:E0));let t3:=(Sa7 []);let t4:=(Sa7 (lsL tV t2.2.ns5 (λk=>n5 t2.2.eh1 (0+k))));let a0:=(f9 (n5 t2.2.eh1 0) 0);let a1:=(i (toI (hdA (tlA (tlA a0)))));let a2:=(i (W ((toI (hdA a0))-3)));let a3:=(setAt t2.2.eh1 1 (ba4 (n5 t2.2.eh1 1) 0 [a2,i (toI (hdA (tlA a0))),a1]));let a4:=(i (W ((toI (hdA (tlA a0)))-2)));(sl ((cnE tI x)&&true) (sl (Nat.beq t1.alt 1) (sl ((cnE tI (rt tI x))&&true) (sl (Nat.beq t2.1 1) (sl (cb9 []) (sl t3 none (some (.v (.slice none 0 0),[]))) none) (sl (Nat.beq t2.1 2) (sl (okL tV t2.2.ns5 (λk=>n5 t2.2.eh1 (0+k))) (sl (cb9 (lsL tV t2.2.ns5 (λk=>n5 t2.2.eh1 (0+k)))) (sl t4 (sl (inB 0 t2.2.ns5) (sl (((Nat.blt 0 (len t2.2.eh1))&&(Nat.ble (0+3) (len (n5 t2.2.eh1 0))))&&(na9 [CK.int .i64,CK.int .i64,CK.int .i64] a0)) (sl (inB 1 t2.2.ns5) (sl ((Nat.blt 1 (len t2.2.eh1))&&(Nat.ble (0+3) (len (n5 t2.2.eh1 1)))) (sl (inB 2 t2.2.ns5) (sl ((Nat.blt 2 (len a3))&&(Nat.ble (0+3) (len (n5 a3 2)))) (sl (inB 3 t2.2.ns5) (sl ((Nat.blt 3 (len (setAt a3 2 (ba4 (n5 a3 2) 0 [i (toI (hdA a0)),a4,a1]))))&&(Nat.ble (0+3) (len (n5 (setAt a3 2 (ba4 (n5 a3 2) 0 [i (toI (hdA a0)),a4,a1])) 3)))) (some (.sl 0 0 t2.2.ns5 0,[⟨27,3,setAt (setAt a3 2 (ba4 (n5 a3 2) 0 [i (toI (hdA a0)),a4,a1])) 3 (ba4 (n5 (setAt a3 2 (ba4 (n5 a3 2) 0 [i (toI (hdA a0)),a4,a1])) 3) 0 [i (toI (hdA a0)),i (toI (hdA (tlA a0))),i (W ((toI (hdA (tlA (tlA a0))))-1))]),true,false,0⟩])) none) none) none) none) none) none) none) none) (some (.sl 0 0 t2.2.ns5 0,[⟨27,3,t2.2.eh1,true,false,0⟩]))) none) none) none)) none) none) none)
noncomputable def ja1(x:List Int):List V3:=N9 (one (r1L tV)) (Ya2 x)
noncomputable def pb8(x:List Int):Bool:=okO (one (r1L tV)) (Ya2 x)
noncomputable def Ac2:Sum:=V1 (R5 tI) (λx=>.guard (pb8 x) (.ret ((one (r1L tV)).enc (ja1 x),[])))
theorem od1:g7 prog G 25 Ac2:=Fa2 (bd b25 ed1) (one (r1L tV)) (o:=Ya2) λx=>xa3 (.s .p (.s .p (.s .p (.s .p (.s (.s .p (.b (.u wb2.ls))) .p))))) [wb2.pr] (by kernel_rfl) (.cons Qc5 .nil) (by kernel_rfl)
noncomputable def Td5:List (Nat×Sum):=[(68,Aa6),(69,Gc9),(63,Fc7),(51,rc3),(70,qc2),(25,Ac2),(71,Mc4)]
theorem Fd1:i9 prog G Td5:=⟨Ka1,cd8,Zc8,Lc9,Lc5,od1,Fd0,trivial⟩
noncomputable def wb3(x:List Int):Option (b7×List b9):=let t1:=(o0 ⟨4,rt tI x,0⟩);let t2:=(cb6 ⟨6,rt tI (rt tI x),t1.d8⟩);let t3:=(o0 ⟨6,rt tI t2.l8,t2.d8⟩);let t4:=(o0 ⟨6,rt tI (rt tI t2.l8),t3.d8⟩);let t5:=(o0 ⟨6,rt tI (rt tI (rt tI t2.l8)),t4.d8⟩);let t6:=(Ib6 (⟨t2.Ba7,t2.Ba8,t2.Ba9⟩:V3) (⟨W ((W (t2.Ba7+1))+t3.is0),W ((W (t2.Ba8+1))+t4.is0),W ((W (t2.Ba9+1))+t5.is0)⟩:V3));let t7:=(ya0 (lsL tI ((List.length x)-(if 7<(↑(List.length x):Int) then 7 else (↑(List.length x):Int)).toNat) (λk=>(λk=>(tI).row (gL tI x k)) ((if 7<(↑(List.length x):Int) then 7 else (↑(List.length x):Int)).toNat+k))));let t8:=(bb4 (slR tP (app (app [] (o8 (λk=>(tP).row (gL tP t6 k)) (List.range (List.length t6)))) [[i t7.n.x,i t7.n.y,i t7.n.z,i t7.b]]) 0 ((0+(len (o8 (λk=>(tP).row (gL tP t6 k)) (List.range (List.length t6)))))+1)));let t9:=(ja1 (lsL tI ((List.length x)-(if 7<(↑(List.length x):Int) then 7 else (↑(List.length x):Int)).toNat) (λk=>(λk=>(tI).row (gL tI x k)) ((if 7<(↑(List.length x):Int) then 7 else (↑(List.length x):Int)).toNat+k))));let t10:=(cc7 (rt tV t9));let w0:Option (b7×List b9):=(sl (okE tV t9) (sl (Cb3 (rt tV t9)) (sl (t10.2==0) (some (eL tP t10.1,[])) (some (eL tP t6,[]))) none) none);(sl ((cnE tI x)&&true) (sl (Nat.beq t1.alt 1) (sl ((cnE tI (rt tI x))&&true) (sl (Nat.beq t2.alt 1) (sl ((cnE tI t2.l8)&&true) (sl (Nat.beq t3.alt 1) (sl ((cnE tI (rt tI t2.l8))&&true) (sl (Nat.beq t4.alt 1) (sl ((cnE tI (rt tI (rt tI t2.l8)))&&true) (sl (Nat.beq t5.alt 1) (sl (Ib7 (⟨t2.Ba7,t2.Ba8,t2.Ba9⟩:V3) (⟨W ((W (t2.Ba7+1))+t3.is0),W ((W (t2.Ba8+1))+t4.is0),W ((W (t2.Ba9+1))+t5.is0)⟩:V3)) (sl (inB (if 7<(↑(List.length x):Int) then 7 else (↑(List.length x):Int)) ((List.length x)+1)) (sl (t1.is0==2) (sl (Nat.beq 0 0&&Nat.ble ((0+(len (o8 (λk=>(tP).row (gL tP t6 k)) (List.range (List.length t6)))))*32) room) (sl (okL tI ((List.length x)-(if 7<(↑(List.length x):Int) then 7 else (↑(List.length x):Int)).toNat) (λk=>(λk=>(tI).row (gL tI x k)) ((if 7<(↑(List.length x):Int) then 7 else (↑(List.length x):Int)).toNat+k))) (sl (wb1 (lsL tI ((List.length x)-(if 7<(↑(List.length x):Int) then 7 else (↑(List.length x):Int)).toNat) (λk=>(λk=>(tI).row (gL tI x k)) ((if 7<(↑(List.length x):Int) then 7 else (↑(List.length x):Int)).toNat+k)))) (sl (Nat.beq (0+(len (o8 (λk=>(tP).row (gL tP t6 k)) (List.range (List.length t6))))) (len (app [] (o8 (λk=>(tP).row (gL tP t6 k)) (List.range (List.length t6)))))&&Nat.ble (((0+(len (o8 (λk=>(tP).row (gL tP t6 k)) (List.range (List.length t6)))))+1)*32) room) (sl (okS tP (app (app [] (o8 (λk=>(tP).row (gL tP t6 k)) (List.range (List.length t6)))) [[i t7.n.x,i t7.n.y,i t7.n.z,i t7.b]]) 0 ((0+(len (o8 (λk=>(tP).row (gL tP t6 k)) (List.range (List.length t6)))))+1)) (sl (bb5 (slR tP (app (app [] (o8 (λk=>(tP).row (gL tP t6 k)) (List.range (List.length t6)))) [[i t7.n.x,i t7.n.y,i t7.n.z,i t7.b]]) 0 ((0+(len (o8 (λk=>(tP).row (gL tP t6 k)) (List.range (List.length t6)))))+1))) (sl t8 (some ((.sl 0 0 ((0+(len (o8 (λk=>(tP).row (gL tP t6 k)) (List.range (List.length t6)))))+1) 0),[⟨73,4,(app (app [] (o8 (λk=>(tP).row (gL tP t6 k)) (List.range (List.length t6)))) [[i t7.n.x,i t7.n.y,i t7.n.z,i t7.b]]),true,false,0⟩])) (sl (t1.is0==3) (sl (okL tI ((List.length x)-(if 7<(↑(List.length x):Int) then 7 else (↑(List.length x):Int)).toNat) (λk=>(λk=>(tI).row (gL tI x k)) ((if 7<(↑(List.length x):Int) then 7 else (↑(List.length x):Int)).toNat+k))) (sl (pb8 (lsL tI ((List.length x)-(if 7<(↑(List.length x):Int) then 7 else (↑(List.length x):Int)).toNat) (λk=>(λk=>(tI).row (gL tI x k)) ((if 7<(↑(List.length x):Int) then 7 else (↑(List.length x):Int)).toNat+k)))) w0 none) none) (some (eL tP t6,[])))) none) none) none) none) none) none) (sl (t1.is0==3) (sl (okL tI ((List.length x)-(if 7<(↑(List.length x):Int) then 7 else (↑(List.length x):Int)).toNat) (λk=>(λk=>(tI).row (gL tI x k)) ((if 7<(↑(List.length x):Int) then 7 else (↑(List.length x):Int)).toNat+k))) (sl (pb8 (lsL tI ((List.length x)-(if 7<(↑(List.length x):Int) then 7 else (↑(List.length x):Int)).toNat) (λk=>(λk=>(tI).row (gL tI x k)) ((if 7<(↑(List.length x):Int) then 7 else (↑(List.length x):Int)).toNat+k)))) w0 none) none) (some (eL tP t6,[])))) none) none) none) none) none) none) none) none) none) none) none) none)
noncomputable def db1(x:List Int):List Pln:=N9 (one (r1L tP)) (wb3 x)
noncomputable def rc6(x:List Int):Bool:=okO (one (r1L tP)) (wb3 x)
noncomputable def ed2:Sum:=V1 (R5 tI) (λx=>.guard (rc6 x) (.ret ((one (r1L tP)).enc (db1 x),[])))
theorem Td6:g7 prog G 16 ed2:=Fa2 (bd b16 Fd1) (one (r1L tP)) (o:=wb3) λx=>y5 (by kernel_rfl)
noncomputable def Mc5:List (Nat×Sum):=[]
theorem Fd2:i9 prog G Mc5:=trivial
structure Ya3 where
 (d7 ha7:List Pln)
structure ja2 where
 is5:Int
noncomputable def mc5(p:Ya3)(s:ja2):St:=⟨eL tP p.d7::eL tP p.ha7::ra 3 (i s.is5::ra 20 []),[]⟩
noncomputable def Ha8{α:Type}(k:ja2->α)(e:Nat->α)(z:α)(p:Ya3)(s:ja2):α:=(sl (decide (s.is5<(↑(List.length p.d7):Int))) (sl (inB s.is5 (List.length p.d7)) (sl (inB s.is5 (List.length p.ha7)) (sl (!(((gL tP p.d7 s.is5.toNat).n.x==(gL tP p.ha7 s.is5.toNat).n.x)&&(((gL tP p.d7 s.is5.toNat).n.y==(gL tP p.ha7 s.is5.toNat).n.y)&&(((gL tP p.d7 s.is5.toNat).n.z==(gL tP p.ha7 s.is5.toNat).n.z)&&(((gL tP p.d7 s.is5.toNat).b==(gL tP p.ha7 s.is5.toNat).b)&&true))))) (e 1) (k ⟨W (s.is5+1)⟩)) z) z) (e 2))
noncomputable def Pa2(p:Ya3)(s:ja2):Stp ja2:=Ha8 .next .exit .fail p s
noncomputable def Pb7:Lo Ya3 ja2:=⟨En Mc5,0,uf6,[1,1,0,1,4,4],[0,1,5],.p,[⟨sLq tP::sLq tP::ru2 3 (sIq::ru2 20 []),[],λa H=>(⟨aLq tP a 0,aLq tP a 1⟩,⟨aIq a 5⟩)⟩],Pa2,[(none,λp s=>⟨[b false],[]⟩),(some 0,λp s=>upq (mc5 p s) [(11,i s.is5),(12,eL tP p.d7),(13,i (↑(List.length p.d7):Int)),(14,b (decide (s.is5<(↑(List.length p.d7):Int))))])],mc5⟩
theorem od2:Pb7.Ok:=Lo.ok [] (by kernel_rfl) .nil rfl (.cons (λa H=>by kernel_rfl) .nil) λp s=>(.of @Ha8 (λF _ _ _ _ _=>by unfold Ha8;(repeat' apply m8 (f:=F))<;>rfl) (by kernel_rfl))
noncomputable def wb4(x:List Pln)(y:List Pln):Option (b7×List b9):=let t1:=(lp (Pa2 (⟨rt tP x,rt tP y⟩:Ya3)) (⟨0⟩:ja2));(sl ((↑(List.length x):Int) != (↑(List.length y):Int)) (some (b false,[])) (sl ((cnE tP x)&&((cnE tP y)&&true)) (sl (Nat.beq t1.1 1) (some (b false,[])) (sl (Nat.beq t1.1 2) (some (b true,[])) none)) none))
noncomputable def Pb8(x:List Pln)(y:List Pln):Bool:=N9 (one r1B) (wb4 x y)
noncomputable def Pb9(x:List Pln)(y:List Pln):Bool:=okO (one r1B) (wb4 x y)
noncomputable def ed3:Sum:=ta8 (R5 tP) (R5 tP) (λx y=>.guard (Pb9 x y) (.ret ((one r1B).enc (Pb8 x y),[])))
theorem Td7:g7 prog G 23 ed3:=Eb2 (bd b23 Fd2) (one r1B) (o:=wb4) λx y=>xa3 (.s .p (.s .p (.s (.s .p (.b (.u Pb7.ls))) .p))) [Pb7.pr] (by kernel_rfl) (.cons od2 .nil) (by kernel_rfl)
structure hf8 where
 is6:Int
structure hf9 where
 ns5:Nat
 eh0:List (List b7)
theorem Td8{Q:Pt->Prop}(r:List Pln)(p q:Pln):∀(l:List Pln) (out:List Pt),(∀s∈l,(mpt p q s).2=true->inn r (mpt p q s).1=true->Q (mpt p q s).1)->(∀x∈out,Q x)->∀x∈mb5 r p q l out,Q x
 |[],out,_,h=>h
 |s::l,out,hs,h=>Td8 r p q l (Ha4 r p q out s) (λt ht=>hs t (Qif _ ht)) λx hx=>by
  unfold Ha4 at hx
  split at hx
  ·rename_i hc;rw[Qig,Qig] at hc
   rcases Qiu.1 hx with hx|hx
   ·exact h x hx
   ·rw[List.mem_singleton] at hx;subst hx;exact hs s Qip hc.1 hc.2.2
  ·exact h x hx
theorem Td9{Q:Pt->Prop}(r:List Pln)(p:Pln):∀(l:List Pln) (out:List Pt),(∀q∈l,∀s∈l,(mpt p q s).2=true->inn r (mpt p q s).1=true->Q (mpt p q s).1)->(∀x∈out,Q x)->∀x∈Xa8 r p l out,Q x
 |[],out,_,h=>h
 |q::l,out,hs,h=>Td9 r p l _ (λa ha t ht=>hs a (Qif _ ha) t (Qif _ ht)) (Td8 r p q l out (λt ht=>hs q Qip t (Qif _ ht)) h)
theorem Ud0{Q:Pt->Prop}(r:List Pln):∀(l:List Pln) (out:List Pt),(∀p∈l,∀q∈l,∀s∈l,(mpt p q s).2=true->inn r (mpt p q s).1=true->Q (mpt p q s).1)->(∀x∈out,Q x)->∀x∈zc3 r l out,Q x
 |[],out,_,h=>h
 |p::l,out,hs,h=>Ud0 r l _ (λa ha c hc t ht=>hs a (Qif _ ha) c (Qif _ hc) t (Qif _ ht)) (Td9 r p l out (λc hc t ht=>hs p Qip c (Qif _ hc) t (Qif _ ht)) h)
theorem le9{Q:Pt->Prop}{r:List Pln}(hs:∀p∈r,∀q∈r,∀s∈r,(mpt p q s).2=true->inn r (mpt p q s).1=true->Q (mpt p q s).1):∀x∈cor r,Q x :=
 Ud0 r r [] hs λx hx=>by cases hx
structure Okx(x:Pt):Prop where
 w1:0<x.pw
 w2:x.pw<=600000000000
 c1:Sm 300000000000000 x.px
 c2:Sm 300000000000000 x.py
 c3:Sm 300000000000000 x.pz
theorem Ac3{r:List Pln}(hb:Bds r):∀x∈cor r,Okx x:=le9 λp hp q hq s hs h _=>by
 obtain⟨h1,h2,h3,h4,h5⟩:=ee5 (hb p hp) (hb q hq) (hb s hs) h;exact⟨h1,h5,h2,h3,h4⟩
theorem Fd3(c:List Pln):(pts c).length<=8000000:=by
 unfold pts;cases h:chk c==0 with
 |false=>exact Qie _
 |true=>exact Dd9 _ (eb9 h).1 (eb9 h).2
theorem Ie6{x y:Int}(hy:0<y):Int.tmod x y+y*Int.tdiv x y=x/\-y<Int.tmod x y/\Int.tmod x y<y:=by
 refine⟨Int.tmod_add_mul_tdiv x y,?_,Int.tmod_lt_of_pos x hy⟩
 have:=Int.lt_tmod_of_pos x hy
 omega
theorem Ie7(x:Int){y:Int}(hy:0<y)(hy2:y<=4000000000000000000):Jb1 x y=some (i (x % y),[]):=by
 have hz:(y==0)=false:=by rw[beq_eq_false_iff_ne];omega
 obtain⟨h1,h2,h3⟩:=Ie6 (x:=x) hy;unfold Jb1;rw[bfD (by omega),bf hz,bf hz,ha0 (by omega) (by omega),Int.tmod_eq_emod_of_nonneg (by omega)]
 congr 3;rw[Int.add_emod_right]
 conv=>rhs;rw[<- h1]
 rw[Int.add_mul_emod_self_left]
theorem zf7(x:Int){y:Int}(hy:0<y)(hy2:y<=4000000000000000000):Jb2 x y=x % y:=by unfold Jb2;rw[Ie7 x hy hy2];rfl
theorem Ie8(x:Int){y:Int}(hy:0<y)(hy2:y<=4000000000000000000):Jb3 x y=true:=by unfold Jb3;rw[Ie7 x hy hy2];rfl
theorem Sm.neg{n x:Int}(h:Sm n x):Sm n (-x):=⟨by have:=h.2;omega,by have:=h.1;omega⟩
theorem Ie9(x:Pln):(x.n.x==x.n.x&&(x.n.y==x.n.y&&(x.n.z==x.n.z&&(x.b==x.b&&true))))=true:=by simp
theorem me0(l:List Pln)(hl:l.length<=1000000000):wb4 l l=some (b true,[]):=by
 have h:=lb0 (step:=Pa2 ⟨l,l⟩) (mk:=λj=>(⟨(j:Int)⟩:ja2)) (c:=λ_=>false) (u:=1) (fin:=2) tP l hl
  (λj hj=>by
   simp only[Pa2,Ha8,Int.toNat_natCast,o4 hj (by omega),Ie9]
   rw[btD (i6 hj),bt (f7 hj),bt (f7 hj)]
   rfl)
  (by simp only[Pa2,Ha8];rw[bfD (r8 (Qic _))]) 0 (Qie _)
 rw[Qia,show (l.any λ_=>false)=false by simp] at h
 unfold wb4;simp only[i5,i8];rw[show (⟨0⟩:ja2)=⟨((0:Nat):Int)⟩ from rfl,h,bf (by simp)]
 rfl
theorem of0(l:List Pln)(hl:l.length<=1000000000):Pb8 l l=true:=by unfold Pb8;rw[me0 l hl];rfl
theorem of1(l:List Pln)(hl:l.length<=1000000000):Pb9 l l=true:=by unfold Pb9;rw[me0 l hl];rfl
def Nx{σ:Type}(x:Stp σ)(E:Nat->Prop)(N:σ->Prop):Prop:=(∃t,x=.exit t/\E t)\/∃s,x=.next s/\N s
theorem Nx.sl{σ:Type}{c:Bool}{t e:Stp σ}{E:Nat->Prop}{N:σ->Prop}(h1:c=true->Nx t E N)(h2:c=false->Nx e E N):Nx (sl c t e) E N:=by cases c;exact h2 rfl;exact h1 rfl
theorem Nx.ex{σ:Type}{t:Nat}{E:Nat->Prop}{N:σ->Prop}(h:E t):Nx (.exit t) E N:=.inl ⟨t,rfl,h⟩
theorem Nx.nx{σ:Type}{s:σ}{E:Nat->Prop}{N:σ->Prop}(h:N s):Nx (.next s) E N:=.inr ⟨s,rfl,h⟩
theorem da0 {σ τ : Type} {step : σ → Stp σ} {mk : Nat → τ → σ} (n : Nat) (I : Nat → τ → Prop) (E : Nat → σ → Prop) (hn : n ≤ 1000000000)
  (h:∀j a,j<n->I j a->Nx (step (mk j a)) (λt=>E t (mk j a)) (λs=>∃a',s=mk (j+1) a'/\I (j+1) a'))
  (hf:∀j a,n<=j->I j a->∃t,step (mk j a)=.exit t/\E t (mk j a)) (j0:Nat) (a:τ) (hi:I j0 a):∃t s,lp step (mk j0 a)=(t,s)/\E t s:=by
 have key:=pc4 (step:=step) (I:=λm s=>∃j a,m=n-j/\s=mk j a/\I j a) (Q:=E) (λm s ⟨j,a,hm,hs,ha⟩=>by
  subst hs;by_cases hlt:j<n
  ·rcases h j a hlt ha with h1|⟨s',h1,a',h2,h3⟩
   ·exact .inl h1
   ·subst h2;exact .inr ⟨_,n-(j+1),by omega,h1,j+1,a',rfl,rfl,h3⟩
  ·exact .inl (hf j a (by omega) ha)) (n-j0) (mk j0 a) (by omega) ⟨j0,a,rfl,rfl,hi⟩
 exact⟨_,_,rfl,key⟩
def Rd{ρ:Type}(R:RR ρ)(o:Option (b7×List b9))(P:ρ->Prop):Prop:=∃x r,o=some x/\R.rd x=some r/\P r
theorem Rd.p{ρ:Type}{R:RR ρ}{o:Option (b7×List b9)}{P:ρ->Prop}(h:Rd R o P):P (N9 R o):=by
 obtain⟨x,r,h1,h2,h3⟩:=h;rw[h1,Ca8 R h2];exact h3
theorem Rd.g{ρ:Type}{R:RR ρ}{o:Option (b7×List b9)}{P:ρ->Prop}(h:Rd R o P):okO R o=true:=by
 obtain⟨x,r,h1,h2,h3⟩:=h;rw[h1];exact Oa8 R h2
theorem Rd.sl{ρ:Type}{R:RR ρ}{c:Bool}{t e:Option (b7×List b9)}{P:ρ->Prop}(h1:c=true->Rd R t P)(h2:c=false->Rd R e P):Rd R (sl c t e) P:=by cases c;exact h2 rfl;exact h1 rfl
theorem ta3 (n : Int) (l : List Int) (j : Int) (h1 : 0 ≤ j) (h2 : j ≤ 1000000) (hn : 0 < n) (hn2 : n ≤ 1000000) :
  ∃v j',o0 ⟨n,l,j⟩=⟨1,v,j'⟩/\0<=v/\v<n/\j<=j'/\j'<=j+1:=by
 unfold o0 pa1
 simp only
 by_cases h:j>=(l.length:Int)
 ·rw[btD h];exact⟨0,j,rfl,by omega,hn,by omega,by omega⟩
 ·rw[bfD h];have hW:W (W (j+1)-1)=j:=by rw[Yc2,ha0 (by omega) (by omega)];omega
  have hW2:W (j+1)=j+1:=ha0 (by omega) (by omega)
  have hin:inB j l.length=true:=by rw[Tc1];exact decide_eq_true (by omega)
  rw[hW,hW2,hin,Ie8 _ hn (by omega),zf7 _ hn (by omega)]
  exact⟨_,_,rfl,Int.emod_nonneg _ (by omega),Int.emod_lt_of_pos _ hn,by omega,by omega⟩
theorem rc7 (m : Int) (l : List Int) (j : Int) (h1 : 0 ≤ j) (h2 : j ≤ 900000) (hm : 0 ≤ m) (hm2 : m ≤ 100000) :
  ∃a b c j',cb6 ⟨m,l,j⟩=⟨1,a,b,c,l,j'⟩/\Sm m a/\Sm m b/\Sm m c/\j<=j'/\j'<=j+3:=by
 unfold cb6 rb8;simp only[i5,i8];have hW:W (W (2*m)+1)=2*m+1:=by rw[tb5,ha0 (by omega) (by omega)]
 rw[hW];obtain⟨v1,j1,e1,a1,b1,c1,d1⟩:=ta3 (2*m+1) l j h1 (by omega) (by omega) (by omega)
 rw[e1];obtain⟨v2,j2,e2,a2,b2,c2,d2⟩:=ta3 (2*m+1) l j1 (by omega) (by omega) (by omega) (by omega)
 simp only
 rw[e2];obtain⟨v3,j3,e3,a3,b3,c3,d3⟩:=ta3 (2*m+1) l j2 (by omega) (by omega) (by omega) (by omega)
 simp only
 rw[e3];refine⟨v1-m,v2-m,v3-m,j3,?_,⟨by omega,by omega⟩,⟨by omega,by omega⟩,⟨by omega,by omega⟩,by omega,by omega⟩
 simp only
 rw[ha0 (n:=v1-m) (by omega) (by omega),ha0 (n:=v2-m) (by omega) (by omega),ha0 (n:=v3-m) (by omega) (by omega)]
 rfl
def inV(v:V3):Bool:=smb 24 v.x&&(smb 24 v.y&&smb 24 v.z)
theorem Qb0(v:V3):inV v=true↔Sm 24 v.x/\Sm 24 v.y/\Sm 24 v.z:=by unfold inV;rw[Qig,Qig,pb6,pb6,pb6]
theorem Je0(v:V3):bc8 v=some (b (inV v),[]):=by
 unfold bc8 inV smb;cases h1:decide (v.x < -24)<;>cases h2:decide (v.x>24)<;>cases h3:decide (v.y < -24)<;>cases h4:decide (v.y>24)<;>cases h5:decide (v.z < -24)<;>cases h6:decide (v.z>24)<;>rfl
theorem me1(v:V3):jb2 v=inV v:=by unfold jb2;rw[Je0];rfl
theorem Ud1(v:V3):jb3 v=true:=by unfold jb3;rw[Je0];rfl
def sub(a b:V3):V3:=⟨a.x-b.x,a.y-b.y,a.z-b.z⟩
theorem me2{a b:V3}(ha:inV a=true)(hb:inV b=true):Ka2 a b=sub a b/\Sm 48 (sub a b).x/\Sm 48 (sub a b).y/\Sm 48 (sub a b).z:=by
 rw[Qb0] at ha hb;obtain⟨⟨a1,a2⟩,⟨a3,a4⟩,a5,a6⟩:=ha;obtain⟨⟨b1,b2⟩,⟨b3,b4⟩,b5,b6⟩:=hb;unfold Ka2 sub;rw[ha0 (by omega) (by omega),ha0 (by omega) (by omega),ha0 (by omega) (by omega)]
 exact⟨rfl,⟨by show _<=a.x-b.x;omega,by show a.x-b.x<=_;omega⟩,⟨by show _<=a.y-b.y;omega,by show a.y-b.y<=_;omega⟩,⟨by show _<=a.z-b.z;omega,by show a.z-b.z<=_;omega⟩⟩
theorem mc6 {a b c : V3} (ha : inV a = true) (hb : inV b = true) (hc : inV c = true) :
  Y3 (Ka2 b a) (Ka2 c a)=d9 (sub b a) (sub c a)/\Sm 4608 (d9 (sub b a) (sub c a)).x/\Sm 4608 (d9 (sub b a) (sub c a)).y/\Sm 4608 (d9 (sub b a) (sub c a)).z:=by
 obtain⟨e1,⟨u1,u2⟩,⟨u3,u4⟩,u5,u6⟩:=me2 hb ha;obtain⟨e2,⟨v1,v2⟩,⟨v3,v4⟩,v5,v6⟩:=me2 hc ha;rw[e1,e2,zc1];generalize sub b a=p at *
 generalize sub c a=q at *
 have h1:=mb u3 u4 v5 v6;have h2:=mb u5 u6 v3 v4;have h3:=mb u5 u6 v1 v2;have h4:=mb u1 u2 v5 v6;have h5:=mb u1 u2 v3 v4;have h6:=mb u3 u4 v1 v2;have k:Sm 4608 (d9 p q).x/\Sm 4608 (d9 p q).y/\Sm 4608 (d9 p q).z:=by unfold Sm d9;simp only;omega
 obtain⟨k1,k2,k3⟩:=k;rw[Ha2 (k1.mono (by omega)),Ha2 (k2.mono (by omega)),Ha2 (k3.mono (by omega))]
 exact⟨rfl,k1,k2,k3⟩
def Aa8(a b c:V3):Pln×Bool :=
 if inV a&&(inV b&&inV c) then
  if g3 (d9 (sub b a) (sub c a))=0 then (⟨⟨0,0,0⟩,0⟩,false)
  else (⟨⟨Int.tdiv (d9 (sub b a) (sub c a)).x (g3 (d9 (sub b a) (sub c a))),Int.tdiv (d9 (sub b a) (sub c a)).y (g3 (d9 (sub b a) (sub c a))),Int.tdiv (d9 (sub b a) (sub c a)).z (g3 (d9 (sub b a) (sub c a)))⟩,
   dot ⟨Int.tdiv (d9 (sub b a) (sub c a)).x (g3 (d9 (sub b a) (sub c a))),Int.tdiv (d9 (sub b a) (sub c a)).y (g3 (d9 (sub b a) (sub c a))),Int.tdiv (d9 (sub b a) (sub c a)).z (g3 (d9 (sub b a) (sub c a)))⟩ a⟩,true)
 else (⟨⟨0,0,0⟩,0⟩,false)
theorem Hc3(v:V3):0<=g3 v:=by unfold g3;omega
theorem ed4(a c d:V3):Oa9 a c d=some (.tup [.agg (tP.row (Aa8 a c d).1),b (Aa8 a c d).2],[]):=by
 unfold Oa9 Aa8;simp only[me1,Ud1];cases ha:inV a with
 |false=>rfl
 |true =>
  cases hc:inV c with
  |false=>rfl
  |true =>
   cases hd:inV d with
   |false=>rfl
   |true =>
    obtain⟨e,k1,k2,k3⟩:=mc6 ha hc hd;rw[e];generalize d9 (sub c a) (sub d a)=n at *
    have m1:=k1.mono (m:=1000000000000000000) (by omega)
    have m2:=k2.mono (m:=1000000000000000000) (by omega)
    have m3:=k3.mono (m:=1000000000000000000) (by omega)
    rw[He6 m1 m2 m3,bd9 m1 m2 m3];by_cases h0:g3 n=0
    ·rw[show (g3 n==0)=true from by rw[h0];rfl]
     simp only[Bool.and_self,if_true,h0];rfl
    ·have hp:=Hc3 n;have q1:=K3 (g:=g3 n) k1 (by omega)
     have q2:=K3 (g:=g3 n) k2 (by omega)
     have q3:=K3 (g:=g3 n) k3 (by omega)
     rw[show (g3 n==0)=false from by rw[beq_eq_false_iff_ne];exact h0,mf6 m1 m2 m3 h0]
     simp only[Bool.and_self,if_true,h0,if_false];rw[Ha2 (q1.mono (by omega)),Ha2 (q2.mono (by omega)),Ha2 (q3.mono (by omega))]
     have hdot:Ca1 ⟨Int.tdiv n.x (g3 n),Int.tdiv n.y (g3 n),Int.tdiv n.z (g3 n)⟩ a=dot ⟨Int.tdiv n.x (g3 n),Int.tdiv n.y (g3 n),Int.tdiv n.z (g3 n)⟩ a:=by
      unfold Ca1;simp only[tb5,Yb3];obtain⟨⟨a1,a2⟩,⟨a3,a4⟩,a5,a6⟩:=(Qb0 a).1 ha;have r1:=mb q1.1 q1.2 a1 a2;have r2:=mb q2.1 q2.2 a3 a4;have r3:=mb q3.1 q3.2 a5 a6;rw[ha0 (by omega) (by omega)]
      rfl
     rw[hdot];rfl
theorem Kb4(a b c:V3):ra9 a b c=Aa8 a b c:=by unfold ra9;rw[ed4];rfl
theorem Ta7(a b c:V3):sa0 a b c=true:=by unfold sa0;rw[ed4];rfl
theorem Ye3(l:List Int):Rd (one r1P) (Sa4 l) (λ_=>True):=by
 unfold Sa4;simp only[i5,i8];obtain⟨v1,j1,e1,a1,b1,c1,d1⟩:=ta3 8 l 0 (by omega) (by omega) (by omega) (by omega)
 rw[e1]
 simp only
 obtain⟨v2,j2,e2,a2,b2,c2,d2⟩:=ta3 17 l j1 (by omega) (by omega) (by omega) (by omega)
 rw[e2]
 simp only
 obtain⟨x1,x2,x3,j3,e3,_,_,_,c3,d3⟩:=rc7 8 l j2 (by omega) (by omega) (by omega) (by omega)
 rw[e3]
 simp only
 obtain⟨y1,y2,y3,j4,e4,_,_,_,c4,d4⟩:=rc7 8 l j3 (by omega) (by omega) (by omega) (by omega)
 rw[e4]
 simp only
 obtain⟨z1,z2,z3,j5,e5,_,_,_,c5,d5⟩:=rc7 8 l j4 (by omega) (by omega) (by omega) (by omega)
 rw[e5];simp only[Kb4,Ta7,Ie8 _ (show (0:Int)<3 by omega) (by omega),i8]
 simp only[Qik,Qil,g9];refine Rd.sl (λ_=>Rd.sl (λ_=>⟨_,_,rfl,rfl,trivial⟩) λ_=>?_) (λ_=>?_)
 ·exact Rd.sl (λ_=>⟨_,_,rfl,rfl,trivial⟩) λ_=>Rd.sl (λ_=>⟨_,_,rfl,rfl,trivial⟩) λ_=>⟨_,_,rfl,rfl,trivial⟩
 ·exact Rd.sl (λ_=>⟨_,_,rfl,rfl,trivial⟩) λ_=>Rd.sl (λ_=>⟨_,_,rfl,rfl,trivial⟩) λ_=>⟨_,_,rfl,rfl,trivial⟩
theorem me3(l:List Int):wb1 l=true:=(Ye3 l).g
theorem Ye4(p:Pln)(v:V3):Rd (one r1I) (Sa5 p v) (λ_=>True):=by
 unfold Sa5;simp only[cd0,Ud1,g9];exact Rd.sl (λ_=>⟨_,_,rfl,rfl,trivial⟩) λ_=>Rd.sl (λ_=>⟨_,_,rfl,rfl,trivial⟩) λ_=>Rd.sl (λ_=>⟨_,_,rfl,rfl,trivial⟩) λ_=>Rd.sl (λ_=>⟨_,_,rfl,rfl,trivial⟩) λ_=>⟨_,_,rfl,rfl,trivial⟩
theorem Fd4(p:Pln)(v:V3):Pb2 p v=true:=(Ye4 p v).g
theorem zf8(P:ya1)(hl:P.i7.length<=1000000000):∃t s,lp (E4 P) ⟨0⟩=(t,s)/\(t=1\/t=2\/t=3):=by
 obtain⟨l,x1,x2,x3,x4,x5,x6,x7,x8⟩:=P;refine da0 (step:=E4 ⟨l,x1,x2,x3,x4,x5,x6,x7,x8⟩) (mk:=λj (_:Unit)=>(⟨(j:Int)⟩:ia7)) l.length (λ_ _=>True) (λt _=>t=1\/t=2\/t=3) hl (λj a hj _=>?_) (λj a hj _=>?_) 0 () trivial
 ·simp only[E4,ea1,Fd4,Int.toNat_natCast,o4 hj (show l.length<=4611686018427387904 from Qiy hl (by omega))]
  rw[btD (i6 hj),bt (f7 hj),g9];exact Nx.sl (λ_=>Nx.sl (λ_=>.ex (by simp)) λ_=>.nx ⟨(),rfl,trivial⟩) λ_=>.ex (by simp)
 ·simp only[E4,ea1];rw[bfD (by omega)]
  exact⟨_,rfl,by simp⟩
theorem zf9(l:List V3)(hl:l.length<=1000000000)(a c:Nat)(ha:a<l.length)(hc:c<a):∃t s,lp (U6 ⟨(a:Int),(c:Int)⟩) ⟨l,0⟩=(t,s)/\((t=1\/t=2)/\s.i7=l):=by
 refine da0 (step:=U6 ⟨(a:Int),(c:Int)⟩) (mk:=λj (_:Unit)=>(⟨l,(j:Int)⟩:ia8)) c (λ_ _=>True) (λt s=>(t=1\/t=2)/\s.i7=l) (by omega) (λj x hj _=>?_) (λj x hj _=>?_) 0 () trivial
 ·simp only[U6,ma1,Ta7,Int.toNat_natCast,i5,i8,o4 hj (show c<=4611686018427387904 by omega)]
  rw[btD (i6 hj),bt (f7 ha),bt (f7 (show c<l.length by omega)),bt (f7 (show j<l.length by omega)),g9]
  generalize hP:ya1.mk _ _ _ _ _ _ _ _ _=P3;obtain⟨t,s,h1,h2⟩:=zf8 P3 (by subst hP;exact hl)
  rw[h1]
  rcases h2 with rfl|rfl|rfl
  ·exact .ex (by simp)
  ·exact .nx ⟨(),rfl,trivial⟩
  ·exact .nx ⟨(),rfl,trivial⟩
 ·simp only[U6,ma1];rw[bfD (by omega)]
  exact⟨_,rfl,by simp⟩
theorem Af0(l:List V3)(hl:l.length<=1000000000)(a:Nat)(ha:a<l.length):∃t s,lp (U7 ⟨(a:Int)⟩) ⟨l,0⟩=(t,s)/\((t=1\/t=2)/\s.i7=l):=by
 refine da0 (step:=U7 ⟨(a:Int)⟩) (mk:=λj (_:Unit)=>(⟨l,(j:Int)⟩:ia9)) a (λ_ _=>True) (λt s=>(t=1\/t=2)/\s.i7=l) (by omega) (λj x hj _=>?_) (λj x hj _=>?_) 0 () trivial
 ·simp only[U7,ma2,i5,i8,o4 hj (show a<=4611686018427387904 by omega)]
  obtain⟨t,s,h1,h2,h3⟩:=zf9 l hl a j ha hj;rw[btD (i6 hj),h1]
  rcases h2 with rfl|rfl
  ·exact .ex (by simp)
  ·exact .nx ⟨(),by rw[h3],trivial⟩
 ·simp only[U7,ma2];rw[bfD (by omega)]
  exact⟨_,rfl,by simp⟩
theorem Ab7(l:List V3)(hl:l.length<=1000000000):Rd (one r1B) (Sa6 l) (λ_=>True):=by
 have key:∃t s,lp (U8 ⟨⟩) ⟨l,0⟩=(t,s)/\(t=1\/t=2):=by
  refine da0 (step:=U8 ⟨⟩) (mk:=λj (_:Unit)=>(⟨l,(j:Int)⟩:ja0)) l.length (λ_ _=>True) (λt s=>t=1\/t=2) hl (λj x hj _=>?_) (λj x hj _=>?_) 0 () trivial
  ·simp only[U8,ma3,i5,i8,o4 hj (show l.length<=4611686018427387904 by omega)]
   obtain⟨t,s,h1,h2,h3⟩:=Af0 l hl j hj;rw[btD (i6 hj),h1]
   rcases h2 with rfl|rfl
   ·exact .ex (by simp)
   ·exact .nx ⟨(),by rw[h3],trivial⟩
  ·simp only[U8,ma3];rw[bfD (by omega)]
   exact⟨_,rfl,by simp⟩
 obtain⟨t,s,h1,h2⟩:=key;unfold Sa6;simp only[i5,i8];rw[h1]
 rcases h2 with rfl|rfl<;>exact⟨_,_,rfl,rfl,trivial⟩
theorem fe2(l:List V3)(hl:l.length<=1000000000):cb9 l=true:=(Ab7 l hl).g
theorem fe3(l:List V3)(hl:l.length<=1000000000):Rd (one r1I) (Ha5 l) (λ_=>True):=by
 have h:=lb0 (step:=ea2 ⟨l⟩) (mk:=λj=>(⟨(j:Int)⟩:Q7)) (c:=λv=>!inV v) (u:=1) (fin:=2) tV l hl
  (λj hj=>by
   simp only[ea2,ga3,Int.toNat_natCast,me1,Ud1,o4 hj (show l.length<=4611686018427387904 by omega)]
   rw[btD (i6 hj),bt (f7 hj),g9])
  (by simp only[ea2,ga3];rw[bfD (r8 (Qic _))]) 0 (Qie _)
 unfold Ha5;simp only[i5,i8,q8,fe2 l hl];rw[show (⟨0⟩:Q7)=⟨((0:Nat):Int)⟩ from rfl,h]
 refine Rd.sl (λ_=>⟨_,_,rfl,rfl,trivial⟩) λ_=>?_
 rw[Qia];cases l.any λv=>!inV v with
 |true=>exact⟨_,_,rfl,rfl,trivial⟩
 |false =>
  show Rd (one r1I) (sl (Sa7 l) (some (i 11,[])) (some (i 0,[]))) (λ_=>True)
  exact Rd.sl (λ_=>⟨_,_,rfl,rfl,trivial⟩) λ_=>⟨_,_,rfl,rfl,trivial⟩
theorem vd2(l:List V3)(hl:l.length<=1000000000):cc4 l=true:=(fe3 l hl).g
theorem Je1(p:Pln)(l:List V3)(hl:l.length<=1000000000):Rd (one r1B) (Ha6 p l) (λ_=>True):=by
 have h:=lb0 (step:=ea3 ⟨l,p.n.x,p.n.y,p.n.z,p.b⟩) (mk:=λj=>(⟨(j:Int)⟩:Q8)) (c:=λv=>decide (cb8 p v>0)) (u:=1) (fin:=2) tV l hl
  (λj hj=>by
   simp only[ea3,ga4,Int.toNat_natCast,Fd4,o4 hj (show l.length<=4611686018427387904 by omega)]
   rw[btD (i6 hj),bt (f7 hj),g9])
  (by simp only[ea3,ga4];rw[bfD (r8 (Qic _))]) 0 (Qie _)
 unfold Ha6;simp only[i5,i8];rw[show (⟨0⟩:Q8)=⟨((0:Nat):Int)⟩ from rfl,h]
 split<;>exact⟨_,_,rfl,rfl,trivial⟩
theorem me4(p:Pln)(l:List V3)(hl:l.length<=1000000000):ka6 p l=true:=(Je1 p l hl).g
theorem of2(p q:Pln):Rd (one r1I) (sa1 p q) (λ_=>True):=by
 have key:∃t s,lp (K8 ⟨p.n.x,p.n.y,p.n.z,p.b,q.n.x,q.n.y,q.n.z,q.b⟩) ⟨0⟩=(t,s)/\(t=1\/t=2\/t=3):=by
  refine da0 (step:=K8 ⟨p.n.x,p.n.y,p.n.z,p.b,q.n.x,q.n.y,q.n.z,q.b⟩) (mk:=λj (_:Unit)=>(⟨(j:Int)⟩:S8)) 4 (λ_ _=>True) (λt s=>t=1\/t=2\/t=3) (by omega) (λj x hj _=>?_) (λj x hj _=>?_) 0 () trivial
  ·have hn:=o4 hj (show 4<=4611686018427387904 by omega)
   simp only[K8,W9,Int.toNat_natCast,hn];have hlt:(j:Int)<4:=by omega
   have hin:=f7 hj;have g:∀x1 x2 x3 x4:Int,((Nat.ble ((0+(j*1))+1) 4)&&(na9 [CK.int .i64] (f9 [i x1,i x2,i x3,i x4] (0+(j*1)))))=true:=by
    intro x1 x2 x3 x4
    match j,hj with
    |0,_=>rfl
    |1,_=>rfl
    |2,_=>rfl
    |3,_=>rfl
   rw[btD hlt];simp only[hin,g,g9];exact Nx.sl (λ_=>.ex (by simp)) λ_=>Nx.sl (λ_=>.ex (by simp)) λ_=>.nx ⟨(),rfl,trivial⟩
  ·simp only[K8,W9];rw[bfD (by omega)]
   exact⟨_,rfl,by simp⟩
 obtain⟨t,s,h1,h2⟩:=key;unfold sa1
 simp only
 rw[h1]
 rcases h2 with rfl|rfl|rfl<;>exact⟨_,_,rfl,rfl,trivial⟩
theorem fe4(p q:Pln):fb1 p q=true:=(of2 p q).g
theorem rc8(l:List Pln)(n:Nat)(h:n<=l.length):o8 (λk=>(λk=>tP.row (gL tP l k)) (0+k)) (List.range (n-0))=bL tP (l.take n):=by
 rw[<- tb4,p5,p5,Qin,Nat.min_eq_left h,Nat.sub_zero];apply Qix;intro k hk;rw[List.mem_range] at hk;show tP.row (gL tP l (0+k))=tP.row (gL tP (l.take n) k);congr 1;simp[gL,Qiq,List.getElem?_take,hk]
theorem rc9(l:List Pln)(n:Nat):o8 (λk=>(λk=>tP.row (gL tP l k)) (n+k)) (List.range (l.length-n))=bL tP (l.drop n):=by
 rw[<- tb4,p5,p5,Qid];apply Qix;intro k hk;show tP.row (gL tP l (n+k))=tP.row (gL tP (l.drop n) k);rw[zc5]
theorem cc8(l:List Pln)(x1 x2 x3 x4:Int):app (bL tP l) [[i x1,i x2,i x3,i x4]]=bL tP (l++[⟨⟨x1,x2,x3⟩,x4⟩]):=Ra8 tP l [⟨⟨x1,x2,x3⟩,x4⟩]
def wb5(x:List Pln)(y:Pln)(n:Nat):List Pln:=x.take n++(y::x.drop n)
theorem Fd5{l:List Pln}{n:Nat}{r:List (List b7)}{P:List Pln->Prop}(hn:n=l.length)(hr:r=bL tP l)(h:P l):Rd (one (r1L tP)) (some (.sl 0 0 n 0,[⟨73,4,r,true,false,0⟩])) P:=by
 subst hn hr;exact⟨_,l,rfl,qc9 l,h⟩
theorem Je2(x:List Pln)(y:Pln)(hx:x.length<=1000000):Rd (one (r1L tP)) (db0 x y) (λr=>r≠[]/\r.length<=x.length+1/\∀p∈r,p=y\/p∈x):=by
 have h:=Qa3 (step:=ca7 ⟨x,y.n.x,y.n.y,y.n.z,y.b⟩) (mk:=λj=>(⟨(j:Int)⟩:ea4)) (c:=λp=>!decide (ca6 p y<0)) (u:=1) (fin:=2) tP x (by omega)
  (λj hj=>by
   simp only[ca7,sa2,Int.toNat_natCast,fe4,o4 hj (show x.length<=4611686018427387904 by omega)]
   rw[btD (i6 hj),bt (f7 hj),g9];cases decide (ca6 (gL tP x j) y<0)<;>rfl)
  (by simp only[ca7,sa2];rw[bfD (r8 (Qic _))]) 0 (Qie _)
 rw[Qia] at h;have key:∃t n,lp (ca7 ⟨x,y.n.x,y.n.y,y.n.z,y.b⟩) ⟨0⟩=(t,⟨((n:Nat):Int)⟩)/\(t=1\/t=2)/\n<=x.length:=by
  rw[show (⟨0⟩:ea4)=⟨((0:Nat):Int)⟩ from rfl,h]
  split
  ·exact⟨1,_,rfl,.inl rfl,by rw[Qij];exact List.findIdx_le_length⟩
  ·exact⟨2,_,rfl,.inr rfl,Nat.le_refl _⟩
 obtain⟨t,n,h1,h2,h3⟩:=key;have hlo:inB (n:Int) (x.length+1)=true:=f7 (by omega)
 have hd:(bL tP (x.take n)).length=n:=by rw[<- n7,P7,Qin];omega
 have hmem:∀p∈wb5 x y n,p=y\/p∈x:=λp hp=>by
  unfold wb5 at hp
  rcases Qiu.1 hp with hp|hp
  ·exact .inr (List.mem_of_mem_take hp)
  ·rcases List.mem_cons.1 hp with hp|hp
   ·exact .inl hp
   ·exact .inr (Qio hp)
 have hne:wb5 x y n≠[]:=by unfold wb5;simp
 have hlen:(wb5 x y n).length=x.length+1:=by unfold wb5;simp only[Qib,List.length_cons,Qin,Qid];omega
 have lt:len (bL tP (x.take n))=n:=by rw[n7];exact hd
 have ld:len (bL tP (x.drop n))=x.length-n:=by rw[P7,Qid]
 have b1:(Nat.beq 1 1&&Nat.ble ((1+(x.length-n))*32) room)=true:=by rw[ca1 (by omega)];rfl
 have b2:(Nat.beq 0 0&&Nat.ble ((0+n)*32) room)=true:=by rw[ca1 (by omega)];rfl
 have e0:app [] (bL tP (x.take n))=bL tP (x.take n):=rfl;have b3:(Nat.beq (0+n) n&&Nat.ble (((0+n)+1)*32) room)=true:=by rw[ca1 (by omega),Qij,Qik];rfl
 have l3:len (bL tP (x.take n++[y]))=n+1:=by rw[P7,Qib,Qin];simp only[List.length_singleton];omega
 have b4:(Nat.beq ((0+n)+1) (n+1)&&Nat.ble ((((0+n)+1)+(x.length-n))*32) room)=true:=by rw[ca1 (by omega),Qij,Qik];rfl
 have z0:∀{k:Nat},Nat.beq k 0=true->k=0:=λ{k} h=>Nat.eq_of_beq_eq_true h
 have fin:∀m r,m=x.length+1->r=bL tP (wb5 x y n)->Rd (one (r1L tP)) (some (.sl 0 0 m 0,[⟨73,4,r,true,false,0⟩])) (λr=>r≠[]/\r.length<=x.length+1/\∀p∈r,p=y\/p∈x) :=
  λm r hm hr=>Fd5 (by rw[hlen];exact hm) hr ⟨hne,by omega,hmem⟩
 have tail:Rd (one (r1L tP)) (some (.sl 0 0 (((0+n)+1)+(x.length-n)) 0,[⟨73,4,app (bL tP (x.take n++[y])) (bL tP (x.drop n)),true,false,0⟩])) (λr=>r≠[]/\r.length<=x.length+1/\∀p∈r,p=y\/p∈x):=by
  refine fin _ _ (by omega) ?_
  rw[Ra8];unfold wb5;rw[Qir];rfl
 have same:∀p:Pln,(p.n.x==y.n.x&&(p.n.y==y.n.y&&(p.n.z==y.n.z&&(p.b==y.b&&true))))=true->n<x.length->Rd (one (r1L tP)) (some (eL tP x,[])) (λr=>r≠[]/\r.length<=x.length+1/\∀p∈r,p=y\/p∈x):=λp _ hn =>
  ⟨_,x,rfl,zc6 tP x,List.ne_nil_of_length_pos (by omega),Nat.le_succ _,λp hp=>Or.inr hp⟩
 unfold db0;simp only[i5,i8];rw[h1];simp only[Int.toNat_natCast,rc8 x n h3,rc9,lt,ld,b1,b2,e0,b3,cc8,l3,b4,hlo,g9];have main:Rd (one (r1L tP)) (sl (decide ((n:Int)<(x.length:Int))) (sl (inB (n:Int) x.length) (sl (((gL tP x n).n.x==y.n.x)&&(((gL tP x n).n.y==y.n.y)&&(((gL tP x n).n.z==y.n.z)&&(((gL tP x n).b==y.b)&&true)))) (some (eL tP x,[])) (some (.sl 0 0 (((0+n)+1)+(x.length-n)) 0,[⟨73,4,app (bL tP (x.take n++[y])) (bL tP (x.drop n)),true,false,0⟩]))) none) (some (.sl 0 0 (((0+n)+1)+(x.length-n)) 0,[⟨73,4,app (bL tP (x.take n++[y])) (bL tP (x.drop n)),true,false,0⟩]))) (λr=>r≠[]/\r.length<=x.length+1/\∀p∈r,p=y\/p∈x):=by
  by_cases hn:n<x.length
  ·rw[btD (i6 hn),bt (f7 hn)];exact Rd.sl (λq=>same _ q hn) λ_=>tail
  ·rw[bfD (r8 hn)];exact tail
 rcases h2 with rfl|rfl
 ·exact main
 ·exact main
end Go.Ev.Ce
