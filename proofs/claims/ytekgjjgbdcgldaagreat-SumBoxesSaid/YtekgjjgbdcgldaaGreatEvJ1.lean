/- Own work. -/
import Derived.Test.YtekgjjgbdcgldaaGreatEvOE1
set_option linter.all false
noncomputable section
def Qja:=@List.mem_cons
def Qjb:=@List.mem_cons_of_mem
def Qjc:=@Bool.and_eq_true
def Qjd:=@List.mem_cons_self
def Qje:=@Int.le_of_lt
def Qjf:=@Int.mul_eq_zero
def Qjg:=@Bool.and_true
def Qjh:=@Int.mul_nonneg
def Qji:=@List.length_append
def Qjj:=@List.mem_map
def Qjk:=@Nat.lt_irrefl
def Qjl:=@List.drop_zero
def Qjm:=@List.any_eq_true
def Qjn:=@List.all_eq_true
def Qjo:=@Nat.gcd_dvd_left
def Qjp:=@Nat.gcd_dvd_right
def Qjq:=@Nat.zero_add
def Qjr:=@List.length_drop
def Qjs:=@Nat.zero_le
def Qjt:=@List.not_all_eq_any_not
def Qju:=@Int.natCast_dvd_natCast
def Qjv:=@Nat.beq_refl
def Qjw:=@Bool.and_self
def Qjx:=@Nat.dvd_trans
def Qjy:=@Classical.byContradiction
def Qjz:=@Int.mul_pos
def Qjaa:=@List.pairwise_cons
def Qjab:=@Int.mul_le_mul_of_nonneg_right
def Qjac:=@Int.mul_tdiv_cancel'
def Qjad:=@List.drop_eq_getElem_cons
def Qjae:=@Int.zero_mul
def Qjaf:=@Bool.not_false
def Qjag:=@Int.dvd_natAbs
def Qjah:=@Bool.not_eq_true'
def Qjai:=@List.not_mem_nil
def Qjaj:=@List.getElem_mem
def Qjak:=@List.mem_append_left
def Qjal:=@Int.nonneg_of_mul_nonneg_right
def Qjam:=@Int.mul_le_mul_of_nonneg_left
def Qjan:=@Bool.false_eq_true
def Qjao:=@List.getD_eq_getElem?_getD
def Qjap:=@Int.eq_of_mul_eq_mul_left
def Qjaq:=@Int.mul_zero
def Qjar:=@List.mem_append
def Qjas:=@List.length_set
def Qjat:=@List.drop_eq_nil_of_le
def Qjau:=@List.drop_drop
def Qjav:=@List.mem_range
def Qjaw:=@Bool.true_and
namespace Go.Ev.Ce
open Go Go.Ev Go.Ev.L Go.Proofs
def inn(l:List Pln)(x:Pt):Bool:=l.all λp=>!decide (rm p x<0)
theorem ff1(l:List Pln)(x:Pt):inn l x=!l.any λp=>decide (rm p x<0):=by unfold inn;rw[List.not_any_eq_all_not]
theorem Mf7(p:Pln)(x:Pt):mb1 ⟨p.n.x,p.n.y,p.n.z,p.b,x.px,x.py,x.pz,x.pw⟩=⟨decide (rm p x<0)⟩:=by
 show ya2.mk (decide (Fa1 p x<0))=_;rw[pe5]
theorem ff2(l:List Pln)(x:Pt)(hl:l.length<=1000000000):X2 ⟨l,x.px,x.py,x.pz,x.pw⟩=⟨1,if l.any (λp=>decide (rm p x<0)) then ((l.findIdx (λp=>decide (rm p x<0)):Nat):Int) else -1⟩:=by
 have h:=xa0 (step:=G6 ⟨l,(l.length:Int),x.px,x.py,x.pz,x.pw⟩) (mk:=λj=>(⟨(j:Int)⟩:n5)) (c:=λp=>decide (rm p x<0)) (u:=1) (fin:=2) tP l hl
  (λj hj=>by
   simp only[G6,E2,Int.toNat_natCast,Mf7,o8 hj (by omega)]
   rw[bt (dc4 hj),bt (f8 hj)])
  (by simp only[G6,E2];rw[bf (Tb4 (Qjk _))]) 0 (Qjs _)
 rw[Qjl] at h;unfold X2 F4;simp only[l9,k9];rw[show (⟨0⟩:n5)=⟨((0:Nat):Int)⟩ from rfl,h]
 split
 ·simp only[Qjq];rfl
 ·rfl
theorem xd4(l:List Pln)(x:Pt)(hl:l.length<=1000000000):Na5 l x=some (b (inn l x),[]):=by
 unfold Na5 fa1 A6;simp only[l9,k9,ff2 l x hl,ff1];split
 ·rename_i h;rw[h,show decide (((l.findIdx (λp=>decide (rm p x<0)):Nat):Int)>=0)=true from decide_eq_true (by omega)];rfl
 ·rename_i h;rw[Bool.not_eq_true] at h;rw[h];rfl
theorem Vd2(l:List Pln)(x:Pt)(hl:l.length<=1000000000):ja0 l x=inn l x:=by unfold ja0;rw[xd4 l x hl];rfl
theorem Vd3(l:List Pln)(x:Pt)(hl:l.length<=1000000000):ja1 l x=true:=by unfold ja1;rw[xd4 l x hl];rfl
def eqX(x q:Pt):Bool:=q.px==x.px&&(q.py==x.py&&(q.pz==x.pz&&(q.pw==x.pw&&true)))
theorem pe7(x q:Pt):eqX x q=true↔q=x:=by
 unfold eqX;simp only[Qjg,Qjc,beq_iff_eq];exact⟨λ⟨h1,h2,h3,h4⟩=>by cases q;cases x;simp_all,λh=>by subst h;exact⟨rfl,rfl,rfl,rfl⟩⟩
def jd0(l:List Pt)(x:Pt):Bool:=l.any (eqX x)
theorem Le5(l:List Pt)(x:Pt):jd0 l x=true↔x∈l:=by
 unfold jd0;rw[Qjm];exact⟨λ⟨q,h,e⟩=>(pe7 x q).1 e ▸ h,λh=>⟨x,h,(pe7 x x).2 rfl⟩⟩
def smb(n x:Int):Bool:=!decide (x < -n)&&!decide (x>n)
theorem Za8(n x:Int):smb n x=true↔Sm n x:=by unfold smb Sm;simp only[Qjc,Qjah,decide_eq_false_iff_not];omega
theorem jd1(n:Int)(l:List Int)(hn:0<=n/\n<=1000000000)(hl:l.length<=1000000000):Fa5 n l=some (b (l.all (smb n)),[]):=by
 have hW:W (0-n)=-n:=by rw[N9 (by omega) (by omega)];omega
 have h:=Ic9 (step:=pa8 ⟨n,l,(l.length:Int)⟩) (mk:=λj=>(⟨(j:Int)⟩:L9)) (c:=λx=>!smb n x) (u:=1) (fin:=2) tI l hl
  (λj hj=>by
   simp only[pa8,ka7,Int.toNat_natCast,o8 hj (by omega),hW]
   rw[bt (dc4 hj),bt (f8 hj)];unfold smb;cases decide (gL tI l j < -n)<;>cases decide (gL tI l j>n)<;>rfl)
  (by simp only[pa8,ka7];rw[bf (Tb4 (Qjk _))]) 0 (Qjs _)
 rw[Qjl] at h;unfold Fa5;simp only[l9,k9];rw[show (⟨0⟩:L9)=⟨((0:Nat):Int)⟩ from rfl,h]
 have e:(l.any λx=>!smb n x)=!l.all (smb n):=by rw[Qjt]
 rw[e];cases l.all (smb n)<;>rfl
theorem Ob6(n:Int)(l:List Int)(hn:0<=n/\n<=1000000000)(hl:l.length<=1000000000):O2 n l=l.all (smb n):=by unfold O2;rw[jd1 n l hn hl];rfl
theorem Ob7(n:Int)(l:List Int)(hn:0<=n/\n<=1000000000)(hl:l.length<=1000000000):O3 n l=true:=by unfold O3;rw[jd1 n l hn hl];rfl
theorem Fb7{n:Int}(h:Sm 1000000000000000000 n):Z0 n=(n.natAbs:Int):=by
 unfold Z0;obtain⟨h1,h2⟩:=h;rw[N9 (by omega) (by omega)]
 split<;>omega
theorem Bc5{n:Int}(h:Sm 1000000000000000000 n):Ea8 n=some (i (n.natAbs:Int),[]):=by
 unfold Ea8;obtain⟨h1,h2⟩:=h;rw[N9 (by omega) (by omega)]
 by_cases h:n<0
 ·rw[bt (decide_eq_true h)];congr 3;omega
 ·rw[bf (decide_eq_false h)];congr 3;omega
theorem ec6{n:Int}(h:Sm 1000000000000000000 n):ta9 n=(n.natAbs:Int):=by unfold ta9;rw[Bc5 h];rfl
theorem ec7{n:Int}(h:Sm 1000000000000000000 n):ua0 n=true:=by unfold ua0;rw[Bc5 h];rfl
def g3(v:V3):Int:=(Nat.gcd (Nat.gcd v.x.natAbs v.y.natAbs) v.z.natAbs:Nat)
theorem Le6(g n:Nat):eu (g:Int) (n:Int)=(Nat.gcd g n:Nat):=by rw[yf2 (by omega) (by omega)];rfl
theorem sd6(P:ca5)(g n:Nat)(hn:n<=1000000000000000000):lp (Z1 P) ⟨(g:Int),(n:Int)⟩=(1,⟨(Nat.gcd g n:Nat),0⟩):=by
 have:=Oc8 (step:=Z1 P) (mk:=λg n=>(⟨g,n⟩:N6)) (λg n h=>by
  have h0:n≠0:=by omega
  simp[Z1,ga3,Gb8,h,h0]) (λg=>by simp[Z1,ga3,Gb8]) (g:Int) (n:Int) (by omega) (by omega) (by omega)
 rw[this,Le6]
theorem jd2(l:List Int)(hl:l.length<=1000000000)(hb:∀x∈l,Sm 1000000000000000000 x):ya6 l=some (i (l.foldl (λg x=>Nat.gcd g x.natAbs) 0:Nat),[]):=by
 have h := pe3 (step := ka8 ⟨(l.length : Int)⟩) (mk := fun j (a : Nat) => (⟨(a : Int), l, (j : Int)⟩ : I4)) (f := fun g x => Nat.gcd g x.natAbs) (fin := 2) tI l (fun _ _ => True) hl (fun j a hj _ => ⟨by
   have hm:=hb _ (zb2 tI hj);have hne:(gL tI l j==(-9223372036854775808:Int))=false:=by
    have:=hm.1
    rw[beq_eq_false_iff_ne];omega
   have hs:(gL tI l j).natAbs<=1000000000000000000:=by obtain⟨h1,h2⟩:=hm;omega
   simp only[ka8,ga4,Int.toNat_natCast,l9,k9,Fb7 hm,sd6 _ _ _ hs,o8 hj (by omega)]
   rw[bt (dc4 hj),bt (f8 hj),bf hne]
   rfl,trivial⟩) (λa _=>by simp only[ka8,ga4];rw[bf (Tb4 (Qjk _))]) 0 (Qjs _) 0 trivial
 have h:=h.1;rw[Qjl] at h;unfold ya6;simp only[l9,k9];rw[show (⟨0,l,0⟩:I4)=⟨((0:Nat):Int),l,((0:Nat):Int)⟩ from rfl,h]
 rfl
def okp(p:Pln):Bool:=[p.n.x,p.n.y,p.n.z].all (smb 4608)&&(g3 p.n==1&&[p.b].all (smb 2097152))
theorem zf3(p:Pln):Bd p↔[p.n.x,p.n.y,p.n.z].all (smb 4608)=true/\[p.b].all (smb 2097152)=true:=by
 simp only[List.all_cons,List.all_nil,Qjg,Qjc,Za8,Sm];exact⟨λh=>⟨⟨⟨h.x1,h.x2⟩,⟨h.y1,h.y2⟩,h.z1,h.z2⟩,h.b1,h.b2⟩,λ⟨⟨⟨a,b⟩,⟨c,d⟩,e,f⟩,g,h⟩=>⟨a,b,c,d,e,f,g,h⟩⟩
theorem Kb4{p:Pln}(h:okp p=true):Bd p:=by
 unfold okp at h;rw[Qjc,Qjc] at h;exact (zf3 p).2 ⟨h.1,h.2.2⟩
theorem sm3{v:V3}(h:[v.x,v.y,v.z].all (smb 4608)=true):Sm 4608 v.x/\Sm 4608 v.y/\Sm 4608 v.z:=by
 simpa only[List.all_cons,List.all_nil,Qjg,Qjc,Za8] using h
theorem Vd4(p:Pln):Na7 p=some (b (okp p),[]):=by
 unfold Na7 okp;have l3:[p.n.x,p.n.y,p.n.z].length<=1000000000:=by simp
 have l1:[p.b].length<=1000000000:=by simp
 simp only[Ob6 4608 _ (by omega) l3,Ob7 4608 _ (by omega) l3,Ob6 2097152 _ (by omega) l1,Ob7 2097152 _ (by omega) l1]
 cases hw:[p.n.x,p.n.y,p.n.z].all (smb 4608) with
 |false=>rfl
 |true =>
  obtain⟨h1,h2,h3⟩:=sm3 hw;have hd:=jd2 [p.n.x,p.n.y,p.n.z] l3 (by
   intro x hx;simp only[Qja,Qjai,or_false] at hx
   rcases hx with rfl|rfl|rfl
   ·exact h1.mono (by omega)
   ·exact h2.mono (by omega)
   ·exact h3.mono (by omega))
  have hg:([p.n.x,p.n.y,p.n.z].foldl (λg x=>Nat.gcd g x.natAbs) 0:Nat)=Nat.gcd (Nat.gcd p.n.x.natAbs p.n.y.natAbs) p.n.z.natAbs:=by
   simp only[List.foldl_cons,List.foldl_nil,Nat.gcd_zero_left]
  have hp:fa2 [p.n.x,p.n.y,p.n.z]=g3 p.n:=by unfold fa2;rw[hd,hg];rfl
  have hgd:fa3 [p.n.x,p.n.y,p.n.z]=true:=by unfold fa3;rw[hd];rfl
  rw[hp,hgd];cases g3 p.n==1<;>rfl
theorem Hd7(p:Pln):Ba5 p=okp p:=by unfold Ba5;rw[Vd4 p];rfl
theorem Hd8(p:Pln):Ba6 p=true:=by unfold Ba6;rw[Vd4 p];rfl
theorem Kc8(P:pa4)(g n:Nat)(hn:n<=1000000000000000000):lp (ia9 P) ⟨(g:Int),(n:Int)⟩=(1,⟨(Nat.gcd g n:Nat),0⟩):=by
 have:=Oc8 (step:=ia9 P) (mk:=λg n=>(⟨g,n⟩:S8)) (λg n h=>by
  have h0:n≠0:=by omega
  simp[ia9,Ea9,Gb8,h,h0]) (λg=>by simp[ia9,Ea9,Gb8]) (g:Int) (n:Int) (by omega) (by omega) (by omega)
 rw[this,Le6]
theorem Hd9 {v : V3} (h1 : Sm 1000000000000000000 v.x) (h2 : Sm 1000000000000000000 v.y) (h3 : Sm 1000000000000000000 v.z) :
  wb0 v=if g3 v=0 then some (.tup [.agg (tV.row ⟨0,0,0⟩),i 0],[]) else some (.tup [.agg (tV.row ⟨W (Int.tdiv v.x (g3 v)),W (Int.tdiv v.y (g3 v)),W (Int.tdiv v.z (g3 v))⟩),i (g3 v)],[]):=by
 have ne:∀{x:Int},Sm 1000000000000000000 x->(x==(-9223372036854775808:Int))=false:=λ{x} h=>by
  have:=h.1
  rw[beq_eq_false_iff_ne];omega
 have bd:∀{x:Int},Sm 1000000000000000000 x->x.natAbs<=1000000000000000000:=λ{x} h=>by obtain⟨h1,h2⟩:=h;omega
 have l1:=Kc8 ⟨0,v.x,v.y,v.z,v.x,v.y,v.z⟩ 0 v.x.natAbs (bd h1);rw[Nat.gcd_zero_left] at l1;have l2:=Kc8 ⟨1,v.x,v.y,v.z,v.x,v.y,v.z⟩ v.x.natAbs v.y.natAbs (bd h2);have l3:=Kc8 ⟨2,v.x,v.y,v.z,v.x,v.y,v.z⟩ (Nat.gcd v.x.natAbs v.y.natAbs) v.z.natAbs (bd h3);unfold wb0;simp only[ec6 h1,ec6 h2,ec6 h3,ec7 h1,ec7 h2,ec7 h3];rw[show (⟨0,(v.x.natAbs:Int)⟩:S8)=⟨((0:Nat):Int),(v.x.natAbs:Int)⟩ from rfl]
 simp only[l1,l2,l3,ne h1,ne h2,ne h3];rw[show ((Nat.gcd (Nat.gcd v.x.natAbs v.y.natAbs) v.z.natAbs:Nat):Int)=g3 v from rfl]
 by_cases h:g3 v=0
 ·rw[if_pos h,show (g3 v==0)=true from by rw[h];rfl];rfl
 ·rw[if_neg h,show (g3 v==0)=false from by rw[beq_eq_false_iff_ne];exact h];rfl
theorem jd3{v:V3}(h1:Sm 1000000000000000000 v.x)(h2:Sm 1000000000000000000 v.y)(h3:Sm 1000000000000000000 v.z):(Sa4 v).2=g3 v:=by
 unfold Sa4;rw[Hd9 h1 h2 h3];split
 ·rename_i h;rw[h];rfl
 ·rfl
theorem zf4{v:V3}(h1:Sm 1000000000000000000 v.x)(h2:Sm 1000000000000000000 v.y)(h3:Sm 1000000000000000000 v.z)(h:g3 v≠0):Sa4 v=(⟨W (Int.tdiv v.x (g3 v)),W (Int.tdiv v.y (g3 v)),W (Int.tdiv v.z (g3 v))⟩,g3 v):=by
 unfold Sa4;rw[Hd9 h1 h2 h3,if_neg h];rfl
theorem Le7{v:V3}(h1:Sm 1000000000000000000 v.x)(h2:Sm 1000000000000000000 v.y)(h3:Sm 1000000000000000000 v.z):wb1 v=true:=by
 unfold wb1;rw[Hd9 h1 h2 h3]
 split<;>rfl
theorem xd5(p:Pln):ib7 p=some (b (okp p),[]):=by
 unfold ib7 okp;cases hw:[p.n.x,p.n.y,p.n.z].all (smb 4608) with
 |false =>
  simp only[List.all_cons,List.all_nil,Qjg,smb] at hw;cases h1:decide (p.n.x < -4608)<;>cases h2:decide (p.n.x>4608)<;>cases h3:decide (p.n.y < -4608)<;>cases h4:decide (p.n.y>4608)<;>cases h5:decide (p.n.z < -4608)<;>cases h6:decide (p.n.z>4608)<;>simp only[h1,h2,h3,h4,h5,h6] at hw ⊢<;>first | rfl | cases hw
 |true =>
  obtain⟨h1,h2,h3⟩:=sm3 hw;rw[bf (decide_eq_false (by have:=h1.1;omega)),bf (decide_eq_false (by have:=h1.2;omega)),bf (decide_eq_false (by have:=h2.1;omega)),bf (decide_eq_false (by have:=h2.2;omega)),bf (decide_eq_false (by have:=h3.1;omega)),bf (decide_eq_false (by have:=h3.2;omega))]
  have k1:=h1.mono (m:=1000000000000000000) (by omega)
  have k2:=h2.mono (m:=1000000000000000000) (by omega)
  have k3:=h3.mono (m:=1000000000000000000) (by omega)
  rw[bt (Le7 k1 k2 k3),jd3 k1 k2 k3];cases g3 p.n==1 with
  |false=>rfl
  |true =>
   simp only[List.all_cons,List.all_nil,Qjg,smb,Qjaw];rw[o9];by_cases ha:p.b < -2097152
   ·rw[bf (decide_eq_false (by omega)),show decide (p.b < -2097152)=true from decide_eq_true ha];rfl
   ·rw[bt (decide_eq_true (by omega)),show decide (p.b < -2097152)=false from decide_eq_false ha]
    congr 3;by_cases hc:p.b<=2097152
    ·rw[decide_eq_true hc,decide_eq_false (by omega)];rfl
    ·rw[decide_eq_false hc,decide_eq_true (by omega)];rfl
theorem Le8(p:Pln):Eb2 p=okp p:=by unfold Eb2;rw[xd5 p];rfl
theorem Vd5(p:Pln):Eb3 p=true:=by unfold Eb3;rw[xd5 p];rfl
def chk(l:List Pln):Int:=if (l.length:Int)>48 then 2 else if l.all okp then 0 else 12
theorem Vd6(l:List Pln)(hl:l.length<=1000000000):Xa0 l=some (i (chk l),[]):=by
 have hk1:∀p,Fa6 p=some (b (!okp p),[]):=λp=>by unfold Fa6;rw[Hd8,Hd7];rfl
 have hp1:∀p,Wa8 p=!okp p:=λp=>by unfold Wa8;rw[hk1];rfl
 have hg1:∀p,Wa9 p=true:=λp=>by unfold Wa9;rw[hk1];rfl
 have h:=xa0 (step:=G7 ⟨l,(l.length:Int)⟩) (mk:=λj=>(⟨(j:Int)⟩:n7)) (c:=λp=>!okp p) (u:=1) (fin:=2) tP l hl
  (λj hj=>by
   simp only[G7,E4,Int.toNat_natCast,hp1,hg1,o8 hj (by omega)]
   rw[bt (dc4 hj),bt (f8 hj),o9])
  (by simp only[G7,E4];rw[bf (Tb4 (Qjk _))]) 0 (Qjs _)
 rw[Qjl] at h;have e:(l.any λx=>!okp x)=!l.all okp:=by rw[Qjt]
 unfold Xa0 fa4 A7 na0 F5 chk;simp only[l9,k9];rw[show (⟨0⟩:n7)=⟨((0:Nat):Int)⟩ from rfl,h,e]
 by_cases hn:(l.length:Int)>48
 ·rw[bt (decide_eq_true hn),if_pos hn]
 ·rw[bf (decide_eq_false hn),if_neg hn];cases l.all okp with
  |true=>rfl
  |false =>
   simp only[Qjaf,if_true,Qjq];show sl true (sl (Nat.beq 1 1) (sl (decide (((l.findIdx λp=>!okp p:Nat):Int)>=0)) _ _) _) _=_
   rw[show decide (((l.findIdx λp=>!okp p:Nat):Int)>=0)=true from decide_eq_true (by omega)]
   rfl
theorem ff3(l:List Pln)(hl:l.length<=1000000000):rb0 l=chk l:=by unfold rb0;rw[Vd6 l hl];rfl
theorem ff4(l:List Pln)(hl:l.length<=1000000000):rb1 l=true:=by unfold rb1;rw[Vd6 l hl];rfl
theorem jd4{l:List Pln}:chk l=0↔l.length<=48/\∀p∈l,okp p=true:=by
 unfold chk;by_cases hn:(l.length:Int)>48
 ·rw[if_pos hn];exact⟨λh=>absurd h (by decide),λh=>by omega⟩
 ·rw[if_neg hn];cases h:l.all okp with
  |true=>exact⟨λ_=>⟨by omega,Qjn.1 h⟩,λ_=>rfl⟩
  |false=>exact⟨λh=>absurd h (by decide),λh'=>by rw[Qjn.2 h'.2] at h;cases h⟩
theorem btD{p:Prop}{inst:Decidable p}(h:p){α:Type}(t e:α):sl (@decide p inst) t e=t:=bt (decide_eq_true h) t e
theorem bfD{p:Prop}{inst:Decidable p}(h:¬ p){α:Type}(t e:α):sl (@decide p inst) t e=e:=bf (decide_eq_false h) t e
theorem l6{j n:Nat}(h:j<n):(j:Int)<(n:Int):=Int.ofNat_lt.2 h
theorem q8{j n:Nat}(h:¬ j<n):¬ (j:Int)<(n:Int):=λh'=>h (Int.ofNat_lt.1 h')
theorem Ob8 {σ τ α : Type} {step : σ → Stp σ} {mk : Nat → τ → σ} {f : α → List α → τ → τ} {g : List α → τ → τ} {fin : τ → Nat} (l : List α) (I : Nat → τ → Prop) (hl : l.length ≤ 1000000000)
  (g0:∀a,g [] a=a) (g1:∀x r a,g (x::r) a=g r (f x r a))
  (h:∀j a (hj:j<l.length),I j a->step (mk j a)=.next (mk (j+1) (f l[j] (l.drop (j+1)) a))/\I (j+1) (f l[j] (l.drop (j+1)) a))
  (hf:∀j a,l.length<=j->I j a->step (mk j a)=.exit (fin a)) (j0:Nat) (a:τ) (hi:I j0 a) :
  lp step (mk j0 a)=(fin (g (l.drop j0) a),mk (max j0 l.length) (g (l.drop j0) a))/\I (max j0 l.length) (g (l.drop j0) a):=by
 have key:=dc5 (step:=step) (I:=λm s=>∃j b,m=l.length-j/\max j l.length=max j0 l.length/\s=mk j b/\I j b/\g (l.drop j) b=g (l.drop j0) a)
  (Q:=λu s=>u=fin (g (l.drop j0) a)/\s=mk (max j0 l.length) (g (l.drop j0) a)/\I (max j0 l.length) (g (l.drop j0) a)) (λm s ⟨j,b,hm,hj,hs,hb,he⟩=>by
   subst hs;by_cases hlt:j<l.length
   ·obtain⟨h1,h2⟩:=h j b hlt hb;refine .inr ⟨_,l.length-(j+1),by omega,h1,j+1,_,rfl,by omega,rfl,h2,?_⟩
    rw[<- he,Qjad hlt,g1]
   ·have hd:l.drop j=[]:=Qjat (by omega)
    rw[hd,g0] at he;have hj':j=max j0 l.length:=by omega
    subst he;rw[<- hj'];exact .inl ⟨_,hf j _ (by omega) hb,rfl,rfl,hb⟩) (l.length-j0) (mk j0 a) (by omega) ⟨j0,a,rfl,rfl,rfl,hi,rfl⟩
 exact⟨Prod.ext key.1 key.2.1,key.2.2⟩
def ab9(r:List Pln)(p q:Pln)(out:List Pt)(s:Pln):List Pt :=
 if (mpt p q s).2&&(!jd0 out (mpt p q s).1&&inn r (mpt p q s).1) then out++[(mpt p q s).1] else out
def Xb3(r:List Pln)(p q:Pln)(l:List Pln)(out:List Pt):List Pt:=l.foldl (ab9 r p q) out
def Kb5(r:List Pln)(p:Pln):List Pln->List Pt->List Pt
 |[],out=>out
 |q::l,out=>Kb5 r p l (Xb3 r p q l out)
def Vc3(r:List Pln):List Pln->List Pt->List Pt
 |[],out=>out
 |p::l,out=>Vc3 r l (Kb5 r p l out)
def cor(r:List Pln):List Pt:=Vc3 r r []
def Bds(r:List Pln):Prop:=∀p∈r,Bd p
theorem xd6(r:List Pln)(p q:Pln)(out:List Pt)(s:Pln):(ab9 r p q out s).length<=out.length+1:=by
 unfold ab9;split
 ·simp
 ·omega
theorem jd5(r:List Pln)(p q:Pln):∀(l:List Pln) (out:List Pt),(Xb3 r p q l out).length<=out.length+l.length
 |[],out=>Nat.le_refl _
 |s::l,out=>by
  have h1:=xd6 r p q out s;have h2:=jd5 r p q l (ab9 r p q out s);show (Xb3 r p q l (ab9 r p q out s)).length<=_;simp only[List.length_cons];omega
theorem jd6(r:List Pln)(p:Pln):∀(l:List Pln) (out:List Pt),l.length<=200->(Kb5 r p l out).length<=out.length+200*l.length
 |[],out,_=>by simp[Kb5]
 |q::l,out,h=>by
  simp only[List.length_cons] at h ⊢;have h1:=jd5 r p q l out;have h2:=jd6 r p l (Xb3 r p q l out) (by omega)
  show (Kb5 r p l (Xb3 r p q l out)).length<=_;omega
theorem Vd7(r:List Pln):∀(l:List Pln) (out:List Pt),l.length<=200->(Vc3 r l out).length<=out.length+40000*l.length
 |[],out,_=>by simp[Vc3]
 |p::l,out,h=>by
  simp only[List.length_cons] at h ⊢;have h1:=jd6 r p l out (by omega)
  have h2:=Vd7 r l (Kb5 r p l out) (by omega)
  show (Vc3 r l (Kb5 r p l out)).length<=_;omega
theorem pe8(r:List Pln)(_:Bds r)(hr:r.length<=200):(cor r).length<=8000000:=by
 have:=Vd7 r r [] hr
 rw[List.length_nil] at this;show (Vc3 r r []).length<=_;omega
def ph(out:List Pt):Nat:=match out with
 |[]=>0
 |_::_=>1
theorem Le9(x:Pt):jd0 [] x=false:=rfl
theorem Xc9{α:Type}(t:Ty α)(l:List α)(n k:Nat):gL t (l.drop n) k=gL t l (n+k):=by simp[gL,Qjao,List.getElem?_drop]
theorem Me0{n:Nat}{l:List Pt}(hn:n=l.length)(h:l.length<=1000000000):(Nat.beq n (len (bL tX l))&&Nat.ble ((n+1)*32) room)=true:=by
 subst hn;rw[ta6,Qjv,Qjaw];exact Xc7 (by omega)
theorem ff5(l:List Pt)(x:Pt):app (bL tX l) [[i x.px,i x.py,i x.pz,i x.pw]]=bL tX (l++[x]):=Va9 tX l [x]
def slX(l:List Pt):b7×List b8:=match l with
 |[]=>(.v (.slice none 0 0),[])
 |_::_=>(.sl 0 0 l.length 0,[⟨136,4,bL tX l,true,false,0⟩])
theorem Me1(l:List Pt):(one (r1L tX)).rd (slX l)=some l:=by
 cases l with
 |nil=>rfl
 |cons x l =>
  show Bool.rec (motive:=λ_=>Option (List Pt)) none (some (slR tX (bL tX (x::l)) 0 (x::l).length)) (Bool.and true (okS tX (bL tX (x::l)) 0 (x::l).length))=_
  rw[vb4,Hb0];rfl
theorem Ka1{ρ:Type}(R:RR ρ){x:b7×List b8}{r:ρ}(h:R.rd x=some r):O9 R (some x)=r:=by
 show Option.rec (motive:=λ_=>ρ) R.d (λx=>x) (R.rd x)=r
 rw[h]
theorem Za9{ρ:Type}(R:RR ρ){x:b7×List b8}{r:ρ}(h:R.rd x=some r):okO R (some x)=true:=by
 show Option.rec (motive:=λ_=>Bool) false (λ_=>true) (R.rd x)=true
 rw[h]
def sd7(x:Pt):List b7:=[i x.px,i x.py,i x.pz,i x.pw,b true]
def Wb3(l:List Pt):List (List b7):=l.map sd7
@[reducible] def flK:List (Nat×CK):=[(0,.int .i64),(1,.int .i64),(2,.int .i64),(3,.int .i64)]
theorem Vd8(x q:Pt):Bb7 flK [i x.px,i x.py,i x.pz,i x.pw] (sd7 q)=eqX x q:=by
 show Bool.and (decide (x.px=q.px)) (Bool.and (decide (x.py=q.py)) (Bool.and (decide (x.pz=q.pz)) (Bool.and (decide (x.pw=q.pw)) true)))=_;unfold eqX;have h:∀a c:Int,decide (a=c)=(c==a):=λa c=>by rw[Bool.eq_iff_iff,decide_eq_true_eq,beq_iff_eq];exact eq_comm
 rw[h,h,h,h]
theorem jd7(x:Pt):∀l,Da3 4 flK [i x.px,i x.py,i x.pz,i x.pw] (Wb3 l)=jd0 l x
 |[]=>rfl
 |q::l=>by
  have ih:=jd7 x l;unfold Da3 at ih ⊢;show Option.rec (motive:=λ_=>Bool) false (λr=>toB (hdA (i9 r 4))) (Bool.rec (motive:=λ_=>Option (List b7)) (lc4 flK [i x.px,i x.py,i x.pz,i x.pw] (Wb3 l)) (some (sd7 q)) (Bb7 flK [i x.px,i x.py,i x.pz,i x.pw] (sd7 q)))=jd0 (q::l) x
  rw[Vd8];unfold jd0 at ih ⊢;rw[List.any_cons];cases eqX x q with
  |true=>rfl
  |false=>exact ih
theorem xd7(x:Pt):∀l,jd0 l x=false->V5 flK [i x.px,i x.py,i x.pz,i x.pw] (sd7 x) (Wb3 l)=Wb3 (l++[x])
 |[],_=>rfl
 |q::l,h=>by
  unfold jd0 at h;rw[List.any_cons,Bool.or_eq_false_iff] at h;show Bool.rec (motive:=λ_=>List (List b7)) (sd7 q::V5 flK [i x.px,i x.py,i x.pz,i x.pw] (sd7 x) (Wb3 l)) (sd7 x::Wb3 l) (Bb7 flK [i x.px,i x.py,i x.pz,i x.pw] (sd7 q))=_
  rw[Vd8,h.1,xd7 x l h.2];rfl
@[reducible] def kc8(k:Nat)(out:List Pt):i6:=⟨ph out,(k:Int),out.length,bL tX out,Wb3 out⟩
structure C2(P:i5)(r:List Pln)(p q:Pln)(lo:Nat):Prop where
 ns:P.Xe9=(r.drop lo).length
 gs:P.Bb2=λk=>tP.row (gL tP r (lo+k))
 is:P.le5=((r.drop lo).length:Int)
 p1:(⟨⟨P.B7,P.B9,P.C0⟩,P.xa8⟩:Pln)=p
 q1:(⟨⟨P.sa9,P.ta0,P.ta1⟩,P.Ub5⟩:Pln)=q
 r1:P.Ka7=r
theorem Id0(s:Pln):(⟨⟨toI (hdA (tP.row s)),toI (hdA (tlA (tP.row s))),toI (hdA (tlA (tlA (tP.row s))))⟩,toI (hdA (tlA (tlA (tlA (tP.row s)))))⟩:Pln)=s:=rfl
theorem jd8(s:Pln):((Nat.ble 4 (len (tP.row s)))&&(ta2 [CK.int .i64,CK.int .i64,CK.int .i64,CK.int .i64] (tP.row s)))=true:=rfl
theorem ff6 {P : i5} {r : List Pln} {p q : Pln} {lo : Nat} (h : C2 P r p q lo) (hb : Bds r) (hr : r.length ≤ 200) (hp : Bd p) (hq : Bd q) (k : Nat) (out : List Pt) (ho : out.length ≤ 1000000000) (hk : k < (r.drop lo).length) :
  w8 P (kc8 k out)=.next (kc8 (k+1) (ab9 r p q out (r.drop lo)[k])):=by
 have hwi:∀x,ja0 r x=inn r x:=λx=>Vd2 r x (by omega)
 have hwg:∀x,ja1 r x=true:=λx=>Vd3 r x (by omega)
 have hs:gL tP r (lo+k)=(r.drop lo)[k]:=by rw[<- Xc9,pb5 tP hk]
 have hbs:Bd (r.drop lo)[k]:=hb _ (List.mem_of_mem_drop (Qjaj hk));have hd:(r.drop lo).length<=200:=by rw[Qjr];omega
 have hme:=zf1 hp hq hbs;have hmg:=zf2 hp hq hbs;obtain⟨x1,x2,x3,x4,x5,x6,x7,x8,x9,x10,x11,x12,x13,x14,x15,x16,x17,x18,x19,x20,x21⟩:=P;obtain⟨ns,gs,is,p1,q1,r1⟩:=h
 simp only at ns gs is p1 q1 r1
 have r1:=r1.symm;subst ns gs is r1;unfold w8;cases out with
 |nil =>
  show z7 Stp.next Stp.exit Stp.fail _ (kc8 k [])=_;simp only[z7,kc8,Int.toNat_natCast,l9,ta5,p1,q1,hs,Id0,jd8,hme,hmg,hwi,hwg,o8 hk (by omega)]
  rw[btD (l6 hk),bt (f8 hk),o9,o9];unfold ab9;rw[Le9];cases (mpt p q (r.drop lo)[k]).2 with
  |false=>rfl
  |true =>
   cases inn r (mpt p q (r.drop lo)[k]).1 with
   |false=>rfl
   |true=>rfl
 |cons o os =>
  show z8 Stp.next Stp.exit Stp.fail _ (kc8 k (o::os))=_;simp only[z8,kc8,Int.toNat_natCast,l9,ta5,p1,q1,hs,Id0,jd8,hme,hmg,hwi,hwg,o8 hk (by omega),jd7]
  rw[btD (l6 hk),bt (f8 hk),o9,o9,Me0 rfl ho,ff5];unfold ab9;cases (mpt p q (r.drop lo)[k]).2 with
  |false=>rfl
  |true =>
   cases hx:jd0 (o::os) (mpt p q (r.drop lo)[k]).1 with
   |true=>rfl
   |false =>
    cases inn r (mpt p q (r.drop lo)[k]).1 with
    |false=>rfl
    |true =>
     show Stp.next (⟨1,((k+1:Nat):Int),(o::os).length+1,bL tX (o::os++[(mpt p q (r.drop lo)[k]).1]),V5 flK [i (mpt p q (r.drop lo)[k]).1.px,i (mpt p q (r.drop lo)[k]).1.py,i (mpt p q (r.drop lo)[k]).1.pz,i (mpt p q (r.drop lo)[k]).1.pw] (sd7 (mpt p q (r.drop lo)[k]).1) (Wb3 (o::os))⟩:i6)=_;rw[xd7 _ _ hx];simp[ph]
theorem zf5{P:i5}{r:List Pln}{p q:Pln}{lo:Nat}(h:C2 P r p q lo)(k:Nat)(out:List Pt)(hk:(r.drop lo).length<=k):w8 P (kc8 k out)=.exit (ph out+1):=by
 obtain⟨x1,x2,x3,x4,x5,x6,x7,x8,x9,x10,x11,x12,x13,x14,x15,x16,x17,x18,x19,x20,x21⟩:=P;obtain⟨ns,gs,is,p1,q1,r1⟩:=h
 simp only at ns gs is p1 q1 r1
 have r1:=r1.symm;subst ns gs is r1;unfold w8;have this:¬ ((k:Int)<((r.drop lo).length:Int)):=by omega
 cases out with
 |nil =>
  show z7 Stp.next Stp.exit Stp.fail _ (kc8 k [])=_;simp only[z7,kc8];rw[bfD this];rfl
 |cons o os =>
  show z8 Stp.next Stp.exit Stp.fail _ (kc8 k (o::os))=_;simp only[z8,kc8];rw[bfD this];rfl
theorem ff7 {P : i5} {r : List Pln} {p q : Pln} {lo : Nat} (h : C2 P r p q lo) (hb : Bds r) (hr : r.length ≤ 200) (hp : Bd p) (hq : Bd q) (out : List Pt) (ho : out.length ≤ 100000000) :
  ∃m,lp (w8 P) (kc8 0 out)=(ph (Xb3 r p q (r.drop lo) out)+1,kc8 m (Xb3 r p q (r.drop lo) out)):=by
 have hd:(r.drop lo).length<=200:=by rw[Qjr];omega
 exact⟨_,(Ob8 (mk:=kc8) (f:=λs _ out=>ab9 r p q out s) (g:=λl out=>Xb3 r p q l out) (fin:=λout=>ph out+1) (r.drop lo) (λj o=>o.length<=out.length+j) (by omega)
  (λ_=>rfl) (λ_ _ _=>rfl) (λj o hj hi=>⟨ff6 h hb hr hp hq j o (by omega) hj,by have:=xd6 r p q o (r.drop lo)[j];show (ab9 r p q o (r.drop lo)[j]).length<=out.length+(j+1);omega⟩)
  (λj o hj _=>zf5 h j o hj) 0 out (by omega)).1⟩
@[reducible] def kc9(r:List Pln)(j:Nat)(out:List Pt):j6:=⟨ph out,r,(j:Int),r,r,out.length,bL tX out,Wb3 out⟩
structure C1(P:i7)(r:List Pln)(p:Pln)(a:Nat):Prop where
 i3:P.is3=(a:Int)
 ns:P.td2=(r.drop (a+1)).length
 gs:P.Pb4=λk=>tP.row (gL tP r (a+1+k))
 is:P.Mc8=((r.drop (a+1)).length:Int)
 p1:(⟨⟨P.B7,P.B9,P.C0⟩,P.xa8⟩:Pln)=p
theorem ff8 {P : i7} {r : List Pln} {p : Pln} {a : Nat} (h : C1 P r p a) (hb : Bds r) (hr : r.length ≤ 200) (hp : Bd p) (j : Nat) (out : List Pt) (ho : out.length ≤ 100000000) (hj : j < (r.drop (a + 1)).length) :
  w9 P (kc9 r j out)=.next (kc9 r (j+1) (Xb3 r p (r.drop (a+1))[j] ((r.drop (a+1)).drop (j+1)) out)):=by
 have hs:gL tP r (a+1+j)=(r.drop (a+1))[j]:=by rw[<- Xc9,pb5 tP hj]
 have hbs:Bd (r.drop (a+1))[j]:=hb _ (List.mem_of_mem_drop (Qjaj hj));have hd:=hj;rw[Qjr] at hd;have hW:W (W ((a:Int)+(j:Int))+2)=((a+1+(j+1):Nat):Int):=by rw[zb1,N9 (by omega) (by omega)];omega
 have hdl:(r.drop (a+1)).length<=4611686018427387904:=by rw[Qjr];omega
 have hlo:inB ((a+1+(j+1):Nat):Int) (r.length+1)=true:=f8 (by omega)
 rw[Qjau];generalize hq:(r.drop (a+1))[j]=q at *
 obtain⟨x1,x2,x3,x4,x5,x6,x7,x8,x9,x10⟩:=P;obtain⟨i3,ns,gs,is,p1⟩:=h
 simp only at i3 ns gs is p1
 subst i3 ns gs is;unfold w9;have key:∀(P2:i5),C2 P2 r p q (a+1+(j+1))->_:=λP2 h2=>ff7 h2 hb hr hp hbs out ho
 cases out with
 |nil =>
  show A0 Stp.next Stp.exit Stp.fail _ (kc9 r j [])=_;simp only[A0,kc9,l9,k9,o8 hj hdl,hW,Int.toNat_natCast,hs,jd8,hlo];rw[show (⟨0,0,0,[],[]⟩:i6)=kc8 0 [] from rfl]
  generalize hP:i5.mk _ _ _ _ _ _ _ _ _ _ _ _ _ _ _ _ _ _ _ _ _=P2;obtain⟨m,hm⟩:=key P2 (by
   subst hP;exact⟨by simp,rfl,by simp,p1,Id0 q,rfl⟩)
  rw[hm,btD (l6 hj),bt (f8 hj)];cases Xb3 r p q (r.drop (a+1+(j+1))) []<;>rfl
 |cons o os =>
  show A1 Stp.next Stp.exit Stp.fail _ (kc9 r j (o::os))=_;simp only[A1,kc9,l9,k9,o8 hj hdl,hW,Int.toNat_natCast,hs,jd8,hlo];rw[show (⟨1,0,(o::os).length,bL tX (o::os),Wb3 (o::os)⟩:i6)=kc8 0 (o::os) from rfl]
  generalize hP:i5.mk _ _ _ _ _ _ _ _ _ _ _ _ _ _ _ _ _ _ _ _ _=P2;obtain⟨m,hm⟩:=key P2 (by
   subst hP;exact⟨by simp,rfl,by simp,p1,Id0 q,rfl⟩)
  rw[hm,btD (l6 hj),bt (f8 hj)];cases Xb3 r p q (r.drop (a+1+(j+1))) (o::os)<;>rfl
theorem zf6{P:i7}{r:List Pln}{p:Pln}{a:Nat}(h:C1 P r p a)(j:Nat)(out:List Pt)(hj:(r.drop (a+1)).length<=j):w9 P (kc9 r j out)=.exit (ph out+1):=by
 obtain⟨x1,x2,x3,x4,x5,x6,x7,x8,x9,x10⟩:=P;obtain⟨i3,ns,gs,is,p1⟩:=h
 simp only at i3 ns gs is p1
 subst i3 ns gs is;unfold w9;have this:¬ ((j:Int)<((r.drop (a+1)).length:Int)):=by omega
 cases out with
 |nil =>
  show A0 Stp.next Stp.exit Stp.fail _ (kc9 r j [])=_;simp only[A0,kc9];rw[bfD this];rfl
 |cons o os =>
  show A1 Stp.next Stp.exit Stp.fail _ (kc9 r j (o::os))=_;simp only[A1,kc9];rw[bfD this];rfl
theorem ff9 {P : i7} {r : List Pln} {p : Pln} {a : Nat} (h : C1 P r p a) (hb : Bds r) (hr : r.length ≤ 200) (hp : Bd p) (out : List Pt) (ho : out.length ≤ 10000000) :
  ∃m,lp (w9 P) (kc9 r 0 out)=(ph (Kb5 r p (r.drop (a+1)) out)+1,kc9 r m (Kb5 r p (r.drop (a+1)) out)):=by
 have hd:(r.drop (a+1)).length<=200:=by rw[Qjr];omega
 exact⟨_,(Ob8 (mk:=kc9 r) (f:=λq l out=>Xb3 r p q l out) (g:=λl out=>Kb5 r p l out) (fin:=λout=>ph out+1) (r.drop (a+1)) (λk o=>o.length<=out.length+200*k) (by omega)
  (λ_=>rfl) (λ_ _ _=>rfl) (λk o hj hi=>⟨ff8 h hb hr hp k o (by omega) hj,by
   have:=jd5 r p (r.drop (a+1))[k] ((r.drop (a+1)).drop (k+1)) o
   rw[Qjr] at this;show (Xb3 r p (r.drop (a+1))[k] ((r.drop (a+1)).drop (k+1)) o).length<=out.length+200*(k+1)
   omega⟩)
  (λk o hj _=>zf6 h k o hj) 0 out (by omega)).1⟩
@[reducible] def tc3(r:List Pln)(j:Nat)(out:List Pt):l7:=⟨ph out,r,(j:Int),r,r,out.length,bL tX out,Wb3 out⟩
theorem gf0 {P : p6} (r : List Pln) (h : P.r8 = (r.length : Int)) (hb : Bds r) (hr : r.length ≤ 200) (a : Nat) (ha : a < r.length) (out : List Pt) (ho : out.length ≤ 40000 * a) :
  y5 P (tc3 r a out)=.next (tc3 r (a+1) (Kb5 r r[a] (r.drop (a+1)) out)):=by
 have hbs:Bd r[a]:=hb _ (Qjaj ha);have hlo:inB ((a+1:Nat):Int) (r.length+1)=true:=f8 (by omega)
 have key:∀(P2:i7),C1 P2 r r[a] a->_:=λP2 h2=>ff9 h2 hb hr hbs out (by omega)
 obtain⟨x1⟩:=P
 simp only at h
 subst h;unfold y5;cases out with
 |nil =>
  show A2 Stp.next Stp.exit Stp.fail _ (tc3 r a [])=_;simp only[A2,tc3,l9,k9,o8 ha (by omega),Int.toNat_natCast,hlo,pb5 tP ha]
  rw[show (⟨0,r,0,r,r,0,[],[]⟩:j6)=kc9 r 0 [] from rfl]
  generalize hP:i7.mk _ _ _ _ _ _ _ _ _ _=P2;obtain⟨m,hm⟩:=key P2 (by
   subst hP;exact⟨rfl,by simp,rfl,by simp,rfl⟩)
  rw[hm,btD (l6 ha),bt (f8 ha)];cases Kb5 r r[a] (r.drop (a+1)) []<;>rfl
 |cons o os =>
  show A3 Stp.next Stp.exit Stp.fail _ (tc3 r a (o::os))=_;simp only[A3,tc3,l9,k9,o8 ha (by omega),Int.toNat_natCast,hlo,pb5 tP ha]
  rw[show (⟨1,r,0,r,r,(o::os).length,bL tX (o::os),Wb3 (o::os)⟩:j6)=kc9 r 0 (o::os) from rfl]
  generalize hP:i7.mk _ _ _ _ _ _ _ _ _ _=P2;obtain⟨m,hm⟩:=key P2 (by
   subst hP;exact⟨rfl,by simp,rfl,by simp,rfl⟩)
  rw[hm,btD (l6 ha),bt (f8 ha)];cases Kb5 r r[a] (r.drop (a+1)) (o::os)<;>rfl
theorem zf7{P:p6}(r:List Pln)(h:P.r8=(r.length:Int))(j:Nat)(out:List Pt)(hj:r.length<=j):y5 P (tc3 r j out)=.exit (ph out+1):=by
 obtain⟨x1⟩:=P
 simp only at h
 subst h;unfold y5;have this:¬ ((j:Int)<(r.length:Int)):=by omega
 cases out with
 |nil =>
  show A2 Stp.next Stp.exit Stp.fail _ (tc3 r j [])=_;simp only[A2,tc3];rw[bfD this];rfl
 |cons o os =>
  show A3 Stp.next Stp.exit Stp.fail _ (tc3 r j (o::os))=_;simp only[A3,tc3];rw[bfD this];rfl
theorem gf1(r:List Pln)(hb:Bds r)(hr:r.length<=200):∃m,lp (y5 ⟨(r.length:Int)⟩) (tc3 r 0 [])=(ph (cor r)+1,tc3 r m (cor r)) :=
 ⟨_,(Ob8 (step:=y5 ⟨(r.length:Int)⟩) (mk:=tc3 r) (f:=λq l out=>Kb5 r q l out) (g:=λl out=>Vc3 r l out) (fin:=λout=>ph out+1) r (λk o=>o.length<=40000*k) (by omega)
  (λ_=>rfl) (λ_ _ _=>rfl) (λk o hj hi=>⟨gf0 r rfl hb hr k hj o hi,by
   have h1:=jd6 r r[k] (r.drop (k+1)) o (by rw[Qjr];omega)
   rw[Qjr] at h1;show (Kb5 r r[k] (r.drop (k+1)) o).length<=40000*(k+1)
   omega⟩)
  (λk o hj _=>zf7 r rfl k o hj) 0 [] (by simp)).1⟩
theorem jd9(r:List Pln)(hb:Bds r)(hr:r.length<=200):Y4 r=some (slX (cor r)):=by
 obtain⟨m,hm⟩:=gf1 r hb hr;unfold Y4;simp only[l9,k9];rw[show (⟨0,r,0,r,r,0,[],[]⟩:l7)=tc3 r 0 [] from rfl,hm]
 cases cor r<;>rfl
theorem xd8(r:List Pln)(hb:Bds r)(hr:r.length<=200):Y5 r=cor r:=by unfold Y5;rw[jd9 r hb hr];exact Ka1 _ (Me1 _)
theorem xd9(r:List Pln)(hb:Bds r)(hr:r.length<=200):Y6 r=true:=by unfold Y6;rw[jd9 r hb hr];exact Za9 _ (Me1 _)
def slP(l:List Pln):b7×List b8:=(.sl 0 0 l.length 0,[⟨73,4,bL tP l,true,false,0⟩])
theorem Me2(l:List Pln):(one (r1L tP)).rd (slP l)=some l:=by
 show Bool.rec (motive:=λ_=>Option (List Pln)) none (some (slR tP (bL tP l) 0 l.length)) (Bool.and true (okS tP (bL tP l) 0 l.length))=_
 rw[vb4,Hb0];rfl
theorem rf4{α:Type}(t:Ty α)(l:List α):(one (r1L t)).rd (eL t l,[])=some l:=by
 show Bool.rec (motive:=λ_=>Option (List α)) none (some (rt t l)) (Bool.and (Nat.beq t.es t.es) (okE t l))=_
 rw[l9,ta5,Qjv];rfl
def ws:List Pln:=[⟨⟨1,0,0⟩,24⟩,⟨⟨-1,0,0⟩,24⟩,⟨⟨0,1,0⟩,24⟩,⟨⟨0,-1,0⟩,24⟩,⟨⟨0,0,1⟩,24⟩,⟨⟨0,0,-1⟩,24⟩]
theorem Mf8:Bds ws:=by
 intro p hp
 have:okp p=true:=by
  have h:ws.all okp=true:=by decide
  exact Qjn.1 h p hp
 exact Kb4 this
theorem Me3{l:List (List Pln)}{j:Nat}(h:j<l.length):gL (tLs tP) l j=l[j]:=pb5 (tLs tP) h
theorem Me4(ls:List (List Pln))(hn:ls.length<=1000000000)(hl:ls.flatten.length<=1000000000):∃m,lp (H8 ⟨ls,ls,(ls.length:Int)⟩) ⟨0,0⟩=(1,⟨(ls.flatten.length:Int),m⟩):=by
 have h:=Ob8 (step:=H8 ⟨ls,ls,(ls.length:Int)⟩) (mk:=λj (n:Nat)=>(⟨(n:Int),(j:Int)⟩:s6)) (f:=λl _ n=>n+l.length) (g:=λl n=>n+l.flatten.length) (fin:=λ_=>1) ls
  (λj n=>n+(ls.drop j).flatten.length=ls.flatten.length) hn (λ_=>rfl) (λx r a=>by simp only[List.flatten_cons,Qji];omega)
  (λj n hj hi=>by
   rw[Qjad hj,List.flatten_cons,Qji] at hi;have hW:W ((n:Int)+(ls[j].length:Int))=((n+ls[j].length:Nat):Int):=by rw[N9 (by omega) (by omega)];omega
   refine⟨?_,by show n+ls[j].length+(ls.drop (j+1)).flatten.length=_;omega⟩
   simp only[H8,M3,Int.toNat_natCast,Me3 hj,hW,o8 hj (by omega)]
   rw[btD (l6 hj),bt (f8 hj),bfD (by omega)])
  (λj n hj _=>by
   simp only[H8,M3];rw[bfD (by omega)]) 0 0 (by simp)
 have h:=h.1;rw[Qjl,Qjq] at h;exact⟨_,h⟩
theorem Me5{ls:List (List Pln)}(h:ls.flatten=[]){j:Nat}(hj:j<ls.length):ls[j]=[]:=by
 rw[List.flatten_eq_nil_iff] at h;exact h _ (Qjaj hj)
theorem gf2(ls:List (List Pln))(hn:ls.length<=1000000000)(hl:ls.flatten=[]):∃s,lp (C6 ⟨ls,(ls.length:Int)⟩) ⟨0,0,0,[]⟩=(1,s):=by
 have h:=Ob8 (step:=C6 ⟨ls,(ls.length:Int)⟩) (mk:=λj (_:Unit)=>(⟨0,(j:Int),0,[]⟩:l0)) (f:=λ_ _ n=>n) (g:=λ_ n=>n) (fin:=λ_=>1) ls
  (λ_ _=>True) hn (λ_=>rfl) (λx r a=>rfl)
  (λj n hj hi=>by
   refine⟨?_,trivial⟩;show A4 Stp.next Stp.exit Stp.fail _ _=_;simp only[A4,Int.toNat_natCast,Me3 hj,Me5 hl hj,o8 hj (by omega)]
   rw[btD (l6 hj),bt (f8 hj)]
   rfl)
  (λj n hj _=>by
   show A4 Stp.next Stp.exit Stp.fail _ _=_;simp only[A4];rw[bfD (by omega)]) 0 () trivial
 exact⟨_,h.1⟩
def Kb6(t:Nat)(d:List Pln):List (List b7):=app (bL tP d) (List.replicate (t-d.length) Gd1)
theorem Me6(t:Nat)(d:List Pln)(h:d.length<=t):len (Kb6 t d)=t:=by
 unfold Kb6;rw[G3,m8,Qji,<- m8,ta6,List.length_replicate];omega
theorem Me7(t:Nat)(d l:List Pln)(h:d.length+l.length<=t):app (J6 (Kb6 t d) d.length) (app (bL tP l) (i9 (Kb6 t d) (d.length+len (bL tP l))))=Kb6 t (d++l):=by
 have hd:(bL tP d).length=d.length:=by rw[<- m8,ta6]
 unfold Kb6;rw[ta6,<- Va9];simp only[G3,K2,I0];rw[List.take_left' hd,List.append_assoc];congr 2;rw[List.drop_append,Qjat (by omega),List.nil_append,hd,List.drop_replicate,Qji]
 congr 1;omega
theorem Me8(ls:List (List Pln))(hn:ls.length<=1000000000):∃m,lp (C6 ⟨ls,(ls.length:Int)⟩) ⟨1,0,0,List.replicate ls.flatten.length Gd1⟩=(2,⟨1,m,ls.flatten.length,bL tP ls.flatten⟩):=by
 have h:=Ob8 (step:=C6 ⟨ls,(ls.length:Int)⟩) (mk:=λj (d:List Pln)=>(⟨1,(j:Int),d.length,Kb6 ls.flatten.length d⟩:l0)) (f:=λl _ d=>d++l) (g:=λl d=>d++l.flatten) (fin:=λ_=>2) ls
  (λj d=>d.length+(ls.drop j).flatten.length=ls.flatten.length) hn (λ_=>by simp) (λx r a=>by simp)
  (λj d hj hi=>by
   rw[Qjad hj,List.flatten_cons,Qji] at hi;refine⟨?_,by show (d++ls[j]).length+(ls.drop (j+1)).flatten.length=_;rw[Qji];omega⟩
   show A5 Stp.next Stp.exit Stp.fail _ _=_;simp only[A5,Int.toNat_natCast,Me3 hj,o8 hj (by omega),Qd7]
   rw[Me7 _ _ _ (by omega),Me6 _ _ (by omega),ta6,btD (l6 hj),bt (f8 hj),bt (by rw[Nat.ble_eq];omega),Qji])
  (λj d hj _=>by
   show A5 Stp.next Stp.exit Stp.fail _ _=_;simp only[A5];rw[bfD (by omega)]) 0 [] (by simp)
 have h:=h.1;rw[Qjl,List.nil_append] at h;have e:Kb6 ls.flatten.length ls.flatten=bL tP ls.flatten:=by unfold Kb6;rw[Nat.sub_self,G3];simp
 rw[e] at h;exact⟨_,h⟩
theorem rf5(ls:List (List Pln))(hn:ls.length<=1000000000)(hl:ls.flatten.length<=1000000000):Mb3 ls=some (slP (ls.flatten++ws)):=by
 have hc:ma8 ls=if ls.flatten=[] then ⟨1,0,[]⟩ else ⟨2,ls.flatten.length,bL tP ls.flatten⟩:=by
  unfold ma8 O0;simp only[l9,k9];obtain⟨m,hm⟩:=Me4 ls hn hl;rw[hm];by_cases h0:ls.flatten=[]
  ·obtain⟨s,hs⟩:=gf2 ls hn h0;rw[if_pos h0,hs];rw[show (⟨(ls.flatten.length:Int),m⟩:s6)=⟨0,m⟩ by rw[h0];rfl]
   rfl
  ·obtain⟨m',hm'⟩:=Me8 ls hn;rw[if_neg h0];simp only[Int.toNat_natCast];rw[hm'];have h1:0<ls.flatten.length:=List.length_pos_iff.2 h0;have e1:((ls.flatten.length:Int)==0)=false:=by rw[beq_eq_false_iff_ne];omega
   have e2:Bool.and (decide ((0:Int)<(ls.flatten.length:Int))) (Nat.ble (ls.flatten.length*32) room)=true:=by
    rw[Xc7 (by omega),decide_eq_true (by omega)]
    rfl
   rw[e1,e2];rfl
 unfold Mb3;simp only[l9,ta5,hc];by_cases h0:ls.flatten=[]
 ·rw[if_pos h0,h0];rfl
 ·rw[if_neg h0];generalize ls.flatten=c at *
  have e:∀(d:List Pln) (p:Pln),app (bL tP d) [[i p.n.x,i p.n.y,i p.n.z,i p.b]]=bL tP (d++[p]):=λd p=>Va9 tP d [p]
  have c1:=e c ⟨⟨1,0,0⟩,24⟩;have c2:=e (c++[⟨⟨1,0,0⟩,24⟩]) ⟨⟨-1,0,0⟩,24⟩;have c3:=e (c++[⟨⟨1,0,0⟩,24⟩]++[⟨⟨-1,0,0⟩,24⟩]) ⟨⟨0,1,0⟩,24⟩;have c4:=e (c++[⟨⟨1,0,0⟩,24⟩]++[⟨⟨-1,0,0⟩,24⟩]++[⟨⟨0,1,0⟩,24⟩]) ⟨⟨0,-1,0⟩,24⟩;have c5:=e (c++[⟨⟨1,0,0⟩,24⟩]++[⟨⟨-1,0,0⟩,24⟩]++[⟨⟨0,1,0⟩,24⟩]++[⟨⟨0,-1,0⟩,24⟩]) ⟨⟨0,0,1⟩,24⟩;have c6:=e (c++[⟨⟨1,0,0⟩,24⟩]++[⟨⟨-1,0,0⟩,24⟩]++[⟨⟨0,1,0⟩,24⟩]++[⟨⟨0,-1,0⟩,24⟩]++[⟨⟨0,0,1⟩,24⟩]) ⟨⟨0,0,-1⟩,24⟩
  simp only at c1 c2 c3 c4 c5 c6
  simp only[c1,c2,c3,c4,c5,c6,ta6,Qji,List.length_singleton];have g:∀n:Nat,n<=1000000010->(Nat.beq n n&&Nat.ble ((n+1)*32) room)=true:=λn h=>by rw[Qjv,Xc7 (by omega)];rfl
  rw[g _ (by omega),g _ (by omega),g _ (by omega),g _ (by omega),g _ (by omega),g _ (by omega)]
  show some (b7.sl 0 0 (c.length+1+1+1+1+1+1) 0,[(⟨73,4,bL tP _,true,false,0⟩:b8)])=_;unfold slP;rw[Qji];simp only[List.append_assoc];rfl
theorem Zf6(ls:List (List Pln))(hn:ls.length<=1000000000)(hl:ls.flatten.length<=1000000000):ub1 ls=ls.flatten++ws:=by unfold ub1;rw[rf5 ls hn hl];exact Ka1 _ (Me2 _)
theorem Zf7(ls:List (List Pln))(hn:ls.length<=1000000000)(hl:ls.flatten.length<=1000000000):ub2 ls=true:=by unfold ub2;rw[rf5 ls hn hl];exact Za9 _ (Me2 _)
theorem rf6(c:List Pln)(hc:c.length<=1000000000):ub1 [c]=c++ws:=by
 have:[c].flatten=c:=by simp
 rw[Zf6 [c] (by simp) (by rw[this];exact hc),this]
theorem rf7(c:List Pln)(hc:c.length<=1000000000):ub2 [c]=true:=by
 have:[c].flatten=c:=by simp
 exact Zf7 [c] (by simp) (by rw[this];exact hc)
theorem yd0(ls:List (List Pln))(hn:ls.length<=1000000000)(hl:∀c∈ls,c.length<=1000000000):Xa3 ls=some (b (ls.all λc=>chk c==0),[]):=by
 have hv:∀c∈ls,Xa1 c=!(chk c==0)/\Xa2 c=true:=λc hc=>by
  have:Fa8 c=some (b (!(chk c==0)),[]):=by
   unfold Fa8;simp only[l9,ta5,ff3 c (hl c hc),ff4 c (hl c hc)];rfl
  unfold Xa1 Xa2;rw[this];exact⟨rfl,rfl⟩
 have h:=xa0 (step:=G8 ⟨ls,(ls.length:Int)⟩) (mk:=λj=>(⟨(j:Int)⟩:n8)) (c:=λc=>!(chk c==0)) (u:=1) (fin:=2) (tLs tP) ls hn
  (λj hj=>by
   have hm:=hv _ (zb2 (tLs tP) hj);simp only[G8,E5,Int.toNat_natCast,l9,ta5,hm.1,hm.2,o8 hj (by omega)]
   rw[btD (l6 hj),bt (f8 hj),o9,o9])
  (by simp only[G8,E5];rw[bfD (q8 (Qjk _))]) 0 (Qjs _)
 rw[Qjl] at h;have e:(ls.any λc=>!(chk c==0))=!ls.all λc=>chk c==0:=by rw[Qjt]
 unfold Xa3 fa5 A8 na1 F6;simp only[l9,k9];rw[show (⟨0⟩:n8)=⟨((0:Nat):Int)⟩ from rfl,h,e]
 cases ls.all λc=>chk c==0 with
 |true=>rfl
 |false =>
  simp only[Qjaf,if_true,Qjq];show sl true (sl (Nat.beq 1 1) (some (b (!(decide (((ls.findIdx λc=>!(chk c==0):Nat):Int)>=0))),[])) _) _=_
  rw[show decide (((ls.findIdx λc=>!(chk c==0):Nat):Int)>=0)=true from decide_eq_true (by omega)]
  rfl
theorem Me9(ls:List (List Pln))(hn:ls.length<=1000000000)(hl:∀c∈ls,c.length<=1000000000):wa1 ls=ls.all λc=>chk c==0:=by unfold wa1;rw[yd0 ls hn hl];rfl
theorem Ne0(ls:List (List Pln))(hn:ls.length<=1000000000)(hl:∀c∈ls,c.length<=1000000000):wa2 ls=true:=by unfold wa2;rw[yd0 ls hn hl];rfl
theorem kd0(c:List Pln)(hc:c.length<=1000000000):wa1 [c]=(chk c==0):=by
 rw[Me9 [c] (by simp) (by simpa using hc)]
 simp
theorem kd1(c:List Pln)(hc:c.length<=1000000000):wa2 [c]=true:=Ne0 [c] (by simp) (by simpa using hc)
def pos(X:List Pt)(p:Pln):Bool:=X.any λx=>decide (rm p x>0)
def ie3(r:List Pln):Bool:=r.all (pos (cor r))
theorem Ne1(p:Pln)(X:List Pt)(hX:X.length<=1000000000):qa1 ⟨p.n.x,p.n.y,p.n.z,p.b,X⟩=⟨1,!pos X p⟩:=by
 have hw:∀x:Pt,wa3 ⟨x.px,x.py,x.pz,x.pw,p.n.x,p.n.y,p.n.z,p.b⟩=⟨decide (rm p x>0)⟩:=λx=>by
  show S9.mk (decide (Fa1 p x>0))=_;rw[pe5]
 have h:=xa0 (step:=I7 ⟨X,(X.length:Int),p.n.x,p.n.y,p.n.z,p.b⟩) (mk:=λj=>(⟨(j:Int)⟩:o4)) (c:=λx=>decide (rm p x>0)) (u:=1) (fin:=2) tX X hX
  (λj hj=>by
   simp only[I7,G9,Int.toNat_natCast,hw,o8 hj (by omega)]
   rw[btD (l6 hj),bt (f8 hj)])
  (by simp only[I7,G9];rw[bfD (q8 (Qjk _))]) 0 (Qjs _)
 rw[Qjl] at h;unfold qa1 R4 ha5 C8 ra7 H9 pos;simp only[l9,k9];rw[show (⟨0⟩:o4)=⟨((0:Nat):Int)⟩ from rfl,h]
 cases X.any λx=>decide (rm p x>0) with
 |false=>rfl
 |true =>
  simp only[if_true,Qjq];show ba1.mk 1 (!(decide (((X.findIdx λx=>decide (rm p x>0):Nat):Int)>=0)))=_
  rw[show decide (((X.findIdx λx=>decide (rm p x>0):Nat):Int)>=0)=true from decide_eq_true (by omega)]
theorem pe9(r:List Pln)(hb:Bds r)(hr:r.length<=200):la3 r=some (b (ie3 r),[]):=by
 have hX:(cor r).length<=1000000000:=Nat.le_trans (pe8 r hb hr) (by omega)
 have h:=xa0 (step:=H4 ⟨r,(r.length:Int)⟩) (mk:=λj=>(⟨(j:Int),cor r⟩:n9)) (c:=λp=>!pos (cor r) p) (u:=1) (fin:=2) tP r (by omega)
  (λj hj=>by
   simp only[H4,E6,Int.toNat_natCast,l9,k9,Ne1 _ _ hX,o8 hj (by omega)]
   rw[btD (l6 hj),bt (f8 hj)]
   rfl)
  (by simp only[H4,E6];rw[bfD (q8 (Qjk _))]) 0 (Qjs _)
 rw[Qjl] at h;have e:(r.any λp=>!pos (cor r) p)=!r.all (pos (cor r)):=by rw[Qjt]
 unfold la3 fa7 A9 na3 F7 ie3;simp only[l9,k9,ta5,xd8 r hb hr,xd9 r hb hr];rw[show (⟨0,cor r⟩:n9)=⟨((0:Nat):Int),cor r⟩ from rfl,h,e]
 cases r.all (pos (cor r)) with
 |true=>rfl
 |false =>
  simp only[Qjaf,if_true,Qjq];show some (b (!(decide (((r.findIdx λp=>!pos (cor r) p:Nat):Int)>=0))),[])=_
  rw[show decide (((r.findIdx λp=>!pos (cor r) p:Nat):Int)>=0)=true from decide_eq_true (by omega)]
  rfl
theorem zf8(r:List Pln)(hb:Bds r)(hr:r.length<=200):wa4 r=ie3 r:=by unfold wa4;rw[pe9 r hb hr];rfl
theorem zf9(r:List Pln)(hb:Bds r)(hr:r.length<=200):wa5 r=true:=by unfold wa5;rw[pe9 r hb hr];rfl
theorem Tb7{c:List Pln}(h:(chk c==0)=true):Bds (c++ws)/\(c++ws).length<=200:=by
 rw[beq_iff_eq,jd4] at h;refine⟨λp hp=>?_,by rw[Qji,show ws.length=6 from rfl];omega⟩
 rcases Qjar.1 hp with hp|hp
 ·exact Kb4 (h.2 p hp)
 ·exact Mf8 p hp
def pts(c:List Pln):List Pt:=if chk c==0 then cor (c++ws) else []
def ful(c:List Pln):Bool:=(chk c==0)&&ie3 (c++ws)
theorem Vd9{c:List Pln}(hc:c.length<=1000000000):∃x,Oa0 c=some x/\(one (r1L tX)).rd x=some (pts c):=by
 unfold Oa0 pts;simp only[l9,ta5,kd0 c hc,kd1 c hc,rf6 c hc,rf7 c hc];cases h:chk c==0 with
 |false=>exact⟨_,rfl,rfl⟩
 |true =>
  obtain⟨h1,h2⟩:=Tb7 h;rw[xd8 _ h1 h2,xd9 _ h1 h2];exact⟨_,rfl,rf4 tX _⟩
theorem Ne2{c:List Pln}(hc:c.length<=1000000000):fb4 c=pts c:=by
 obtain⟨x,h1,h2⟩:=Vd9 hc;unfold fb4;rw[h1];exact Ka1 _ h2
theorem Ne3{c:List Pln}(hc:c.length<=1000000000):fb5 c=true:=by
 obtain⟨x,h1,h2⟩:=Vd9 hc;unfold fb5;rw[h1];exact Za9 _ h2
theorem qe0{c:List Pln}(hc:c.length<=1000000000):kb1 c=some (b (ful c),[]):=by
 unfold kb1 ful;simp only[l9,ta5,kd0 c hc,kd1 c hc,rf6 c hc,rf7 c hc];cases h:chk c==0 with
 |false=>rfl
 |true =>
  obtain⟨h1,h2⟩:=Tb7 h;rw[zf8 _ h1 h2,zf9 _ h1 h2];rfl
theorem Af0{c:List Pln}(hc:c.length<=1000000000):Eb6 c=ful c:=by unfold Eb6;rw[qe0 hc];rfl
theorem Af1{c:List Pln}(hc:c.length<=1000000000):Eb7 c=true:=by unfold Eb7;rw[qe0 hc];rfl
theorem Wd0{Q:Pt->Prop}(r:List Pln)(p q:Pln):∀(l:List Pln) (out:List Pt),(∀s∈l,(mpt p q s).2=true->inn r (mpt p q s).1=true->Q (mpt p q s).1)->(∀x∈out,Q x)->∀x∈Xb3 r p q l out,Q x
 |[],out,_,h=>h
 |s::l,out,hs,h=>Wd0 r p q l (ab9 r p q out s) (λt ht=>hs t (Qjb _ ht)) λx hx=>by
  unfold ab9 at hx
  split at hx
  ·rename_i hc;rw[Qjc,Qjc] at hc
   rcases Qjar.1 hx with hx|hx
   ·exact h x hx
   ·rw[List.mem_singleton] at hx;subst hx;exact hs s Qjd hc.1 hc.2.2
  ·exact h x hx
theorem Wd1{Q:Pt->Prop}(r:List Pln)(p:Pln):∀(l:List Pln) (out:List Pt),(∀q∈l,∀s∈l,(mpt p q s).2=true->inn r (mpt p q s).1=true->Q (mpt p q s).1)->(∀x∈out,Q x)->∀x∈Kb5 r p l out,Q x
 |[],out,_,h=>h
 |q::l,out,hs,h=>Wd1 r p l _ (λa ha t ht=>hs a (Qjb _ ha) t (Qjb _ ht)) (Wd0 r p q l out (λt ht=>hs q Qjd t (Qjb _ ht)) h)
theorem Wd2{Q:Pt->Prop}(r:List Pln):∀(l:List Pln) (out:List Pt),(∀p∈l,∀q∈l,∀s∈l,(mpt p q s).2=true->inn r (mpt p q s).1=true->Q (mpt p q s).1)->(∀x∈out,Q x)->∀x∈Vc3 r l out,Q x
 |[],out,_,h=>h
 |p::l,out,hs,h=>Wd2 r l _ (λa ha c hc t ht=>hs a (Qjb _ ha) c (Qjb _ hc) t (Qjb _ ht)) (Wd1 r p l out (λc hc t ht=>hs p Qjd c (Qjb _ hc) t (Qjb _ ht)) h)
theorem qe1{Q:Pt->Prop}{r:List Pln}(hs:∀p∈r,∀q∈r,∀s∈r,(mpt p q s).2=true->inn r (mpt p q s).1=true->Q (mpt p q s).1):∀x∈cor r,Q x :=
 Wd2 r r [] hs λx hx=>by cases hx
structure Okx(x:Pt):Prop where
 w1:0<x.pw
 w2:x.pw<=600000000000
 c1:Sm 300000000000000 x.px
 c2:Sm 300000000000000 x.py
 c3:Sm 300000000000000 x.pz
theorem Yc0{r:List Pln}(hb:Bds r):∀x∈cor r,Okx x:=qe1 λp hp q hq s hs h _=>by
 obtain⟨h1,h2,h3,h4,h5⟩:=ie2 (hb p hp) (hb q hq) (hb s hs) h;exact⟨h1,h5,h2,h3,h4⟩
theorem gf3{c:List Pln}:∀x∈pts c,Okx x:=by
 unfold pts;cases h:chk c==0 with
 |false=>intro x hx;cases hx
 |true=>exact Yc0 (Tb7 h).1
theorem gf4(c:List Pln):(pts c).length<=8000000:=by
 unfold pts;cases h:chk c==0 with
 |false=>exact Qjs _
 |true=>exact pe8 _ (Tb7 h).1 (Tb7 h).2
theorem Wd3{x y:Int}(hy:0<y):Int.tmod x y+y*Int.tdiv x y=x/\-y<Int.tmod x y/\Int.tmod x y<y:=by
 refine⟨Int.tmod_add_mul_tdiv x y,?_,Int.tmod_lt_of_pos x hy⟩
 have:=Int.lt_tmod_of_pos x hy
 omega
theorem Ne4(x:Int){y:Int}(hy:0<y)(hy2:y<=4000000000000000000):Lb8 x y=some (i (x % y),[]):=by
 have hz:(y==0)=false:=by rw[beq_eq_false_iff_ne];omega
 obtain⟨h1,h2,h3⟩:=Wd3 (x:=x) hy;unfold Lb8;rw[bfD (by omega),bf hz,bf hz,N9 (by omega) (by omega),Int.tmod_eq_emod_of_nonneg (by omega)]
 congr 3;rw[Int.add_emod_right]
 conv=>rhs;rw[<- h1]
 rw[Int.add_mul_emod_self_left]
theorem Mf9(x:Int){y:Int}(hy:0<y)(hy2:y<=4000000000000000000):ic1 x y=x % y:=by unfold ic1;rw[Ne4 x hy hy2];rfl
theorem Nf0(x:Int){y:Int}(hy:0<y)(hy2:y<=4000000000000000000):ic2 x y=true:=by unfold ic2;rw[Ne4 x hy hy2];rfl
theorem Sm.neg{n x:Int}(h:Sm n x):Sm n (-x):=⟨by have:=h.2;omega,by have:=h.1;omega⟩
theorem Ne5(x:Pln):(x.n.x==x.n.x&&(x.n.y==x.n.y&&(x.n.z==x.n.z&&(x.b==x.b&&true))))=true:=by simp
theorem qe2(l:List Pln)(hl:l.length<=1000000000):xb9 l l=some (b true,[]):=by
 have h:=Ic9 (step:=Oa4 ⟨l,l⟩) (mk:=λj=>(⟨(j:Int)⟩:ia2)) (c:=λ_=>false) (u:=1) (fin:=2) tP l hl
  (λj hj=>by
   simp only[Oa4,Ga2,Int.toNat_natCast,o8 hj (by omega),Ne5]
   rw[btD (l6 hj),bt (f8 hj),bt (f8 hj)]
   rfl)
  (by simp only[Oa4,Ga2];rw[bfD (q8 (Qjk _))]) 0 (Qjs _)
 rw[Qjl,show (l.any λ_=>false)=false by simp] at h
 unfold xb9;simp only[l9,k9];rw[show (⟨0⟩:ia2)=⟨((0:Nat):Int)⟩ from rfl,h,bf (by simp)]
 rfl
theorem Ne6(l:List Pln)(hl:l.length<=1000000000):yb0 l l=true:=by unfold yb0;rw[qe2 l hl];rfl
theorem Ne7(l:List Pln)(hl:l.length<=1000000000):yb1 l l=true:=by unfold yb1;rw[qe2 l hl];rfl
def Nx{σ:Type}(x:Stp σ)(E:Nat->Prop)(N:σ->Prop):Prop:=(∃t,x=.exit t/\E t)\/∃s,x=.next s/\N s
theorem Nx.sl{σ:Type}{c:Bool}{t e:Stp σ}{E:Nat->Prop}{N:σ->Prop}(h1:c=true->Nx t E N)(h2:c=false->Nx e E N):Nx (sl c t e) E N:=by cases c;exact h2 rfl;exact h1 rfl
theorem Nx.ex{σ:Type}{t:Nat}{E:Nat->Prop}{N:σ->Prop}(h:E t):Nx (.exit t) E N:=.inl ⟨t,rfl,h⟩
theorem Nx.nx{σ:Type}{s:σ}{E:Nat->Prop}{N:σ->Prop}(h:N s):Nx (.next s) E N:=.inr ⟨s,rfl,h⟩
theorem ea3 {σ τ : Type} {step : σ → Stp σ} {mk : Nat → τ → σ} (n : Nat) (I : Nat → τ → Prop) (E : Nat → σ → Prop) (hn : n ≤ 1000000000)
  (h:∀j a,j<n->I j a->Nx (step (mk j a)) (λt=>E t (mk j a)) (λs=>∃a',s=mk (j+1) a'/\I (j+1) a'))
  (hf:∀j a,n<=j->I j a->∃t,step (mk j a)=.exit t/\E t (mk j a)) (j0:Nat) (a:τ) (hi:I j0 a):∃t s,lp step (mk j0 a)=(t,s)/\E t s:=by
 have key:=dc5 (step:=step) (I:=λm s=>∃j a,m=n-j/\s=mk j a/\I j a) (Q:=E) (λm s ⟨j,a,hm,hs,ha⟩=>by
  subst hs;by_cases hlt:j<n
  ·rcases h j a hlt ha with h1|⟨s',h1,a',h2,h3⟩
   ·exact .inl h1
   ·subst h2;exact .inr ⟨_,n-(j+1),by omega,h1,j+1,a',rfl,rfl,h3⟩
  ·exact .inl (hf j a (by omega) ha)) (n-j0) (mk j0 a) (by omega) ⟨j0,a,rfl,rfl,hi⟩
 exact⟨_,_,rfl,key⟩
def Rd{ρ:Type}(R:RR ρ)(o:Option (b7×List b8))(P:ρ->Prop):Prop:=∃x r,o=some x/\R.rd x=some r/\P r
theorem Rd.p{ρ:Type}{R:RR ρ}{o:Option (b7×List b8)}{P:ρ->Prop}(h:Rd R o P):P (O9 R o):=by
 obtain⟨x,r,h1,h2,h3⟩:=h;rw[h1,Ka1 R h2];exact h3
theorem Rd.g{ρ:Type}{R:RR ρ}{o:Option (b7×List b8)}{P:ρ->Prop}(h:Rd R o P):okO R o=true:=by
 obtain⟨x,r,h1,h2,h3⟩:=h;rw[h1];exact Za9 R h2
theorem Rd.sl{ρ:Type}{R:RR ρ}{c:Bool}{t e:Option (b7×List b8)}{P:ρ->Prop}(h1:c=true->Rd R t P)(h2:c=false->Rd R e P):Rd R (sl c t e) P:=by cases c;exact h2 rfl;exact h1 rfl
theorem hb5 (n : Int) (l : List Int) (j : Int) (h1 : 0 ≤ j) (h2 : j ≤ 1000000) (hn : 0 < n) (hn2 : n ≤ 1000000) :
  ∃v j',D1 ⟨n,l,j⟩=⟨1,v,j'⟩/\0<=v/\v<n/\j<=j'/\j'<=j+1:=by
 unfold D1 oa5
 simp only
 by_cases h:j>=(l.length:Int)
 ·rw[btD h];exact⟨0,j,rfl,by omega,hn,by omega,by omega⟩
 ·rw[bfD h];have hW:W (W (j+1)-1)=j:=by rw[Hd4,N9 (by omega) (by omega)];omega
  have hW2:W (j+1)=j+1:=N9 (by omega) (by omega)
  have hin:inB j l.length=true:=by rw[ef6];exact decide_eq_true (by omega)
  rw[hW,hW2,hin,Nf0 _ hn (by omega),Mf9 _ hn (by omega)]
  exact⟨_,_,rfl,Int.emod_nonneg _ (by omega),Int.emod_lt_of_pos _ hn,by omega,by omega⟩
def inV(v:V3):Bool:=smb 24 v.x&&(smb 24 v.y&&smb 24 v.z)
theorem Ka2(v:V3):inV v=true↔Sm 24 v.x/\Sm 24 v.y/\Sm 24 v.z:=by unfold inV;rw[Qjc,Qjc,Za8,Za8,Za8]
theorem Ne8(v:V3):cc8 v=some (b (inV v),[]):=by
 unfold cc8 inV smb;cases h1:decide (v.x < -24)<;>cases h2:decide (v.x>24)<;>cases h3:decide (v.y < -24)<;>cases h4:decide (v.y>24)<;>cases h5:decide (v.z < -24)<;>cases h6:decide (v.z>24)<;>rfl
theorem rf8(v:V3):xb5 v=inV v:=by unfold xb5;rw[Ne8];rfl
theorem Ne9(v:V3):xb6 v=true:=by unfold xb6;rw[Ne8];rfl
def sub(a b:V3):V3:=⟨a.x-b.x,a.y-b.y,a.z-b.z⟩
theorem qe3{a b:V3}(ha:inV a=true)(hb:inV b=true):db2 a b=sub a b/\Sm 48 (sub a b).x/\Sm 48 (sub a b).y/\Sm 48 (sub a b).z:=by
 rw[Ka2] at ha hb;obtain⟨⟨a1,a2⟩,⟨a3,a4⟩,a5,a6⟩:=ha;obtain⟨⟨b1,b2⟩,⟨b3,b4⟩,b5,b6⟩:=hb;unfold db2 sub;rw[N9 (by omega) (by omega),N9 (by omega) (by omega),N9 (by omega) (by omega)]
 exact⟨rfl,⟨by show _<=a.x-b.x;omega,by show a.x-b.x<=_;omega⟩,⟨by show _<=a.y-b.y;omega,by show a.y-b.y<=_;omega⟩,⟨by show _<=a.z-b.z;omega,by show a.z-b.z<=_;omega⟩⟩
theorem Kb7 {a b c : V3} (ha : inV a = true) (hb : inV b = true) (hc : inV c = true) :
  ib6 (db2 b a) (db2 c a)=c8 (sub b a) (sub c a)/\Sm 4608 (c8 (sub b a) (sub c a)).x/\Sm 4608 (c8 (sub b a) (sub c a)).y/\Sm 4608 (c8 (sub b a) (sub c a)).z:=by
 obtain⟨e1,⟨u1,u2⟩,⟨u3,u4⟩,u5,u6⟩:=qe3 hb ha;obtain⟨e2,⟨v1,v2⟩,⟨v3,v4⟩,v5,v6⟩:=qe3 hc ha;rw[e1,e2,ff0];generalize sub b a=p at *
 generalize sub c a=q at *
 have h1:=mb u3 u4 v5 v6;have h2:=mb u5 u6 v3 v4;have h3:=mb u5 u6 v1 v2;have h4:=mb u1 u2 v5 v6;have h5:=mb u1 u2 v3 v4;have h6:=mb u3 u4 v1 v2;have k:Sm 4608 (c8 p q).x/\Sm 4608 (c8 p q).y/\Sm 4608 (c8 p q).z:=by unfold Sm c8;simp only;omega
 obtain⟨k1,k2,k3⟩:=k;rw[lb1 (k1.mono (by omega)),lb1 (k2.mono (by omega)),lb1 (k3.mono (by omega))]
 exact⟨rfl,k1,k2,k3⟩
def G5(a b c:V3):Pln×Bool :=
 if inV a&&(inV b&&inV c) then
  if g3 (c8 (sub b a) (sub c a))=0 then (⟨⟨0,0,0⟩,0⟩,false)
  else (⟨⟨Int.tdiv (c8 (sub b a) (sub c a)).x (g3 (c8 (sub b a) (sub c a))),Int.tdiv (c8 (sub b a) (sub c a)).y (g3 (c8 (sub b a) (sub c a))),Int.tdiv (c8 (sub b a) (sub c a)).z (g3 (c8 (sub b a) (sub c a)))⟩,
   dot ⟨Int.tdiv (c8 (sub b a) (sub c a)).x (g3 (c8 (sub b a) (sub c a))),Int.tdiv (c8 (sub b a) (sub c a)).y (g3 (c8 (sub b a) (sub c a))),Int.tdiv (c8 (sub b a) (sub c a)).z (g3 (c8 (sub b a) (sub c a)))⟩ a⟩,true)
 else (⟨⟨0,0,0⟩,0⟩,false)
theorem ic7(v:V3):0<=g3 v:=by unfold g3;omega
theorem kd2(a c d:V3):Oa3 a c d=some (.tup [.agg (tP.row (G5 a c d).1),b (G5 a c d).2],[]):=by
 unfold Oa3 G5;simp only[rf8,Ne9];cases ha:inV a with
 |false=>rfl
 |true =>
  cases hc:inV c with
  |false=>rfl
  |true =>
   cases hd:inV d with
   |false=>rfl
   |true =>
    obtain⟨e,k1,k2,k3⟩:=Kb7 ha hc hd;rw[e];generalize c8 (sub c a) (sub d a)=n at *
    have m1:=k1.mono (m:=1000000000000000000) (by omega)
    have m2:=k2.mono (m:=1000000000000000000) (by omega)
    have m3:=k3.mono (m:=1000000000000000000) (by omega)
    rw[Le7 m1 m2 m3,jd3 m1 m2 m3];by_cases h0:g3 n=0
    ·rw[show (g3 n==0)=true from by rw[h0];rfl]
     simp only[Qjw,if_true,h0];rfl
    ·have hp:=ic7 n;have q1:=Q6 (g:=g3 n) k1 (by omega)
     have q2:=Q6 (g:=g3 n) k2 (by omega)
     have q3:=Q6 (g:=g3 n) k3 (by omega)
     rw[show (g3 n==0)=false from by rw[beq_eq_false_iff_ne];exact h0,zf4 m1 m2 m3 h0]
     simp only[Qjw,if_true,h0,if_false];rw[lb1 (q1.mono (by omega)),lb1 (q2.mono (by omega)),lb1 (q3.mono (by omega))]
     have hdot:bb9 ⟨Int.tdiv n.x (g3 n),Int.tdiv n.y (g3 n),Int.tdiv n.z (g3 n)⟩ a=dot ⟨Int.tdiv n.x (g3 n),Int.tdiv n.y (g3 n),Int.tdiv n.z (g3 n)⟩ a:=by
      unfold bb9;simp only[zb1,Tb3];obtain⟨⟨a1,a2⟩,⟨a3,a4⟩,a5,a6⟩:=(Ka2 a).1 ha;have r1:=mb q1.1 q1.2 a1 a2;have r2:=mb q2.1 q2.2 a3 a4;have r3:=mb q3.1 q3.2 a5 a6;rw[N9 (by omega) (by omega)]
      rfl
     rw[hdot];rfl
theorem ye5(a b c:V3):fb8 a b c=G5 a b c:=by unfold fb8;rw[kd2];rfl
theorem yd1(a b c:V3):fb9 a b c=true:=by unfold fb9;rw[kd2];rfl
theorem gf5(p:Pln)(v:V3):Rd (one r1I) (Sa5 p v) (λ_=>True):=by
 unfold Sa5;simp only[Vd5,Ne9,o9];exact Rd.sl (λ_=>⟨_,_,rfl,rfl,trivial⟩) λ_=>Rd.sl (λ_=>⟨_,_,rfl,rfl,trivial⟩) λ_=>Rd.sl (λ_=>⟨_,_,rfl,rfl,trivial⟩) λ_=>Rd.sl (λ_=>⟨_,_,rfl,rfl,trivial⟩) λ_=>⟨_,_,rfl,rfl,trivial⟩
theorem Oe0(p:Pln)(v:V3):sc6 p v=true:=(gf5 p v).g
theorem Nf1(P:wa8)(hl:P.i8.length<=1000000000):∃t s,lp (C7 P) ⟨0⟩=(t,s)/\(t=1\/t=2\/t=3):=by
 obtain⟨l,x1,x2,x3,x4,x5,x6,x7,x8⟩:=P;refine ea3 (step:=C7 ⟨l,x1,x2,x3,x4,x5,x6,x7,x8⟩) (mk:=λj (_:Unit)=>(⟨(j:Int)⟩:ha8)) l.length (λ_ _=>True) (λt _=>t=1\/t=2\/t=3) hl (λj a hj _=>?_) (λj a hj _=>?_) 0 () trivial
 ·simp only[C7,ba4,Oe0,Int.toNat_natCast,o8 hj (show l.length<=4611686018427387904 from Nat.le_trans hl (by omega))]
  rw[btD (l6 hj),bt (f8 hj),o9];exact Nx.sl (λ_=>Nx.sl (λ_=>.ex (by simp)) λ_=>.nx ⟨(),rfl,trivial⟩) λ_=>.ex (by simp)
 ·simp only[C7,ba4];rw[bfD (by omega)]
  exact⟨_,rfl,by simp⟩
theorem Nf2(l:List V3)(hl:l.length<=1000000000)(a c:Nat)(ha:a<l.length)(hc:c<a):∃t s,lp (S5 ⟨(a:Int),(c:Int)⟩) ⟨l,0⟩=(t,s)/\((t=1\/t=2)/\s.i8=l):=by
 refine ea3 (step:=S5 ⟨(a:Int),(c:Int)⟩) (mk:=λj (_:Unit)=>(⟨l,(j:Int)⟩:ha9)) c (λ_ _=>True) (λt s=>(t=1\/t=2)/\s.i8=l) (by omega) (λj x hj _=>?_) (λj x hj _=>?_) 0 () trivial
 ·simp only[S5,la5,yd1,Int.toNat_natCast,l9,k9,o8 hj (show c<=4611686018427387904 by omega)]
  rw[btD (l6 hj),bt (f8 ha),bt (f8 (show c<l.length by omega)),bt (f8 (show j<l.length by omega)),o9]
  generalize hP:wa8.mk _ _ _ _ _ _ _ _ _=P3;obtain⟨t,s,h1,h2⟩:=Nf1 P3 (by subst hP;exact hl)
  rw[h1]
  rcases h2 with rfl|rfl|rfl
  ·exact .ex (by simp)
  ·exact .nx ⟨(),rfl,trivial⟩
  ·exact .nx ⟨(),rfl,trivial⟩
 ·simp only[S5,la5];rw[bfD (by omega)]
  exact⟨_,rfl,by simp⟩
theorem Nf3(l:List V3)(hl:l.length<=1000000000)(a:Nat)(ha:a<l.length):∃t s,lp (S6 ⟨(a:Int)⟩) ⟨l,0⟩=(t,s)/\((t=1\/t=2)/\s.i8=l):=by
 refine ea3 (step:=S6 ⟨(a:Int)⟩) (mk:=λj (_:Unit)=>(⟨l,(j:Int)⟩:ia0)) a (λ_ _=>True) (λt s=>(t=1\/t=2)/\s.i8=l) (by omega) (λj x hj _=>?_) (λj x hj _=>?_) 0 () trivial
 ·simp only[S6,la6,l9,k9,o8 hj (show a<=4611686018427387904 by omega)]
  obtain⟨t,s,h1,h2,h3⟩:=Nf2 l hl a j ha hj;rw[btD (l6 hj),h1]
  rcases h2 with rfl|rfl
  ·exact .ex (by simp)
  ·exact .nx ⟨(),by rw[h3],trivial⟩
 ·simp only[S6,la6];rw[bfD (by omega)]
  exact⟨_,rfl,by simp⟩
theorem Db4(l:List V3)(hl:l.length<=1000000000):Rd (one r1B) (Sa6 l) (λ_=>True):=by
 have key:∃t s,lp (S7 ⟨⟩) ⟨l,0⟩=(t,s)/\(t=1\/t=2):=by
  refine ea3 (step:=S7 ⟨⟩) (mk:=λj (_:Unit)=>(⟨l,(j:Int)⟩:ia1)) l.length (λ_ _=>True) (λt s=>t=1\/t=2) hl (λj x hj _=>?_) (λj x hj _=>?_) 0 () trivial
  ·simp only[S7,la7,l9,k9,o8 hj (show l.length<=4611686018427387904 by omega)]
   obtain⟨t,s,h1,h2,h3⟩:=Nf3 l hl j hj;rw[btD (l6 hj),h1]
   rcases h2 with rfl|rfl
   ·exact .ex (by simp)
   ·exact .nx ⟨(),by rw[h3],trivial⟩
  ·simp only[S7,la7];rw[bfD (by omega)]
   exact⟨_,rfl,by simp⟩
 obtain⟨t,s,h1,h2⟩:=key;unfold Sa6;simp only[l9,k9];rw[h1]
 rcases h2 with rfl|rfl<;>exact⟨_,_,rfl,rfl,trivial⟩
theorem Oe1(l:List V3)(hl:l.length<=1000000000):db3 l=true:=(Db4 l hl).g
structure Fc(ph:Nat)(out:List Pln)(m:Nat):Prop where
 h:(ph=0/\out=[])\/ph=1
 l:out.length<=m
theorem Fc.more{ph m m':Nat}{out:List Pln}(h:Fc ph out m)(hm:m<=m'):Fc ph out m':=⟨h.h,Nat.le_trans h.l hm⟩
def phV(out:List V3):Nat:=match out with
 |[]=>0
 |_::_=>1
theorem Id1(out:List V3)(x:V3):phV (out++[x])=1:=by cases out<;>rfl
theorem Bc6(l:List V3)(x1 x2 x3:Int):app (bL tV l) [[i x1,i x2,i x3]]=bL tV (l++[⟨x1,x2,x3⟩]):=Va9 tV l [⟨x1,x2,x3⟩]
theorem gf6{l:List V3}{m:Nat}(h:m<l.length):(((Nat.blt (0+m) (len (bL tV l)))&&(Nat.ble (0+3) (len (j9 (bL tV l) (0+m)))))&&(ta2 [CK.int .i64,CK.int .i64,CK.int .i64] (i9 (j9 (bL tV l) (0+m)) 0)))=true:=by
 rw[Qjq,Y9 tV h,ta6,show Nat.blt m l.length=true from by rw[Nat.blt_eq];exact h]
 rfl
theorem rf9{l:List V3}{m:Nat}(h:m<l.length):(((Nat.blt (0+m) (len (bL tV l)))&&(Nat.ble (2+1) (len (j9 (bL tV l) (0+m)))))&&(ta2 [CK.int .i64] (i9 (j9 (bL tV l) (0+m)) 2)))=true:=by
 rw[Qjq,Y9 tV h,ta6,show Nat.blt m l.length=true from by rw[Nat.blt_eq];exact h]
 rfl
theorem qe4{n:Nat}{l:List V3}(hn:l.length=n)(h:n<=1000000000):(Nat.beq n (len (bL tV l))&&Nat.ble ((n+1)*24) room)=true:=by
 subst hn;rw[ta6,Qjv,Qjaw,Nat.ble_eq];unfold room;omega
theorem gf7 (x : List Int) (N : Nat) (h4 : 4 ≤ N) (h8 : N ≤ 8) (j0 : Int) (hj0 : 0 ≤ j0 ∧ j0 ≤ 10) :
  ∃idx out,lp (oa6 ⟨(N:Int)⟩) ⟨0,0,x,j0,0,[]⟩=(2,⟨1,(N:Int),x,idx,N,bL tV out⟩)/\out.length=N:=by
 have key:=ea3 (step:=oa6 ⟨(N:Int)⟩) (mk:=λj (a:Int×List V3)=>(⟨phV a.2,(j:Int),x,a.1,a.2.length,bL tV a.2⟩:r6)) N
  (λj a=>a.2.length=j/\0<=a.1/\a.1<=10+4*j/\j<=N) (λt s=>t=2/\∃idx out,s=⟨1,(N:Int),x,idx,N,bL tV out⟩/\out.length=N) (by omega) (λj a hj ha=>?_) (λj a hj ha=>?_) 0 (j0,[]) ⟨rfl,hj0.1,by omega,by omega⟩
 ·obtain⟨t,s,e1,rfl,idx,out,e2,e3⟩:=key;exact⟨idx,out,by rw[<- e2];exact e1,e3⟩
 ·obtain⟨at0,out⟩:=a;obtain⟨ho,ha1,ha2,_⟩:=ha
  simp only at ho ha1 ha2
  have hn:=o8 hj (show N<=4611686018427387904 by omega)
  obtain⟨v1,j1,d1,_,_,c1,b1⟩:=hb5 17 x at0 ha1 (by omega) (by omega) (by omega)
  obtain⟨v2,j2,d2,_,_,c2,b2⟩:=hb5 17 x j1 (by omega) (by omega) (by omega) (by omega)
  obtain⟨v3,j3,d3,_,_,c3,b3⟩:=hb5 17 x j2 (by omega) (by omega) (by omega) (by omega)
  obtain⟨v4,j4,d4,_,_,c4,b4⟩:=hb5 6 x j3 (by omega) (by omega) (by omega) (by omega)
  have leaf : ∀ (E : Nat → Prop) (x1 x2 x3 : Int), Nx (.next (⟨1, ((j + 1 : Nat) : Int), x, j4, j + 1, bL tV (out ++ [⟨x1, x2, x3⟩])⟩ : r6)) E
    (λs=>∃a':Int×List V3,s=⟨phV a'.2,((j+1:Nat):Int),x,a'.1,a'.2.length,bL tV a'.2⟩/\a'.2.length=j+1/\0<=a'.1/\a'.1<=10+4*((j+1:Nat):Int)/\j+1<=N):=λE x1 x2 x3=>by
   have hl:(out++[(⟨x1,x2,x3⟩:V3)]).length=j+1:=by simp[ho]
   exact .nx ⟨(j4,out++[⟨x1,x2,x3⟩]),by simp only[Id1,hl],hl,by show 0<=j4;omega,by show j4<=_;omega,by omega⟩
  cases out with
  |nil =>
   have hj0':j=0:=by simpa using ho.symm
   subst hj0';show Nx (Z2 Stp.next Stp.exit Stp.fail _ _) _ _;simp only[Z2,l9,k9,d1,d2,d3,d4,hn];rw[btD (l6 hj)];have f1:decide (((0:Nat):Int)>1)=false:=rfl;have f2:decide (((0:Nat):Int)>0)=false:=rfl;have f3:decide (((0:Nat):Int)>2)=false:=rfl;have lf:∀(E:Nat->Prop) (x1 x2 x3:Int),Nx (.next (⟨1,((0+1:Nat):Int),x,j4,1,[[i x1,i x2,i x3]]⟩:r6)) E _:=leaf;simp only[f1,f2,f3,Na3,Qjv,Qjg,o9];refine Nx.sl (λ_=>?_) (λ_=>?_)<;>refine Nx.sl (λ_=>?_) (λ_=>?_)
   all_goals first
    |exact lf _ _ _ _
    |(refine Nx.sl (λ_=>?_) (λ_=>?_)<;>exact lf _ _ _ _)
  |cons o os =>
   have h1:1<=j:=by simp only[List.length_cons] at ho;omega
   generalize hO:o::os=O at *
   have hph:phV O=1:=by subst hO;rfl
   have w1:W ((j:Int)-1)=((j-1:Nat):Int):=by rw[N9 (by omega) (by omega)];omega
   have i1:inB ((j-1:Nat):Int) j=true:=f8 (by omega)
   have r1:=gf6 (l:=O) (m:=j-1) (by omega)
   have r1':=rf9 (l:=O) (m:=j-1) (by omega)
   have rr:=qe4 ho (by omega)
   have f2:∀{inst:Decidable ((j:Int)>0)},@decide ((j:Int)>0) inst=true:=decide_eq_true (by omega)
   show Nx (sel (Nat.beq (phV O) 1) (r4 Stp.next Stp.exit Stp.fail _ _) _) _ _;rw[hph];show Nx (r4 Stp.next Stp.exit Stp.fail _ _) _ _;by_cases h2:2<=j
   ·have w2:W ((j:Int)-2)=((j-2:Nat):Int):=by rw[N9 (by omega) (by omega)];omega
    have i2:inB ((j-2:Nat):Int) j=true:=f8 (by omega)
    have r2:=gf6 (l:=O) (m:=j-2) (by omega)
    simp only[r4,l9,k9,d1,d2,d3,d4,hn,ho,w1,w2,i1,i2,Int.toNat_natCast,r1,r1',r2,rr,Bc6];rw[btD (l6 hj)];simp only[Qjv,Qjg,o9]
    repeat' (first | exact leaf _ _ _ _ | refine Nx.sl (λ_=>?_) (λ_=>?_))
   ·have hj1:j=1:=by omega
    subst hj1;simp only[r4,l9,k9,d1,d2,d3,d4,hn,ho,w1,i1,Int.toNat_natCast,r1,r1',rr,Bc6];have f1:decide (((1:Nat):Int)>1)=false:=rfl;rw[btD (l6 hj)];simp only[f1,Na3,Qjv,Qjg,o9]
    repeat' (first | exact leaf _ _ _ _ | refine Nx.sl (λ_=>?_) (λ_=>?_))
 ·obtain⟨at0,out⟩:=a;obtain⟨ho,ha1,ha2,hjN⟩:=ha
  simp only at ho ha1 ha2
  have hj':j=N:=by omega
  subst hj';cases out with
  |nil=>simp only[List.length_nil] at ho;omega
  |cons o os =>
   refine⟨2,?_,rfl,at0,o::os,by rw[ho];rfl,ho⟩
   show r4 Stp.next Stp.exit Stp.fail _ _=_;simp only[r4];rw[bfD (by omega)]
theorem Id2{l:List V3}{n:Nat}{r:List (List b7)}{P:List V3->Prop}(hn:n=l.length)(hr:r=bL tV l)(h:P l):Rd (one (r1L tV)) (some (.sl 0 0 n 0,[⟨27,3,r,true,false,0⟩])) P:=by
 subst hn hr;refine⟨_,l,rfl,?_,h⟩;show Bool.rec (motive:=λ_=>Option (List V3)) none (some (slR tV (bL tV l) 0 l.length)) (Bool.and true (okS tV (bL tV l) 0 l.length))=_
 rw[vb4,Hb0];rfl
theorem yd2(x:List Int):Rd (one (r1L tV)) (wa9 x) (λr=>4<=r.length/\r.length<=8):=by
 obtain⟨v,j,e1,a1,b1,c1,d1⟩:=hb5 5 x 0 (by omega) (by omega) (by omega) (by omega)
 have hN:W (4+v)=(((4+v).toNat:Nat):Int):=by rw[N9 (by omega) (by omega)];omega
 obtain⟨idx,out,e2,e3⟩:=gf7 x (4+v).toNat (by omega) (by omega) j (by omega)
 unfold wa9;simp only[l9,k9,e1,hN,e2];have h4:4<=(4+v).toNat:=by omega
 have h8:(4+v).toNat<=8:=by omega
 generalize (4+v).toNat=N at *
 have s1:lsL tV N (λk=>j9 (bL tV out) (0+k))=out:=by rw[<- e3];exact vb4 tV out
 have s2:okL tV N (λk=>j9 (bL tV out) (0+k))=true:=by rw[<- e3];exact Hb0 tV out
 have gf:db3 out=true:=Oe1 out (by omega)
 rw[s1,s2,gf];simp only[Qjv,Qjg,o9,show Nat.beq 2 1=false from rfl,Na3]
 refine Rd.sl (λ_=>?_) λ_=>Id2 e3.symm rfl ⟨by omega,by omega⟩
 have i0:inB 0 N=true:=f8 (j:=0) (by omega)
 have i1:inB 1 N=true:=f8 (j:=1) (by omega)
 have i2:inB 2 N=true:=f8 (j:=2) (by omega)
 have i3:inB 3 N=true:=f8 (j:=3) (by omega)
 have sp:∀(v:V3) (x1 x2 x3:Int),W7 (tV.row v) 0 [i x1,i x2,i x3]=tV.row ⟨x1,x2,x3⟩:=λ_ _ _ _=>rfl
 have rl:∀v:V3,Nat.ble (0+3) (len (tV.row v))=true:=λ_=>rfl
 have ck:∀v:V3,ta2 [CK.int .i64,CK.int .i64,CK.int .i64] (i9 (tV.row v) 0)=true:=λ_=>rfl
 have gr:∀(l:List V3) (k:Nat),l.length=N->k<4->j9 (bL tV l) k=tV.row (gL tV l k):=λl k hl hk=>Y9 tV (by omega)
 have bl:∀(l:List V3) (k:Nat),l.length=N->k<4->Nat.blt k (len (bL tV l))=true:=λl k hl hk=>by rw[ta6,Nat.blt_eq];omega
 have ls:∀(l:List V3) (k:Nat) (v:V3),l.length=N->(l.set k v).length=N:=λl k v hl=>by rw[Qjas];exact hl
 rw[gr out 0 e3 (by omega),gr out 1 e3 (by omega)]
 simp only[sp,ib5];rw[gr _ 2 (ls out 1 _ e3) (by omega)]
 simp only[sp,ib5];rw[gr _ 3 (ls _ 2 _ (ls out 1 _ e3)) (by omega)]
 simp only[sp,ib5,rl,ck,i0,i1,i2,i3,bl out 0 e3 (by omega),bl out 1 e3 (by omega),bl _ 2 (ls out 1 _ e3) (by omega),bl _ 3 (ls _ 2 _ (ls out 1 _ e3)) (by omega),Qjg,o9]
 exact Id2 (by simp only[Qjas];omega) rfl (by simp only[Qjas];omega)
theorem Oe2(x:List Int):rb8 x=true:=(yd2 x).g
theorem Wd4(x:List Int):4<=(d9 x).length/\(d9 x).length<=8:=(yd2 x).p
theorem Af2{α:Type}(t:Ty α)(k:Nat)(l:List α):(one (r1L t)).rd (.sl 0 0 l.length 0,[⟨k,t.es,bL t l,true,false,0⟩])=some l:=by
 show Bool.rec (motive:=λ_=>Option (List α)) none (some (slR t (bL t l) 0 l.length)) (Bool.and (Nat.beq t.es t.es) (okS t (bL t l) 0 l.length))=_
 rw[vb4,Hb0,Qjv];rfl
theorem ec8(v:V3):wa6 v=inV v/\wa7 v=true:=by
 have h3:[v.x,v.y,v.z].length<=1000000000:=by simp
 have:xb3 v=some (b (inV v),[]):=by
  unfold xb3 inV;simp only[Ob6 24 _ (by omega) h3,Ob7 24 _ (by omega) h3,o9]
  simp only[List.all_cons,List.all_nil,Qjg]
 unfold wa6 wa7;rw[this];exact⟨rfl,rfl⟩
def has(c:List Pln)(v:V3):Bool:=(chk c==0)&&(inV v&&inn c ⟨v.x,v.y,v.z,1⟩)
def apart(a c:List Pln):Bool:=!((chk a==0)&&(chk c==0))||!ie3 (a++c++ws)
def ye6(a c:List Pln):Bool:=ful a&&((chk c==0)&&(pts a).all (inn c))
theorem ie4(x:Pt)(c:List Pln)(hc:c.length<=1000000000):Qa3 ⟨x.px,x.py,x.pz,x.pw,c⟩=⟨1,!inn c x⟩:=by
 unfold Qa3 oa4;simp only[l9,ta5,o9];show sl (ja1 c x) (za4.mk 1 (!ja0 c x)) _=_;rw[Vd2 c x hc,Vd3 c x hc];rfl
theorem yd3{a c:List Pln}(ha:a.length<=1000000000)(hc:c.length<=1000000000):Oa2 a c=some (b (ye6 a c),[]):=by
 have hX:=gf4 a;have h:=xa0 (step:=H5 ⟨pts a,((pts a).length:Int)⟩) (mk:=λj=>(⟨(j:Int),c⟩:o0)) (c:=λx=>!inn c x) (u:=1) (fin:=2) tX (pts a) (by omega)
  (λj hj=>by
   simp only[H5,E7,Int.toNat_natCast,l9,k9,ie4 _ _ hc,o8 hj (show (pts a).length<=4611686018427387904 by omega)]
   rw[btD (l6 hj),bt (f8 hj)]
   rfl)
  (by simp only[H5,E7];rw[bfD (q8 (Qjk _))]) 0 (Qjs _)
 rw[Qjl] at h;have e:((pts a).any λx=>!inn c x)=!(pts a).all (inn c):=by rw[Qjt]
 unfold Oa2 fa8 B0 na4 F8 ye6;simp only[l9,k9,ta5,Af0 ha,Af1 ha,kd0 c hc,kd1 c hc,Ne2 ha,Ne3 ha];rw[show (⟨0,c⟩:o0)=⟨((0:Nat):Int),c⟩ from rfl,h,e]
 cases ful a with
 |false=>rfl
 |true =>
  cases chk c==0 with
  |false=>rfl
  |true =>
   cases (pts a).all (inn c) with
   |true=>rfl
   |false =>
    simp only[Qjaf,if_true,Qjq];show some (b (!(decide ((((pts a).findIdx λx=>!inn c x:Nat):Int)>=0))),[])=_
    rw[show decide ((((pts a).findIdx λx=>!inn c x:Nat):Int)>=0)=true from decide_eq_true (by omega)]
    rfl
theorem Oe3{a c:List Pln}(ha:a.length<=1000000000)(hc:c.length<=1000000000):fb6 a c=ye6 a c:=by unfold fb6;rw[yd3 ha hc];rfl
theorem Oe4{a c:List Pln}(ha:a.length<=1000000000)(hc:c.length<=1000000000):fb7 a c=true:=by unfold fb7;rw[yd3 ha hc];rfl
def onc(X:List Pt)(p:Pln):Nat:=X.countP λx=>rm p x==0
def keep(X:List Pt)(p:Pln):Bool:=!decide ((onc X p:Int)<3)
theorem Bc7{α:Type}(c:α->Bool):∀l:List α,(l.take (l.findIdx c)).filter (λx=>!c x)=l.take (l.findIdx c)
 |[]=>rfl
 |x::l=>by
  rw[List.findIdx_cons];cases h:c x with
  |true=>rfl
  |false =>
   simp only[cond_false,List.take_succ_cons,List.filter_cons,h,Qjaf,if_true];rw[Bc7 c l]
theorem ie5{α:Type}(l:List α)(j:Nat)(h:j<l.length):l.take (j+1)=l.take j++[l[j]]:=by rw[List.take_succ_eq_append_getElem h]
theorem tb3{α:Type}(t:Ty α){l:List α}{j:Nat}(h:j<l.length):l.take (j+1)=l.take j++[gL t l j]:=by rw[ie5 l j h,pb5 t h]
theorem Kc9{α:Type}(t:Ty α){l r:List α}{j:Nat}(h:l.drop j=r.drop j):gL t l j=gL t r j:=by
 have h1:=Xc9 t l j 0;have h2:=Xc9 t r j 0;rw[Nat.add_zero] at h1 h2;rw[<- h1,<- h2,h]
theorem Bc8{α:Type}{l r:List α}{j:Nat}(h:l.drop j=r.drop j)(k:Nat):l.drop (j+k)=r.drop (j+k):=by rw[<- Qjau,<- Qjau,h]
structure Del(l:List Pln)(f:Pln->Bool)(cur:List Pln)(m j:Nat):Prop where
 len:cur.length=l.length
 t:cur.take m=(l.take j).filter f
 d:cur.drop j=l.drop j
 le:m<=j
 lm:m<=l.length
theorem gf8(l:List Pln)(n:Nat):i9 (bL tP l) n=bL tP (l.drop n):=by unfold bL;rw[I0,o3,o3,List.map_drop]
def eqP(x y:Pln):Bool:=x.n.x==y.n.x&&(x.n.y==y.n.y&&(x.n.z==y.n.z&&(x.b==y.b&&true)))
theorem Bc9(x y:Pln):eqP x y=true↔x=y:=by
 unfold eqP;simp only[Qjg,Qjc,beq_iff_eq];refine⟨λ⟨h1,h2,h3,h4⟩=>?_,λh=>by subst h;exact⟨rfl,rfl,rfl,rfl⟩⟩
 obtain⟨⟨x1,x2,x3⟩,x4⟩:=x;obtain⟨⟨y1,y2,y3⟩,y4⟩:=y
 simp only at h1 h2 h3 h4
 subst h1 h2 h3 h4;rfl
def ddF:Pln->List Pln->List Pln
 |_,[]=>[]
 |a,x::l=>if eqP x a then ddF x l else x::ddF x l
def dd:List Pln->List Pln
 |[]=>[]
 |x::l=>x::ddF x l
structure Cmp(l:List Pln)(n:Nat)(cur:List Pln)(m j:Nat)(R:List Pln):Prop where
 len:cur.length=l.length
 t:cur.take m++ddF (gL tP l (j-1)) ((l.take n).drop j)=R
 d:cur.drop (j-1)=l.drop (j-1)
 le:m+1<=j
theorem Oe5(l:List Pln)(n:Nat)(hn:n<=l.length):slR tP (bL tP l) 0 n=l.take n:=cd4 tP (by rw[List.length_take];omega) λk hk=>by
 rw[Qjq,Y9 tP (by omega)]
 congr 1;simp[gL,Qjao,List.getElem?_take,hk]
theorem Oe6(l:List Pln)(n:Nat)(hn:n<=l.length):okS tP (bL tP l) 0 n=true:=Gb9 tP (f:=λk=>gL tP l k) λk hk=>by rw[Qjq,Y9 tP (by omega)]
end Go.Ev.Ce
namespace Go.Ev.Ce
open Go Go.Ev Go.Ev.L Go.Proofs Go.Sort
theorem kd3(l:List Pln):List.Perm (nc0 l) l:=List.mergeSort_perm l _
theorem ye7(x y z:Pln)(h1:(!ltOf Ib7 y x)=true)(h2:(!ltOf Ib7 z y)=true):(!ltOf Ib7 z x)=true:=by
 simp only[Qjah,db0,decide_eq_false_iff_not] at *
 unfold LtP at *
 omega
theorem ye8(x y:Pln):((!ltOf Ib7 y x)||!ltOf Ib7 x y)=true:=by
 simp only[Bool.or_eq_true,Qjah,db0,decide_eq_false_iff_not];unfold LtP;omega
theorem Id3(l:List Pln):(nc0 l).Pairwise λx y=>(!ltOf Ib7 y x)=true:=List.pairwise_mergeSort ye7 ye8 l
instance:DecidableEq Pln:=λx y=>decidable_of_iff _ (Bc9 x y)
def PC:List Pt:=[⟨0,0,0,1⟩,⟨0,0,1,4⟩,⟨0,1,0,3⟩,⟨1,0,0,2⟩]
end Go.Ev.Ce
namespace Go.Ev.Ce
open Go Go.Ev Go.Ev.L Go.Proofs
set_option maxRecDepth 100000
structure lc0 where
structure ec9 where
structure fc0 where
structure lc1 where
 alt:Nat
structure Lc0 where
structure Cc0 where
structure Cc1 where
structure Lc1 where
 alt:Nat
structure sd8 where
structure sd9 where
 alt:Nat
structure nd7 where
 o7:List Pt
structure Yc1 where
 o7:List Pt
structure Yc2 where
structure nd8 where
 alt:Nat
 o7:List Pt
structure kd4 where
 o7:List Pt
structure kd5 where
 alt:Nat
 o7:List Pt
structure yd4 where
structure yd5 where
structure Md1 where
structure Md2 where
structure Oe7 where
 is1:Int
structure Oe8 where
 ph:Nat
 is7:Int
 y8:List Int
 c7:Int
 ns6:Nat
 eh1:List (List b7)
structure gf9 where
 j8:List Pln
 Xe8:List Pt
 is5:Int
 tf7:List Pln
structure hf0 where
 ph:Nat
 (is6 is7:Int)
structure hf3 where
structure hf4 where
 ph:Nat
 j8:List Pln
 Xe8:List Pt
 is5:Int
 tf7:List Pln
def lb2(l:List Pln):Prop:=l.Pairwise LtP
theorem yd6{x y z:Pln}(h1:LtP x y)(h2:LtP y z):LtP x z:=by unfold LtP at *;omega
theorem Yc3(x:Pln):¬ LtP x x:=by unfold LtP;omega
theorem qe5(x y:Pln):LtP x y\/x=y\/LtP y x:=by
 by_cases h1:LtP x y
 ·exact .inl h1
 ·by_cases h2:LtP y x
  ·exact .inr (.inr h2)
  ·refine .inr (.inl ?_);unfold LtP at h1 h2;have e1:x.n.x=y.n.x:=by omega
   have e2:x.n.y=y.n.y:=by omega
   have e3:x.n.z=y.n.z:=by omega
   have e4:x.b=y.b:=by omega
   cases x with | mk n b=>cases y with | mk m c=>cases n;cases m;simp_all
theorem Lc2:∀{l r:List Pln},lb2 l->lb2 r->(∀p,p∈l↔p∈r)->l=r
 |[],[],_,_,_=>rfl
 |[],b::r,_,_,h=>by have:=(h b).2 Qjd;cases this
 |a::l,[],_,_,h=>by have:=(h a).1 Qjd;cases this
 |a::l,b::r,hl,hr,h=>by
  obtain⟨hl1,hl2⟩:=Qjaa.1 hl;obtain⟨hr1,hr2⟩:=Qjaa.1 hr;have hab:a=b:=by
   rcases Qja.1 ((h a).1 Qjd) with e|h1
   ·exact e
   ·rcases Qja.1 ((h b).2 Qjd) with e|h2
    ·exact e.symm
    ·exact absurd (yd6 (hr1 a h1) (hl1 b h2)) (Yc3 b)
  subst hab;rw[Lc2 hl2 hr2 λp=>?_]
  constructor
  ·intro hp
   rcases Qja.1 ((h p).1 (Qjb _ hp)) with e|h1
   ·subst e;exact absurd (hl1 p hp) (Yc3 p)
   ·exact h1
  ·intro hp
   rcases Qja.1 ((h p).2 (Qjb _ hp)) with e|h1
   ·subst e;exact absurd (hr1 p hp) (Yc3 p)
   ·exact h1
def Id4:List Pln->Pln->List Pln
 |[],y=>[y]
 |a::l,y=>if Ib7 a y<0 then a::Id4 l y else if eqP a y then a::l else y::a::l
theorem fc1(y p:Pln):∀x,p∈Id4 x y↔p=y\/p∈x
 |[]=>by simp[Id4]
 |a::l=>by
  unfold Id4;have ih:=fc1 y p l;split
  ·simp only[Qja,ih];constructor
   ·rintro (h|h|h)
    ·exact .inr (.inl h)
    ·exact .inl h
    ·exact .inr (.inr h)
   ·rintro (h|h|h)
    ·exact .inr (.inl h)
    ·exact .inl h
    ·exact .inr (.inr h)
  ·split
   ·rename_i h;rw[Bc9] at h;subst h;simp only[Qja];constructor
    ·exact λh=>.inr h
    ·rintro (h|h)
     ·exact .inl h
     ·exact h
   ·simp only[Qja]
theorem Cc2(y:Pln):∀{x},lb2 x->lb2 (Id4 x y)
 |[],_=>List.pairwise_singleton _ _
 |a::l,h=>by
  obtain⟨h1,h2⟩:=Qjaa.1 h;unfold Id4;split
  ·rename_i hc;rw[Gd7] at hc;refine Qjaa.2 ⟨λp hp=>?_,Cc2 y h2⟩
   rcases (fc1 y p l).1 hp with e|hp
   ·subst e;exact hc
   ·exact h1 p hp
  ·rename_i hc;rw[Gd7] at hc;split
   ·exact h
   ·rename_i hne;have hlt:LtP y a:=by
     rcases qe5 y a with h|h|h
     ·exact h
     ·exact absurd ((Bc9 _ _).2 h.symm) hne
     ·exact absurd h hc
    refine Qjaa.2 ⟨λp hp=>?_,h⟩
    rcases Qja.1 hp with e|hp
    ·subst e;exact hlt
    ·exact yd6 hlt (h1 p hp)
theorem qe6{σ:Type}{step:σ->Stp σ}{s:σ}{t:Nat}(h:step s=.exit t):lp step s=(t,s):=by rw[Ge2];exact cd1 h
theorem ye9:nc0 []=[]:=List.eq_nil_of_length_eq_zero (ic3 [])
end Go.Ev.Ce
namespace Go.Ev.Ce
def rmZ(p:Pln)(x:Pt):Int:=p.b*x.pw-(p.n.x*x.px+p.n.y*x.py+p.n.z*x.pz)
structure Inr(r:List Pln)(x:Pt):Prop where
 w:0<x.pw
 h:∀p∈r,0<=rmZ p x
def ma0(p:Pln):Pln:=⟨⟨-p.n.x,-p.n.y,-p.n.z⟩,-p.b⟩
theorem Ab6(p:Pln)(x:Pt):rmZ (ma0 p) x=-rmZ p x:=by unfold rmZ ma0;grind
structure Cn(r:List Pln)(x:Pt):Prop extends Inr r x where
 c:∃p q s,p∈r/\q∈r/\s∈r/\mw p q s≠0/\rmZ p x=0/\rmZ q x=0/\rmZ s x=0
def Bdd(r:List Pln):Prop:=∀d:V3,d≠⟨0,0,0⟩->∃p∈r,0<dot p.n d
def go(x:Pt)(q:Pln)(d:V3):Pt:=⟨x.px*dot q.n d+rmZ q x*d.x,x.py*dot q.n d+rmZ q x*d.y,x.pz*dot q.n d+rmZ q x*d.z,x.pw*dot q.n d⟩
theorem Wd5(p q:Pln)(x:Pt)(d:V3):rmZ p (go x q d)=dot q.n d*rmZ p x-rmZ q x*dot p.n d:=by simp only[rmZ,go,dot];grind
theorem hb6{a b c:Int}(hc:0<c)(h:a*c<=b*c):a<=b:=Int.le_of_mul_le_mul_right h hc
theorem first(x:Pt)(d:V3):∀r:List Pln,(∀p∈r,0<=rmZ p x)->(∃p∈r,0<dot p.n d)->∃q∈r,0<dot q.n d/\∀p∈r,0<dot p.n d->rmZ q x*dot p.n d<=rmZ p x*dot q.n d
 |[],_,h=>by obtain⟨p,hp,_⟩:=h;cases hp
 |a::r,hx,h=>by
  by_cases hr:∃p∈r,0<dot p.n d
  ·obtain⟨q,hq,h1,h2⟩:=first x d r (λp hp=>hx p (Qjb _ hp)) hr
   by_cases ha:0<dot a.n d
   ·by_cases hc:rmZ q x*dot a.n d<=rmZ a x*dot q.n d
    ·refine⟨q,Qjb _ hq,h1,λp hp h3=>?_⟩
     rcases Qja.1 hp with rfl|hp
     ·exact hc
     ·exact h2 p hp h3
    ·refine⟨a,Qjd,ha,λp hp h3=>?_⟩
     rcases Qja.1 hp with rfl|hp
     ·exact Int.le_refl _
     ·have h4:=h2 p hp h3;have h5:rmZ a x*dot q.n d<rmZ q x*dot a.n d:=by omega
      have h6:=Qjab h4 (Qje ha);have h7:=Int.mul_lt_mul_of_pos_right h5 h3;have e1:rmZ q x*dot p.n d*dot a.n d=rmZ q x*dot a.n d*dot p.n d:=by grind
      have e2:rmZ a x*dot q.n d*dot p.n d=rmZ a x*dot p.n d*dot q.n d:=by grind
      have e3:rmZ p x*dot q.n d*dot a.n d=rmZ p x*dot a.n d*dot q.n d:=by grind
      refine hb6 h1 ?_;omega
   ·refine⟨q,Qjb _ hq,h1,λp hp h3=>?_⟩
    rcases Qja.1 hp with rfl|hp
    ·exact absurd h3 ha
    ·exact h2 p hp h3
  ·have ha : 0 < dot a.n d := by
    obtain⟨p,hp,h3⟩:=h
    rcases Qja.1 hp with rfl|hp
    ·exact h3
    ·exact absurd ⟨p,hp,h3⟩ hr
   refine⟨a,Qjd,ha,λp hp h3=>?_⟩
   rcases Qja.1 hp with rfl|hp
   ·exact Int.le_refl _
   ·exact absurd ⟨p,hp,h3⟩ hr
theorem step{r:List Pln}{x:Pt}(hx:Inr r x)(d:V3)(h:∃p∈r,0<dot p.n d):∃q∈r,0<dot q.n d/\Inr r (go x q d):=by
 obtain⟨q,hq,h1,h2⟩:=first x d r hx.h h;refine⟨q,hq,h1,⟨Qjz hx.w h1,λp hp=>?_⟩⟩
 rw[Wd5];have h3:=hx.h p hp;have h4:=hx.h q hq;by_cases h5:0<dot p.n d
 ·have:=h2 p hp h5
  have e:rmZ p x*dot q.n d=dot q.n d*rmZ p x:=Int.mul_comm _ _;omega
 ·have h6:=Qjh (Qje h1) h3;have h7:rmZ q x*dot p.n d<=0:=Int.mul_nonpos_of_nonneg_of_nonpos h4 (by omega)
  omega
theorem Oe9{h q:Pln}{x:Pt}{d:V3}(h1:0<=rmZ q x)(h2:0<=dot h.n d):rmZ h (go x q d)*x.pw<=rmZ h x*(go x q d).pw\/x.pw<=0:=by
 rcases Int.lt_or_le 0 x.pw with hw|hw
 ·left;rw[Wd5]
  have:=Qjh h1 h2
  have h3:=Qjh this (Qje hw);have e:rmZ h x*(go x q d).pw=dot q.n d*rmZ h x*x.pw:=by unfold go;grind
  have e2:(dot q.n d*rmZ h x-rmZ q x*dot h.n d)*x.pw=dot q.n d*rmZ h x*x.pw-rmZ q x*dot h.n d*x.pw:=by grind
  omega
 ·exact .inr hw
def neg(d:V3):V3:=⟨-d.x,-d.y,-d.z⟩
theorem Yc4(a d:V3):dot a (neg d)=-dot a d:=by unfold dot neg;grind
theorem Id5{d:V3}(h:d≠⟨0,0,0⟩):neg d≠⟨0,0,0⟩:=λh'=>h (by
 cases d;unfold neg at h';simp only[V3.mk.injEq] at h' ⊢;omega)
theorem turn(h:Pln){d:V3}(hd:d≠⟨0,0,0⟩):∃e,e≠(⟨0,0,0⟩:V3)/\0<=dot h.n e/\∀a,dot a d=0->dot a e=0:=by
 by_cases h1:0<=dot h.n d
 ·exact⟨d,hd,h1,λ_ h=>h⟩
 ·exact⟨neg d,Id5 hd,by rw[Yc4];omega,λa h=>by rw[Yc4,h];rfl⟩
theorem hf5{n:V3}(hn:n≠⟨0,0,0⟩):∃d,d≠(⟨0,0,0⟩:V3)/\dot n d=0:=by
 by_cases h:n.x=0/\n.y=0
 ·exact⟨⟨1,0,0⟩,by simp,by unfold dot;simp[h.1]⟩
 ·refine⟨⟨n.y,-n.x,0⟩,λh'=>h ?_,by unfold dot;grind⟩
  simp only[V3.mk.injEq] at h';omega
theorem V3.ext'{a b:V3}(h1:a.x=b.x)(h2:a.y=b.y)(h3:a.z=b.z):a=b:=by cases a;cases b;simp_all
theorem Wd6{m n d:V3}(hm:m≠⟨0,0,0⟩)(h1:dot m d=0)(h2:dot n d≠0):c8 m n≠⟨0,0,0⟩:=λh=>by
 unfold c8 at h;simp only[V3.mk.injEq] at h;obtain⟨c1,c2,c3⟩:=h;unfold dot at h1 h2;have e1:m.x*(n.x*d.x+n.y*d.y+n.z*d.z)=0:=by grind
 have e2:m.y*(n.x*d.x+n.y*d.y+n.z*d.z)=0:=by grind
 have e3:m.z*(n.x*d.x+n.y*d.y+n.z*d.z)=0:=by grind
 have k:∀{a:Int},a*(n.x*d.x+n.y*d.y+n.z*d.z)=0->a=0:=λh=>(Qjf.1 h).resolve_right h2
 exact hm (V3.ext' (k e1) (k e2) (k e3))
theorem Pc1(a b:V3):dot a (c8 a b)=0:=by unfold dot c8;grind
theorem Pc2(a b:V3):dot b (c8 a b)=0:=by unfold dot c8;grind
theorem Pe0{p q:Pln}{x:Pt}{d:V3}(h:rmZ p x=0)(h':dot p.n d=0):rmZ p (go x q d)=0:=by rw[Wd5,h,h'];simp
theorem Pe1(q:Pln)(x:Pt)(d:V3):rmZ q (go x q d)=0:=by rw[Wd5];grind
theorem Nf4{q:Pln}{d:V3}(h:0<dot q.n d):q.n≠⟨0,0,0⟩:=λh'=>by rw[h'] at h;unfold dot at h;simp at h
theorem sf0{a b c u v w:Int}(hu:0<u)(hv:0<v)(hw:0<w)(h1:a*v<=b*u)(h2:b*w<=c*v):a*w<=c*u:=by
 have h3:=Qjab h1 (Qje hw);have h4:=Qjab h2 (Qje hu);have e1:a*v*w=a*w*v:=by grind
 have e2:b*u*w=b*w*u:=by grind
 have e3:c*v*u=c*u*v:=by grind
 exact hb6 hv (by omega)
theorem ie6{r:List Pln}(hb:Bdd r)(h:Pln){x:Pt}(hx:Inr r x):∃v,Cn r v/\rmZ h v*x.pw<=rmZ h x*v.pw:=by
 obtain⟨d0,n0,p0,_⟩:=turn h (d:=⟨1,0,0⟩) (by simp)
 obtain⟨q1,m1,k1,i1⟩:=step hx d0 (hb d0 n0);have l1:=(Oe9 (h:=h) (x:=x) (hx.h q1 m1) p0).resolve_right (by have:=hx.w;omega)
 obtain⟨e1,ne1,he1⟩:=hf5 (Nf4 k1);obtain⟨d1,n1,p1,z1⟩:=turn h ne1;obtain⟨q2,m2,k2,i2⟩:=step i1 d1 (hb d1 n1);have l2:=(Oe9 (h:=h) (x:=go x q1 d0) (i1.h q2 m2) p1).resolve_right (by have:=i1.w;omega)
 have hc:=Wd6 (Nf4 k1) (z1 _ he1) (n:=q2.n) (by omega)
 obtain⟨d2,n2,p2,z2⟩:=turn h hc;obtain⟨q3,m3,k3,i3⟩:=step i2 d2 (hb d2 n2);have l3:=(Oe9 (h:=h) (x:=go (go x q1 d0) q2 d1) (i2.h q3 m3) p2).resolve_right (by have:=i2.w;omega)
 have a1:rmZ q1 (go (go x q1 d0) q2 d1)=0:=Pe0 (Pe1 _ _ _) (z1 _ he1);refine⟨_,⟨i3,q3,q1,q2,m3,m1,m2,λh0=>?_,Pe1 _ _ _,Pe0 a1 (z2 _ (Pc1 _ _)),Pe0 (Pe1 _ _ _) (z2 _ (Pc2 _ _))⟩,?_⟩
 ·have:dot q3.n d2=0:=z2 _ h0
  omega
 ·exact sf0 i3.w i2.w hx.w l3 (sf0 i2.w i1.w hx.w l2 l1)
theorem Aa8{r:List Pln}(hb:Bdd r){h:Pln}(hv:∀v,Cn r v->0<=rmZ h v){x:Pt}(hx:Inr r x):0<=rmZ h x:=by
 obtain⟨v,h1,h2⟩:=ie6 hb h hx;have h3:=Qjh (hv v h1) (Qje hx.w);exact hb6 h1.w (by rw[Qjae];omega)
def mid(x y:Pt):Pt:=⟨x.px*y.pw+y.px*x.pw,x.py*y.pw+y.py*x.pw,x.pz*y.pw+y.pz*x.pw,2*(x.pw*y.pw)⟩
theorem Pe2(p:Pln)(x y:Pt):rmZ p (mid x y)=rmZ p x*y.pw+rmZ p y*x.pw:=by unfold rmZ mid;grind
theorem Inr.mid{r:List Pln}{x y:Pt}(hx:Inr r x)(hy:Inr r y):Inr r (mid x y):=⟨by unfold Ce.mid;exact Qjz (by decide) (Qjz hx.w hy.w),λp hp=>by
 rw[Pe2];exact Int.add_nonneg (Qjh (hx.h p hp) (Qje hy.w)) (Qjh (hy.h p hp) (Qje hx.w))⟩
def ie7(r:List Pln):Prop:=∃x:Pt,0<x.pw/\∀p∈r,0<rmZ p x
theorem qe7{r:List Pln}:∀(l:List Pln),(∀p∈l,p∈r)->(∃x,Inr r x)->(∀p∈l,∃v,Inr r v/\0<rmZ p v)->∃x,Inr r x/\∀p∈l,0<rmZ p x
 |[],_,h,_=>by obtain⟨x,h⟩:=h;exact⟨x,h,λp hp=>by cases hp⟩
 |a::l,hl,h,hv=>by
  obtain⟨x,h1,h2⟩:=qe7 l (λp hp=>hl p (Qjb _ hp)) h (λp hp=>hv p (Qjb _ hp))
  obtain⟨y,h3,h4⟩:=hv a Qjd;refine⟨mid x y,h1.mid h3,λp hp=>?_⟩
  rw[Pe2]
  rcases Qja.1 hp with rfl|hp
  ·have:=Qjh (h1.h p (hl p Qjd)) (Qje h3.w)
   have:=Qjz h4 h1.w
   omega
  ·have:=Qjz (h2 p hp) h3.w
   have:=Qjh (h3.h p (hl p (Qjb _ hp))) (Qje h1.w)
   omega
theorem Pe3{r:List Pln}(hb:Bdd r)(h0:r≠[]):ie7 r↔∀p∈r,∃v,Cn r v/\0<rmZ p v:=by
 constructor
 ·intro ⟨x,hw,hx⟩ p hp;by_cases h:∃v,Cn r v/\0<rmZ p v
  ·exact h
  ·have hx':Inr r x:=⟨hw,λq hq=>Qje (hx q hq)⟩
   have:=Aa8 hb (h:=ma0 p) (λv hv=>by
    rw[Ab6]
    have:¬ 0<rmZ p v:=λh'=>h ⟨v,hv,h'⟩
    omega) hx'
   rw[Ab6] at this
   have:=hx p hp
   omega
 ·intro h;obtain⟨p,hp⟩:=List.exists_mem_of_ne_nil r h0;obtain⟨v,hv,_⟩:=h p hp;obtain⟨x,h1,h2⟩:=qe7 r (λ_ h=>h) ⟨v,hv.toInr⟩ λp hp=>by
   obtain⟨v,hv,h⟩:=h p hp;exact⟨v,hv.toInr,h⟩
  exact⟨x,h1.w,h2⟩
structure Eqv(x v:Pt):Prop where
 e1:x.px*v.pw=v.px*x.pw
 e2:x.py*v.pw=v.py*x.pw
 e3:x.pz*v.pw=v.pz*x.pw
theorem Eqv.rm{x v:Pt}(h:Eqv x v)(p:Pln):rmZ p x*v.pw=rmZ p v*x.pw:=by
 obtain⟨e1,e2,e3⟩:=h;unfold rmZ
 grind
theorem Eqv.inr{r:List Pln}{x v:Pt}(h:Eqv x v)(hw:0<x.pw)(hv:Inr r v):Inr r x:=⟨hw,λp hp=>by
 have:=h.rm p
 have h2:=Qjh (hv.h p hp) (Qje hw);exact hb6 hv.w (by rw[Qjae];omega)⟩
end Go.Ev.Ce
namespace Go.Ev.Ce
open Go Go.Ev Go.Ev.L Go.Proofs
theorem ze0{p:Pln}{x:Pt}(hp:Bd p)(hx:Okx x):rm p x=rmZ p x:=by
 unfold rm rmZ;obtain⟨w1,w2,⟨a1,a2⟩,⟨a3,a4⟩,a5,a6⟩:=hx;have h0:=mb hp.b1 hp.b2 (show -600000000000<=x.pw by omega) w2
 have h1:=mb hp.x1 hp.x2 a1 a2;have h2:=mb hp.y1 hp.y2 a3 a4;have h3:=mb hp.z1 hp.z2 a5 a6;exact N9 (by omega) (by omega)
theorem qe8{r:List Pln}(hb:Bds r){x:Pt}(hx:Okx x):inn r x=true↔Inr r x:=by
 unfold inn;rw[Qjn];constructor
 ·intro h;refine⟨hx.w1,λp hp=>?_⟩
  have:=h p hp
  rw[ze0 (hb p hp) hx] at this;simpa using this
 ·intro h p hp;rw[ze0 (hb p hp) hx];simpa using h.h p hp
theorem sf1{p q s:Pln}(h:(mpt p q s).2=true):mw p q s≠0/\∃k:Int,k≠0/\k*(mpt p q s).1.px=(mv p q s).x/\k*(mpt p q s).1.py=(mv p q s).y/\k*(mpt p q s).1.pz=(mv p q s).z/\k*(mpt p q s).1.pw=mw p q s:=by
 unfold mpt at h ⊢;by_cases h0:mw p q s=0
 ·rw[if_pos h0] at h;cases h
 refine⟨h0,?_⟩;have hg:=Hd6 (v:=mv p q s) h0;have dv:∀{x:Int},(gc (mv p q s) (mw p q s))∣x->gc (mv p q s) (mw p q s)*Int.tdiv x (gc (mv p q s) (mw p q s))=x:=λh=>Qjac h
 have d1:gc (mv p q s) (mw p q s)∣(mv p q s).x:=by
  rw[<- Qjag];exact Qju.2 (Qjx (Qjo _ _) (Qjo _ _))
 have d2:gc (mv p q s) (mw p q s)∣(mv p q s).y:=by
  rw[<- Qjag];exact Qju.2 (Qjx (Qjo _ _) (Qjp _ _))
 have d3:gc (mv p q s) (mw p q s)∣(mv p q s).z:=by
  rw[<- Qjag];exact Qju.2 (Qjx (Qjp _ _) (Qjo _ _))
 have d4:gc (mv p q s) (mw p q s)∣mw p q s:=by
  rw[<- Qjag];exact Qju.2 (Qjx (Qjp _ _) (Qjp _ _))
 rw[if_neg h0];by_cases h1:mw p q s<0
 ·rw[if_pos h1];have e:∀{x:Int},(gc (mv p q s) (mw p q s))∣x->-(gc (mv p q s) (mw p q s))*Int.tdiv (-x) (gc (mv p q s) (mw p q s))=x:=λ{x} h=>by
   rw[Int.neg_mul,dv ((Int.dvd_neg).2 h),Int.neg_neg]
  exact⟨-(gc (mv p q s) (mw p q s)),by omega,e d1,e d2,e d3,e d4⟩
 ·rw[if_neg h1];exact⟨gc (mv p q s) (mw p q s),by omega,dv d1,dv d2,dv d3,dv d4⟩
theorem Pe4{p q s:Pln}(h:(mpt p q s).2=true):rmZ p (mpt p q s).1=0/\rmZ q (mpt p q s).1=0/\rmZ s (mpt p q s).1=0:=by
 obtain⟨_,k,hk,e1,e2,e3,e4⟩:=sf1 h;generalize (mpt p q s).1=x at *
 have f:∀a:Pln,a.b*mw p q s-(a.n.x*(mv p q s).x+a.n.y*(mv p q s).y+a.n.z*(mv p q s).z)=0->rmZ a x=0:=λa ha=>by
  rw[<- e1,<- e2,<- e3,<- e4] at ha
  have:k*rmZ a x=0:=by rw[<- ha];unfold rmZ;grind
  exact (Qjf.1 this).resolve_left hk
 refine⟨f p ?_,f q ?_,f s ?_⟩<;>(simp only[mw,mv,dot,c8];grind)
theorem hf6{p q s:Pln}(h:mw p q s≠0):(mpt p q s).2=true:=by
 unfold mpt;rw[if_neg h]
 split<;>rfl
theorem Pe5{p q s:Pln}{x:Pt}(h1:rmZ p x=0)(h2:rmZ q x=0)(h3:rmZ s x=0):mw p q s*x.px=(mv p q s).x*x.pw/\mw p q s*x.py=(mv p q s).y*x.pw/\mw p q s*x.pz=(mv p q s).z*x.pw:=by
 have i1:(mv p q s).x*x.pw-mw p q s*x.px=(c8 q.n s.n).x*rmZ p x+(c8 s.n p.n).x*rmZ q x+(c8 p.n q.n).x*rmZ s x:=by simp only[mw,mv,dot,c8,rmZ];grind
 have i2:(mv p q s).y*x.pw-mw p q s*x.py=(c8 q.n s.n).y*rmZ p x+(c8 s.n p.n).y*rmZ q x+(c8 p.n q.n).y*rmZ s x:=by simp only[mw,mv,dot,c8,rmZ];grind
 have i3:(mv p q s).z*x.pw-mw p q s*x.pz=(c8 q.n s.n).z*rmZ p x+(c8 s.n p.n).z*rmZ q x+(c8 p.n q.n).z*rmZ s x:=by simp only[mw,mv,dot,c8,rmZ];grind
 rw[h1,h2,h3] at i1 i2 i3;simp only[Qjaq,Int.add_zero] at i1 i2 i3;omega
theorem Af3{p q s:Pln}{x v:Pt}(h:mw p q s≠0)(h1:rmZ p x=0)(h2:rmZ q x=0)(h3:rmZ s x=0)(k1:rmZ p v=0)(k2:rmZ q v=0)(k3:rmZ s v=0):Eqv x v:=by
 obtain⟨a1,a2,a3⟩:=Pe5 h1 h2 h3;obtain⟨c1,c2,c3⟩:=Pe5 k1 k2 k3;have f:∀{a c m:Int},mw p q s*a=m*x.pw->mw p q s*c=m*v.pw->a*v.pw=c*x.pw:=λ{a c m} ha hc=>by
  have:mw p q s*(a*v.pw-c*x.pw)=0:=by grind
  have:=(Qjf.1 this).resolve_left h
  omega
 exact⟨f a1 c1,f a2 c2,f a3 c3⟩
theorem ze1{r:List Pln}{p q:Pln}{out:List Pt}{s:Pln}{x:Pt}(h:x∈out):x∈ab9 r p q out s:=by
 unfold ab9;split
 ·exact Qjak _ h
 ·exact h
theorem kd6{r:List Pln}{p q:Pln}{x:Pt}:∀{l:List Pln} {out:List Pt},x∈out->x∈Xb3 r p q l out
 |[],_,h=>h
 |s::l,out,h=>kd6 (l:=l) (out:=ab9 r p q out s) (ze1 h)
theorem Cc3{r:List Pln}{p:Pln}{x:Pt}:∀{l:List Pln} {out:List Pt},x∈out->x∈Kb5 r p l out
 |[],_,h=>h
 |_::l,_,h=>Cc3 (l:=l) (kd6 h)
theorem Wd7{r:List Pln}{x:Pt}:∀{l:List Pln} {out:List Pt},x∈out->x∈Vc3 r l out
 |[],_,h=>h
 |_::l,_,h=>Wd7 (l:=l) (Cc3 h)
theorem ze2{r:List Pln}{p q:Pln}{out:List Pt}{s:Pln}(h1:(mpt p q s).2=true)(h2:inn r (mpt p q s).1=true):(mpt p q s).1∈ab9 r p q out s:=by
 unfold ab9;rw[h1,h2];cases h:jd0 out (mpt p q s).1 with
 |true=>simpa using (Le5 _ _).1 h
 |false=>simp
theorem kd7{r:List Pln}{p q s:Pln}(h1:(mpt p q s).2=true)(h2:inn r (mpt p q s).1=true):∀{l:List Pln} {out:List Pt},s∈l->(mpt p q s).1∈Xb3 r p q l out
 |[],_,h=>by cases h
 |t::l,out,h=>by
  show _∈Xb3 r p q l (ab9 r p q out t)
  rcases Qja.1 h with rfl|h
  ·exact kd6 (ze2 h1 h2)
  ·exact kd7 h1 h2 h
structure Hit(r:List Pln)(Q:Pt->Prop)(p q s:Pln):Prop where
 h1:(mpt p q s).2=true
 h2:inn r (mpt p q s).1=true
 h3:Q (mpt p q s).1
theorem Wd8{r:List Pln}{Q:Pt->Prop}{p q s:Pln}(hq:Hit r Q p q s)(hs:Hit r Q p s q)(hne:q≠s):∀{l:List Pln} {out:List Pt},q∈l->s∈l->∃x∈Kb5 r p l out,Q x
 |[],_,h,_=>by cases h
 |t::l,out,hql,hsl=>by
  show ∃x∈Kb5 r p l (Xb3 r p t l out),Q x
  rcases Qja.1 hql with rfl|h1
  ·have h2:=(Qja.1 hsl).resolve_left λh=>hne h.symm
   exact⟨_,Cc3 (kd7 hq.h1 hq.h2 h2),hq.h3⟩
  ·rcases Qja.1 hsl with rfl|h2
   ·exact⟨_,Cc3 (kd7 hs.h1 hs.h2 h1),hs.h3⟩
   ·exact Wd8 hq hs hne (l:=l) h1 h2
theorem Wd9 {r : List Pln} {Q : Pt → Prop} {p q s : Pln} (H : ∀ a c d, (a = p ∨ a = q ∨ a = s) → (c = p ∨ c = q ∨ c = s) → (d = p ∨ d = q ∨ d = s) → a ≠ c → c ≠ d → a ≠ d → Hit r Q a c d) (h1 : p ≠ q) (h2 : q ≠ s) (h3 : p ≠ s) :
  ∀{l:List Pln} {out:List Pt},p∈l->q∈l->s∈l->∃x∈Vc3 r l out,Q x
 |[],_,h,_,_=>by cases h
 |t::l,out,hp,hq,hs=>by
  have fin:∀{a c d:Pln} {out:List Pt},(a=p\/a=q\/a=s)->(c=p\/c=q\/c=s)->(d=p\/d=q\/d=s)->a≠c->c≠d->a≠d->c∈l->d∈l->∃x∈Vc3 r l (Kb5 r a l out),Q x:=λha hc hd n1 n2 n3 m1 m2=>by
   obtain⟨x,hx,hQ⟩:=Wd8 (H _ _ _ ha hc hd n1 n2 n3) (H _ _ _ ha hd hc n3 n2.symm n1) n2 (out:=_) m1 m2;exact⟨x,Wd7 hx,hQ⟩
  show ∃x∈Vc3 r l (Kb5 r t l out),Q x
  rcases Qja.1 hp with rfl|hp'
  ·exact fin (.inl rfl) (.inr (.inl rfl)) (.inr (.inr rfl)) h1 h2 h3 ((Qja.1 hq).resolve_left (Ne.symm h1)) ((Qja.1 hs).resolve_left (Ne.symm h3))
  ·rcases Qja.1 hq with rfl|hq'
   ·exact fin (.inr (.inl rfl)) (.inl rfl) (.inr (.inr rfl)) (Ne.symm h1) h3 h2 hp' ((Qja.1 hs).resolve_left (Ne.symm h2))
   ·rcases Qja.1 hs with rfl|hs'
    ·exact fin (.inr (.inr rfl)) (.inl rfl) (.inr (.inl rfl)) (Ne.symm h3) h1 (Ne.symm h2) hp' hq'
    ·exact Wd9 H h1 h2 h3 hp' hq' hs'
theorem Nf5{p q s:Pln}(h:mw p q s≠0):p≠q/\q≠s/\p≠s:=by
 refine⟨λe=>h ?_,λe=>h ?_,λe=>h ?_⟩<;>(subst e;simp only[mw,dot,c8];grind)
theorem Pe6{r:List Pln}(hb:Bds r):∀x∈cor r,Cn r x:=qe1 λp hp q hq s hs h hi=>by
 obtain⟨w1,w2,w3,w4,w5⟩:=ie2 (hb p hp) (hb q hq) (hb s hs) h;obtain⟨e1,e2,e3⟩:=Pe4 h;exact⟨(qe8 hb ⟨w1,w5,w2,w3,w4⟩).1 hi,p,q,s,hp,hq,hs,(sf1 h).1,e1,e2,e3⟩
theorem Af4{r:List Pln}(hb:Bds r){v:Pt}(hv:Cn r v):∃x∈cor r,Eqv x v:=by
 obtain⟨p,q,s,hp,hq,hs,hw,e1,e2,e3⟩:=hv.c;obtain⟨n1,n2,n3⟩:=Nf5 hw;refine Wd9 (λa c d ha hc hd m1 m2 m3=>?_) n1 n2 n3 hp hq hs
 have hm:∀{a},(a=p\/a=q\/a=s)->a∈r/\rmZ a v=0:=λh=>by
  rcases h with rfl|rfl|rfl
  ·exact⟨hp,e1⟩
  ·exact⟨hq,e2⟩
  ·exact⟨hs,e3⟩
 have hw':mw a c d≠0:=by
  have k:mw a c d=mw p q s\/mw a c d=-mw p q s:=by
   rcases ha with rfl|rfl|rfl<;>rcases hc with rfl|rfl|rfl<;>rcases hd with rfl|rfl|rfl<;>first|exact absurd rfl m1|exact absurd rfl m2|exact absurd rfl m3|exact .inl rfl|(left;simp only[mw,dot,c8];grind;done)|(right;simp only[mw,dot,c8];grind;done)
  rcases k with k|k<;>omega
 have h:=hf6 hw';obtain⟨w1,w2,w3,w4,w5⟩:=ie2 (hb a (hm ha).1) (hb c (hm hc).1) (hb d (hm hd).1) h;obtain⟨f1,f2,f3⟩:=Pe4 h;have he:=Af3 hw' f1 f2 f3 (hm ha).2 (hm hc).2 (hm hd).2;exact⟨h,(qe8 hb ⟨w1,w5,w2,w3,w4⟩).2 (he.inr w1 hv.toInr),he⟩
theorem ie8(c:List Pln):Bdd (c++ws):=λd hd=>by
 have k:∀{n:V3} {m:Int},(⟨n,m⟩:Pln)∈ws->0<dot n d->∃p∈c++ws,0<dot p.n d:=λh h'=>⟨_,List.mem_append_right _ h,h'⟩
 by_cases h1:0<d.x
 ·exact k (n:=⟨1,0,0⟩) (m:=24) (by simp[ws]) (by unfold dot;simp;omega)
 by_cases h2:d.x<0
 ·exact k (n:=⟨-1,0,0⟩) (m:=24) (by simp[ws]) (by unfold dot;simp;omega)
 by_cases h3:0<d.y
 ·exact k (n:=⟨0,1,0⟩) (m:=24) (by simp[ws]) (by unfold dot;simp;omega)
 by_cases h4:d.y<0
 ·exact k (n:=⟨0,-1,0⟩) (m:=24) (by simp[ws]) (by unfold dot;simp;omega)
 by_cases h5:0<d.z
 ·exact k (n:=⟨0,0,1⟩) (m:=24) (by simp[ws]) (by unfold dot;simp;omega)
 by_cases h6:d.z<0
 ·exact k (n:=⟨0,0,-1⟩) (m:=24) (by simp[ws]) (by unfold dot;simp;omega)
 exact absurd (V3.ext' (by show d.x=0;omega) (by show d.y=0;omega) (by show d.z=0;omega)) hd
theorem qe9{r:List Pln}(hb:Bds r){p:Pln}(hp:Bd p):pos (cor r) p=true↔∃v,Cn r v/\0<rmZ p v:=by
 unfold pos;rw[Qjm];constructor
 ·rintro⟨x,hx,h⟩;rw[ze0 hp (Yc0 hb x hx)] at h;exact⟨x,Pe6 hb x hx,by simpa using h⟩
 ·rintro⟨v,hv,h⟩;obtain⟨x,hx,he⟩:=Af4 hb hv;refine⟨x,hx,?_⟩;rw[ze0 hp (Yc0 hb x hx)];have h1:=he.rm p;have h2:=Qjz h (Yc0 hb x hx).w1
  have:0<rmZ p x:=Int.lt_of_mul_lt_mul_right (by rw[Qjae];omega:0*v.pw<rmZ p x*v.pw) (Qje hv.w)
  simpa using this
theorem yd7{r:List Pln}(hb:Bds r)(hd:Bdd r)(h0:r≠[]):ie3 r=true↔ie7 r:=by
 rw[Pe3 hd h0];unfold ie3;rw[Qjn];exact⟨λh p hp=>(qe9 hb (hb p hp)).1 (h p hp),λh p hp=>(qe9 hb (hb p hp)).2 (h p hp)⟩
end Go.Ev.Ce
namespace Go.Ev.Ce
def dv(z v:Pt):V3:=⟨v.px*z.pw-z.px*v.pw,v.py*z.pw-z.py*v.pw,v.pz*z.pw-z.pz*v.pw⟩
def thr(n:V3)(z:Pt):Pln:=⟨⟨z.pw*n.x,z.pw*n.y,z.pw*n.z⟩,n.x*z.px+n.y*z.py+n.z*z.pz⟩
theorem Pe7(n:V3)(z x:Pt):rmZ (thr n z) x=-dot n (dv z x):=by simp only[rmZ,thr,dot,dv];grind
theorem Pe8{p:Pln}{z v:Pt}(hz:rmZ p z≠0)(hv:rmZ p v=0)(hw:0<v.pw):dv z v≠⟨0,0,0⟩:=λh=>by
 unfold dv at h;simp only[V3.mk.injEq] at h;obtain⟨e1,e2,e3⟩:=h
 have:rmZ p z*v.pw=rmZ p v*z.pw:=by unfold rmZ;grind
 rw[hv,Qjae] at this;exact (Qjf.1 this).elim hz (by omega)
theorem Af5{p:Pln}{z:Pt}(hz:rmZ p z≠0):∀l:List Pt,l.length<=2->(∀v∈l,rmZ p v=0/\0<v.pw)->∃n,n≠(⟨0,0,0⟩:V3)/\∀v∈l,dot n (dv z v)=0
 |[],_,_=>⟨⟨1,0,0⟩,by simp,λv h=>by cases h⟩
 |[v],_,h=>by
  obtain⟨h1,h2⟩:=h v (by simp)
  obtain⟨d,hd,he⟩:=hf5 (Pe8 hz h1 h2);exact⟨d,hd,λu hu=>by rw[List.mem_singleton.1 hu,<- he];unfold dot;grind⟩
 |[v,u],_,h=>by
  obtain⟨h1,h2⟩:=h v (by simp)
  by_cases hc:c8 (dv z v) (dv z u)=⟨0,0,0⟩
  ·obtain⟨d,hd,he⟩:=hf5 (Pe8 hz h1 h2);have hu:dot (dv z u) d=0:=by
    by_cases h0:dot (dv z u) d=0
    ·exact h0
    ·exact absurd hc (Wd6 (Pe8 hz h1 h2) he h0)
   refine⟨d,hd,λx hx=>?_⟩
   simp only[Qja,Qjai,or_false] at hx
   rcases hx with rfl|rfl
   ·rw[<- he];unfold dot;grind
   ·rw[<- hu];unfold dot;grind
  ·refine⟨_,hc,λx hx=>?_⟩
   simp only[Qja,Qjai,or_false] at hx
   rcases hx with rfl|rfl
   ·rw[<- Pc1 (dv z x) (dv z u)];unfold dot;grind
   ·rw[<- Pc2 (dv z v) (dv z x)];unfold dot;grind
 |_::_::_::_,h,_=>by simp at h
def Af6(p:Pln)(z v:Pt):Pt:=⟨rmZ p v*z.px-rmZ p z*v.px,rmZ p v*z.py-rmZ p z*v.py,rmZ p v*z.pz-rmZ p z*v.pz,rmZ p v*z.pw-rmZ p z*v.pw⟩
theorem Id6(p q:Pln)(z v:Pt):rmZ q (Af6 p z v)=rmZ p v*rmZ q z-rmZ p z*rmZ q v:=by
 generalize ha:rmZ p v=a;generalize hb:rmZ p z=c;simp only[rmZ,Af6] at *
 rw[ha,hb]
 grind
theorem Pe9{r:List Pln}(hb:Bdd r)(hB:ie7 r){h:Pln}(hn:h.n≠⟨0,0,0⟩):¬ ∀x,Inr r x->rmZ h x=0:=λH=>by
 obtain⟨x,hw,hx⟩:=hB;have hi:Inr r x:=⟨hw,λp hp=>Qje (hx p hp)⟩
 obtain⟨q,hq,h1,h2⟩:=step hi h.n (hb h.n hn);have h3:=H _ h2;rw[Wd5,H _ hi] at h3;have h4:=hx q hq;have h5:0<dot h.n h.n:=by
  have k:∀a:Int,a≠0->0<a*a:=λa ha=>by
   rcases Int.lt_or_gt_of_ne ha with h|h
   ·exact Int.mul_pos_of_neg_of_neg h h
   ·exact Qjz h h
  have k0:∀a:Int,0<=a*a:=λa=>by
   by_cases h:a=0
   ·subst h;decide
   ·exact Qje (k a h)
  have a1:=k0 h.n.x;have a2:=k0 h.n.y;have a3:=k0 h.n.z;unfold dot;by_cases c1:h.n.x=0
  ·by_cases c2:h.n.y=0
   ·have:=k h.n.z (λc3=>hn (V3.ext' c1 c2 c3));omega
   ·have:=k _ c2;omega
  ·have:=k _ c1;omega
 have:=Qjz h4 h5
 omega
theorem Nf6 {r r' : List Pln} {p : Pln} (hb : Bdd r) (hB : ie7 r) (hp : p ∈ r) (hr : ∀ q ∈ r, q ∈ r' ∨ q = p)
  (l:List Pt) (hl:l.length<=2) (hl0:∀v∈l,rmZ p v=0/\0<v.pw) (hc:∀v,Cn r v->rmZ p v=0->∃x∈l,Eqv x v) {z:Pt} (hz:Inr r' z):Inr r z:=by
 by_cases h0:0<=rmZ p z
 ·exact⟨hz.w,λq hq=>(hr q hq).elim (hz.h q) λe=>e ▸ h0⟩
 exfalso;have hneg:rmZ p z<0:=by omega
 obtain⟨n,hn,hv⟩:=Af5 (p:=p) (z:=z) (by omega) l hl hl0
 have hn':(thr n z).n≠⟨0,0,0⟩:=λe=>hn (by
  unfold thr at e;simp only[V3.mk.injEq] at e;have k:∀{a:Int},z.pw*a=0->a=0:=λh=>(Qjf.1 h).resolve_left (by have:=hz.w;omega)
  exact V3.ext' (k e.1) (k e.2.1) (k e.2.2))
 -- the face lies in that plane
 have hface:∀u,Inr r u->rmZ p u=0->rmZ (thr n z) u=0:=λu hu hu0=>by
  have hbd:Bdd (ma0 p::r):=λd hd=>by
   obtain⟨q,hq,h⟩:=hb d hd;exact⟨q,Qjb _ hq,h⟩
  have hiu:Inr (ma0 p::r) u:=⟨hu.w,λq hq=>by
   rcases Qja.1 hq with rfl|hq
   ·rw[Ab6,hu0];decide
   ·exact hu.h q hq⟩
  have hvx:∀v,Cn (ma0 p::r) v->rmZ (thr n z) v=0:=λv hcv=>by
   have hir:Inr r v:=⟨hcv.w,λq hq=>hcv.h q (Qjb _ hq)⟩
   have hp0:rmZ p v=0:=by
    have h1:=hcv.h (ma0 p) Qjd;rw[Ab6] at h1;have h2:=hir.h p hp;omega
   obtain⟨a,c,d,ha,hc',hd,hw,e1,e2,e3⟩:=hcv.c
   -- a plane that is turned round gives the same ie6
   have fl:∀{a c d:Pln},mw (ma0 a) c d=-mw a c d/\mw c (ma0 a) d=-mw c a d/\mw c d (ma0 a)=-mw c d a:=λ{a c d}=>by
    refine⟨?_,?_,?_⟩<;>(simp only[mw,dot,c8,ma0];grind)
   have hr0:∀{a:Pln},rmZ (ma0 a) v=0->rmZ a v=0:=λh=>by rw[Ab6] at h;omega
   have hcn:Cn r v:=by
    refine⟨hir,?_⟩
    rcases Qja.1 ha with rfl|ha<;>rcases Qja.1 hc' with rfl|hc'<;>rcases Qja.1 hd with rfl|hd
    ·exact absurd (by simp only[mw,dot,c8];grind) hw
    ·exact absurd (by simp only[mw,dot,c8];grind) hw
    ·exact absurd (by simp only[mw,dot,c8];grind) hw
    ·exact⟨p,c,d,hp,hc',hd,by have:=(fl (a:=p) (c:=c) (d:=d)).1;omega,hp0,e2,e3⟩
    ·exact absurd (by simp only[mw,dot,c8];grind) hw
    ·exact⟨a,p,d,ha,hp,hd,by have:=(fl (a:=p) (c:=a) (d:=d)).2.1;omega,e1,hp0,e3⟩
    ·exact⟨a,c,p,ha,hc',hp,by have:=(fl (a:=p) (c:=a) (d:=c)).2.2;omega,e1,e2,hp0⟩
    ·exact⟨a,c,d,ha,hc',hd,hw,e1,e2,e3⟩
   obtain⟨x,hx,he⟩:=hc v hcn hp0;have h1:=he.rm (thr n z);rw[Pe7 n z x,hv x hx] at h1;have h1:rmZ (thr n z) v*x.pw=0:=by omega
   exact (Qjf.1 h1).resolve_right (by have:=(hl0 x hx).2;omega)
  have a1:=Aa8 hbd (h:=thr n z) (λv hv=>by rw[hvx v hv];decide) hiu
  have a2:=Aa8 hbd (h:=ma0 (thr n z)) (λv hv=>by rw[Ab6,hvx v hv];decide) hiu
  rw[Ab6] at a2;omega
 -- so do all vertices
 have hall:∀v,Inr r v->rmZ (thr n z) v=0:=λv hi=>by
  by_cases hv0:rmZ p v=0
  ·exact hface v hi hv0
  have hvp:0<rmZ p v:=by have:=hi.h p hp;omega
  have hu:Inr r (Af6 p z v):=by
   have w1:=Qjz hvp hz.w;have w2:rmZ p z*v.pw<0:=Int.mul_neg_of_neg_of_pos hneg hi.w;refine⟨by show 0<rmZ p v*z.pw-rmZ p z*v.pw;omega,λq hq=>?_⟩
   rw[Id6]
   rcases hr q hq with h|rfl
   ·have b1:=Qjh (Qje hvp) (hz.h q h);have b2:rmZ p z*rmZ q v<=0:=Int.mul_nonpos_of_nonpos_of_nonneg (Qje hneg) (hi.h q hq);omega
   ·have:=Int.mul_comm (rmZ q v) (rmZ q z);omega
  have h1:=hface _ hu (by rw[Id6];have:=Int.mul_comm (rmZ p v) (rmZ p z);omega)
  rw[Id6] at h1;have h2:rmZ (thr n z) z=0:=by rw[Pe7];simp only[dot,dv];grind
  rw[h2] at h1;have h1:rmZ p z*rmZ (thr n z) v=0:=by omega
  exact (Qjf.1 h1).resolve_left (by omega)
 exact Pe9 hb hB hn' hall
end Go.Ev.Ce
namespace Go.Ev.Ce
open Go Go.Ev Go.Ev.L Go.Proofs
def phP(out:List Pln):Nat:=match out with
 |[]=>0
 |_::_=>1
def ba9(p:Pln)(v:V3):Int:=if okp p&&inV v then (if dot p.n v-p.b<0 then -1 else if dot p.n v-p.b>0 then 1 else 0) else 0
theorem Qe0{p:Pln}{v:V3}(hp:Bd p)(hv:inV v=true):Sm 331776 (dot p.n v):=by
 obtain⟨⟨a1,a2⟩,⟨a3,a4⟩,a5,a6⟩:=(Ka2 v).1 hv;have r1:=mb hp.x1 hp.x2 a1 a2;have r2:=mb hp.y1 hp.y2 a3 a4;have r3:=mb hp.z1 hp.z2 a5 a6;unfold Sm dot;omega
theorem hf7(p:Pln)(v:V3):Sa5 p v=some (i (ba9 p v),[]):=by
 unfold Sa5 ba9;simp only[Le8,Vd5,rf8,Ne9];cases hp:okp p with
 |false=>rfl
 |true =>
  cases hv:inV v with
  |false=>rfl
  |true =>
   have hb:=Kb4 hp;have hd:=Qe0 hb hv;have e:bb9 p.n v=dot p.n v:=by
    unfold bb9;simp only[zb1,Tb3];exact lb1 (hd.mono (by omega))
   have e2:W (dot p.n v-p.b)=dot p.n v-p.b:=N9 (by have:=hd.1;have:=hb.b2;omega) (by have:=hd.2;have:=hb.b1;omega)
   rw[e,e2];by_cases h1:dot p.n v-p.b<0
   ·simp only[Qjw,if_true,h1,decide_true];rfl
   ·by_cases h2:dot p.n v-p.b>0
    ·simp only[Qjw,if_true,h1,h2,decide_true,decide_false,if_false];rfl
    ·simp only[Qjw,if_true,h1,h2,decide_false,if_false];rfl
theorem Af7(p:Pln)(v:V3):Sb6 p v=ba9 p v:=by unfold Sb6;rw[hf7];rfl
theorem kd8{p:Pln}{v:V3}(hp:okp p=true)(hv:inV v=true):ba9 p v>0↔dot p.n v>p.b:=by
 unfold ba9;rw[hp,hv];simp only[Qjw,if_true];split
 ·omega
 ·split<;>omega
theorem Ob9{p:Pln}{v:V3}(hp:okp p=true)(hv:inV v=true):ba9 p v=0↔dot p.n v=p.b:=by
 unfold ba9;rw[hp,hv];simp only[Qjw,if_true];split
 ·omega
 ·split<;>omega
theorem Af8(v:V3):g3 v∣v.x/\g3 v∣v.y/\g3 v∣v.z:=by
 unfold g3;refine⟨?_,?_,?_⟩<;>rw[<- Qjag]<;>apply Qju.2
 ·exact Qjx (Qjo _ _) (Qjo _ _)
 ·exact Qjx (Qjo _ _) (Qjp _ _)
 ·exact Qjp _ _
theorem Af9(v:V3)(h:g3 v≠0):g3 ⟨Int.tdiv v.x (g3 v),Int.tdiv v.y (g3 v),Int.tdiv v.z (g3 v)⟩=1:=by
 generalize hg:g3 v=g at *
 have h0:0<=g:=hg ▸ ic7 v;obtain⟨n,rfl⟩:∃n:Nat,g=n:=⟨g.toNat,by omega⟩
 have hn:0<n:=by omega
 have hgn:Nat.gcd (Nat.gcd v.x.natAbs v.y.natAbs) v.z.natAbs=n:=by unfold g3 at hg;omega
 have d1:n∣Nat.gcd v.x.natAbs v.y.natAbs:=hgn ▸ Qjo _ _;have d3:n∣v.z.natAbs:=hgn ▸ Qjp _ _;have d4:n∣v.x.natAbs:=Qjx d1 (Qjo _ _);have d5:n∣v.y.natAbs:=Qjx d1 (Qjp _ _);unfold g3;simp only[Int.natAbs_tdiv,Int.natAbs_natCast];show ((Nat.gcd (Nat.gcd (v.x.natAbs / n) (v.y.natAbs / n)) (v.z.natAbs / n):Nat):Int)=1;rw[Nat.gcd_div d4 d5,Nat.gcd_div d1 d3,hgn,Nat.div_self hn];rfl
structure Thr(a b c:V3)(p:Pln):Prop where
 ok:okp p=true
 k:∃g:Int,0<g/\g*p.n.x=(c8 (sub b a) (sub c a)).x/\g*p.n.y=(c8 (sub b a) (sub c a)).y/\g*p.n.z=(c8 (sub b a) (sub c a)).z
 o:p.b=dot p.n a
theorem xa7{a b c:V3}(h:(G5 a b c).2=true):(inV a=true/\inV b=true/\inV c=true)/\Thr a b c (G5 a b c).1:=by
 unfold G5 at h ⊢;cases ha:inV a with
 |false=>rw[ha] at h;cases h
 |true =>
  cases hb:inV b with
  |false=>rw[ha,hb] at h;cases h
  |true =>
   cases hc:inV c with
   |false=>rw[ha,hb,hc] at h;cases h
   |true =>
    rw[ha,hb,hc] at h;simp only[Qjw,if_true] at h ⊢;obtain⟨_,k1,k2,k3⟩:=Kb7 ha hb hc;generalize hn:c8 (sub b a) (sub c a)=n at *
    by_cases h0:g3 n=0
    ·rw[if_pos h0] at h;cases h
    ·rw[if_neg h0];have hp:=ic7 n;obtain⟨d1,d2,d3⟩:=Af8 n;have q1:=Q6 (g:=g3 n) k1 (by omega)
     have q2:=Q6 (g:=g3 n) k2 (by omega)
     have q3:=Q6 (g:=g3 n) k3 (by omega)
     refine⟨⟨trivial,trivial,trivial⟩,⟨?_,⟨g3 n,by omega,by rw[hn];exact Qjac d1,by rw[hn];exact Qjac d2,by rw[hn];exact Qjac d3⟩,rfl⟩⟩
     obtain⟨⟨a1,a2⟩,⟨a3,a4⟩,a5,a6⟩:=(Ka2 a).1 ha;have r1:=mb q1.1 q1.2 a1 a2;have r2:=mb q2.1 q2.2 a3 a4;have r3:=mb q3.1 q3.2 a5 a6;unfold okp;rw[Af9 n h0];simp only[List.all_cons,List.all_nil,Qjg,Qjc,Za8,beq_self_eq_true,true_and,and_true];refine⟨⟨q1,q2,q3⟩,?_⟩;unfold Sm dot
     simp only
     omega
theorem hf8(a b c:V3):Bd (G5 a b c).1:=by
 cases h:(G5 a b c).2 with
 |true=>exact Kb4 (xa7 h).2.ok
 |false =>
  have:(G5 a b c).1=⟨⟨0,0,0⟩,0⟩:=by
   unfold G5 at h ⊢;split
   ·rename_i hc;rw[if_pos hc] at h;split
    ·rfl
    ·rename_i h0;rw[if_neg h0] at h;cases h
   ·rfl
  rw[this]
  constructor<;>simp
theorem Cc4{p:Pln}(h:okp p=true):okp (ma0 p)=true:=by
 unfold okp ma0 g3 at *
 simp only[List.all_cons,List.all_nil,Qjg,Qjc,Za8,Int.natAbs_neg] at h ⊢;obtain⟨⟨h1,h2,h3⟩,h4,h5⟩:=h;exact⟨⟨h1.neg,h2.neg,h3.neg⟩,h4,h5.neg⟩
def ze3(l:List V3)(p:Pln):Bool:=l.any λv=>ba9 p v != 0
def nf(l:List V3)(a c k:Nat):Bool:=(G5 (gL tV l a) (gL tV l c) (gL tV l k)).2&&ze3 l (G5 (gL tV l a) (gL tV l c) (gL tV l k)).1
def nf2(l:List V3)(a c:Nat):Bool:=(List.range c).any (nf l a c)
def nf1(l:List V3)(a:Nat):Bool:=(List.range a).any (nf2 l a)
def nf0(l:List V3):Bool:=(List.range l.length).any (nf1 l)
theorem kd9 {σ : Type} {step : σ → Stp σ} {mk : Nat → σ} (n : Nat) (c : Nat → Bool) (u fin : Nat) (hn : n ≤ 1000000000) (h : ∀ j, j < n → step (mk j) = sl (c j) (.exit u) (.next (mk (j + 1)))) (hf : step (mk n) = .exit fin) :
  ∃j,lp step (mk 0)=(if (List.range n).any c then u else fin,mk j):=by
 have key:=ea3 (step:=step) (mk:=λj (_:Unit)=>mk j) n (λj _=>j<=n/\∀i,i<j->c i=false) (λt s=>t=(if (List.range n).any c then u else fin)/\∃j,s=mk j) hn
  (λj _ hj hi=>by
   rw[h j hj];refine Nx.sl (λhc=>.ex ⟨?_,j,rfl⟩) (λhc=>.nx ⟨(),rfl,by omega,λi hi'=>?_⟩)
   ·rw[if_pos (Qjm.2 ⟨j,Qjav.2 hj,hc⟩)]
   ·by_cases e:i=j
    ·rw[e];exact hc
    ·exact hi.2 i (by omega))
  (λj _ hj hi=>by
   have e:j=n:=by omega
   subst e;refine⟨fin,hf,?_,j,rfl⟩;rw[if_neg λhh=>?_]
   obtain⟨i,hi1,hi2⟩:=Qjm.1 hh;rw[hi.2 i (Qjav.1 hi1)] at hi2;cases hi2) 0 () ⟨by omega,by omega⟩
 obtain⟨t,s,h1,rfl,j,rfl⟩:=key;exact⟨j,h1⟩
theorem Qe1(l:List V3)(x1 x2 x3:Int)(okb:Bool)(p:Pln)(hl:l.length<=1000000000):∃t s,lp (C7 ⟨l,x1,x2,x3,okb,p.n.x,p.n.y,p.n.z,p.b⟩) ⟨0⟩=(t,s)/\(((okb&&ze3 l p)=true/\t=1)\/((okb&&ze3 l p)=false/\(t=2\/t=3))):=by
 cases okb with
 |false =>
  cases l with
  |nil =>
   refine⟨3,⟨0⟩,?_,.inr ⟨rfl,.inr rfl⟩⟩;exact qe6 (step:=C7 ⟨[],x1,x2,x3,false,p.n.x,p.n.y,p.n.z,p.b⟩) rfl
  |cons v l =>
   refine⟨2,⟨0⟩,?_,.inr ⟨rfl,.inl rfl⟩⟩;refine qe6 (step:=C7 ⟨v::l,x1,x2,x3,false,p.n.x,p.n.y,p.n.z,p.b⟩) ?_;simp only[C7,ba4];rw[btD (by simp only[List.length_cons];omega)]
   rfl
 |true =>
  have h:=Ic9 (step:=C7 ⟨l,x1,x2,x3,true,p.n.x,p.n.y,p.n.z,p.b⟩) (mk:=λj=>(⟨(j:Int)⟩:ha8)) (c:=λv=>ba9 p v != 0) (u:=1) (fin:=3) tV l hl
   (λj hj=>by
    simp only[C7,ba4,Oe0,Af7,Int.toNat_natCast,o8 hj (show l.length<=4611686018427387904 by omega)]
    rw[btD (l6 hj),bt (f8 hj)]
    rfl)
   (by simp only[C7,ba4];rw[bfD (q8 (Qjk _))]) 0 (Qjs _)
  rw[Qjl] at h;have h:(lp (C7 ⟨l,x1,x2,x3,true,p.n.x,p.n.y,p.n.z,p.b⟩) ⟨0⟩).1=_:=h;cases hlp:lp (C7 ⟨l,x1,x2,x3,true,p.n.x,p.n.y,p.n.z,p.b⟩) ⟨0⟩ with
  |mk t s =>
  rw[hlp] at h;refine⟨t,s,rfl,?_⟩
  simp only at h
  rw[h];unfold ze3;cases hh:l.any λv=>ba9 p v != 0 with
  |true=>exact .inl ⟨rfl,rfl⟩
  |false=>exact .inr ⟨rfl,.inr rfl⟩
theorem Qe2(l:List V3)(hl:l.length<=1000000000)(a c:Nat)(ha:a<l.length)(hc:c<a):∃j,lp (S5 ⟨(a:Int),(c:Int)⟩) ⟨l,0⟩=(if nf2 l a c then 1 else 2,⟨l,((j:Nat):Int)⟩) :=
 kd9 (step:=S5 ⟨(a:Int),(c:Int)⟩) (mk:=λj=>(⟨l,(j:Int)⟩:ha9)) c (nf l a c) 1 2 (by omega)
  (λj hj=>by
   simp only[S5,la5,ye5,yd1,Int.toNat_natCast,l9,k9,o8 hj (show c<=4611686018427387904 by omega)]
   rw[btD (l6 hj),bt (f8 ha),bt (f8 (show c<l.length by omega)),bt (f8 (show j<l.length by omega)),o9]
   obtain⟨t,s,h1,h2⟩:=Qe1 l (a:Int) (c:Int) (j:Int) (G5 (gL tV l a) (gL tV l c) (gL tV l j)).2 (G5 (gL tV l a) (gL tV l c) (gL tV l j)).1 hl;rw[h1];unfold nf
   rcases h2 with⟨e,rfl⟩|⟨e,rfl|rfl⟩<;>rw[e]<;>rfl)
  (by simp only[S5,la5];rw[bfD (q8 (Qjk _))])
theorem Qe3(l:List V3)(hl:l.length<=1000000000)(a:Nat)(ha:a<l.length):∃j,lp (S6 ⟨(a:Int)⟩) ⟨l,0⟩=(if nf1 l a then 1 else 2,⟨l,((j:Nat):Int)⟩) :=
 kd9 (step:=S6 ⟨(a:Int)⟩) (mk:=λj=>(⟨l,(j:Int)⟩:ia0)) a (nf2 l a) 1 2 (by omega)
  (λj hj=>by
   obtain⟨j',h1⟩:=Qe2 l hl a j ha hj;simp only[S6,la6,l9,k9,o8 hj (show a<=4611686018427387904 by omega)]
   rw[btD (l6 hj),h1];cases nf2 l a j<;>rfl)
  (by simp only[S6,la6];rw[bfD (q8 (Qjk _))])
theorem hf9(l:List V3)(hl:l.length<=1000000000):Sa6 l=some (b (!nf0 l),[]):=by
 obtain⟨j,h⟩:=kd9 (step:=S7 ⟨⟩) (mk:=λj=>(⟨l,(j:Int)⟩:ia1)) l.length (nf1 l) 1 2 hl
  (λj hj=>by
   obtain⟨j',h1⟩:=Qe3 l hl j hj;simp only[S7,la7,l9,k9,o8 hj (show l.length<=4611686018427387904 by omega)]
   rw[btD (l6 hj),h1];cases nf1 l j<;>rfl)
  (by simp only[S7,la7];rw[bfD (q8 (Qjk _))])
 have h:lp (S7 ⟨⟩) ⟨l,0⟩=(if nf0 l then 1 else 2,⟨l,((j:Nat):Int)⟩):=h
 unfold Sa6;simp only[l9,k9];rw[h];cases nf0 l<;>rfl
theorem Bf0(l:List V3)(hl:l.length<=1000000000):xb7 l=!nf0 l:=by unfold xb7;rw[hf9 l hl];rfl
def hold(p:Pln)(l:List V3):Bool:=!l.any λv=>decide (ba9 p v>0)
def Xd0 (l:List V3) (a c:Nat) (out:List Pln) (k:Nat):List Pln :=
  if (G5 (gL tV l a) (gL tV l c) (gL tV l k)).2 then
    (if hold (ma0 (G5 (gL tV l a) (gL tV l c) (gL tV l k)).1) l then Id4 (if hold (G5 (gL tV l a) (gL tV l c) (gL tV l k)).1 l then Id4 out (G5 (gL tV l a) (gL tV l c) (gL tV l k)).1 else out) (ma0 (G5 (gL tV l a) (gL tV l c) (gL tV l k)).1)
     else (if hold (G5 (gL tV l a) (gL tV l c) (gL tV l k)).1 l then Id4 out (G5 (gL tV l a) (gL tV l c) (gL tV l k)).1 else out))
  else out
def F2(l:List V3)(a:Nat)(out:List Pln)(c:Nat):List Pln:=(List.range c).foldl (Xd0 l a c) out
def F1(l:List V3)(out:List Pln)(a:Nat):List Pln:=(List.range a).foldl (F2 l a) out
def F0(l:List V3):List Pln:=(List.range l.length).foldl (F1 l) []
theorem M0 {τ:Type} (f:τ→Nat→τ) (a:τ) (n:Nat):(List.range (n+1)).foldl f a=f ((List.range n).foldl f a) n:=by
  rw[List.range_succ,List.foldl_append];rfl
theorem ld0 {f:List Pln→Nat→List Pln} {m:Nat} (h:∀ o k,(f o k).length≤o.length+m) (o:List Pln):∀ n,((List.range n).foldl f o).length≤o.length+m*n
  |0=>Nat.le_refl _
  | n+1=>by
    rw[M0];have h1:=h ((List.range n).foldl f o) n;have h2:=ld0 h o n;rw[Nat.mul_succ];omega
def Cc5(l:List Pln)(p:Pln):Bool:=l.any λq=>eqP q p
theorem Xd1(l:List Pln)(p:Pln):Cc5 l p=true↔p∈l:=by
 unfold Cc5;rw[Qjm];exact⟨λ⟨q,h,e⟩=>by rw[Bc9] at e;exact e ▸ h,λh=>⟨p,h,(Bc9 p p).2 rfl⟩⟩
theorem Qe4{c:List Pln}(hf:ful c=true):(chk c==0)=true/\Bds (c++ws)/\ie7 (c++ws):=by
 unfold ful at hf;rw[Qjc] at hf;have hb:=(Tb7 hf.1).1;exact⟨hf.1,hb,(yd7 hb (ie8 c) (by simp[ws])).1 hf.2⟩
def ipt(v:V3):Pt:=⟨v.x,v.y,v.z,1⟩
theorem Qe5{v:V3}(h:inV v=true):∀p∈ws,0<=rmZ p (ipt v):=by
 obtain⟨⟨a1,a2⟩,⟨a3,a4⟩,a5,a6⟩:=(Ka2 v).1 h;intro p hp;simp only[ws,Qja,Qjai,or_false] at hp
 rcases hp with rfl|rfl|rfl|rfl|rfl|rfl<;>simp only[rmZ,ipt]<;>omega
theorem if0{c:List Pln}{x:Pt}(hb:∀p∈c,Bd p)(hx:Okx x):inn c x=true↔∀p∈c,0<=rmZ p x:=by
 unfold inn;rw[Qjn];refine⟨λh p hp=>?_,λh p hp=>?_⟩
 ·have:=h p hp
  rw[ze0 (hb p hp) hx] at this;simpa using this
 ·rw[ze0 (hb p hp) hx];simpa using h p hp
theorem ie9{p:Pln}(h:okp p=true):g3 p.n=1:=by
 unfold okp at h;simp only[Qjc,beq_iff_eq] at h;exact h.2.1
theorem Ab7{p:Pln}(h:okp p=true):p.n≠⟨0,0,0⟩:=λe=>by
 have:=ie9 h
 rw[e] at this
 revert this
 decide
theorem Qe6(c:Int)(n:V3):g3 ⟨c*n.x,c*n.y,c*n.z⟩=c.natAbs*g3 n:=by
 unfold g3;simp only[Int.natAbs_mul,Nat.gcd_mul_left];rw[Int.natCast_mul]
theorem Qe7{m n:V3}(hm:g3 m=1)(hn:g3 n=1)(h:c8 m n=⟨0,0,0⟩):n=m\/n=neg m:=by
 unfold c8 at h;simp only[V3.mk.injEq] at h;obtain⟨c1,c2,c3⟩:=h;have k:∀{c d:Int},c*m.x=d*n.x->c*m.y=d*n.y->c*m.z=d*n.z->c.natAbs=d.natAbs:=λ{c d} e1 e2 e3=>by
  have a1:=Qe6 c m;have a2:=Qe6 d n;rw[e1,e2,e3,a2,hm,hn] at a1;omega
 have ax:=k (c:=n.x) (d:=m.x) (by grind) (by grind) (by grind)
 have ay:=k (c:=n.y) (d:=m.y) (by grind) (by grind) (by grind)
 have az:=k (c:=n.z) (d:=m.z) (by grind) (by grind) (by grind)
 have sg:∀{a c:Int},a.natAbs=c.natAbs->a=c\/a=-c:=λh=>by omega
 -- the sign of one component that is not zero is that of all
 have go:∀{s u t v:Int},u≠0->s*v=u*t->s=u->t=v:=λ{s u t v} hu h e=>by
  subst e;exact (Qjap hu h).symm
 have gn:∀{s u t v:Int},u≠0->s*v=u*t->s=-u->t=-v:=λ{s u t v} hu h e=>by
  subst e
  have:u*t=u*(-v):=by rw[<- h];grind
  exact Qjap hu this
 by_cases hx:m.x=0
 ·have hx':n.x=0:=by omega
  by_cases hy:m.y=0
  ·have hy':n.y=0:=by omega
   rcases sg az with e|e
   ·exact .inl (V3.ext' (by omega) (by omega) e)
   ·exact .inr (V3.ext' (by show n.x=-m.x;omega) (by show n.y=-m.y;omega) e)
  ·rcases sg ay with e|e
   ·exact .inl (V3.ext' (by omega) e (go hy (by grind) e))
   ·exact .inr (V3.ext' (by show n.x=-m.x;omega) e (gn hy (by grind) e))
 ·rcases sg ax with e|e
  ·exact .inl (V3.ext' e (go hx (by grind) e) (go hx (by grind) e))
  ·exact .inr (V3.ext' e (gn hx (by grind) e) (gn hx (by grind) e))
structure Zf8(l:List V3):Prop where
 h:∃a c k v,a∈l/\c∈l/\k∈l/\v∈l/\dot (c8 (sub c a) (sub k a)) (sub v a)≠0
theorem gLm{l:List V3}{j:Nat}(h:j<l.length):gL tV l j∈l:=zb2 tV h
theorem Bf1{l:List V3}(hf:nf0 l=true):Zf8 l:=by
 unfold nf0 at hf;obtain⟨a,ha,hf⟩:=Qjm.1 hf;unfold nf1 at hf;obtain⟨c,hc,hf⟩:=Qjm.1 hf;unfold nf2 at hf;obtain⟨k,hk,hf⟩:=Qjm.1 hf;rw[Qjav] at ha hc hk;unfold nf at hf;rw[Qjc] at hf;obtain⟨h1,h2⟩:=hf;obtain⟨⟨i1,i2,i3⟩,⟨ok,⟨g,hg,e1,e2,e3⟩,o⟩⟩:=xa7 h1;unfold ze3 at h2;obtain⟨v,hv,h2⟩:=Qjm.1 h2;generalize (G5 (gL tV l a) (gL tV l c) (gL tV l k)).1=p at *
 refine⟨_,_,_,v,gLm ha,gLm (show c<l.length by omega),gLm (show k<l.length by omega),hv,λh0=>?_⟩
 have hs:ba9 p v≠0:=by simpa using h2
 have hiv:inV v=true:=by
  cases hi:inV v with
  |true=>rfl
  |false=>exact absurd (by unfold ba9;rw[ok,hi];rfl) hs
 apply hs;rw[Ob9 ok hiv,o]
 have:g*(dot p.n v-dot p.n (gL tV l a))=dot (c8 (sub (gL tV l c) (gL tV l a)) (sub (gL tV l k) (gL tV l a))) (sub v (gL tV l a)):=by
  unfold dot;rw[<- e1,<- e2,<- e3];unfold sub
  grind
 rw[h0] at this
 have:=(Qjf.1 this).resolve_left (by omega)
 omega
theorem Qe8{a c k v n:V3}(hd:dot (c8 (sub c a) (sub k a)) (sub v a)≠0)(hn:n≠⟨0,0,0⟩)(h1:dot n c=dot n a)(h2:dot n k=dot n a)(h3:dot n v=dot n a):False:=by
 generalize hD:dot (c8 (sub c a) (sub k a)) (sub v a)=D at *
 have q1:dot n (sub c a)=0:=by unfold dot sub at *;grind
 have q2:dot n (sub k a)=0:=by unfold dot sub at *;grind
 have q3:dot n (sub v a)=0:=by unfold dot sub at *;grind
 generalize sub c a=p at *
 generalize sub k a=q at *
 generalize sub v a=r at *
 have i1:D*n.x=(c8 q r).x*dot n p+(c8 r p).x*dot n q+(c8 p q).x*dot n r:=by rw[<- hD];simp only[dot,c8];grind
 have i2:D*n.y=(c8 q r).y*dot n p+(c8 r p).y*dot n q+(c8 p q).y*dot n r:=by rw[<- hD];simp only[dot,c8];grind
 have i3:D*n.z=(c8 q r).z*dot n p+(c8 r p).z*dot n q+(c8 p q).z*dot n r:=by rw[<- hD];simp only[dot,c8];grind
 rw[q1,q2,q3] at i1 i2 i3;have z:∀{x:Int},D*x=0->x=0:=λh=>(Qjf.1 h).resolve_left hd
 exact hn (V3.ext' (z (by omega)) (z (by omega)) (z (by omega)))
theorem Ab8{p:Pln}{l:List V3}(hp:okp p=true)(hl:l.all inV=true):hold p l=true↔∀v∈l,dot p.n v<=p.b:=by
 unfold hold;rw[Qjah,<- Bool.not_eq_true,Qjm];constructor
 ·intro h v hv;have h1:¬ ba9 p v>0:=λh'=>h ⟨v,hv,by simpa using h'⟩
  rw[kd8 hp (Qjn.1 hl v hv)] at h1;omega
 ·rintro h ⟨v,hv,h1⟩;have h1:ba9 p v>0:=by simpa using h1
  rw[kd8 hp (Qjn.1 hl v hv)] at h1
  have:=h v hv
  omega
structure Fct(l:List V3)(p:Pln):Prop where
 ok:okp p=true
 hd:hold p l=true
theorem Cc6(p:Pln)(v:V3):dot (ma0 p).n v=-dot p.n v:=by unfold dot ma0;grind
theorem ze4 (l : List V3) (a c k : Nat) (out : List Pln) (p : Pln) : p ∈ Xd0 l a c out k ↔ p ∈ out ∨ ((G5 (gL tV l a) (gL tV l c) (gL tV l k)).2 = true ∧
  ((p=(G5 (gL tV l a) (gL tV l c) (gL tV l k)).1/\hold p l=true)\/(p=ma0 (G5 (gL tV l a) (gL tV l c) (gL tV l k)).1/\hold p l=true))):=by
 unfold Xd0;generalize G5 (gL tV l a) (gL tV l c) (gL tV l k)=T;cases h2:T.2 with
 |false=>simp
 |true =>
  simp only[if_true];cases h4:hold (ma0 T.1) l with
  |false =>
   simp only[Qjan,if_false];cases h3:hold T.1 l with
   |false =>
    simp only[Qjan,if_false];constructor
    ·exact λh=>.inl h
    ·rintro (h|⟨_,⟨rfl,h⟩|⟨rfl,h⟩⟩)
     ·exact h
     ·rw[h3] at h;cases h
     ·rw[h4] at h;cases h
   |true =>
    simp only[if_true,fc1];constructor
    ·rintro (rfl|h)
     ·exact .inr ⟨trivial,.inl ⟨rfl,h3⟩⟩
     ·exact .inl h
    ·rintro (h|⟨_,⟨rfl,h⟩|⟨rfl,h⟩⟩)
     ·exact .inr h
     ·exact .inl rfl
     ·rw[h4] at h;cases h
  |true =>
   simp only[if_true,fc1];cases h3:hold T.1 l with
   |false =>
    simp only[Qjan,if_false];constructor
    ·rintro (rfl|h)
     ·exact .inr ⟨trivial,.inr ⟨rfl,h4⟩⟩
     ·exact .inl h
    ·rintro (h|⟨_,⟨rfl,h⟩|⟨rfl,h⟩⟩)
     ·exact .inr h
     ·rw[h3] at h;cases h
     ·exact .inl rfl
   |true =>
    simp only[if_true,fc1];constructor
    ·rintro (rfl|rfl|h)
     ·exact .inr ⟨trivial,.inr ⟨rfl,h4⟩⟩
     ·exact .inr ⟨trivial,.inl ⟨rfl,h3⟩⟩
     ·exact .inl h
    ·rintro (h|⟨_,⟨rfl,h⟩|⟨rfl,h⟩⟩)
     ·exact .inr (.inr h)
     ·exact .inr (.inl rfl)
     ·exact .inl rfl
theorem Ab9{f:List Pln->Nat->List Pln}{Q:Nat->Pln->Prop}(h:∀o k p,p∈f o k↔p∈o\/Q k p)(o:List Pln)(p:Pln):∀n,p∈(List.range n).foldl f o↔p∈o\/∃k,k<n/\Q k p
 |0=>by simp
 |n+1=>by
  rw[M0,h,Ab9 h o p n];constructor
  ·rintro ((h|⟨k,hk,h⟩)|h)
   ·exact .inl h
   ·exact .inr ⟨k,by omega,h⟩
   ·exact .inr ⟨n,by omega,h⟩
  ·rintro (h|⟨k,hk,h⟩)
   ·exact .inl (.inl h)
   ·by_cases e:k=n
    ·subst e;exact .inr h
    ·exact .inl (.inr ⟨k,by omega,h⟩)
def Fq (l : List V3) (a c k : Nat) (p : Pln) : Prop := (G5 (gL tV l a) (gL tV l c) (gL tV l k)).2 = true ∧
  ((p=(G5 (gL tV l a) (gL tV l c) (gL tV l k)).1/\hold p l=true)\/(p=ma0 (G5 (gL tV l a) (gL tV l c) (gL tV l k)).1/\hold p l=true))
theorem Bf2(l:List V3)(a c:Nat)(out:List Pln)(p:Pln):p∈F2 l a out c↔p∈out\/∃k,k<c/\Fq l a c k p:=Ab9 (λo k p=>ze4 l a c k o p) out p c
theorem Bf3(l:List V3)(a:Nat)(out:List Pln)(p:Pln):p∈F1 l out a↔p∈out\/∃c,c<a/\∃k,k<c/\Fq l a c k p:=Ab9 (λo c p=>Bf2 l a c o p) out p a
theorem je0(l:List V3)(p:Pln):p∈F0 l↔∃a,a<l.length/\∃c,c<a/\∃k,k<c/\Fq l a c k p:=by
 have:=Ab9 (λo a p=>Bf3 l a o p) [] p l.length
 simpa [F0] using this
theorem ze5{l:List V3}{a c:Nat}{out:List Pln}{k:Nat}(h:lb2 out):lb2 (Xd0 l a c out k):=by
 unfold Xd0;split
 ·split
  ·refine Cc2 _ ?_;split
   ·exact Cc2 _ h
   ·exact h
  ·split
   ·exact Cc2 _ h
   ·exact h
 ·exact h
theorem Cc7{f:List Pln->Nat->List Pln}(h:∀o k,lb2 o->lb2 (f o k)){o:List Pln}(ho:lb2 o):∀n,lb2 ((List.range n).foldl f o)
 |0=>ho
 |n+1=>by rw[M0];exact h _ _ (Cc7 h ho n)
theorem Bf4{l:List V3}{a c:Nat}{out:List Pln}(h:lb2 out):lb2 (F2 l a out c):=Cc7 (λ_ _ h=>ze5 h) h c
theorem Bf5{l:List V3}{a:Nat}{out:List Pln}(h:lb2 out):lb2 (F1 l out a):=Cc7 (λ_ _ h=>Bf4 h) h a
theorem tc4(l:List V3):lb2 (F0 l):=Cc7 (λ_ _ h=>Bf5 h) .nil l.length
theorem ic8{l:List Pln}(h:lb2 l):l.Nodup:=List.Pairwise.imp (λ{x y} (h:LtP x y) (e:x=y)=>Yc3 y (e ▸ h)) h
theorem Id7{l:List V3}{p:Pln}(hp:p∈F0 l):Fct l p:=by
 obtain⟨a,ha,c,hc,k,hk,h1,⟨h2,h3⟩|⟨h2,h3⟩⟩:=(je0 l p).1 hp
 ·exact⟨h2 ▸ (xa7 h1).2.ok,h3⟩
 ·exact⟨h2 ▸ Cc4 (xa7 h1).2.ok,h3⟩
theorem if1{l:List V3}(hl:l.all inV=true)(hf:nf0 l=true):ie7 (F0 l++ws):=by
 obtain⟨a,c,k,v,ha,hc,hk,hv,hd⟩:=Bf1 hf;have hin:=Qjn.1 hl
 -- a plane on whose ba9 all Bf1 lie has their middle within
 have key:∀p:Pln,p.n≠⟨0,0,0⟩->dot p.n a<=p.b->dot p.n c<=p.b->dot p.n k<=p.b->dot p.n v<=p.b->0<rmZ p ⟨a.x+c.x+k.x+v.x,a.y+c.y+k.y+v.y,a.z+c.z+k.z+v.z,4⟩:=λp hn h1 h2 h3 h4=>by
  have e:rmZ p ⟨a.x+c.x+k.x+v.x,a.y+c.y+k.y+v.y,a.z+c.z+k.z+v.z,4⟩=(p.b-dot p.n a)+(p.b-dot p.n c)+(p.b-dot p.n k)+(p.b-dot p.n v):=by simp only[rmZ,dot];grind
  rw[e];by_cases q:dot p.n a=p.b/\dot p.n c=p.b/\dot p.n k=p.b/\dot p.n v=p.b
  ·obtain⟨q1,q2,q3,q4⟩:=q;exact (Qe8 hd hn (q2.trans q1.symm) (q3.trans q1.symm) (q4.trans q1.symm)).elim
  ·omega
 refine⟨⟨a.x+c.x+k.x+v.x,a.y+c.y+k.y+v.y,a.z+c.z+k.z+v.z,4⟩,by show (0:Int)<4;omega,λp hp=>?_⟩
 rcases Qjar.1 hp with h|h
 ·have hF:=Id7 h;have hb:=(Ab8 hF.ok hl).1 hF.hd;exact key p (Ab7 hF.ok) (hb a ha) (hb c hc) (hb k hk) (hb v hv)
 ·have hw : ∀ x ∈ l, dot p.n x ≤ p.b := fun x hx => by
   have:=Qe5 (hin x hx) p h
   simp only[rmZ,ipt,dot] at this ⊢;omega
  refine key p ?_ (hw a ha) (hw c hc) (hw k hk) (hw v hv);have h1:∀q∈ws,okp q=true:=Qjn.1 (by decide)
  exact Ab7 (h1 p h)
structure Id8(c:List Pln):Prop where
 l:c.length<=47
 v:∀p∈c,okp p=true
 f:ie7 (c++ws)
theorem Id8.chk{c:List Pln}(h:Id8 c):(chk c==0)=true:=by
 rw[beq_iff_eq,jd4];exact⟨by have:=h.l;omega,h.v⟩
theorem Id8.bds{c:List Pln}(h:Id8 c):Bds (c++ws):=(Tb7 h.chk).1
theorem Id8.ful{c:List Pln}(h:Id8 c):ful c=true:=by
 unfold Ce.ful;rw[h.chk,(yd7 h.bds (ie8 c) (by simp[ws])).2 h.f]
 rfl
theorem Id8.pts{c:List Pln}(h:Id8 c):pts c=cor (c++ws):=by unfold Ce.pts;rw[if_pos h.chk]
end Go.Ev.Ce
namespace Go.Ev.Ce
def C3(a b:V3):V3:=⟨a.x-b.x,a.y-b.y,a.z-b.z⟩
def N3(u w x:V3):V3:=c8 (C3 w u) (C3 x u)
def Xb4:List V3->V3
 |[]=>⟨0,0,0⟩
 |v::l=>⟨v.x+(Xb4 l).x,v.y+(Xb4 l).y,v.z+(Xb4 l).z⟩
def Cc8:List Int->Int
 |[]=>0
 |x::l=>x+Cc8 l
theorem Xd2(n:V3):∀l:List V3,dot n (Xb4 l)=Cc8 (l.map (dot n))
 |[]=>by simp[Xb4,Cc8,dot]
 |v::l=>by
  have:=Xd2 n l
  simp only[List.map_cons,Cc8,<- this];simp only[Xb4,dot]
  grind
theorem Xd3(m s:Int):∀l:List Int,Cc8 (l.map λa=>m*a-s)=m*Cc8 l-s*l.length
 |[]=>by simp[Cc8]
 |a::l=>by
  have:=Xd3 m s l
  simp only[List.map_cons,Cc8,this,List.length_cons]
  grind
theorem Pc3:∀{l:List Int},(∀a∈l,a<=0)->Cc8 l<=0
 |[],_=>by simp[Cc8]
 |a::l,h=>by
  have:=Pc3 (l:=l) λx hx=>h x (Qjb _ hx)
  have:=h a Qjd
  simp only[Cc8];omega
theorem Lc3:∀{l:List Int},(∀a∈l,a<=0)->Cc8 l=0->∀a∈l,a=0
 |[],_,_=>λa ha=>by cases ha
 |a::l,h,h0=>by
  have h1:=Pc3 (l:=l) λx hx=>h x (Qjb _ hx)
  have h2:=h a Qjd;simp only[Cc8] at h0;intro b hb
  rcases Qja.1 hb with rfl|hb
  ·omega
  ·exact Lc3 (l:=l) (λx hx=>h x (Qjb _ hx)) (by omega) b hb
def Sol(l:List V3):Prop:=∃a c k v,a∈l/\c∈l/\k∈l/\v∈l/\dot (N3 a c k) (C3 v a)≠0
theorem Sol.off{l:List V3}(h:Sol l){n:V3}(hn:n≠⟨0,0,0⟩)(b:Int):∃v∈l,dot n v≠b:=by
 obtain⟨a,c,k,v,ha,hc,hk,hv,hd⟩:=h;by_cases h1:dot n a=b
 ·by_cases h2:dot n c=b
  ·by_cases h3:dot n k=b
   ·by_cases h4:dot n v=b
    ·exfalso;unfold N3 at hd;generalize hD:dot (c8 (C3 c a) (C3 k a)) (C3 v a)=D at *
     have q1:dot n (C3 c a)=0:=by unfold dot C3 at *;grind
     have q2:dot n (C3 k a)=0:=by unfold dot C3 at *;grind
     have q3:dot n (C3 v a)=0:=by unfold dot C3 at *;grind
     generalize C3 c a=p at *
     generalize C3 k a=q at *
     generalize C3 v a=r at *
     have i1:D*n.x=(c8 q r).x*dot n p+(c8 r p).x*dot n q+(c8 p q).x*dot n r:=by rw[<- hD];simp only[dot,c8];grind
     have i2:D*n.y=(c8 q r).y*dot n p+(c8 r p).y*dot n q+(c8 p q).y*dot n r:=by rw[<- hD];simp only[dot,c8];grind
     have i3:D*n.z=(c8 q r).z*dot n p+(c8 r p).z*dot n q+(c8 p q).z*dot n r:=by rw[<- hD];simp only[dot,c8];grind
     rw[q1,q2,q3] at i1 i2 i3;have z:∀{x:Int},D*x=0->x=0:=λh=>(Qjf.1 h).resolve_left hd
     exact hn (V3.ext' (z (by omega)) (z (by omega)) (z (by omega)))
    ·exact⟨v,hv,h4⟩
   ·exact⟨k,hk,h3⟩
  ·exact⟨c,hc,h2⟩
 ·exact⟨a,ha,h1⟩
theorem Sol.ne{l:List V3}(h:Sol l):∃v,v∈l:=by obtain⟨a,_,_,_,ha,_⟩:=h;exact⟨a,ha⟩
structure Fac(l:List V3)(n:V3)(b:Int):Prop where
 hd:∀v∈l,dot n v<=b
 on:∃u w x,u∈l/\w∈l/\x∈l/\N3 u w x≠⟨0,0,0⟩/\dot n u=b/\dot n w=b/\dot n x=b
def Bf6(l:List V3)(c:List Pln):Prop:=∀n b,n≠⟨0,0,0⟩->Fac l n b->∃s t:Int,0<s/\0<t/\∃q∈c,t*q.n.x=s*n.x/\t*q.n.y=s*n.y/\t*q.n.z=s*n.z/\t*q.b=s*b
def pol(m:Int)(S v:V3):Pln:=⟨⟨m*v.x-S.x,m*v.y-S.y,m*v.z-S.z⟩,1⟩
theorem if2(m:Int)(S v d:V3):dot (pol m S v).n d=m*dot d v-dot d S:=by simp only[dot,pol];grind
theorem Xd4(l:List V3)(d:V3):Cc8 (l.map λv=>(l.length:Int)*dot d v-dot d (Xb4 l))=0:=by
 have h:=Xd3 (l.length:Int) (dot d (Xb4 l)) (l.map (dot d));rw[List.map_map] at h;have e:((λa=>(l.length:Int)*a-dot d (Xb4 l))∘dot d)=λv=>(l.length:Int)*dot d v-dot d (Xb4 l):=rfl
 rw[e] at h;rw[h,<- Xd2,List.length_map]
 grind
theorem yd8{a b:V3}(h:dot a b≠0):b≠⟨0,0,0⟩:=λe=>h (by subst e;simp[dot])
theorem ld1{a b:V3}(h:dot a b≠0):a≠⟨0,0,0⟩:=λe=>h (by subst e;simp[dot])
theorem re0{l:List V3}(h:Sol l):0<(l.length:Int):=by
 obtain⟨v,hv⟩:=h.ne
 have:=List.length_pos_of_mem hv
 omega
theorem if3{l:List V3}(h:Sol l):Bdd (l.map (pol l.length (Xb4 l))):=λd hd=>by
 by_cases hh:∃p∈l.map (pol l.length (Xb4 l)),0<dot p.n d
 ·exact hh
 exfalso;have hm:=re0 h;have hall:∀a∈l.map (λv=>(l.length:Int)*dot d v-dot d (Xb4 l)),a<=0:=λa ha=>by
  obtain⟨v,hv,rfl⟩:=Qjj.1 ha;refine Int.not_lt.1 λh'=>hh ⟨pol l.length (Xb4 l) v,Qjj.2 ⟨v,hv,rfl⟩,?_⟩
  rw[if2];omega
 have hz:=Lc3 hall (Xd4 l d);obtain⟨a,ha⟩:=h.ne;obtain⟨v,hv,hne⟩:=h.off hd (dot d a);have e1:=hz _ (Qjj.2 ⟨a,ha,rfl⟩);have e2:=hz _ (Qjj.2 ⟨v,hv,rfl⟩);apply hne
 have:(l.length:Int)*(dot d v-dot d a)=0:=by grind
 have:=(Qjf.1 this).resolve_left (by omega)
 omega
theorem ic9{l:List V3}(h4:Sol l){c:List Pln}(hc:Bf6 l c){x:Pt}(hx:Inr c x){h:Pln}(hh:∀v∈l,dot h.n v<=h.b):0<=rmZ h x:=by
 have hm:=re0 h4;have hr:=if3 h4;generalize hS:Xb4 l=S at hr;generalize hM:(l.length:Int)=m at hr hm
 -- the linear function on the polar
 have hv:∀y,Cn (l.map (pol m S)) y->0<=rmZ ⟨⟨m*x.px-x.pw*S.x,m*x.py-x.pw*S.y,m*x.pz-x.pw*S.z⟩,x.pw⟩ y:=λy hy=>by
  obtain⟨p1,p2,p3,hp1,hp2,hp3,hw,e1,e2,e3⟩:=hy.c;obtain⟨v1,m1,rfl⟩:=Qjj.1 hp1;obtain⟨v2,m2,rfl⟩:=Qjj.1 hp2;obtain⟨v3,m3,rfl⟩:=Qjj.1 hp3;have rp:∀v,rmZ (pol m S v) y=y.pw-(m*dot ⟨y.px,y.py,y.pz⟩ v-dot ⟨y.px,y.py,y.pz⟩ S):=λv=>by simp only[rmZ,pol,dot];grind
  rw[rp] at e1 e2 e3;have hn3:dot (pol m S v1).n (N3 v1 v2 v3)≠0:=λh0=>hw (by
   have:mw (pol m S v1) (pol m S v2) (pol m S v3)=m*m*dot (pol m S v1).n (N3 v1 v2 v3):=by simp only[mw,pol,dot,N3,c8,C3];grind
   rw[this,h0,Qjaq])
  have hne:N3 v1 v2 v3≠⟨0,0,0⟩:=yd8 hn3;have hfac:Fac l ⟨m*y.px,m*y.py,m*y.pz⟩ (y.pw+dot ⟨y.px,y.py,y.pz⟩ S):=by
   have ed:∀v,dot ⟨m*y.px,m*y.py,m*y.pz⟩ v=m*dot ⟨y.px,y.py,y.pz⟩ v:=λv=>by simp only[dot];grind
   refine⟨λv hv=>?_,v1,v2,v3,m1,m2,m3,hne,?_,?_,?_⟩
   ·have:=hy.h (pol m S v) (Qjj.2 ⟨v,hv,rfl⟩)
    rw[rp] at this;rw[ed];omega
   ·rw[ed];omega
   ·rw[ed];omega
   ·rw[ed];omega
  have hyn:(⟨m*y.px,m*y.py,m*y.pz⟩:V3)≠⟨0,0,0⟩:=λe=>by
   have k:∀{a:Int},m*a=0->a=0:=λh=>(Qjf.1 h).resolve_left (by omega)
   simp only[V3.mk.injEq] at e;have a1:=k e.1;have a2:=k e.2.1;have a3:=k e.2.2;rw[a1,a2,a3] at e1;have hw:=hy.w;simp only[dot] at e1;simp only[Qjae,Int.add_zero,Qjaq,Int.sub_zero] at e1;omega
  obtain⟨s,t,hs,ht,q,hq,f1,f2,f3,f4⟩:=hc _ _ hyn hfac;have hxq:=hx.h q hq;have e:t*rmZ q x=s*rmZ ⟨⟨m*x.px-x.pw*S.x,m*x.py-x.pw*S.y,m*x.pz-x.pw*S.z⟩,x.pw⟩ y:=by
   have:t*rmZ q x=(t*q.b)*x.pw-((t*q.n.x)*x.px+(t*q.n.y)*x.py+(t*q.n.z)*x.pz):=by simp only[rmZ];grind
   rw[this,f1,f2,f3,f4];simp only[rmZ,dot];grind
  have h1:=Qjh (Qje ht) hxq;rw[e] at h1;exact Qjal h1 hs
 by_cases hn:h.n=⟨0,0,0⟩
 ·obtain⟨v,hv⟩:=h4.ne;have h1:=hh v hv;have e:rmZ h x=h.b*x.pw:=by simp only[rmZ,hn];grind
  rw[e];rw[hn] at h1;simp only[dot,Qjae,Int.add_zero] at h1;exact Qjh h1 (Qje hx.w)
 ·-- the polar point of h
  have hall:∀a∈l.map (λv=>(l.length:Int)*dot h.n v-dot h.n (Xb4 l)),a<=(l.length:Int)*h.b-dot h.n (Xb4 l):=λa ha=>by
   obtain⟨v,hv,rfl⟩:=Qjj.1 ha
   have:=Qjam (hh v hv) (show 0<=(l.length:Int) by omega)
   omega
  have hpos:0<m*h.b-dot h.n S:=by
   rw[<- hM,<- hS];by_cases h0:0<(l.length:Int)*h.b-dot h.n (Xb4 l)
   ·exact h0
   exfalso;have hz:=Lc3 (λa ha=>by have:=hall a ha;omega) (Xd4 l h.n)
   obtain⟨v,hv,hne⟩:=h4.off hn h.b;have e1:=hz _ (Qjj.2 ⟨v,hv,rfl⟩);have h2:=hh v hv
   have:(l.length:Int)*dot h.n v<(l.length:Int)*h.b:=Int.mul_lt_mul_of_pos_left (by omega) (by omega)
   omega
  have hy:Inr (l.map (pol m S)) ⟨h.n.x,h.n.y,h.n.z,m*h.b-dot h.n S⟩:=⟨hpos,λp hp=>by
   obtain⟨v,hv,rfl⟩:=Qjj.1 hp;have e:rmZ (pol m S v) ⟨h.n.x,h.n.y,h.n.z,m*h.b-dot h.n S⟩=m*(h.b-dot h.n v):=by simp only[rmZ,pol,dot];grind
   rw[e];exact Qjh (by omega) (by have:=hh v hv;omega)⟩
  have h1:=Aa8 hr hv hy;have e:rmZ ⟨⟨m*x.px-x.pw*S.x,m*x.py-x.pw*S.y,m*x.pz-x.pw*S.z⟩,x.pw⟩ ⟨h.n.x,h.n.y,h.n.z,m*h.b-dot h.n S⟩=m*rmZ h x:=by simp only[rmZ,dot];grind
  rw[e] at h1;exact Qjal h1 hm
theorem Id9(own:List V3):(∃a c k,a∈own/\c∈own/\k∈own/\dot a (c8 c k)≠0)\/∃d,d≠(⟨0,0,0⟩:V3)/\∀n∈own,dot n d=0:=by
 by_cases h1:∃a∈own,a≠⟨0,0,0⟩
 ·obtain⟨a,ha,hne⟩:=h1;by_cases h2:∃c∈own,c8 a c≠⟨0,0,0⟩
  ·obtain⟨c,hc,hx⟩:=h2;by_cases h3:∃k∈own,dot k (c8 a c)≠0
   ·obtain⟨k,hk,h⟩:=h3;exact .inl ⟨k,a,c,hk,ha,hc,h⟩
   ·exact .inr ⟨c8 a c,hx,λn hn=>Qjy λh=>h3 ⟨n,hn,h⟩⟩
  ·obtain⟨d,hd,h0⟩:=hf5 hne;refine .inr ⟨d,hd,λn hn=>?_⟩
   have hc:c8 a n=⟨0,0,0⟩:=Qjy λh=>h2 ⟨n,hn,h⟩
   have e:∀{s t:Int},s*t=0->s≠0->t=0:=λh hs=>(Qjf.1 h).resolve_left hs
   unfold c8 at hc;simp only[V3.mk.injEq] at hc;obtain⟨c1,c2,c3⟩:=hc;have k1:a.x*dot n d=0:=by
    have:a.x*dot n d=n.x*dot a d+(a.x*n.y-a.y*n.x)*d.y-(a.z*n.x-a.x*n.z)*d.z:=by simp only[dot];grind
    rw[this,h0,c3,c2];simp
   have k2:a.y*dot n d=0:=by
    have:a.y*dot n d=n.y*dot a d+(a.y*n.z-a.z*n.y)*d.z-(a.x*n.y-a.y*n.x)*d.x:=by simp only[dot];grind
    rw[this,h0,c1,c3];simp
   have k3:a.z*dot n d=0:=by
    have:a.z*dot n d=n.z*dot a d+(a.z*n.x-a.x*n.z)*d.x-(a.y*n.z-a.z*n.y)*d.y:=by simp only[dot];grind
    rw[this,h0,c2,c1];simp
   by_cases hx:a.x=0
   ·by_cases hy:a.y=0
    ·exact e k3 λhz=>hne (V3.ext' hx hy hz)
    ·exact e k2 hy
   ·exact e k1 hx
 ·exact .inr ⟨⟨1, 0, 0⟩, by simp, fun n hn => by
   have:n=⟨0,0,0⟩:=Qjy λh=>h1 ⟨n,hn,h⟩
   rw[this];simp[dot]⟩
theorem big(d:V3):∀c:List Pln,∃N:Int,0<N/\∀p∈c,dot p.n d<=N/\-dot p.n d<=N
 |[]=>⟨1,by decide,λp hp=>by cases hp⟩
 |q::c=>by
  obtain⟨N,h0,h⟩:=big d c;refine⟨N+(dot q.n d).natAbs,by omega,λp hp=>?_⟩
  rcases Qja.1 hp with rfl|hp
  ·omega
  ·have:=h p hp;omega
theorem Cc9{p q s:Pln}(hw:mw p q s≠0){d:V3}(h1:dot p.n d=0)(h2:dot q.n d=0)(h3:dot s.n d=0):d=⟨0,0,0⟩:=by
 have i1:mw p q s*d.x=(c8 q.n s.n).x*dot p.n d+(c8 s.n p.n).x*dot q.n d+(c8 p.n q.n).x*dot s.n d:=by simp only[mw,dot,c8];grind
 have i2:mw p q s*d.y=(c8 q.n s.n).y*dot p.n d+(c8 s.n p.n).y*dot q.n d+(c8 p.n q.n).y*dot s.n d:=by simp only[mw,dot,c8];grind
 have i3:mw p q s*d.z=(c8 q.n s.n).z*dot p.n d+(c8 s.n p.n).z*dot q.n d+(c8 p.n q.n).z*dot s.n d:=by simp only[mw,dot,c8];grind
 rw[h1,h2,h3] at i1 i2 i3;have z:∀{x:Int},mw p q s*x=0->x=0:=λh=>(Qjf.1 h).resolve_left hw
 exact V3.ext' (z (by omega)) (z (by omega)) (z (by omega))
def Spn(c:List Pln)(v:V3):Prop:=∃p q s,p∈c/\q∈c/\s∈c/\mw p q s≠0/\dot p.n v=p.b/\dot q.n v=q.b/\dot s.n v=s.b
theorem if4{l:List V3}(h4:Sol l){c w:List Pln}(hc:Bf6 l c)(hin:∀p∈c++w,∀v∈l,dot p.n v<=p.b){x:Pt}(hx:Cn (c++w) x):∃v∈l,Eqv x ⟨v.x,v.y,v.z,1⟩/\Spn c v:=by
 obtain⟨p,q,s,hp,hq,hs,hw,e1,e2,e3⟩:=hx.c;have hxc:Inr c x:=⟨hx.w,λa ha=>hx.h a (Qjak _ ha)⟩
 have hv:∃v∈l,dot p.n v=p.b/\dot q.n v=q.b/\dot s.n v=s.b:=by
  apply Qjy;intro hno;have h1:=ic9 h4 hc hxc (h:=⟨⟨p.n.x+q.n.x+s.n.x,p.n.y+q.n.y+s.n.y,p.n.z+q.n.z+s.n.z⟩,p.b+q.b+s.b-1⟩) λv hv=>by
   have a1:=hin p hp v hv;have a2:=hin q hq v hv;have a3:=hin s hs v hv;have e:dot ⟨p.n.x+q.n.x+s.n.x,p.n.y+q.n.y+s.n.y,p.n.z+q.n.z+s.n.z⟩ v=dot p.n v+dot q.n v+dot s.n v:=by simp only[dot];grind
   simp only[e]
   have:¬ (dot p.n v=p.b/\dot q.n v=q.b/\dot s.n v=s.b):=λh=>hno ⟨v,hv,h⟩
   omega
  have e:rmZ ⟨⟨p.n.x+q.n.x+s.n.x,p.n.y+q.n.y+s.n.y,p.n.z+q.n.z+s.n.z⟩,p.b+q.b+s.b-1⟩ x=rmZ p x+rmZ q x+rmZ s x-x.pw:=by simp only[rmZ];grind
  rw[e,e1,e2,e3] at h1
  have:=hx.w
  omega
 obtain⟨v,hv,t1,t2,t3⟩:=hv;have hd:(⟨x.px-v.x*x.pw,x.py-v.y*x.pw,x.pz-v.z*x.pw⟩:V3)=⟨0,0,0⟩:=by
  have k:∀{a:Pln},dot a.n v=a.b->rmZ a x=0->dot a.n ⟨x.px-v.x*x.pw,x.py-v.y*x.pw,x.pz-v.z*x.pw⟩=0:=λ{a} h1 h2=>by
   rw[rmZ,<- h1] at h2;simp only[dot] at h2 ⊢
   grind
  exact Cc9 hw (k t1 e1) (k t2 e2) (k t3 e3)
 simp only[V3.mk.injEq] at hd;refine⟨v,hv,⟨?_,?_,?_⟩,?_⟩
 ·show x.px*1=v.x*x.pw;omega
 ·show x.py*1=v.y*x.pw;omega
 ·show x.pz*1=v.z*x.pw;omega
 -- the facets through it span the space
 have hf:∀a:Pln,decide (dot a.n v=a.b)=true↔dot a.n v=a.b:=λa=>by simp
 rcases Id9 ((c.filter λa=>decide (dot a.n v=a.b)).map Pln.n) with⟨a,b,k,ha',hb',hk',hd⟩|⟨d,hd,h0⟩
 ·obtain⟨a,ha,rfl⟩:=Qjj.1 ha';obtain⟨b,hb,rfl⟩:=Qjj.1 hb';obtain⟨k,hk,rfl⟩:=Qjj.1 hk';rw[List.mem_filter,hf] at ha hb hk;exact⟨a,b,k,ha.1,hb.1,hk.1,hd,ha.2,hb.2,hk.2⟩
 ·exfalso;obtain⟨N,hN,hb⟩:=big d c;have h0':∀a∈c,dot a.n v=a.b->dot a.n d=0:=λa ha h=>h0 a.n (Qjj.2 ⟨a,List.mem_filter.2 ⟨ha,by simpa using h⟩,rfl⟩)
  have iny:∀e:V3,(∀a∈c,dot a.n v=a.b->dot a.n e=0)->(∀a∈c,dot a.n e<=N)->Inr c ⟨N*v.x+e.x,N*v.y+e.y,N*v.z+e.z,N⟩:=λe he hle=>⟨hN,λa ha=>by
   have ea:rmZ a ⟨N*v.x+e.x,N*v.y+e.y,N*v.z+e.z,N⟩=N*(a.b-dot a.n v)-dot a.n e:=by simp only[rmZ,dot];grind
   rw[ea];have h1:=hin a (Qjak _ ha) v hv;by_cases ht:dot a.n v=a.b
   ·rw[he a ha ht,ht];simp
   ·have h2:N*1<=N*(a.b-dot a.n v):=Qjam (by omega) (by omega)
    have:=hle a ha
    omega⟩
  have y1:=iny d h0' λa ha=>(hb a ha).1
  have y2:=iny (neg d) (λa ha h=>by rw[Yc4,h0' a ha h];rfl) λa ha=>by rw[Yc4];exact (hb a ha).2
  have z:∀a∈c++w,dot a.n v=a.b->dot a.n d=0:=λa ha ht=>by
   have a1:=ic9 h4 hc y1 (h:=a) (hin a ha);have a2:=ic9 h4 hc y2 (h:=a) (hin a ha);have e1:rmZ a ⟨N*v.x+d.x,N*v.y+d.y,N*v.z+d.z,N⟩=N*(a.b-dot a.n v)-dot a.n d:=by simp only[rmZ,dot];grind
   have e2:rmZ a ⟨N*v.x+(neg d).x,N*v.y+(neg d).y,N*v.z+(neg d).z,N⟩=N*(a.b-dot a.n v)+dot a.n d:=by simp only[rmZ,dot,neg];grind
   rw[e1,ht] at a1;rw[e2,ht] at a2;simp only[Int.sub_self,Qjaq] at a1 a2;omega
  exact hd (Cc9 hw (z p hp t1) (z q hq t2) (z s hs t3))
end Go.Ev.Ce
