/- Own work. -/
import Derived.Test.YtkfaiccnekeklaaGreatDoorEvOaT3
import Derived.ChangeStays
import Derived.ChangeSame
import Derived.OpenShut
import Derived.RowKit
set_option linter.all false
def Qka:=@List.mem_map
def Qkb:=@List.length_map
def Qkc:=@List.length_take
def Qkd:=@Int.mul_tdiv_cancel_left
def Qke:=@List.getElem?_eq_getElem
def Qkf:=@Int.mul_zero
def Qkg:=@List.mem_cons
def Qkh:=@Classical.byContradiction
def Qki:=@Int.eq_of_mul_eq_mul_left
def Qkj:=@List.all_eq_true
def Qkk:=@Option.bind_eq_some_iff
def Qkl:=@Nat.lt_irrefl
def Qkm:=@List.pairwise_cons
def Qkn:=@Int.sub_self
def Qko:=@List.getD_eq_getElem?_getD
def Qkp:=@Nat.zero_le
def Qkq:=@Int.mul_neg_of_pos_of_neg
def Qkr:=@List.mem_cons_self
def Qks:=@Nat.zero_add
def Qkt:=@List.length_append
def Qku:=@List.length_drop
def Qkv:=@List.take_length
def Qkw:=@Nat.beq_refl
def Qkx:=@Int.mul_ediv_cancel'
def Qky:=@List.getElem?_range
def Qkz:=@List.getElem?_take
def Qkaa:=@Int.ofNat_dvd_left
def Qkab:=@List.getElem?_eq_some_iff
def Qkac:=@Nat.gcd_dvd_left
def Qkad:=@List.append_nil
def Qkae:=@Option.map_eq_some_iff
def Qkaf:=@Bool.and_true
namespace Go.Ev.Ce
open Go Go.Ev Go.Ev.L Go.Proofs
theorem Fd0(l:List V3)(hl:l.length<=1000000000):oa8 l l=some (b true,[]):=by
 have he:∀v:V3,(v.x==v.x&&(v.y==v.y&&(v.z==v.z&&true)))=true:=λv=>by simp
 have h:=xd4 (step:=da2 ⟨l,l⟩) (mk:=λj=>(⟨(j:Int)⟩:I6)) (c:=λ_=>false) (u:=1) (fin:=2) tV l hl
  (λj hj=>by
   simp only[da2,aa0,Int.toNat_natCast,E6 hj (by omega),he]
   rw[btD (q7 hj),bt (j9 hj),bt (j9 hj)]
   rfl)
  (by simp only[da2,aa0];rw[bfD (y5 (Qkl _))]) 0 (Qkp _)
 rw[List.drop_zero,show (l.any λ_=>false)=false by simp] at h
 unfold oa8;simp only[w5,o9];rw[show (⟨0⟩:I6)=⟨((0:Nat):Int)⟩ from rfl,h,bf (by simp)]
 rfl
theorem ie9(l:List V3)(hl:l.length<=1000000000):G9 l l=true:=by unfold G9;rw[Fd0 l hl];rfl
theorem je0(l:List V3)(hl:l.length<=1000000000):H4 l l=true:=by unfold H4;rw[Fd0 l hl];rfl
theorem kc9:∀(l r:List V3),l.Pairwise LtV->r.Pairwise LtV->(∀v,v∈l↔v∈r)->l=r
 |[],[],_,_,_=>rfl
 |[],y::r,_,_,h=>absurd ((h y).2 (Qkr ..)) (by simp)
 |x::l,[],_,_,h=>absurd ((h x).1 (Qkr ..)) (by simp)
 |x::l,y::r,h1,h2,h=>by
  obtain⟨a1,a2⟩:=Qkm.1 h1;obtain⟨b1,b2⟩:=Qkm.1 h2;have e:x=y:=by
   rcases Qkg.1 ((h x).1 (Qkr ..)) with e|hx
   ·exact e
   ·rcases Qkg.1 ((h y).2 (Qkr ..)) with e|hy
    ·exact e.symm
    ·exact absurd (Eb6 (b1 x hx) (a1 y hy)) (Yb9 y)
  subst e
  have:l=r:=kc9 l r a2 b2 λv=>by
   have hv:=h v;simp only[Qkg] at hv;constructor
   ·intro hm
    rcases hv.1 (.inr hm) with e|h'
    ·subst e;exact absurd (a1 v hm) (Yb9 v)
    ·exact h'
   ·intro hm
    rcases hv.2 (.inr hm) with e|h'
    ·subst e;exact absurd (b1 v hm) (Yb9 v)
    ·exact h'
  rw[this]
theorem cd7{n:Nat}(h:n<=1000000000000):Nat.ble (n*24) room=true:=by
 rw[Nat.ble_eq];unfold room;omega
theorem pd6(l:List V3)(n:Nat)(h:n<=l.length):p7 (λk=>(λk=>tV.row (gL tV l k)) (0+k)) (List.range (n-0))=bL tV (l.take n):=by
 rw[<- wc7,m9,m9,Qkc,Nat.min_eq_left h,Nat.sub_zero];apply List.map_congr_left;intro k hk;rw[List.mem_range] at hk;show tV.row (gL tV l (0+k))=tV.row (gL tV (l.take n) k);congr 1;simp[gL,Qko,Qkz,hk]
theorem pd7(l:List V3)(n:Nat):p7 (λk=>(λk=>tV.row (gL tV l k)) (n+k)) (List.range (l.length-n))=bL tV (l.drop n):=by
 rw[<- wc7,m9,m9,Qku];apply List.map_congr_left;intro k hk;show tV.row (gL tV l (n+k))=tV.row (gL tV (l.drop n) k);rw[Zc3]
def pd8(x:List V3)(y:V3)(n:Nat):List V3:=x.take n++(y::x.drop n)
def atV(x:List V3)(y:V3):Nat:=x.findIdx λp=>!decide (xa1 p y<0)
noncomputable def Mc1(x:List V3)(y:V3):List V3:=if (atV x y<x.length/\eqV (gL tV x (atV x y)) y=true) then x else pd8 x y (atV x y)
theorem pd9(x y:V3):Ca0 x y=some (b (decide (xa1 x y<0)),[]):=by
 have e:decide (xa1 x y<0)=decide (LtV x y):=by rw[decide_eq_decide];exact rc9 x y
 rw[e];unfold Ca0;by_cases h1:x.x=y.x
 ·rw[bf (show (x.x != y.x)=false by simp[h1])]
  by_cases h2:x.y=y.y
  ·rw[bf (show (x.y != y.y)=false by simp[h2])]
   have:decide (LtV x y)=decide (x.z<y.z):=by rw[decide_eq_decide];unfold LtV;omega
   rw[this]
  ·rw[bt (show (x.y != y.y)=true by simp[h2])]
   have:decide (LtV x y)=decide (x.y<y.y):=by rw[decide_eq_decide];unfold LtV;omega
   rw[this]
 ·rw[bt (show (x.x != y.x)=true by simp[h1])]
  have:decide (LtV x y)=decide (x.x<y.x):=by rw[decide_eq_decide];unfold LtV;omega
  rw[this]
theorem Yd9(x y:V3):Ca1 x y=decide (xa1 x y<0):=by unfold Ca1;rw[pd9];rfl
theorem Zd0(x y:V3):Qa3 x y=true:=by unfold Qa3;rw[pd9];rfl
theorem qd0(x:List V3)(y:V3)(hx:x.length<=1000000):Rd (one (r1L tV)) (jb4 x y) (λr=>r=Mc1 x y):=by
 have h:=Pa9 (step:=ra1 ⟨x,y.x,y.y,y.z⟩) (mk:=λj=>(⟨(j:Int)⟩:da1)) (c:=λp=>!decide (xa1 p y<0)) (u:=1) (fin:=2) tV x (by omega)
  (λj hj=>by
   simp only[ra1,ua3,Int.toNat_natCast,Zd0,Yd9,E6 hj (show x.length<=4611686018427387904 by omega)]
   rw[btD (q7 hj),bt (j9 hj),r5];show sl (decide (xa1 (gL tV x j) y<0)) _ _=_;cases decide (xa1 (gL tV x j) y<0)<;>rfl)
  (by simp only[ra1,ua3];rw[bfD (y5 (Qkl _))]) 0 (Qkp _)
 rw[List.drop_zero] at h;have key:∃t,lp (ra1 ⟨x,y.x,y.y,y.z⟩) ⟨0⟩=(t,⟨((atV x y:Nat):Int)⟩)/\(t=1\/t=2):=by
  rw[show (⟨0⟩:da1)=⟨((0:Nat):Int)⟩ from rfl,h]
  split
  ·exact⟨1,by rw[Qks];rfl,.inl rfl⟩
  ·rename_i hn;refine⟨2,?_,.inr rfl⟩
   have:atV x y=x.length:=by
    unfold atV;rw[List.findIdx_eq_length];intro p hp;cases hb:(!decide (xa1 p y<0)) with
    |false=>rfl
    |true=>exact absurd (List.any_eq_true.2 ⟨p,hp,hb⟩) hn
   rw[this]
 obtain⟨t,h1,h2⟩:=key;have h3:atV x y<=x.length:=List.findIdx_le_length;have hdef:Mc1 x y=if (atV x y<x.length/\eqV (gL tV x (atV x y)) y=true) then x else pd8 x y (atV x y):=rfl
 generalize atV x y=n at *
 have hlo:inB (n:Int) (x.length+1)=true:=j9 (by omega)
 have hd:(bL tV (x.take n)).length=n:=by rw[<- m8,ka7,Qkc];omega
 have hlen:(pd8 x y n).length=x.length+1:=by unfold pd8;simp only[Qkt,List.length_cons,Qkc,Qku];omega
 have lt:len (bL tV (x.take n))=n:=by rw[m8];exact hd
 have ld:len (bL tV (x.drop n))=x.length-n:=by rw[ka7,Qku]
 have b1:(Nat.beq 1 1&&Nat.ble ((1+(x.length-n))*24) room)=true:=by rw[cd7 (by omega)];rfl
 have b2:(Nat.beq 0 0&&Nat.ble ((0+n)*24) room)=true:=by rw[cd7 (by omega)];rfl
 have e0:app [] (bL tV (x.take n))=bL tV (x.take n):=rfl;have b3:(Nat.beq (0+n) n&&Nat.ble (((0+n)+1)*24) room)=true:=by rw[cd7 (by omega),Qks,Qkw];rfl
 have l3:len (bL tV (x.take n++[y]))=n+1:=by rw[ka7,Qkt,Qkc];simp only[List.length_singleton];omega
 have b4:(Nat.beq ((0+n)+1) (n+1)&&Nat.ble ((((0+n)+1)+(x.length-n))*24) room)=true:=by rw[cd7 (by omega),Qks,Qkw];rfl
 have fin:Mc1 x y=pd8 x y n->∀m r,m=x.length+1->r=bL tV (pd8 x y n)->Rd (one (r1L tV)) (some (.sl 0 0 m 0,[⟨29,3,r,true,false,0⟩])) (λr=>r=Mc1 x y) :=
  λhq m r hm hr=>Cc1 (by rw[hlen];exact hm) hr hq.symm
 have tail:Mc1 x y=pd8 x y n->Rd (one (r1L tV)) (some (.sl 0 0 (((0+n)+1)+(x.length-n)) 0,[⟨29,3,app (bL tV (x.take n++[y])) (bL tV (x.drop n)),true,false,0⟩])) (λr=>r=Mc1 x y):=λhq=>by
  refine fin hq _ _ (by omega) ?_
  rw[Ta5];unfold pd8;rw[List.append_assoc];rfl
 unfold jb4;simp only[w5,o9];rw[h1];simp only[Int.toNat_natCast,pd6 x n h3,pd7,lt,ld,b1,b2,e0,b3,Cc0,l3,b4,hlo,r5]
 have main : Rd (one (r1L tV)) (sl (decide ((n : Int) < (x.length : Int))) (sl (inB (n : Int) x.length) (sl (((gL tV x n).x == y.x) && (((gL tV x n).y == y.y) && (((gL tV x n).z == y.z) && true))) (some (eL tV x, []))
   (some ((.sl 0 0 (((0+n)+1)+(x.length-n)) 0),[⟨29,3,(app (bL tV (x.take n++[y])) (bL tV (x.drop n))),true,false,0⟩]))) none)
   (some ((.sl 0 0 (((0+n)+1)+(x.length-n)) 0),[⟨29,3,(app (bL tV (x.take n++[y])) (bL tV (x.drop n))),true,false,0⟩]))) (λr=>r=Mc1 x y):=by
  by_cases hn:n<x.length
  ·rw[btD (q7 hn),bt (j9 hn)];exact Rd.sl (λq=>⟨_,x,rfl,ye7 tV x,by rw[hdef,if_pos ⟨hn,q⟩]⟩) λq=>tail (by
    rw[hdef,if_neg λh=>?_]
    have h:=h.2;rw[show eqV (gL tV x n) y=false from q] at h
    cases h)
  ·rw[bfD (y5 hn)];exact tail (by rw[hdef,if_neg λh=>hn h.1])
 rcases h2 with rfl|rfl
 ·exact main
 ·exact main
def ea7:List V3->V3->List V3
 |[],y=>[y]
 |a::l,y=>if xa1 a y<0 then a::ea7 l y else if eqV a y then a::l else y::a::l
theorem Fd1(y:V3):∀x,Mc1 x y=ea7 x y
 |[]=>rfl
 |a::l=>by
  have ih:=Fd1 y l;unfold ea7;by_cases h:xa1 a y<0
  ·rw[if_pos h,<- ih];have e:atV (a::l) y=atV l y+1:=by unfold atV;rw[List.findIdx_cons];simp[h]
   unfold Mc1;rw[e];have e2:gL tV (a::l) (atV l y+1)=gL tV l (atV l y):=rfl;rw[e2];simp only[List.length_cons,Nat.add_lt_add_iff_right];split
   ·rfl
   ·rfl
  ·rw[if_neg h];have e:atV (a::l) y=0:=by unfold atV;rw[List.findIdx_cons];simp[h]
   unfold Mc1;rw[e];have e2:gL tV (a::l) 0=a:=rfl;rw[e2];simp only[List.length_cons,Nat.zero_lt_succ,true_and];split
   ·rfl
   ·rfl
theorem hc5(y p:V3):∀x,p∈ea7 x y↔p=y\/p∈x
 |[]=>by simp[ea7]
 |a::l=>by
  unfold ea7;have ih:=hc5 y p l;split
  ·simp only[Qkg,ih];constructor
   ·rintro (h|h|h)
    ·exact .inr (.inl h)
    ·exact .inl h
    ·exact .inr (.inr h)
   ·rintro (h|h|h)
    ·exact .inr (.inl h)
    ·exact .inl h
    ·exact .inr (.inr h)
  ·split
   ·rename_i h;rw[Yb8] at h;subst h;simp only[Qkg];constructor
    ·exact λh=>.inr h
    ·rintro (h|h)
     ·exact .inl h
     ·exact h
   ·simp only[Qkg]
theorem Sc7(y:V3):∀{x},gc6 x->gc6 (ea7 x y)
 |[],_=>List.pairwise_singleton _ _
 |a::l,h=>by
  obtain⟨h1,h2⟩:=Qkm.1 h;unfold ea7;split
  ·rename_i hc;rw[rc9] at hc;refine Qkm.2 ⟨λp hp=>?_,Sc7 y h2⟩
   rcases (hc5 y p l).1 hp with e|hp
   ·subst e;exact hc
   ·exact h1 p hp
  ·rename_i hc;rw[rc9] at hc;split
   ·exact h
   ·rename_i hne;have hlt:LtV y a:=by
     rcases Ed4 y a with h|h|h
     ·exact h
     ·exact absurd ((Yb8 _ _).2 h.symm) hne
     ·exact absurd h hc
    refine Qkm.2 ⟨λp hp=>?_,h⟩
    rcases Qkg.1 hp with e|hp
    ·subst e;exact hlt
    ·exact Eb6 hlt (h1 p hp)
theorem Fd2(x:List V3)(y:V3)(hx:x.length<=1000000):Eb1 x y=ea7 x y:=(qd0 x y hx).p.trans (Fd1 y x)
theorem Fd3(x:List V3)(y:V3)(hx:x.length<=1000000):Eb2 x y=true:=(qd0 x y hx).g
noncomputable def nrm(F:List Pln)(v:V3):List V3:=(own F v).map λp=>p.n
def N46(n:V3):Prop:=Sm 4608 n.x/\Sm 4608 n.y/\Sm 4608 n.z
section
variable(N:List V3)(hN:∀n∈N,N46 n)(hl:N.length<=1000000)
include hN hl
end
theorem Sc8(v:V3):∀o:List V3,(ea7 o v).length<=o.length+1
 |[]=>by simp[ea7]
 |a::l=>by
  have:=Sc8 v l
  unfold ea7;split
  ·simp only[List.length_cons];omega
  ·split<;>simp only[List.length_cons]<;>omega
theorem je1{l:List V3}(hl:l.all inV=true):∀p∈ws,∀v∈l,dot p.n v<=p.b:=λp hp v hv=>by
 have:=se1 (Qkj.1 hl v hv) p hp
 simp only[rmZ,ipt,dot] at this ⊢;omega
section
variable{l:List V3}(hl:l.all inV=true)(h4:Sol l)
include hl
theorem cd8(v:V3):v∈Mc0 (F0 l) l↔v∈l/\Spn (F0 l) v:=by
 unfold Mc0;rw[List.mem_filter,Zb0];exact⟨λh=>⟨h.1,(Yd6 hl h.1).1 h.2⟩,λh=>⟨h.1,(Yd6 hl h.1).2 h.2⟩⟩
include h4
theorem je2{n:V3}{b:Int}(hv:∀v∈Mc0 (F0 l) l,dot n v<=b):∀x∈l,dot n x<=b:=by
 have hfacs:=Ed2 hl λp hp=>(R6 hl p).2 hp
 have hall:∀p∈F0 l++ws,∀v∈l,dot p.n v<=p.b:=λp hp=>by
  rcases List.mem_append.1 hp with hp|hp
  ·exact ((R6 hl p).1 hp).hd
  ·exact je1 hl p hp
 intro x hx;have hz:∀(a:Pln) (v:V3),rmZ a ⟨v.x,v.y,v.z,1⟩=a.b-dot a.n v:=λa v=>by simp only[rmZ,dot];omega
 have hI:Inr (F0 l++ws) ⟨x.x,x.y,x.z,1⟩:=⟨by show (0:Int)<1;omega,λp hp=>by rw[hz];have:=hall p hp x hx;omega⟩
 have key:=rb0 (re2 (F0 l)) (h:=⟨n,b⟩) (λy hy=>by
  obtain⟨v,hvl,he,hs⟩:=ge7 h4 hfacs hall hy;have h1:=hv v ((cd8 hl v).2 ⟨hvl,hs⟩);have h2:=he.rm ⟨n,b⟩;rw[hz] at h2;have hw:=hy.w;have h3:0<=(b-dot n v)*y.pw:=Int.mul_nonneg (by omega) (by omega)
  have h4:rmZ ⟨n,b⟩ y*1=(b-dot n v)*y.pw:=h2
  omega) hI
 rw[hz] at key;have key:0<=b-dot n x:=key;omega
theorem sc6{v:V3}(hv:v∈Mc0 (F0 l) l):v∈l:=((cd8 hl v).1 hv).1
end
theorem Fd4{l:List V3}(hl:l.all inV=true)(h4:Sol l){v:V3}(hv:v∈l):v∈Mc0 (F0 l) l↔∃n,∀w∈l,w≠v->dot n w<dot n v:=by
 constructor
 ·intro h;obtain⟨p,q,s,hp,hq,hs,hm,e1,e2,e3⟩:=((cd8 hl v).1 h).2;refine⟨⟨p.n.x+q.n.x+s.n.x,p.n.y+q.n.y+s.n.y,p.n.z+q.n.z+s.n.z⟩,λw hw hne=>?_⟩
  have hd:∀x:V3,dot ⟨p.n.x+q.n.x+s.n.x,p.n.y+q.n.y+s.n.y,p.n.z+q.n.z+s.n.z⟩ x=dot p.n x+dot q.n x+dot s.n x:=λx=>by simp only[dot];grind
  rw[hd,hd];have g1:=((R6 hl p).1 hp).hd w hw;have g2:=((R6 hl q).1 hq).hd w hw;have g3:=((R6 hl s).1 hs).hd w hw;apply Qkh;intro hno;have z:=Ab3 hm (d:=o8 w v) (by rw[E4];omega) (by rw[E4];omega) (by rw[E4];omega)
  simp only[o8,V3.mk.injEq] at z;exact hne (V3.ext' (by omega) (by omega) (by omega))
 ·rintro⟨n,hn⟩;apply Qkh;intro hno
  have:=je2 hl h4 (n:=n) (b:=dot n v-1) (λw hw=>by
   have:=hn w (sc6 hl h4 hw) λe=>hno (e ▸ hw)
   omega) v hv
  omega
section
variable{l:List V3}{T:V3->V3}(h:Sim l T)
include h
theorem Sim.inj{u w:V3}(hu:u∈l)(hw:w∈l)(e:T u=T w):u=w:=by
 have key:∀n:V3,dot n u=dot n w:=λn=>by
  obtain⟨n',k,hk,hn⟩:=h.dn n;have e':=hn u hu w hw;rw[e,Qkn] at e'
  have:=da4 hk e'.symm
  omega
 have k1:=key ⟨1,0,0⟩;have k2:=key ⟨0,1,0⟩;have k3:=key ⟨0,0,1⟩;simp only[dot] at k1 k2 k3;exact V3.ext' (by omega) (by omega) (by omega)
theorem Zd1{u w x v n:V3}(h3:N3 u w x≠⟨0,0,0⟩)(e1:dot n w=dot n u)(e2:dot n x=dot n u)(hv:dot n v≠dot n u):dot (N3 u w x) (o8 v u)≠0:=λe=>by
 have hN:dot (N3 u w x) (N3 u w x)>0:=Yb3 h3;have c1:d7 n (N3 u w x)=⟨0,0,0⟩:=kb0 (by rw[E4];omega) (by rw[E4];omega)
 have d1:=bb1 (d:=o8 v u) c1;rw[e,Qkf,E4] at d1
 have:=da4 hN d1
 omega
omit h in
theorem Fd5(u w x:V3):dot (N3 u w x) w=dot (N3 u w x) u/\dot (N3 u w x) x=dot (N3 u w x) u:=by
 constructor<;>simp only[N3,dot,d7,o8]<;>grind
theorem Sim.sol:Sol l↔Sol (l.map T):=by
 constructor
 ·rintro⟨a,c,k,v,ha,hc,hk,hv,hne⟩;have h3:N3 a c k≠⟨0,0,0⟩:=λe=>hne (by rw[e];simp[dot])
  obtain⟨n',m,hm,hn⟩:=h.dn (N3 a c k);obtain⟨p1,p2⟩:=Fd5 a c k;refine⟨T a,T c,T k,T v,Qka.2 ⟨a,ha,rfl⟩,Qka.2 ⟨c,hc,rfl⟩,Qka.2 ⟨k,hk,rfl⟩,Qka.2 ⟨v,hv,rfl⟩,Zd1 h (n:=n') ((h.n3 a ha c hc k hk).1 h3) ?_ ?_ ?_⟩
  ·have e:=hn c hc a ha;rw[p1,Qkn,Qkf] at e;omega
  ·have e:=hn k hk a ha;rw[p2,Qkn,Qkf] at e;omega
  ·intro e';have e:=hn v hv a ha
   have:=da4 hm (show m*(dot (N3 a c k) v-dot (N3 a c k) a)=0 by omega)
   rw[E4] at hne;omega
 ·rintro⟨a',c',k',v',ha',hc',hk',hv',hne⟩;obtain⟨a,ha,rfl⟩:=Qka.1 ha';obtain⟨c,hc,rfl⟩:=Qka.1 hc';obtain⟨k,hk,rfl⟩:=Qka.1 hk';obtain⟨v,hv,rfl⟩:=Qka.1 hv';have h3:N3 (T a) (T c) (T k)≠⟨0,0,0⟩:=λe=>hne (by rw[e];simp[dot])
  obtain⟨n,m,hm,hn⟩:=h.up (N3 (T a) (T c) (T k));obtain⟨p1,p2⟩:=Fd5 (T a) (T c) (T k);refine⟨a,c,k,v,ha,hc,hk,hv,Zd1 h (n:=n) ((h.n3 a ha c hc k hk).2 h3) ?_ ?_ ?_⟩
  ·have e:=hn c hc a ha;rw[p1,Qkn,Qkf] at e;omega
  ·have e:=hn k hk a ha;rw[p2,Qkn,Qkf] at e;omega
  ·intro e';have e:=hn v hv a ha
   have:=da4 hm (show m*(dot (N3 (T a) (T c) (T k)) (T v)-dot (N3 (T a) (T c) (T k)) (T a))=0 by omega)
   rw[E4] at hne;omega
theorem Sim.ext(hs:Sol l){v:V3}(hv:v∈l):v∈Mc0 (F0 l) l↔T v∈Mc0 (F0 (l.map T)) (l.map T):=by
 rw[Fd4 h.li hs hv,Fd4 h.mi ((Sim.sol h).1 hs) (Qka.2 ⟨v,hv,rfl⟩)];constructor
 ·rintro⟨n,hn⟩;obtain⟨n',k,hk,hd⟩:=h.dn n;refine⟨n',λw' hw' hne=>?_⟩
  obtain⟨w,hw,rfl⟩:=Qka.1 hw';have e:=hd w hw v hv
  have:=Qkq hk (show dot n w-dot n v<0 by have:=hn w hw λe=>hne (by rw[e]);omega)
  omega
 ·rintro⟨n',hn⟩;obtain⟨n,k,hk,hd⟩:=h.up n';refine⟨n,λw hw hne=>?_⟩
  have e:=hd w hw v hv
  have:=Qkq hk (show dot n' (T w)-dot n' (T v)<0 by have:=hn (T w) (Qka.2 ⟨w,hw,rfl⟩) λe=>hne (Sim.inj h hw hv e);omega)
  omega
theorem Sim.ext_mem(hs:Sol l)(w:V3):w∈Mc0 (F0 (l.map T)) (l.map T)↔∃v∈Mc0 (F0 l) l,w=T v:=by
 constructor
 ·intro hw;obtain⟨v,hv,rfl⟩:=Qka.1 (sc6 h.mi ((Sim.sol h).1 hs) hw);exact⟨v,(Sim.ext h hs hv).2 hw,rfl⟩
 ·rintro⟨v,hv,rfl⟩;exact (Sim.ext h hs (sc6 h.li hs hv)).1 hv
end
structure Mat(l:List V3)(T:V3->V3)(r0 r1 r2:V3)(D:Int):Prop where
 d:0<D
 det:0<dot r0 (d7 r1 r2)
 t:∀u∈l,∀w∈l,D*((T u).x-(T w).x)=dot r0 (o8 u w)/\D*((T u).y-(T w).y)=dot r1 (o8 u w)/\D*((T u).z-(T w).z)=dot r2 (o8 u w)
theorem Zd2(r0 r1 r2 n d:V3):dot ⟨dot n (d7 r1 r2),dot n (d7 r2 r0),dot n (d7 r0 r1)⟩ ⟨dot r0 d,dot r1 d,dot r2 d⟩=dot r0 (d7 r1 r2)*dot n d:=by simp only[dot,d7];grind
theorem zd3(r0 r1 r2 a c:V3):d7 ⟨dot r0 a,dot r1 a,dot r2 a⟩ ⟨dot r0 c,dot r1 c,dot r2 c⟩=⟨dot (d7 r1 r2) (d7 a c),dot (d7 r2 r0) (d7 a c),dot (d7 r0 r1) (d7 a c)⟩:=by
 refine V3.ext' ?_ ?_ ?_<;>simp only[dot,d7]<;>grind
theorem Nd1(r0 r1 r2 v:V3):(dot r0 (d7 r1 r2)*v.x=dot (d7 r1 r2) v*r0.x+dot (d7 r2 r0) v*r1.x+dot (d7 r0 r1) v*r2.x)/\(dot r0 (d7 r1 r2)*v.y=dot (d7 r1 r2) v*r0.y+dot (d7 r2 r0) v*r1.y+dot (d7 r0 r1) v*r2.y)/\(dot r0 (d7 r1 r2)*v.z=dot (d7 r1 r2) v*r0.z+dot (d7 r2 r0) v*r1.z+dot (d7 r0 r1) v*r2.z):=by
 refine⟨?_,?_,?_⟩<;>simp only[dot,d7]<;>grind
theorem da5{k x:Int}(hk:0<k)(h:k*x=0):x=0:=(Int.mul_eq_zero.1 h).resolve_left (by omega)
theorem Fd6{l:List V3}{T:V3->V3}{r0 r1 r2:V3}{D:Int}(h:Mat l T r0 r1 r2 D)(hl:l.all inV=true)(hm:(l.map T).all inV=true):Sim l T:=by
 refine⟨hl,hm,λn=>⟨⟨D*dot n (d7 r1 r2),D*dot n (d7 r2 r0),D*dot n (d7 r0 r1)⟩,dot r0 (d7 r1 r2),h.det,λu hu w hw=>?_⟩,λn'=>⟨⟨n'.x*r0.x+n'.y*r1.x+n'.z*r2.x,n'.x*r0.y+n'.y*r1.y+n'.z*r2.y,n'.x*r0.z+n'.y*r1.z+n'.z*r2.z⟩,D,h.d,λu hu w hw=>?_⟩,λu hu w hw x hx=>?_⟩
 ·obtain⟨t1,t2,t3⟩:=h.t u hu w hw;have e:=Zd2 r0 r1 r2 n (o8 u w);rw[<- t1,<- t2,<- t3,E4 n u w] at e;rw[<- e];generalize dot n (d7 r1 r2)=A;generalize dot n (d7 r2 r0)=B;generalize dot n (d7 r0 r1)=C;simp only[dot]
  grind
 ·obtain⟨t1,t2,t3⟩:=h.t u hu w hw;have e:dot ⟨n'.x*r0.x+n'.y*r1.x+n'.z*r2.x,n'.x*r0.y+n'.y*r1.y+n'.z*r2.y,n'.x*r0.z+n'.y*r1.z+n'.z*r2.z⟩ u-dot ⟨n'.x*r0.x+n'.y*r1.x+n'.z*r2.x,n'.x*r0.y+n'.y*r1.y+n'.z*r2.y,n'.x*r0.z+n'.y*r1.z+n'.z*r2.z⟩ w=n'.x*dot r0 (o8 u w)+n'.y*dot r1 (o8 u w)+n'.z*dot r2 (o8 u w):=by simp only[dot,o8];grind
  rw[e,<- t1,<- t2,<- t3];simp only[dot]
  grind
 ·obtain⟨t1,t2,t3⟩:=h.t w hw u hu;obtain⟨s1,s2,s3⟩:=h.t x hx u hu;have e:=zd3 r0 r1 r2 (o8 w u) (o8 x u);rw[<- t1,<- t2,<- t3,<- s1,<- s2,<- s3] at e;have eN:d7 (o8 w u) (o8 x u)=N3 u w x:=rfl;rw[eN] at e;have eT:d7 ⟨D*((T w).x-(T u).x),D*((T w).y-(T u).y),D*((T w).z-(T u).z)⟩ ⟨D*((T x).x-(T u).x),D*((T x).y-(T u).y),D*((T x).z-(T u).z)⟩=⟨D*(D*(N3 (T u) (T w) (T x)).x),D*(D*(N3 (T u) (T w) (T x)).y),D*(D*(N3 (T u) (T w) (T x)).z)⟩:=by
   refine V3.ext' ?_ ?_ ?_<;>simp only[N3,d7,o8]<;>grind
  rw[eT] at e;simp only[V3.mk.injEq] at e;obtain⟨e1,e2,e3⟩:=e;obtain⟨b1,b2,b3⟩:=Nd1 r0 r1 r2 (N3 u w x);have hd:=h.d;have hdet:=h.det;constructor
  ·intro hne h0;rw[h0] at e1 e2 e3;simp only[Qkf] at e1 e2 e3;rw[<- e1,<- e2,<- e3] at b1 b2 b3;simp only[Int.zero_mul,Int.add_zero] at b1 b2 b3;exact hne (V3.ext' (da5 hdet b1) (da5 hdet b2) (da5 hdet b3))
  ·intro hne h0;rw[h0] at e1 e2 e3;have z:∀v:V3,dot v ⟨0,0,0⟩=0:=λv=>by simp[dot]
   rw[z] at e1 e2 e3;exact hne (V3.ext' (da5 hd (da5 hd e1)) (da5 hd (da5 hd e2)) (da5 hd (da5 hd e3)))
theorem Zd3 {r0 r1 r2 : V3} {D : Int} (h00 : dot r0 r0 = D * D) (h11 : dot r1 r1 = D * D) (h22 : dot r2 r2 = D * D) (h01 : dot r0 r1 = 0) (h02 : dot r0 r2 = 0) (h12 : dot r1 r2 = 0) (hdet : dot r0 (d7 r1 r2) ≠ 0) (d : V3) :
  dot r0 d*dot r0 d+dot r1 d*dot r1 d+dot r2 d*dot r2 d=D*D*dot d d:=by
 have key:(⟨D*D*d.x-(dot r0 d*r0.x+dot r1 d*r1.x+dot r2 d*r2.x),D*D*d.y-(dot r0 d*r0.y+dot r1 d*r1.y+dot r2 d*r2.y),D*D*d.z-(dot r0 d*r0.z+dot r1 d*r1.z+dot r2 d*r2.z)⟩:V3)=⟨0,0,0⟩:=by
  have ex:∀r:V3,dot r ⟨D*D*d.x-(dot r0 d*r0.x+dot r1 d*r1.x+dot r2 d*r2.x),D*D*d.y-(dot r0 d*r0.y+dot r1 d*r1.y+dot r2 d*r2.y),D*D*d.z-(dot r0 d*r0.z+dot r1 d*r1.z+dot r2 d*r2.z)⟩=D*D*dot r d-(dot r0 d*dot r r0+dot r1 d*dot r r1+dot r2 d*dot r r2):=λr=>by
   generalize dot r0 d=A;generalize dot r1 d=B;generalize dot r2 d=C;simp only[dot]
   grind
  have cm:∀a c:V3,dot a c=dot c a:=λa c=>by simp only[dot];grind
  refine Ab3 (p:=⟨r0,0⟩) (q:=⟨r1,0⟩) (s:=⟨r2,0⟩) hdet ?_ ?_ ?_
  ·rw[ex,h00,h01,h02];grind
  ·rw[ex,cm r1 r0,h01,h11,h12];grind
  ·rw[ex,cm r2 r0,cm r2 r1,h02,h12,h22];grind
 simp only[V3.mk.injEq] at key;obtain⟨k1,k2,k3⟩:=key;have e:D*D*dot d d-(dot r0 d*dot r0 d+dot r1 d*dot r1 d+dot r2 d*dot r2 d)=d.x*(D*D*d.x-(dot r0 d*r0.x+dot r1 d*r1.x+dot r2 d*r2.x))+d.y*(D*D*d.y-(dot r0 d*r0.y+dot r1 d*r1.y+dot r2 d*r2.y))+d.z*(D*D*d.z-(dot r0 d*r0.z+dot r1 d*r1.z+dot r2 d*r2.z)):=by
  simp only[dot]
  grind
 rw[k1,k2,k3] at e;simp only[Qkf,Int.add_zero] at e;exact (Int.eq_of_sub_eq_zero e).symm
theorem qd1{l:List V3}(h48:l.length<=48)(hl:l.all inV=true):(Sol l->Da6 l=0)/\(¬ Sol l->Da6 l=11):=by
 refine⟨Sc6 h48 hl,λhn=>?_⟩
 by_cases h0:Da6 l=0
 ·exact (hn (Ha3 h0).2.2).elim
 ·unfold Da6 at h0 ⊢;rw[if_neg (by omega),if_neg (by rw[<- List.not_all_eq_any_not,hl];simp)] at h0 ⊢
  split
  ·rfl
  ·rename_i h;rw[if_neg h] at h0;exact (h0 rfl).elim
section
variable{l:List V3}{T:V3->V3}(h:Sim l T)(h48:l.length<=48)
include h h48
theorem Sim.chk:Da6 (l.map T)=Da6 l:=by
 have h1:=qd1 h48 h.li;have h2:=qd1 (l:=l.map T) (by rw[Qkb];exact h48) h.mi
 by_cases hs:Sol l
 ·rw[h1.1 hs,h2.1 ((Sim.sol h).1 hs)]
 ·rw[h1.2 hs,h2.2 λk=>hs ((Sim.sol h).2 k)]
theorem Sim.faces:(X2 (l.map T)).2=(X2 l).2/\(X2 (l.map T)).1.length=(X2 l).1.length/\(Da7 l).2=(X2 l).2/\(Da7 (l.map T)).2=(X2 l).2:=by
 have hc:=Sim.chk h h48;unfold X2 Da7;rw[hc];by_cases h0:Da6 l=0
 ·rw[if_pos h0,if_pos h0,if_pos h0,if_pos h0];have hs:=(Ha3 h0).2.2;exact⟨rfl,Sim.len h hs ((Sim.sol h).1 hs),rfl,rfl⟩
 ·rw[if_neg h0,if_neg h0,if_neg h0,if_neg h0];exact⟨rfl,rfl,rfl,rfl⟩
theorem Sim.verts(w:V3):w∈(Da7 (l.map T)).1↔∃v∈(Da7 l).1,w=T v:=by
 have hc:=Sim.chk h h48;unfold Da7;rw[hc];by_cases h0:Da6 l=0
 ·rw[if_pos h0,if_pos h0];exact Sim.ext_mem h (Ha3 h0).2.2 w
 ·rw[if_neg h0,if_neg h0];simp
omit h h48 in
theorem Ha4(l:List V3):(Da7 l).1.Nodup/\((Da7 l).1.Pairwise LtV)/\∀v∈(Da7 l).1,Da6 l=0/\v∈l:=by
 unfold Da7;by_cases h0:Da6 l=0
 ·rw[if_pos h0];obtain⟨_,hl,hs⟩:=Ha3 h0;exact⟨(Rc5 l).filter _,(Xd4 l).filter _,λv hv=>⟨h0,sc6 hl hs hv⟩⟩
 ·rw[if_neg h0];exact⟨List.nodup_nil,.nil,λv hv=>by simp at hv⟩
theorem Sim.vlen:(Da7 (l.map T)).1.length=(Da7 l).1.length:=by
 refine Nat.le_antisymm ?_ ?_
 ·refine Yb7 (R:=λw v=>w=T v) (Ha4 _).1 (λw hw=>(Sim.verts h h48 w).1 hw) λw _ r _ v e1 e2=>e1.trans e2.symm
 ·refine Yb7 (R:=λv w=>w=T v) (Ha4 _).1 (λv hv=>⟨T v,(Sim.verts h h48 _).2 ⟨v,hv,rfl⟩,rfl⟩) λv hv r hr w e1 e2=>?_
  exact Sim.inj h ((Ha4 l).2.2 v hv).2 ((Ha4 l).2.2 r hr).2 (e1.symm.trans e2)
end
theorem Zd4 {r0 r1 r2 : V3} {D : Int} (h00 : dot r0 r0 = D * D) (h11 : dot r1 r1 = D * D) (h22 : dot r2 r2 = D * D) (h01 : dot r0 r1 = 0) (h02 : dot r0 r2 = 0) (h12 : dot r1 r2 = 0) (hdet : dot r0 (d7 r1 r2) ≠ 0) (n d : V3) :
  dot r0 n*dot r0 d+dot r1 n*dot r1 d+dot r2 n*dot r2 d=D*D*dot n d:=by
 have l:=λv=>Zd3 h00 h11 h22 h01 h02 h12 hdet v
 have add:∀r:V3,dot r ⟨n.x+d.x,n.y+d.y,n.z+d.z⟩=dot r n+dot r d:=λr=>by simp only[dot];grind
 have e:=l ⟨n.x+d.x,n.y+d.y,n.z+d.z⟩;have e1:=l n;have e2:=l d;have sq:dot (⟨n.x+d.x,n.y+d.y,n.z+d.z⟩:V3) ⟨n.x+d.x,n.y+d.y,n.z+d.z⟩=dot n n+2*dot n d+dot d d:=by simp only[dot];grind
 rw[sq,add,add,add] at e;generalize dot r0 n=a0 at *
 generalize dot r1 n=a1 at *
 generalize dot r2 n=a2 at *
 generalize dot r0 d=c0 at *
 generalize dot r1 d=c1 at *
 generalize dot r2 d=c2 at *
 generalize dot n n=nn at *
 generalize dot d d=dd at *
 generalize dot n d=nd at *
 generalize D*D=DD at *
 have k:2*(a0*c0+a1*c1+a2*c2)=2*(DD*nd):=by grind
 omega
structure Rot(l:List V3)(T:V3->V3)(r0 r1 r2:V3)(D:Int):Prop extends Mat l T r0 r1 r2 D where
 h00:dot r0 r0=D*D
 h11:dot r1 r1=D*D
 h22:dot r2 r2=D*D
 h01:dot r0 r1=0
 h02:dot r0 r2=0
 h12:dot r1 r2=0
section
variable{l:List V3}{T:V3->V3}{r0 r1 r2:V3}{D:Int}(h:Rot l T r0 r1 r2 D)
include h
theorem Rot.dots(n d:V3):dot r0 n*dot r0 d+dot r1 n*dot r1 d+dot r2 n*dot r2 d=D*D*dot n d :=
 Zd4 h.h00 h.h11 h.h22 h.h01 h.h02 h.h12 (by have:=h.det;omega) n d
theorem Rot.same{u w:V3}(hu:u∈l)(hw:w∈l):dot (o8 (T u) (T w)) (o8 (T u) (T w))=dot (o8 u w) (o8 u w):=by
 obtain⟨t1,t2,t3⟩:=h.t u hu w hw;have e:=Rot.dots h (o8 u w) (o8 u w);rw[<- t1,<- t2,<- t3] at e;have f:D*((T u).x-(T w).x)*(D*((T u).x-(T w).x))+D*((T u).y-(T w).y)*(D*((T u).y-(T w).y))+D*((T u).z-(T w).z)*(D*((T u).z-(T w).z))=D*D*dot (o8 (T u) (T w)) (o8 (T u) (T w)):=by simp only[dot,o8];grind
 rw[f] at e;have hd:=Int.mul_pos h.d h.d;exact Qki (by omega) e
theorem Rot.nrm{n n':V3}{g:Int}(e1:g*n'.x=dot r0 n)(e2:g*n'.y=dot r1 n)(e3:g*n'.z=dot r2 n){u w:V3}(hu:u∈l)(hw:w∈l):g*(dot n' (T u)-dot n' (T w))=D*(dot n u-dot n w):=by
 obtain⟨t1,t2,t3⟩:=h.t u hu w hw;have e:=Rot.dots h n (o8 u w);rw[<- t1,<- t2,<- t3,<- e1,<- e2,<- e3,E4] at e;have f:g*n'.x*(D*((T u).x-(T w).x))+g*n'.y*(D*((T u).y-(T w).y))+g*n'.z*(D*((T u).z-(T w).z))=D*(g*(dot n' (T u)-dot n' (T w))):=by simp only[dot];grind
 rw[f,Int.mul_assoc] at e;exact Qki (by have:=h.d;omega) e
end
theorem je3{m:V3}(h:m≠⟨0,0,0⟩):∃n:V3,g3 n=1/\0<g3 m/\g3 m*n.x=m.x/\g3 m*n.y=m.y/\g3 m*n.z=m.z:=by
 have h0:g3 m≠0:=λe=>h (Ed1 e)
 have hp:0<g3 m:=by unfold g3 at *;omega
 have dx:g3 m∣m.x:=by
  unfold g3;exact Qkaa.2 (Nat.dvd_trans (Qkac _ _) (Qkac _ _))
 have dy:g3 m∣m.y:=by
  unfold g3;exact Qkaa.2 (Nat.dvd_trans (Qkac _ _) (Nat.gcd_dvd_right _ _))
 have dz:g3 m∣m.z:=by
  unfold g3;exact Qkaa.2 (Nat.gcd_dvd_right _ _)
 have ex:=Qkx dx;have ey:=Qkx dy;have ez:=Qkx dz;refine⟨⟨m.x / g3 m,m.y / g3 m,m.z / g3 m⟩,?_,hp,ex,ey,ez⟩;have e:=yd1 (g3 m) ⟨m.x / g3 m,m.y / g3 m,m.z / g3 m⟩
 simp only at e
 rw[ex,ey,ez] at e;have e':g3 m*1=g3 m*g3 ⟨m.x / g3 m,m.y / g3 m,m.z / g3 m⟩:=by
  rw[Int.mul_one]
  have:((g3 m).natAbs:Int)=g3 m:=by omega
  rw[this] at e;exact e
 exact (Qki (by omega) e').symm
section
variable{l:List V3}{T:V3->V3}{r0 r1 r2:V3}{D:Int}(h:Rot l T r0 r1 r2 D)
include h
theorem Rot.find(hl:l.all inV=true)(hm:(l.map T).all inV=true)(hs:Sol l){p:Pln}(hp:p∈F0 l):∃q∈F0 (l.map T),∃g:Int,g=g3 ⟨dot r0 p.n,dot r1 p.n,dot r2 p.n⟩/\0<g/\g*q.n.x=dot r0 p.n/\g*q.n.y=dot r1 p.n/\g*q.n.z=dot r2 p.n/\∃u∈l,dot p.n u=p.b/\dot q.n (T u)=q.b:=by
 have hS:=Fd6 h.toMat hl hm;have hs':=(Sim.sol hS).1 hs;have hf:=(R6 hl p).1 hp;have hd:=h.d;obtain⟨q,hq,u,w,x,hu,hw,hx,h3,⟨p1,p2,p3⟩,q1,q2,q3,_⟩:=Sim.upf hS hs hs' hp;have hqf:=(R6 hm q).1 hq;have hne:(⟨dot r0 p.n,dot r1 p.n,dot r2 p.n⟩:V3)≠⟨0,0,0⟩:=λe=>by
  simp only[V3.mk.injEq] at e;obtain⟨k1,k2,k3⟩:=e;exact Kb5 hf.ok (Ab3 (p:=⟨r0,0⟩) (q:=⟨r1,0⟩) (s:=⟨r2,0⟩) (by show dot r0 (d7 r1 r2)≠0;have:=h.det;omega) k1 k2 k3)
 obtain⟨n1,g1,gp,e1,e2,e3⟩:=je3 hne;generalize hg:g3 (⟨dot r0 p.n,dot r1 p.n,dot r2 p.n⟩:V3)=g at *
 simp only at e1 e2 e3
 have nr:=λ{a c:V3} (ha:a∈l) (hc:c∈l)=>Rot.nrm h e1 e2 e3 ha hc
 have s1:dot n1 (T w)=dot n1 (T u):=by
  have e:=nr hw hu;rw[p1,p2,Qkn,Qkf] at e
  have:=da4 gp e
  omega
 have s2:dot n1 (T x)=dot n1 (T u):=by
  have e:=nr hx hu;rw[p1,p3,Qkn,Qkf] at e
  have:=da4 gp e
  omega
 have h3':=(hS.n3 u hu w hw x hx).1 h3;have c1:d7 n1 (N3 (T u) (T w) (T x))=⟨0,0,0⟩:=kb0 (by rw[E4];omega) (by rw[E4];omega)
 have c2:d7 q.n (N3 (T u) (T w) (T x))=⟨0,0,0⟩:=kb0 (by rw[E4];omega) (by rw[E4];omega)
 have par:d7 q.n n1=⟨0,0,0⟩:=by
  have hN:dot (N3 (T u) (T w) (T x)) (N3 (T u) (T w) (T x))>0:=Yb3 h3';generalize N3 (T u) (T w) (T x)=N at *
  have k1:=λd=>bb1 (d:=d) c1
  have k2:=λd=>bb1 (d:=d) c2
  -- both are multiples of N,so their d7 product is nothing
  have z:∀{t:Int},dot N N*t=0->t=0:=λe=>da4 hN e
  have n1x:=k1 ⟨1,0,0⟩;have n1y:=k1 ⟨0,1,0⟩;have n1z:=k1 ⟨0,0,1⟩;have q1x:=k2 ⟨1,0,0⟩;have q1y:=k2 ⟨0,1,0⟩;have q1z:=k2 ⟨0,0,1⟩;have d1:∀v:V3,dot v ⟨1,0,0⟩=v.x:=λv=>by simp[dot]
  have d2:∀v:V3,dot v ⟨0,1,0⟩=v.y:=λv=>by simp[dot]
  have d3:∀v:V3,dot v ⟨0,0,1⟩=v.z:=λv=>by simp[dot]
  rw[d1,d1] at n1x q1x;rw[d2,d2] at n1y q1y;rw[d3,d3] at n1z q1z;generalize dot N N=m at *
  generalize dot n1 N=a at *
  generalize dot q.n N=c at *
  refine V3.ext' (z (z ?_)) (z (z ?_)) (z (z ?_))
  ·have:m*(m*(d7 q.n n1).x)=(m*q.n.y)*(m*n1.z)-(m*q.n.z)*(m*n1.y):=by simp only[d7];grind
   rw[this,q1y,q1z,n1y,n1z];grind
  ·have:m*(m*(d7 q.n n1).y)=(m*q.n.z)*(m*n1.x)-(m*q.n.x)*(m*n1.z):=by simp only[d7];grind
   rw[this,q1x,q1z,n1x,n1z];grind
  ·have:m*(m*(d7 q.n n1).z)=(m*q.n.x)*(m*n1.y)-(m*q.n.y)*(m*n1.x):=by simp only[d7];grind
   rw[this,q1x,q1y,n1x,n1y];grind
 have heq:n1=q.n:=by
  rcases nd7 (bd5 hqf.ok) g1 par with e|e
  ·exact e
  ·exfalso;obtain⟨v,hv,hne⟩:=hs.off (Kb5 hf.ok) p.b;have a1:=nr hv hu;have a2:=hqf.hd (T v) (Qka.2 ⟨v,hv,rfl⟩);have a3:=hf.hd v hv;have ng:∀z:V3,dot n1 z=-dot q.n z:=λz=>by rw[e];simp only[dot,neg];grind
   have a4:=Qkq hd (show dot p.n v-dot p.n u<0 by omega)
   rw[ng,ng] at a1;have a5:0<=g*(-dot q.n (T v) - -dot q.n (T u)):=Int.mul_nonneg (by omega) (by omega)
   omega
 subst heq;exact⟨q,hq,g,rfl,gp,e1,e2,e3,u,hu,p1,q1⟩
theorem Rot.off{n n' sft:V3}{g:Int}(e1:g*n'.x=dot r0 n)(e2:g*n'.y=dot r1 n)(e3:g*n'.z=dot r2 n){u:V3}(t:D*((T u).x-sft.x)=dot r0 u/\D*((T u).y-sft.y)=dot r1 u/\D*((T u).z-sft.z)=dot r2 u):g*(dot n' (T u)-dot n' sft)=D*dot n u:=by
 obtain⟨t1,t2,t3⟩:=t;have e:=Rot.dots h n u;rw[<- t1,<- t2,<- t3,<- e1,<- e2,<- e3] at e;have f:g*n'.x*(D*((T u).x-sft.x))+g*n'.y*(D*((T u).y-sft.y))+g*n'.z*(D*((T u).z-sft.z))=D*(g*(dot n' (T u)-dot n' sft)):=by simp only[dot];grind
 rw[f,Int.mul_assoc] at e;exact Qki (by have:=h.d;omega) e
end
set_option maxRecDepth 100000
theorem hc6{a c:Nat}{x y:Int}(h1:Sm a x)(h2:Sm c y):Sm ((a*c:Nat):Int) (x*y):=by
 have k1:x.natAbs<=a:=by obtain⟨p,q⟩:=h1;omega
 have k2:y.natAbs<=c:=by obtain⟨p,q⟩:=h2;omega
 have k:(x*y).natAbs<=a*c:=by rw[Int.natAbs_mul];exact Nat.mul_le_mul k1 k2
 constructor<;>omega
def Sm3(n:Int)(v:V3):Prop:=Sm n v.x/\Sm n v.y/\Sm n v.z
theorem te6{r v:V3}(hr:Sm3 25 r)(hv:Sm3 4608 v):Sm 115200 (r.x*v.x)/\Sm 115200 (r.y*v.y)/\Sm 115200 (r.z*v.z) :=
 ⟨hc6 (a:=25) (c:=4608) hr.1 hv.1,hc6 (a:=25) (c:=4608) hr.2.1 hv.2.1,hc6 (a:=25) (c:=4608) hr.2.2 hv.2.2⟩
theorem sc7{r v:V3}(hr:Sm3 25 r)(hv:Sm3 4608 v):Sm 345600 (dot r v):=by
 obtain⟨⟨a1,a2⟩,⟨a3,a4⟩,a5,a6⟩:=te6 hr hv;unfold dot
 constructor<;>omega
theorem Zd5{r v:V3}(hr:Sm3 25 r)(hv:Sm3 4608 v):W ((W ((W (r.x*v.x))+(W (r.y*v.y))))+(W (r.z*v.z)))=dot r v:=by
 simp only[Wa0,xb1];exact Ga9 ((sc7 hr hv).mono (by omega))
theorem Ae3{t:Trn}(ht:OkT t){v:V3}(hv:Sm3 4608 v):Q7 t.m v=⟨dot t.m.r0 v,dot t.m.r1 v,dot t.m.r2 v⟩:=by
 unfold Q7;rw[Zd5 ht.b0 hv,Zd5 ht.b1 hv,Zd5 ht.b2 hv]
theorem qd2{f:Frm}(hf:bd4 f):Ca9 f=some (b true,[]):=by
 obtain⟨⟨a1,a2⟩,⟨a3,a4⟩,a5,a6⟩:=hf.s;have hs:Ca3 f.s=some (b true,[]):=by
  unfold Ca3;rw[bf (decide_eq_false (by omega)),bf (decide_eq_false (by omega)),bf (decide_eq_false (by omega)),bf (decide_eq_false (by omega)),bf (decide_eq_false (by omega)),bf (decide_eq_false (by omega))]
 unfold Ca9;rw[show Qa4 f.s=true by unfold Qa4;rw[hs];rfl,show Qa5 f.s=true by unfold Qa5;rw[hs];rfl,hf.t.pv,hf.t.gv]
 rfl
theorem Ae4{f:Frm}(hf:bd4 f):X0 f=true:=by unfold X0;rw[qd2 hf];rfl
theorem Ae5{f:Frm}(hf:bd4 f):X1 f=true:=by unfold X1;rw[qd2 hf];rfl
def rnV(d:Int)(w:V3):V3:=⟨Int.tdiv w.x d*d,Int.tdiv w.y d*d,Int.tdiv w.z d*d⟩
def qtV(d:Int)(w:V3):V3:=⟨Int.tdiv w.x d,Int.tdiv w.y d,Int.tdiv w.z d⟩
theorem cd9(d:Int)(r w:V3):dot r (rnV d w)=d*dot r (qtV d w):=by simp only[dot,rnV,qtV];grind
theorem Zd6{x d n:Int}(h:Sm n x):Sm n (Int.tdiv x d*d):=by
 have k:(Int.tdiv x d*d).natAbs<=x.natAbs:=by rw[Int.natAbs_mul,Int.natAbs_tdiv];exact Nat.div_mul_le_self _ _
 obtain⟨h1,h2⟩:=h
 constructor<;>omega
theorem dd0{d n:Int}{w:V3}(h:Sm3 n w):Sm3 n (rnV d w):=⟨Zd6 h.1,Zd6 h.2.1,Zd6 h.2.2⟩
theorem Je9(r u:V3):dot r r*dot u u=dot r u*dot r u+dot (d7 r u) (d7 r u):=by simp only[dot,d7];grind
theorem sqn(x:Int):0<=x*x:=by rw[<- Int.natAbs_mul_self];exact Int.natCast_nonneg _
theorem te7(v:V3):0<=dot v v:=by
 have a1:0<=v.x*v.x:=sqn _;have a2:0<=v.y*v.y:=sqn _;have a3:0<=v.z*v.z:=sqn _;unfold dot;omega
theorem Ae6{q:Int}(h:q*q<=363):Sm 19 q:=by
 constructor
 ·apply Qkh;intro hn
  have:=Int.mul_le_mul (show 20<=-q by omega) (show 20<=-q by omega) (by omega) (by omega)
  rw[Int.neg_mul_neg] at this;omega
 ·apply Qkh;intro hn
  have:=Int.mul_le_mul (show 20<=q by omega) (show 20<=q by omega) (by omega) (by omega)
  omega
theorem zd4{r w:V3}{d:Int}(hd:1<=d)(hr:dot r r=d*d)(hw:Sm3 11 w):Sm 19 (dot r (qtV d w)):=by
 have h:=Je9 r (rnV d w);have h2:=te7 (d7 r (rnV d w));obtain⟨s1,s2,s3⟩:=dd0 (d:=d) hw;have t1:=(hc6 (a:=11) (c:=11) s1 s1).2;have t2:=(hc6 (a:=11) (c:=11) s2 s2).2;have t3:=(hc6 (a:=11) (c:=11) s3 s3).2;have hu:dot (rnV d w) (rnV d w)<=363:=by
  rw[show dot (rnV d w) (rnV d w)=(rnV d w).x*(rnV d w).x+(rnV d w).y*(rnV d w).y+(rnV d w).z*(rnV d w).z from rfl]
  have e:((11*11:Nat):Int)=121:=rfl;rw[e] at t1 t2 t3;omega
 rw[hr,cd9 d r w] at h;refine Ae6 ?_;generalize dot r (qtV d w)=q at *
 generalize dot (rnV d w) (rnV d w)=m at *
 have hp:0<d*d:=Int.mul_pos (by omega) (by omega)
 have h3:d*d*(q*q)<=d*d*363:=by
  have:d*q*(d*q)=d*d*(q*q):=by grind
  have h4:d*d*m<=d*d*363:=Int.mul_le_mul_of_nonneg_left hu (by omega)
  omega
 exact Int.le_of_mul_le_mul_left h3 hp
def TF(f:Frm)(v:V3):V3:=⟨Int.tdiv (dot f.t.m.r0 v) f.t.d+f.s.x,Int.tdiv (dot f.t.m.r1 v) f.t.d+f.s.y,Int.tdiv (dot f.t.m.r2 v) f.t.d+f.s.z⟩
theorem sc8{d:Int}(hd:1<=d)(r w:V3):Int.tdiv (dot r (rnV d w)) d=dot r (qtV d w):=by
 rw[cd9];exact Qkd _ (by omega)
theorem je4{d:Int}(r w:V3):Int.tmod (dot r (rnV d w)) d=0:=by
 rw[cd9];exact Int.mul_tmod_right d _
structure Ap(f:Frm)(v:V3):Prop where
 p:E3 f v=(TF f v,true)
 g:y9 f v=true
 i:inV (TF f v)=true
 e:f.t.d*((TF f v).x-f.s.x)=dot f.t.m.r0 v/\f.t.d*((TF f v).y-f.s.y)=dot f.t.m.r1 v/\f.t.d*((TF f v).z-f.s.z)=dot f.t.m.r2 v
theorem Xa2{f:Frm}(hf:bd4 f){w:V3}(hw:Sm3 11 w):Ap f (rnV f.t.d w):=by
 have hd:=hf.t.d1;have hs:=dd0 (d:=f.t.d) hw;have hiv:inV (rnV f.t.d w)=true:=(la9 _).2 ⟨hs.1.mono (by omega),hs.2.1.mono (by omega),hs.2.2.mono (by omega)⟩
 have hof:=Ae3 hf.t (v:=rnV f.t.d w) ⟨hs.1.mono (by omega),hs.2.1.mono (by omega),hs.2.2.mono (by omega)⟩
 have q0:=zd4 hd hf.t.h00 hw;have q1:=zd4 hd hf.t.h11 hw;have q2:=zd4 hd hf.t.h22 hw;have hT:TF f (rnV f.t.d w)=⟨dot f.t.m.r0 (qtV f.t.d w)+f.s.x,dot f.t.m.r1 (qtV f.t.d w)+f.s.y,dot f.t.m.r2 (qtV f.t.d w)+f.s.z⟩:=by unfold TF;rw[sc8 hd,sc8 hd,sc8 hd]
 have hdv:pa2 ⟨dot f.t.m.r0 (rnV f.t.d w),dot f.t.m.r1 (rnV f.t.d w),dot f.t.m.r2 (rnV f.t.d w)⟩ f.t.d=some (.tup [.agg (tV.row ⟨dot f.t.m.r0 (qtV f.t.d w),dot f.t.m.r1 (qtV f.t.d w),dot f.t.m.r2 (qtV f.t.d w)⟩),b true],[]):=by
  unfold pa2;simp only[show (f.t.d==0)=false by rw[beq_eq_false_iff_ne];omega,je4,sc8 hd,sa9,BEq.rfl,r5]
  rw[Ga9 (q0.mono (by omega)),Ga9 (q1.mono (by omega)),Ga9 (q2.mono (by omega))]
  rfl
 have pd:ga5 ⟨dot f.t.m.r0 (rnV f.t.d w),dot f.t.m.r1 (rnV f.t.d w),dot f.t.m.r2 (rnV f.t.d w)⟩ f.t.d=(⟨dot f.t.m.r0 (qtV f.t.d w),dot f.t.m.r1 (qtV f.t.d w),dot f.t.m.r2 (qtV f.t.d w)⟩,true):=by unfold ga5;rw[hdv];rfl
 have gd:ga6 ⟨dot f.t.m.r0 (rnV f.t.d w),dot f.t.m.r1 (rnV f.t.d w),dot f.t.m.r2 (rnV f.t.d w)⟩ f.t.d=true:=by unfold ga6;rw[hdv];rfl
 obtain⟨⟨s1,s2⟩,⟨s3,s4⟩,s5,s6⟩:=hf.s;have hiT:inV (TF f (rnV f.t.d w))=true:=by
  rw[hT];obtain⟨c1,c2⟩:=q0;obtain⟨c3,c4⟩:=q1;obtain⟨c5,c6⟩:=q2;exact (la9 _).2 ⟨⟨by simp only;omega,by simp only;omega⟩,⟨by simp only;omega,by simp only;omega⟩,⟨by simp only;omega,by simp only;omega⟩⟩
 have hadd:Ja7 ⟨dot f.t.m.r0 (qtV f.t.d w),dot f.t.m.r1 (qtV f.t.d w),dot f.t.m.r2 (qtV f.t.d w)⟩ f.s=TF f (rnV f.t.d w):=by
  rw[hT];simp only[Ja7];obtain⟨c1,c2⟩:=q0;obtain⟨c3,c4⟩:=q1;obtain⟨c5,c6⟩:=q2;rw[aa4 (by omega) (by omega),aa4 (by omega) (by omega),aa4 (by omega) (by omega)]
 have ho:Da0 f (rnV f.t.d w)=some (.tup [.agg (tV.row (TF f (rnV f.t.d w))),b true],[]):=by
  unfold Da0;simp only[Ae4 hf,Ae5 hf,hof,pd,gd,hadd,ab8,hiv,hiT,Bool.not_true,r5,sa9];rfl
 refine⟨by unfold E3;rw[ho];rfl,by unfold y9;rw[ho];rfl,hiT,?_⟩
 rw[hT];simp only[cd9];exact⟨by grind,by grind,by grind⟩
theorem zd5{f:Frm}(hf:bd4 f){l:List V3}(hl:∀v∈l,∃w,v=rnV f.t.d w/\Sm3 11 w):Rot l (TF f) f.t.m.r0 f.t.m.r1 f.t.m.r2 f.t.d:=by
 have h:=hf.t;refine⟨⟨by have:=h.d1;omega,h.det,λu hu w hw=>?_⟩,h.h00,h.h11,h.h22,h.h01,h.h02,h.h12⟩
 obtain⟨u',rfl,hu'⟩:=hl u hu;obtain⟨w',rfl,hw'⟩:=hl w hw;obtain⟨a1,a2,a3⟩:=(Xa2 hf hu').e;obtain⟨c1,c2,c3⟩:=(Xa2 hf hw').e;have ds:∀r:V3,dot r (o8 (rnV f.t.d u') (rnV f.t.d w'))=dot r (rnV f.t.d u')-dot r (rnV f.t.d w'):=λr=>by simp only[dot,o8];grind
 rw[ds,ds,ds,<- a1,<- a2,<- a3,<- c1,<- c2,<- c3];exact⟨by grind,by grind,by grind⟩
theorem te8(q:Pln):q=⟨q.n,q.b⟩:=rfl
theorem Nd2{n s:V3}(hn:Sm3 4608 n)(hs:Sm3 4 s):r7 n s=dot n s/\Sm 55296 (dot n s):=by
 have h1:=hc6 (a:=4608) (c:=4) hn.1 hs.1;have h2:=hc6 (a:=4608) (c:=4) hn.2.1 hs.2.1;have h3:=hc6 (a:=4608) (c:=4) hn.2.2 hs.2.2;obtain⟨a1,a2⟩:=h1;obtain⟨a3,a4⟩:=h2;obtain⟨a5,a6⟩:=h3;have e:((4608*4:Nat):Int)=18432:=rfl;rw[e] at a1 a2 a3 a4 a5 a6;have hd:Sm 55296 (dot n s):=by unfold dot;constructor<;>omega
 refine⟨?_,hd⟩;unfold r7;simp only[Wa0,xb1];exact Ga9 (hd.mono (by omega))
theorem Zd7 {f : Frm} (hf : bd4 f) {l : List V3} (hl : ∀ v ∈ l, ∃ w, v = rnV f.t.d w ∧ Sm3 11 w) (hi : l.all inV = true) (hm : (l.map (TF f)).all inV = true) (hs : Sol l) {p : Pln} (hp : p ∈ F0 l) :
  ∃q∈F0 (l.map (TF f)),R5 f p=(q,true)/\L3 f p=true:=by
 have hR:=zd5 hf hl;obtain⟨q,hq,g,hg,gp,e1,e2,e3,u,hu,on,on'⟩:=Rot.find hR hi hm hs hp;have okq:=((R6 hm q).1 hq).ok;have okpp:=((R6 hi p).1 hp).ok;obtain⟨u',rfl,hu'⟩:=hl u hu;have off:=Rot.off hR e1 e2 e3 (Xa2 hf hu').e;rw[on,on'] at off;have bp:=fc7 okpp;have bq:=fc7 okq;have np:Sm3 4608 p.n:=⟨⟨bp.x1,bp.x2⟩,⟨bp.y1,bp.y2⟩,bp.z1,bp.z2⟩;have nq:Sm3 4608 q.n:=⟨⟨bq.x1,bq.x2⟩,⟨bq.y1,bq.y2⟩,bq.z1,bq.z2⟩;have hof:=Ae3 hf.t np;have hpr:ka2 ⟨dot f.t.m.r0 p.n,dot f.t.m.r1 p.n,dot f.t.m.r2 p.n⟩=(q.n,g):=by
  unfold ka2;rw[<- hg,if_neg (by omega)]
  simp only[<- e1,<- e2,<- e3];rw[Qkd _ (by omega),Qkd _ (by omega),Qkd _ (by omega),Ga9 (nq.1.mono (by omega)),Ga9 (nq.2.1.mono (by omega)),Ga9 (nq.2.2.mono (by omega))]
 have gpr:ua6 ⟨dot f.t.m.r0 p.n,dot f.t.m.r1 p.n,dot f.t.m.r2 p.n⟩=true:=by
  unfold ua6;rw[xd7 ((sc7 hf.t.b0 np).mono (by omega)),xd7 ((sc7 hf.t.b1 np).mono (by omega)),xd7 ((sc7 hf.t.b2 np).mono (by omega))]
  rfl
 obtain⟨hdt,hdb⟩:=Nd2 nq hf.s;have hW:W (f.t.d*p.b)=g*(q.b-dot q.n f.s):=by
  rw[off]
  have:=hc6 (a:=25) (c:=2097152) ⟨by have:=hf.t.d1;omega,hf.t.d25⟩ ⟨bp.b1,bp.b2⟩
  exact Ga9 (this.mono (by omega))
 have hW2:W (W (Int.tdiv (W (f.t.d*p.b)) g)+dot q.n f.s)=q.b:=by
  rw[hW,Qkd _ (by omega)]
  have:=bq.b1
  have:=bq.b2
  obtain⟨c1,c2⟩:=hdb;rw[Wa0,show q.b-dot q.n f.s+dot q.n f.s=q.b by omega,aa4 (by omega) (by omega)]
 have hmod:Int.tmod (W (f.t.d*p.b)) g=0:=by rw[hW];exact Int.mul_tmod_right _ _
 have ho:Da1 f p=some (.tup [.agg (tP.row q),b true],[]):=by
  unfold Da1;simp only[Ae4 hf,Ae5 hf,hof,hpr,gpr,hdt,hW2,hmod,Ca6,okpp,<- te8 q,okq,show (g==0)=false by rw[beq_eq_false_iff_ne];omega,Bool.not_true,r5,sa9,bne_self_eq_false]
  rfl
 exact⟨q,hq,by unfold R5;rw[ho];rfl,by unfold L3;rw[ho];rfl⟩
theorem Sc9(f:V3->V3)(w:V3):∀(a o:List V3),w∈a.foldl (λo v=>ea7 o (f v)) o↔w∈o\/∃v∈a,w=f v
 |[],o=>by simp
 |v::a,o=>by
  rw[List.foldl_cons,Sc9 f w a,hc5];constructor
  ·rintro ((h|h)|⟨u,hu,h⟩)
   ·exact .inr ⟨v,by simp,h⟩
   ·exact .inl h
   ·exact .inr ⟨u,List.mem_cons_of_mem _ hu,h⟩
  ·rintro (h|⟨u,hu,h⟩)
   ·exact .inl (.inr h)
   ·rcases Qkg.1 hu with rfl|hu
    ·exact .inl (.inl h)
    ·exact .inr ⟨u,hu,h⟩
theorem Tc0(f:V3->V3):∀(a o:List V3),gc6 o->gc6 (a.foldl (λo v=>ea7 o (f v)) o)
 |[],_,h=>h
 |v::a,o,h=>by
  rw[List.foldl_cons];exact Tc0 f a _ (Sc7 (f v) h)
theorem Sim.put{l:List V3}{T:V3->V3}(h:Sim l T)(h48:l.length<=48):(Da7 l).1.foldl (λo v=>ea7 o (T v)) []=(Da7 (l.map T)).1:=by
 refine kc9 _ _ (Tc0 T _ _ .nil) (Ha4 _).2.1 λw=>?_
 rw[Sc9,Sim.verts h h48];simp
noncomputable def te9(l:List V3):c7×List c8:=(.sl 0 0 l.length 0,[⟨29,3,bL tV l,true,false,0⟩])
noncomputable def Ja3(x:List Int):Bool:=@decide (V9 x=some (te9 (R3 x))) (Classical.propDecidable _)
noncomputable def Kb9:Sum:=K2 (La8 tI) λx=>.guard (Ja3 x) (.ret (.sl 0 0 (List.length (R3 x)) 0,[⟨29,3,bL tV (R3 x),true,false,0⟩]))
theorem Fc5:g8 prog G 6 (K2 (La8 tI) λx=>DT.ofOption (V9 x)) :=
 Ia1 (bd b6 zc0) λx r hr=>(show ∀r,V9 x=some r->(pb2 (En cb7) pf6 [(La8 tI).enc x] []).run=some r from gb6 (.s .p (.s .p (.s .p (.s .p (.s (.s .p (.b (.u Va0.ls))) .p))))) [Va0.pr] (by kernel_rfl) (.cons mc6 .nil) (by kernel_rfl)) r (by rw[Ia2] at hr;exact hr)
theorem Fc6:g8 prog G 6 Kb9:=λargs blks r out he=>Fc5 args blks r out (Xb2 (λx r hr=>by
 obtain⟨h1,hr⟩:=DT.run_guard_some hr;have h1:V9 x=some (te9 (R3 x)):=@of_decide_eq_true _ (Classical.propDecidable _) h1;rw[Ia2,h1];exact hr) he)
def Ro(o:Option (c7×List c8)):Prop:=∃l,o=some (te9 l)
theorem Ro.sl{c:Bool}{t e:Option (c7×List c8)}(h1:c=true->Ro t)(h2:c=false->Ro e):Ro (sl c t e):=by cases c;exact h2 rfl;exact h1 rfl
theorem Zd8{l:List V3}{n:Nat}{r:List (List c7)}(hn:n=l.length)(hr:r=bL tV l):Ro (some (.sl 0 0 n 0,[⟨29,3,r,true,false,0⟩])):=by
 subst hn hr;exact⟨l,rfl⟩
theorem Nd3(x:List Int):Ro (V9 x):=by
 obtain⟨v,j,e1,a1,b1,c1,d1⟩:=Ca5 5 x 0 (by omega) (by omega) (by omega) (by omega)
 have hN:W (4+v)=(((4+v).toNat:Nat):Int):=by rw[aa4 (by omega) (by omega)];omega
 obtain⟨idx,out,e2,e3,hB⟩:=pd3 x (4+v).toNat (by omega) (by omega) j (by omega)
 unfold V9;simp only[w5,o9,e1,hN,e2];have h4:4<=(4+v).toNat:=by omega
 have h8:(4+v).toNat<=8:=by omega
 generalize (4+v).toNat=N at *
 have s1:lsL tV N (λk=>i8 (bL tV out) (0+k))=out:=by rw[<- e3];exact vb0 tV out
 have s2:okL tV N (λk=>i8 (bL tV out) (0+k))=true:=by rw[<- e3];exact Mb8 tV out
 have gf:Ga2 out=true:=Vd5 out (by omega)
 rw[s1,s2,gf,Wd7 out (by omega)]
 simp only[Qkw,Qkaf,r5,show Nat.beq 2 1=false from rfl,sa9]
 refine Ro.sl (λ_=>?_) λhnf=>Zd8 e3.symm rfl
 have i0:inB 0 N=true:=j9 (j:=0) (by omega)
 have i1:inB 1 N=true:=j9 (j:=1) (by omega)
 have i2:inB 2 N=true:=j9 (j:=2) (by omega)
 have i3:inB 3 N=true:=j9 (j:=3) (by omega)
 have sp:∀(v:V3) (x1 x2 x3:Int),C9 (tV.row v) 0 [i x1,i x2,i x3]=tV.row ⟨x1,x2,x3⟩:=λ_ _ _ _=>rfl
 have rl:∀v:V3,Nat.ble (0+3) (len (tV.row v))=true:=λ_=>rfl
 have ck:∀v:V3,ra5 [CK.int .i64,CK.int .i64,CK.int .i64] (j6 (tV.row v) 0)=true:=λ_=>rfl
 have gr:∀(l:List V3) (k:Nat),l.length=N->k<4->i8 (bL tV l) k=tV.row (gL tV l k):=λl k hl hk=>O3 tV (by omega)
 have bl:∀(l:List V3) (k:Nat),l.length=N->k<4->Nat.blt k (len (bL tV l))=true:=λl k hl hk=>by rw[ka7,Nat.blt_eq];omega
 have ls:∀(l:List V3) (k:Nat) (v:V3),l.length=N->(l.set k v).length=N:=λl k v hl=>by rw[List.length_set];exact hl
 rw[gr out 0 e3 (by omega),gr out 1 e3 (by omega)]
 simp only[sp,za9];rw[gr _ 2 (ls out 1 _ e3) (by omega)]
 simp only[sp,za9];rw[gr _ 3 (ls _ 2 _ (ls out 1 _ e3)) (by omega)]
 simp only[sp,za9,rl,ck,i0,i1,i2,i3,bl out 0 e3 (by omega),bl out 1 e3 (by omega),bl _ 2 (ls out 1 _ e3) (by omega),bl _ 3 (ls _ 2 _ (ls out 1 _ e3)) (by omega),Qkaf,r5]
 exact Zd8 (by simp only[List.length_set];omega) rfl
theorem Nd4(x:List Int):Ja3 x=true:=by
 obtain⟨l,h⟩:=Nd3 x;have e:R3 x=l:=by
  unfold R3;rw[h];obtain⟨a,r,h1,h2,h3⟩:=(Cc1 (l:=l) (n:=l.length) (r:=bL tV l) (P:=λz=>z=l) rfl rfl rfl)
  have:=(Cc1 (l:=l) (n:=l.length) (r:=bL tV l) (P:=λz=>z=l) rfl rfl rfl).p
  exact this
 unfold Ja3;rw[e];exact @decide_eq_true _ (Classical.propDecidable _) h
def Fc7:=ma1 Kc7
def qc6:=ma1 Fc6
def qc7:=ma1 Fc4
def Zb4:=ma1 hc3
def qd3:=ma1 xd5
def hc7:=ma1 pc0
noncomputable def Q8:List (Nat×Sum):=[(4,Ab1),(5,Xb7),(6,Kb9),(7,zb8),(8,Qa8),(9,xa8),(10,ga7),(11,Kb8),(12,Qa9),(13,rb2),(14,Qc6),(15,yb0)]
theorem Gb4:j5 prog GI Q8:=⟨qc5,Fc7,qc6,Kb2,eb9,Kb1,Kb0,qc7,fb0,Zb4,qd3,hc7,trivial⟩
structure C8 where
 bs5:Bool
 is7:Int
 (ns8 ke3:Nat)
 (Nd9 f0 d8 g7 i9 C1 C3 C4 C5 C6 F6 y6 y7 y8:Int)
structure l7 where
 ph:Nat
 Y8:Int
 eh1:List (List c7)
 ns9:Nat
 eh2:List (List c7)
noncomputable def Ea1(p:C8)(s:l7):St:=⟨ra 5 (b p.bs5::.ptr 0 0 0 0::i p.is7::.sl 1 0 p.ns8 0::.v (.slice none 0 0)::ra 35 (.sl 1 0 p.ke3 0::i p.Nd9::i s.Y8::ra 170 [])),[⟨0,13,[[i p.f0,i p.d8,i p.g7,i p.i9,i p.C1,i p.C3,i p.C4,i p.C5,i p.C6,i p.F6,i p.y6,i p.y7,i p.y8]],true,false,0⟩,⟨29,3,s.eh1,true,false,0⟩]⟩
noncomputable def Ea2(p:C8)(s:l7):St:=⟨ra 5 (b p.bs5::.ptr 0 0 0 0::i p.is7::.sl 1 0 p.ns8 0::.sl 2 0 s.ns9 0::ra 35 (.sl 1 0 p.ke3 0::i p.Nd9::i s.Y8::ra 170 [])),[⟨0,13,[[i p.f0,i p.d8,i p.g7,i p.i9,i p.C1,i p.C3,i p.C4,i p.C5,i p.C6,i p.F6,i p.y6,i p.y7,i p.y8]],true,false,0⟩,⟨29,3,s.eh1,true,false,0⟩,⟨29,3,s.eh2,true,false,0⟩]⟩
noncomputable def Ab4(p:C8)(s:l7):St:=(sel (Nat.beq s.ph 1) (Ea2 p s) (Ea1 p s))
noncomputable def P5{α:Type}(k:l7->α)(e:Nat->α)(z:α)(p:C8)(s:l7):α:=let t1:=(q9 (W ((W (Int.tdiv (rdR tV s.eh1 (0+s.Y8.toNat)).x p.is7))*p.is7)) (W ((W (Int.tdiv (rdR tV s.eh1 (0+s.Y8.toNat)).y p.is7))*p.is7)) (W ((W (Int.tdiv (rdR tV s.eh1 (0+s.Y8.toNat)).z p.is7))*p.is7)));let t2:=(E3 (⟨(⟨(⟨(⟨p.f0,p.d8,p.g7⟩:V3),(⟨p.i9,p.C1,p.C3⟩:V3),(⟨p.C4,p.C5,p.C6⟩:V3)⟩:M3),p.F6⟩:Trn),(⟨p.y6,p.y7,p.y8⟩:V3)⟩:Frm) (rdR tV (setAt s.eh1 (0+s.Y8.toNat) (C9 (i8 s.eh1 (0+s.Y8.toNat)) 0 [i t1.x,i t1.y,i t1.z])) (0+s.Y8.toNat)));(sl (decide (s.Y8<p.Nd9)) (sl (inB s.Y8 p.ke3) (sl (ldR tV s.eh1 (0+s.Y8.toNat)) (sl (p.is7==0) z (sl (p.is7==0) z (sl (p.is7==0) z (sl (inB s.Y8 p.ns8) (sl ((Nat.blt (0+s.Y8.toNat) (len s.eh1))&&(Nat.ble (0+3) (len (i8 s.eh1 (0+s.Y8.toNat))))) (sl (inB s.Y8 p.ns8) (sl (ldR tV (setAt s.eh1 (0+s.Y8.toNat) (C9 (i8 s.eh1 (0+s.Y8.toNat)) 0 [i t1.x,i t1.y,i t1.z])) (0+s.Y8.toNat)) (sl (y9 (⟨(⟨(⟨(⟨p.f0,p.d8,p.g7⟩:V3),(⟨p.i9,p.C1,p.C3⟩:V3),(⟨p.C4,p.C5,p.C6⟩:V3)⟩:M3),p.F6⟩:Trn),(⟨p.y6,p.y7,p.y8⟩:V3)⟩:Frm) (rdR tV (setAt s.eh1 (0+s.Y8.toNat) (C9 (i8 s.eh1 (0+s.Y8.toNat)) 0 [i t1.x,i t1.y,i t1.z])) (0+s.Y8.toNat))) (sl (!t2.2) (e 1) (k ⟨1,W (s.Y8+1),setAt s.eh1 (0+s.Y8.toNat) (C9 (i8 s.eh1 (0+s.Y8.toNat)) 0 [i t1.x,i t1.y,i t1.z]),1,[[i t2.1.x,i t2.1.y,i t2.1.z]]⟩)) z) z) z) z) z)))) z) z) (e 2))
noncomputable def D0{α:Type}(k:l7->α)(e:Nat->α)(z:α)(p:C8)(s:l7):α:=let t1:=(q9 (W ((W (Int.tdiv (rdR tV s.eh1 (0+s.Y8.toNat)).x p.is7))*p.is7)) (W ((W (Int.tdiv (rdR tV s.eh1 (0+s.Y8.toNat)).y p.is7))*p.is7)) (W ((W (Int.tdiv (rdR tV s.eh1 (0+s.Y8.toNat)).z p.is7))*p.is7)));let t2:=(E3 (⟨(⟨(⟨(⟨p.f0,p.d8,p.g7⟩:V3),(⟨p.i9,p.C1,p.C3⟩:V3),(⟨p.C4,p.C5,p.C6⟩:V3)⟩:M3),p.F6⟩:Trn),(⟨p.y6,p.y7,p.y8⟩:V3)⟩:Frm) (rdR tV (setAt s.eh1 (0+s.Y8.toNat) (C9 (i8 s.eh1 (0+s.Y8.toNat)) 0 [i t1.x,i t1.y,i t1.z])) (0+s.Y8.toNat)));(sl (decide (s.Y8<p.Nd9)) (sl (inB s.Y8 p.ke3) (sl (ldR tV s.eh1 (0+s.Y8.toNat)) (sl (p.is7==0) z (sl (p.is7==0) z (sl (p.is7==0) z (sl (inB s.Y8 p.ns8) (sl ((Nat.blt (0+s.Y8.toNat) (len s.eh1))&&(Nat.ble (0+3) (len (i8 s.eh1 (0+s.Y8.toNat))))) (sl (inB s.Y8 p.ns8) (sl (ldR tV (setAt s.eh1 (0+s.Y8.toNat) (C9 (i8 s.eh1 (0+s.Y8.toNat)) 0 [i t1.x,i t1.y,i t1.z])) (0+s.Y8.toNat)) (sl (y9 (⟨(⟨(⟨(⟨p.f0,p.d8,p.g7⟩:V3),(⟨p.i9,p.C1,p.C3⟩:V3),(⟨p.C4,p.C5,p.C6⟩:V3)⟩:M3),p.F6⟩:Trn),(⟨p.y6,p.y7,p.y8⟩:V3)⟩:Frm) (rdR tV (setAt s.eh1 (0+s.Y8.toNat) (C9 (i8 s.eh1 (0+s.Y8.toNat)) 0 [i t1.x,i t1.y,i t1.z])) (0+s.Y8.toNat))) (sl (!t2.2) (e 1) (sl (Nat.beq s.ns9 (len s.eh2)&&Nat.ble ((s.ns9+1)*24) room) (k ⟨1,W (s.Y8+1),setAt s.eh1 (0+s.Y8.toNat) (C9 (i8 s.eh1 (0+s.Y8.toNat)) 0 [i t1.x,i t1.y,i t1.z]),s.ns9+1,app s.eh2 [[i t2.1.x,i t2.1.y,i t2.1.z]]⟩) z)) z) z) z) z) z)))) z) z) (e 3))
noncomputable def S5(p:C8)(s:l7):Stp l7:=(sel (Nat.beq s.ph 1) (D0 .next .exit .fail p s) (P5 .next .exit .fail p s))
noncomputable def sa2:Lo C8 l7:=⟨EnI Q8,0,pf3,[1,1,1,1,1,1,0,1,4,4],[5,6,7,8,9,45,46,47],.p,[⟨ru2 5 (sBq::sPq 0::sIq::.s (.o (.sl 1 0 (some 0) none))::.s (.o .nil)::ru2 35 (.s (.o (.sl 1 0 (some 0) none))::sIq::sIq::ru2 170 [])),[⟨0,13,true,some [kLq 13]⟩,⟨29,3,true,none⟩],λa H=>(⟨aBq a 5,aIq a 7,slN (slT a 8),slN (slT a 45),aIq a 46,hIq H 0 0 0,hIq H 0 0 1,hIq H 0 0 2,hIq H 0 0 3,hIq H 0 0 4,hIq H 0 0 5,hIq H 0 0 6,hIq H 0 0 7,hIq H 0 0 8,hIq H 0 0 9,hIq H 0 0 10,hIq H 0 0 11,hIq H 0 0 12⟩,⟨0,aIq a 47,elT H 1,0,[]⟩)⟩,⟨ru2 5 (sBq::sPq 0::sIq::.s (.o (.sl 1 0 (some 0) none))::.s (.o (.sl 2 0 (some 0) none))::ru2 35 (.s (.o (.sl 1 0 (some 0) none))::sIq::sIq::ru2 170 [])),[⟨0,13,true,some [kLq 13]⟩,⟨29,3,true,none⟩,⟨29,3,true,none⟩],λa H=>(⟨aBq a 5,aIq a 7,slN (slT a 8),slN (slT a 45),aIq a 46,hIq H 0 0 0,hIq H 0 0 1,hIq H 0 0 2,hIq H 0 0 3,hIq H 0 0 4,hIq H 0 0 5,hIq H 0 0 6,hIq H 0 0 7,hIq H 0 0 8,hIq H 0 0 9,hIq H 0 0 10,hIq H 0 0 11,hIq H 0 0 12⟩,⟨1,aIq a 47,elT H 1,slN (slT a 9),elT H 2⟩)⟩],S5,[(none,λp s=>⟨[b false],[]⟩),(some 0,λp s=>upq (Ea1 p s) [(48,b (decide (s.Y8<p.Nd9)))]),(some 0,λp s=>upq (Ea2 p s) [(48,b (decide (s.Y8<p.Nd9)))])],Ab4⟩
theorem Ab5:sa2.Ok:=Lo.ok [] (by kernel_rfl) .nil rfl (.cons (λa H=>by kernel_rfl) (.cons (λa H=>by kernel_rfl) .nil)) λp s=>(.sel (Nat.beq s.ph 1) (.of @D0 (λF _ _ _ _ _=>by unfold D0;(repeat' apply q8 (f:=F))<;>rfl) (by kernel_rfl)) (.of @P5 (λF _ _ _ _ _=>by unfold P5;(repeat' apply q8 (f:=F))<;>rfl) (by kernel_rfl)))
structure z6 where
 bs5:Bool
 ns8:Nat
 (Od0 f0 d8 g7 i9 C1 C3 C4 C5 C6 F6 y6 y7 y8:Int)
 eh1:List (List c7)
 ns9:Nat
 eh2:List (List c7)
structure l5 where
 ph:Nat
 Pb2:Int
noncomputable def Ea3(p:z6)(s:l5):St:=⟨ra 5 (b p.bs5::.ptr 0 0 0 0::.unk::.sl 1 0 p.ns8 0::.v (.slice none 0 0)::ra 81 (i p.Od0::i s.Pb2::ra 125 [])),[⟨0,13,[[i p.f0,i p.d8,i p.g7,i p.i9,i p.C1,i p.C3,i p.C4,i p.C5,i p.C6,i p.F6,i p.y6,i p.y7,i p.y8]],true,false,0⟩,⟨29,3,p.eh1,true,false,0⟩]⟩
noncomputable def Ea4(p:z6)(s:l5):St:=⟨ra 5 (b p.bs5::.ptr 0 0 0 0::.unk::.sl 1 0 p.ns8 0::.sl 2 0 p.ns9 0::ra 81 (i p.Od0::i s.Pb2::ra 125 [])),[⟨0,13,[[i p.f0,i p.d8,i p.g7,i p.i9,i p.C1,i p.C3,i p.C4,i p.C5,i p.C6,i p.F6,i p.y6,i p.y7,i p.y8]],true,false,0⟩,⟨29,3,p.eh1,true,false,0⟩,⟨29,3,p.eh2,true,false,0⟩]⟩
noncomputable def Ab6(p:z6)(s:l5):St:=(sel (Nat.beq s.ph 1) (Ea4 p s) (Ea3 p s))
noncomputable def la4{α:Type}(k:l5->α)(e:Nat->α)(z:α)(p:z6)(s:l5):α:=(sl (decide (s.Pb2<p.Od0)) (sl (inB s.Pb2 p.ns8) (sl (ldR tV p.eh1 (0+s.Pb2.toNat)) (sl (inB 0 p.ns8) (sl (ldR tV p.eh1 0) z z) z) z) z) (e 1))
noncomputable def D1{α:Type}(k:l5->α)(e:Nat->α)(z:α)(p:z6)(s:l5):α:=let t1:=(O5 (rdR tV p.eh1 (0+s.Pb2.toNat)) (rdR tV p.eh1 0));let t2:=(O5 (rdR tV p.eh2 (0+s.Pb2.toNat)) (rdR tV p.eh2 0));let t3:=(r7 t1 t1);let t4:=(r7 t2 t2);(sl (decide (s.Pb2<p.Od0)) (sl (inB s.Pb2 p.ns8) (sl (ldR tV p.eh1 (0+s.Pb2.toNat)) (sl (inB 0 p.ns8) (sl (ldR tV p.eh1 0) (sl (inB s.Pb2 p.ns9) (sl (ldR tV p.eh2 (0+s.Pb2.toNat)) (sl (inB 0 p.ns9) (sl (ldR tV p.eh2 0) (sl (t3 != t4) (e 2) (k ⟨1,W (s.Pb2+1)⟩)) z) z) z) z) z) z) z) z) (e 3))
noncomputable def L9(p:z6)(s:l5):Stp l5:=(sel (Nat.beq s.ph 1) (D1 .next .exit .fail p s) (la4 .next .exit .fail p s))
noncomputable def sa3:Lo z6 l5:=⟨EnI Q8,0,pf3,[1,1,1,1,1,1,1,0,1,4,4],[5,6,8,9,91,92],.p,[⟨ru2 5 (sBq::sPq 0::sUq::.s (.o (.sl 1 0 (some 0) none))::.s (.o .nil)::ru2 81 (sIq::sIq::ru2 125 [])),[⟨0,13,true,some [kLq 13]⟩,⟨29,3,true,none⟩],λa H=>(⟨aBq a 5,slN (slT a 8),aIq a 91,hIq H 0 0 0,hIq H 0 0 1,hIq H 0 0 2,hIq H 0 0 3,hIq H 0 0 4,hIq H 0 0 5,hIq H 0 0 6,hIq H 0 0 7,hIq H 0 0 8,hIq H 0 0 9,hIq H 0 0 10,hIq H 0 0 11,hIq H 0 0 12,elT H 1,0,[]⟩,⟨0,aIq a 92⟩)⟩,⟨ru2 5 (sBq::sPq 0::sUq::.s (.o (.sl 1 0 (some 0) none))::.s (.o (.sl 2 0 (some 0) none))::ru2 81 (sIq::sIq::ru2 125 [])),[⟨0,13,true,some [kLq 13]⟩,⟨29,3,true,none⟩,⟨29,3,true,none⟩],λa H=>(⟨aBq a 5,slN (slT a 8),aIq a 91,hIq H 0 0 0,hIq H 0 0 1,hIq H 0 0 2,hIq H 0 0 3,hIq H 0 0 4,hIq H 0 0 5,hIq H 0 0 6,hIq H 0 0 7,hIq H 0 0 8,hIq H 0 0 9,hIq H 0 0 10,hIq H 0 0 11,hIq H 0 0 12,elT H 1,slN (slT a 9),elT H 2⟩,⟨1,aIq a 92⟩)⟩],L9,[(some 2,λp s=>upq (Ea3 p s) [(93,b (decide (s.Pb2<p.Od0)))]),(none,λp s=>⟨[b false],[]⟩),(some 2,λp s=>upq (Ea4 p s) [(93,b (decide (s.Pb2<p.Od0)))])],Ab6⟩
theorem Ab7:sa3.Ok:=Lo.ok [] (by kernel_rfl) .nil rfl (.cons (λa H=>by kernel_rfl) (.cons (λa H=>by kernel_rfl) .nil)) λp s=>(.sel (Nat.beq s.ph 1) (.of @D1 (λF _ _ _ _ _=>by unfold D1;(repeat' apply q8 (f:=F))<;>rfl) (by kernel_rfl)) (.of @la4 (λF _ _ _ _ _=>by unfold la4;(repeat' apply q8 (f:=F))<;>rfl) (by kernel_rfl)))
structure s7 where
 bs5:Bool
 ns8:Nat
 Gc0:Int
 ia2:List Pln
 Be6:Bool
 X3:List Pln
 (Bb6 va0:Int)
 ra4:List Pln
 (Gc2 f0 d8 g7 i9 C1 C3 C4 C5 C6 F6 y6 y7 y8:Int)
 eh1:List (List c7)
 (sc9 tc0 tc1 Gd1:Int)
 ns9:Nat
 eh2:List (List c7)
 (dd3 dd4 dd5 dd6:Int)
structure l9 where
 ph:Nat
 qd9:Bool
 ya7:Int
noncomputable def Ea5(p:s7)(s:l9):St:=⟨ra 5 (b p.bs5::.ptr 0 0 0 0::.unk::.sl 1 0 p.ns8 0::.v (.slice none 0 0)::ra 8 (i p.Gc0::eL tP p.ia2::ra 3 (.ptr 2 0 0 0::b p.Be6::b s.qd9::ra 113 (eL tP p.X3::i p.Bb6::i p.va0::ra 9 (eL tP p.ra4::i p.Gc2::i s.ya7::ra 64 []))))),[⟨0,13,[[i p.f0,i p.d8,i p.g7,i p.i9,i p.C1,i p.C3,i p.C4,i p.C5,i p.C6,i p.F6,i p.y6,i p.y7,i p.y8]],true,false,0⟩,⟨29,3,p.eh1,false,false,0⟩,⟨0,4,[[i p.sc9,i p.tc0,i p.tc1,i p.Gd1]],true,false,0⟩]⟩
noncomputable def Ea6(p:s7)(s:l9):St:=⟨ra 5 (b p.bs5::.ptr 0 0 0 0::.unk::.sl 1 0 p.ns8 0::.sl 2 0 p.ns9 0::ra 8 (i p.Gc0::eL tP p.ia2::ra 3 (.ptr 3 0 0 0::b p.Be6::b s.qd9::ra 113 (eL tP p.X3::i p.Bb6::i p.va0::ra 9 (eL tP p.ra4::i p.Gc2::i s.ya7::ra 64 []))))),[⟨0,13,[[i p.f0,i p.d8,i p.g7,i p.i9,i p.C1,i p.C3,i p.C4,i p.C5,i p.C6,i p.F6,i p.y6,i p.y7,i p.y8]],true,false,0⟩,⟨29,3,p.eh1,false,false,0⟩,⟨29,3,p.eh2,false,false,0⟩,⟨0,4,[[i p.dd3,i p.dd4,i p.dd5,i p.dd6]],true,false,0⟩]⟩
noncomputable def Ab8(p:s7)(s:l9):St:=(sel (Nat.beq s.ph 1) (Ea6 p s) (Ea5 p s))
noncomputable def la5{α:Type}(k:l9->α)(e:Nat->α)(z:α)(p:s7)(s:l9):α:=(sl (decide (s.ya7<p.Gc2)) (sl (inB s.ya7 (List.length p.ra4)) (sl s.qd9 (k ⟨0,true,W (s.ya7+1)⟩) (k ⟨0,(p.sc9==(gL tP p.ra4 s.ya7.toNat).n.x)&&((p.tc0==(gL tP p.ra4 s.ya7.toNat).n.y)&&((p.tc1==(gL tP p.ra4 s.ya7.toNat).n.z)&&((p.Gd1==(gL tP p.ra4 s.ya7.toNat).b)&&true))),W (s.ya7+1)⟩)) z) (e 1))
noncomputable def D2{α:Type}(k:l9->α)(e:Nat->α)(z:α)(p:s7)(s:l9):α:=(sl (decide (s.ya7<p.Gc2)) (sl (inB s.ya7 (List.length p.ra4)) (sl s.qd9 (k ⟨1,true,W (s.ya7+1)⟩) (k ⟨1,(p.dd3==(gL tP p.ra4 s.ya7.toNat).n.x)&&((p.dd4==(gL tP p.ra4 s.ya7.toNat).n.y)&&((p.dd5==(gL tP p.ra4 s.ya7.toNat).n.z)&&((p.dd6==(gL tP p.ra4 s.ya7.toNat).b)&&true))),W (s.ya7+1)⟩)) z) (e 2))
noncomputable def M0(p:s7)(s:l9):Stp l9:=(sel (Nat.beq s.ph 1) (D2 .next .exit .fail p s) (la5 .next .exit .fail p s))
noncomputable def sa4:Lo s7 l9:=⟨EnI Q8,0,pf3,[1,1,1,1,1,1,1,1,1,1,1,0,1,4,4,1,1,0,4,1,1,1,0,1,4,4],[5,6,8,9,18,19,23,24,25,139,140,141,151,152,153],.p,[⟨ru2 5 (sBq::sPq 0::sUq::.s (.o (.sl 1 0 (some 0) none))::.s (.o .nil)::ru2 8 (sIq::sLq tP::ru2 3 (sPq 2::sBq::sBq::ru2 113 (sLq tP::sIq::sIq::ru2 9 (sLq tP::sIq::sIq::ru2 64 []))))),[⟨0,13,true,some [kLq 13]⟩,⟨29,3,false,none⟩,⟨0,4,true,some [kLq 4]⟩],λa H=>(⟨aBq a 5,slN (slT a 8),aIq a 18,aLq tP a 19,aBq a 24,aLq tP a 139,aIq a 140,aIq a 141,aLq tP a 151,aIq a 152,hIq H 0 0 0,hIq H 0 0 1,hIq H 0 0 2,hIq H 0 0 3,hIq H 0 0 4,hIq H 0 0 5,hIq H 0 0 6,hIq H 0 0 7,hIq H 0 0 8,hIq H 0 0 9,hIq H 0 0 10,hIq H 0 0 11,hIq H 0 0 12,elT H 1,hIq H 2 0 0,hIq H 2 0 1,hIq H 2 0 2,hIq H 2 0 3,0,[],0,0,0,0⟩,⟨0,aBq a 25,aIq a 153⟩)⟩,⟨ru2 5 (sBq::sPq 0::sUq::.s (.o (.sl 1 0 (some 0) none))::.s (.o (.sl 2 0 (some 0) none))::ru2 8 (sIq::sLq tP::ru2 3 (sPq 3::sBq::sBq::ru2 113 (sLq tP::sIq::sIq::ru2 9 (sLq tP::sIq::sIq::ru2 64 []))))),[⟨0,13,true,some [kLq 13]⟩,⟨29,3,false,none⟩,⟨29,3,false,none⟩,⟨0,4,true,some [kLq 4]⟩],λa H=>(⟨aBq a 5,slN (slT a 8),aIq a 18,aLq tP a 19,aBq a 24,aLq tP a 139,aIq a 140,aIq a 141,aLq tP a 151,aIq a 152,hIq H 0 0 0,hIq H 0 0 1,hIq H 0 0 2,hIq H 0 0 3,hIq H 0 0 4,hIq H 0 0 5,hIq H 0 0 6,hIq H 0 0 7,hIq H 0 0 8,hIq H 0 0 9,hIq H 0 0 10,hIq H 0 0 11,hIq H 0 0 12,elT H 1,0,0,0,0,slN (slT a 9),elT H 2,hIq H 3 0 0,hIq H 3 0 1,hIq H 3 0 2,hIq H 3 0 3⟩,⟨1,aBq a 25,aIq a 153⟩)⟩],M0,[(some 6,λp s=>upq (Ea5 p s) [(154,b (decide (s.ya7<p.Gc2)))]),(some 6,λp s=>upq (Ea6 p s) [(154,b (decide (s.ya7<p.Gc2)))])],Ab8⟩
theorem Ab9:sa4.Ok:=Lo.ok [] (by kernel_rfl) .nil rfl (.cons (λa H=>by kernel_rfl) (.cons (λa H=>by kernel_rfl) .nil)) λp s=>(.sel (Nat.beq s.ph 1) (.of @D2 (λF _ _ _ _ _=>by unfold D2;(repeat' apply q8 (f:=F))<;>rfl) (by kernel_rfl)) (.of @la5 (λF _ _ _ _ _=>by unfold la5;(repeat' apply q8 (f:=F))<;>rfl) (by kernel_rfl)))
structure s8 where
 bs5:Bool
 ns8:Nat
 (Gc0 Bb6 f0 d8 g7 i9 C1 C3 C4 C5 C6 F6 y6 y7 y8:Int)
 eh1:List (List c7)
structure k9 where
 ph:Nat
 (ia2 X3:List Pln)
 va0:Int
 ns9:Nat
 eh2:List (List c7)
noncomputable def Ea7(p:s8)(s:k9):St:=⟨ra 5 (b p.bs5::.ptr 0 0 0 0::.unk::.sl 1 0 p.ns8 0::.v (.slice none 0 0)::ra 8 (i p.Gc0::eL tP s.ia2::ra 119 (eL tP s.X3::i p.Bb6::i s.va0::ra 76 []))),[⟨0,13,[[i p.f0,i p.d8,i p.g7,i p.i9,i p.C1,i p.C3,i p.C4,i p.C5,i p.C6,i p.F6,i p.y6,i p.y7,i p.y8]],true,false,0⟩,⟨29,3,p.eh1,false,false,0⟩]⟩
noncomputable def Ea8(p:s8)(s:k9):St:=⟨ra 5 (b p.bs5::.ptr 0 0 0 0::.unk::.sl 1 0 p.ns8 0::.sl 2 0 s.ns9 0::ra 8 (i p.Gc0::eL tP s.ia2::ra 119 (eL tP s.X3::i p.Bb6::i s.va0::ra 76 []))),[⟨0,13,[[i p.f0,i p.d8,i p.g7,i p.i9,i p.C1,i p.C3,i p.C4,i p.C5,i p.C6,i p.F6,i p.y6,i p.y7,i p.y8]],true,false,0⟩,⟨29,3,p.eh1,false,false,0⟩,⟨29,3,s.eh2,false,false,0⟩]⟩
noncomputable def Bb0(p:s8)(s:k9):St:=(sel (Nat.beq s.ph 1) (Ea8 p s) (Ea7 p s))
noncomputable def la6{α:Type}(k:k9->α)(e:Nat->α)(z:α)(p:s8)(s:k9):α:=let t1:=(R5 (⟨(⟨(⟨(⟨p.f0,p.d8,p.g7⟩:V3),(⟨p.i9,p.C1,p.C3⟩:V3),(⟨p.C4,p.C5,p.C6⟩:V3)⟩:M3),p.F6⟩:Trn),(⟨p.y6,p.y7,p.y8⟩:V3)⟩:Frm) (gL tP s.X3 s.va0.toNat));let t2:=(lp (M0 (⟨p.bs5,p.ns8,p.Gc0,rt tP s.ia2,t1.2,rt tP s.X3,p.Bb6,s.va0,rt tP s.ia2,(↑(List.length s.ia2):Int),p.f0,p.d8,p.g7,p.i9,p.C1,p.C3,p.C4,p.C5,p.C6,p.F6,p.y6,p.y7,p.y8,p.eh1,t1.1.n.x,t1.1.n.y,t1.1.n.z,t1.1.b,0,[],0,0,0,0⟩:s7)) (⟨0,false,0⟩:l9));(sl (decide (s.va0<p.Bb6)) (sl (inB s.va0 (List.length s.X3)) (sl (L3 (⟨(⟨(⟨(⟨p.f0,p.d8,p.g7⟩:V3),(⟨p.i9,p.C1,p.C3⟩:V3),(⟨p.C4,p.C5,p.C6⟩:V3)⟩:M3),p.F6⟩:Trn),(⟨p.y6,p.y7,p.y8⟩:V3)⟩:Frm) (gL tP s.X3 s.va0.toNat)) (sl ((cnE tP s.ia2)&&((cnE tP s.X3)&&((cnE tP s.ia2)&&true))) (sl (Nat.beq t2.1 1) (sl (!t1.2) (e 1) (sl (!t2.2.qd9) (e 1) (k ⟨0,rt tP s.ia2,rt tP s.X3,W (s.va0+1),0,[]⟩))) (sl (Nat.beq t2.1 2) (sl (!t1.2) (e 1) (sl (!t2.2.qd9) (e 1) (k ⟨1,rt tP s.ia2,rt tP s.X3,W (s.va0+1),0,[]⟩))) z)) z) z) z) (e 2))
noncomputable def D3{α:Type}(k:k9->α)(e:Nat->α)(z:α)(p:s8)(s:k9):α:=let t1:=(R5 (⟨(⟨(⟨(⟨p.f0,p.d8,p.g7⟩:V3),(⟨p.i9,p.C1,p.C3⟩:V3),(⟨p.C4,p.C5,p.C6⟩:V3)⟩:M3),p.F6⟩:Trn),(⟨p.y6,p.y7,p.y8⟩:V3)⟩:Frm) (gL tP s.X3 s.va0.toNat));let t2:=(lp (M0 (⟨p.bs5,p.ns8,p.Gc0,rt tP s.ia2,t1.2,rt tP s.X3,p.Bb6,s.va0,rt tP s.ia2,(↑(List.length s.ia2):Int),p.f0,p.d8,p.g7,p.i9,p.C1,p.C3,p.C4,p.C5,p.C6,p.F6,p.y6,p.y7,p.y8,p.eh1,0,0,0,0,s.ns9,s.eh2,t1.1.n.x,t1.1.n.y,t1.1.n.z,t1.1.b⟩:s7)) (⟨1,false,0⟩:l9));(sl (decide (s.va0<p.Bb6)) (sl (inB s.va0 (List.length s.X3)) (sl (L3 (⟨(⟨(⟨(⟨p.f0,p.d8,p.g7⟩:V3),(⟨p.i9,p.C1,p.C3⟩:V3),(⟨p.C4,p.C5,p.C6⟩:V3)⟩:M3),p.F6⟩:Trn),(⟨p.y6,p.y7,p.y8⟩:V3)⟩:Frm) (gL tP s.X3 s.va0.toNat)) (sl ((cnE tP s.ia2)&&((cnE tP s.X3)&&((cnE tP s.ia2)&&true))) (sl (Nat.beq t2.1 1) (sl (!t1.2) (e 1) (sl (!t2.2.qd9) (e 1) (k ⟨0,rt tP s.ia2,rt tP s.X3,W (s.va0+1),0,[]⟩))) (sl (Nat.beq t2.1 2) (sl (!t1.2) (e 1) (sl (!t2.2.qd9) (e 1) (k ⟨1,rt tP s.ia2,rt tP s.X3,W (s.va0+1),s.ns9,s.eh2⟩))) z)) z) z) z) (e 3))
noncomputable def H6(p:s8)(s:k9):Stp k9:=(sel (Nat.beq s.ph 1) (D3 .next .exit .fail p s) (la6 .next .exit .fail p s))
noncomputable def sa5:Lo s8 k9:=⟨EnI Q8,0,pf3,[1,1,1,1,1,1,1,1,1,1,1,0,1,4,4],[5,6,8,9,18,19,139,140,141],.s .p (.s .p (.s (.b (.s .p (.s .p (.s .p (.s (.s .p (.b (.u sa4.ls))) .p))))) .p)),[⟨ru2 5 (sBq::sPq 0::sUq::.s (.o (.sl 1 0 (some 0) none))::.s (.o .nil)::ru2 8 (sIq::sLq tP::ru2 119 (sLq tP::sIq::sIq::ru2 76 []))),[⟨0,13,true,some [kLq 13]⟩,⟨29,3,false,none⟩],λa H=>(⟨aBq a 5,slN (slT a 8),aIq a 18,aIq a 140,hIq H 0 0 0,hIq H 0 0 1,hIq H 0 0 2,hIq H 0 0 3,hIq H 0 0 4,hIq H 0 0 5,hIq H 0 0 6,hIq H 0 0 7,hIq H 0 0 8,hIq H 0 0 9,hIq H 0 0 10,hIq H 0 0 11,hIq H 0 0 12,elT H 1⟩,⟨0,aLq tP a 19,aLq tP a 139,aIq a 141,0,[]⟩)⟩,⟨ru2 5 (sBq::sPq 0::sUq::.s (.o (.sl 1 0 (some 0) none))::.s (.o (.sl 2 0 (some 0) none))::ru2 8 (sIq::sLq tP::ru2 119 (sLq tP::sIq::sIq::ru2 76 []))),[⟨0,13,true,some [kLq 13]⟩,⟨29,3,false,none⟩,⟨29,3,false,none⟩],λa H=>(⟨aBq a 5,slN (slT a 8),aIq a 18,aIq a 140,hIq H 0 0 0,hIq H 0 0 1,hIq H 0 0 2,hIq H 0 0 3,hIq H 0 0 4,hIq H 0 0 5,hIq H 0 0 6,hIq H 0 0 7,hIq H 0 0 8,hIq H 0 0 9,hIq H 0 0 10,hIq H 0 0 11,hIq H 0 0 12,elT H 1⟩,⟨1,aLq tP a 19,aLq tP a 139,aIq a 141,slN (slT a 9),elT H 2⟩)⟩],H6,[(none,λp s=>⟨[b false],[]⟩),(some 4,λp s=>upq (Ea7 p s) [(142,b (decide (s.va0<p.Bb6)))]),(some 4,λp s=>upq (Ea8 p s) [(142,b (decide (s.va0<p.Bb6)))])],Bb0⟩
theorem Bb1:sa5.Ok:=Lo.ok [sa4.pr] (by kernel_rfl) (.cons Ab9 .nil) rfl (.cons (λa H=>by kernel_rfl) (.cons (λa H=>by kernel_rfl) .nil)) λp s=>(.sel (Nat.beq s.ph 1) (.of @D3 (λF _ _ _ _ _=>by unfold D3;(repeat' apply q8 (f:=F))<;>rfl) (by kernel_rfl)) (.of @la6 (λF _ _ _ _ _=>by unfold la6;(repeat' apply q8 (f:=F))<;>rfl) (by kernel_rfl)))
structure o5 where
 bs5:Bool
 (be0 bb4:List V3)
 (Tc4 f0 d8 g7 i9 C1 C3 C4 C5 C6 F6 y6 y7 y8:Int)
structure i7 where
 ph:Nat
 bb5:Int
 pa4:List V3
noncomputable def Ea9(p:o5)(s:i7):St:=⟨ra 5 (b p.bs5::.ptr 0 0 0 0::ra 23 (eL tV p.be0::.unk::.v (.slice none 0 0)::ra 163 (eL tV p.bb4::i p.Tc4::i s.bb5::ra 19 []))),[⟨0,13,[[i p.f0,i p.d8,i p.g7,i p.i9,i p.C1,i p.C3,i p.C4,i p.C5,i p.C6,i p.F6,i p.y6,i p.y7,i p.y8]],true,false,0⟩]⟩
noncomputable def Fa0(p:o5)(s:i7):St:=⟨ra 5 (b p.bs5::.ptr 0 0 0 0::ra 23 (eL tV p.be0::.unk::eL tV s.pa4::ra 163 (eL tV p.bb4::i p.Tc4::i s.bb5::ra 19 []))),[⟨0,13,[[i p.f0,i p.d8,i p.g7,i p.i9,i p.C1,i p.C3,i p.C4,i p.C5,i p.C6,i p.F6,i p.y6,i p.y7,i p.y8]],true,false,0⟩]⟩
noncomputable def Bb2(p:o5)(s:i7):St:=(sel (Nat.beq s.ph 1) (Fa0 p s) (Ea9 p s))
noncomputable def D4{α:Type}(k:i7->α)(e:Nat->α)(z:α)(p:o5)(s:i7):α:=let t1:=(E3 (⟨(⟨(⟨(⟨p.f0,p.d8,p.g7⟩:V3),(⟨p.i9,p.C1,p.C3⟩:V3),(⟨p.C4,p.C5,p.C6⟩:V3)⟩:M3),p.F6⟩:Trn),(⟨p.y6,p.y7,p.y8⟩:V3)⟩:Frm) (gL tV p.bb4 s.bb5.toNat));let t2:=(Eb1 [] t1.1);(sl (decide (s.bb5<p.Tc4)) (sl (inB s.bb5 (List.length p.bb4)) (sl (y9 (⟨(⟨(⟨(⟨p.f0,p.d8,p.g7⟩:V3),(⟨p.i9,p.C1,p.C3⟩:V3),(⟨p.C4,p.C5,p.C6⟩:V3)⟩:M3),p.F6⟩:Trn),(⟨p.y6,p.y7,p.y8⟩:V3)⟩:Frm) (gL tV p.bb4 s.bb5.toNat)) (sl (Eb2 [] t1.1) (k ⟨1,W (s.bb5+1),t2⟩) z) z) z) (e 1))
noncomputable def D5{α:Type}(k:i7->α)(e:Nat->α)(z:α)(p:o5)(s:i7):α:=let t1:=(E3 (⟨(⟨(⟨(⟨p.f0,p.d8,p.g7⟩:V3),(⟨p.i9,p.C1,p.C3⟩:V3),(⟨p.C4,p.C5,p.C6⟩:V3)⟩:M3),p.F6⟩:Trn),(⟨p.y6,p.y7,p.y8⟩:V3)⟩:Frm) (gL tV p.bb4 s.bb5.toNat));let t2:=(Eb1 (rt tV s.pa4) t1.1);(sl (decide (s.bb5<p.Tc4)) (sl (inB s.bb5 (List.length p.bb4)) (sl (y9 (⟨(⟨(⟨(⟨p.f0,p.d8,p.g7⟩:V3),(⟨p.i9,p.C1,p.C3⟩:V3),(⟨p.C4,p.C5,p.C6⟩:V3)⟩:M3),p.F6⟩:Trn),(⟨p.y6,p.y7,p.y8⟩:V3)⟩:Frm) (gL tV p.bb4 s.bb5.toNat)) (sl (okE tV s.pa4) (sl (Eb2 (rt tV s.pa4) t1.1) (k ⟨1,W (s.bb5+1),t2⟩) z) z) z) z) (e 2))
noncomputable def r4(p:o5)(s:i7):Stp i7:=(sel (Nat.beq s.ph 1) (D5 .next .exit .fail p s) (D4 .next .exit .fail p s))
noncomputable def sa6:Lo o5 i7:=⟨EnI Q8,0,pf3,[1,1,1,1,1,1,1,1,1,1,1,1,1,1,1,1,0,1,4,4],[5,6,30,32,196,197,198],.p,[⟨ru2 5 (sBq::sPq 0::ru2 23 (sLq tV::sUq::.s (.o .nil)::ru2 163 (sLq tV::sIq::sIq::ru2 19 []))),[⟨0,13,true,some [kLq 13]⟩],λa H=>(⟨aBq a 5,aLq tV a 30,aLq tV a 196,aIq a 197,hIq H 0 0 0,hIq H 0 0 1,hIq H 0 0 2,hIq H 0 0 3,hIq H 0 0 4,hIq H 0 0 5,hIq H 0 0 6,hIq H 0 0 7,hIq H 0 0 8,hIq H 0 0 9,hIq H 0 0 10,hIq H 0 0 11,hIq H 0 0 12⟩,⟨0,aIq a 198,[]⟩)⟩,⟨ru2 5 (sBq::sPq 0::ru2 23 (sLq tV::sUq::sLq tV::ru2 163 (sLq tV::sIq::sIq::ru2 19 []))),[⟨0,13,true,some [kLq 13]⟩],λa H=>(⟨aBq a 5,aLq tV a 30,aLq tV a 196,aIq a 197,hIq H 0 0 0,hIq H 0 0 1,hIq H 0 0 2,hIq H 0 0 3,hIq H 0 0 4,hIq H 0 0 5,hIq H 0 0 6,hIq H 0 0 7,hIq H 0 0 8,hIq H 0 0 9,hIq H 0 0 10,hIq H 0 0 11,hIq H 0 0 12⟩,⟨1,aIq a 198,aLq tV a 32⟩)⟩],r4,[(some 8,λp s=>upq (Ea9 p s) [(199,b (decide (s.bb5<p.Tc4)))]),(some 8,λp s=>upq (Fa0 p s) [(199,b (decide (s.bb5<p.Tc4)))])],Bb2⟩
theorem Bb3:sa6.Ok:=Lo.ok [] (by kernel_rfl) .nil rfl (.cons (λa H=>by kernel_rfl) (.cons (λa H=>by kernel_rfl) .nil)) λp s=>(.sel (Nat.beq s.ph 1) (.of @D5 (λF _ _ _ _ _=>by unfold D5;(repeat' apply q8 (f:=F))<;>rfl) (by kernel_rfl)) (.of @D4 (λF _ _ _ _ _=>by unfold D4;(repeat' apply q8 (f:=F))<;>rfl) (by kernel_rfl)))
noncomputable def da6(x:List Int)(y:List Int):Option (c7×List c8):=let t1:=Da4;let t2:=(Qa7 (rt tI x));let t3:=(R3 (rt tI y));let t4:=(lp (S5 (⟨t1,t2.t.d,List.length t3,List.length t3,(↑(List.length t3):Int),t2.t.m.r0.x,t2.t.m.r0.y,t2.t.m.r0.z,t2.t.m.r1.x,t2.t.m.r1.y,t2.t.m.r1.z,t2.t.m.r2.x,t2.t.m.r2.y,t2.t.m.r2.z,t2.t.d,t2.s.x,t2.s.y,t2.s.z⟩:C8)) (⟨0,0,bL tV t3,0,[]⟩:l7));let t5:=(lp (L9 (⟨t1,List.length t3,(↑(List.length t3):Int),t2.t.m.r0.x,t2.t.m.r0.y,t2.t.m.r0.z,t2.t.m.r1.x,t2.t.m.r1.y,t2.t.m.r1.z,t2.t.m.r2.x,t2.t.m.r2.y,t2.t.m.r2.z,t2.t.d,t2.s.x,t2.s.y,t2.s.z,t4.2.eh1,0,[]⟩:z6)) (⟨0,0⟩:l5));let t7:=(db8 ());let t10:=(qb6 ());let t12:=(G9 (rt tV (rt tV t10.1)) []);let t18:=(ua9 (slR tV [] 0 0));let t24:=(lp (L9 (⟨t1,List.length t3,(↑(List.length t3):Int),t2.t.m.r0.x,t2.t.m.r0.y,t2.t.m.r0.z,t2.t.m.r1.x,t2.t.m.r1.y,t2.t.m.r1.z,t2.t.m.r2.x,t2.t.m.r2.y,t2.t.m.r2.z,t2.t.d,t2.s.x,t2.s.y,t2.s.z,t4.2.eh1,t4.2.ns9,t4.2.eh2⟩:z6)) (⟨1,0⟩:l5));let t25:=(ua9 (slR tV t4.2.eh2 0 t4.2.ns9));let a0:=(slR tV t4.2.eh1 0 (List.length t3));let t6:=(ua9 a0);let t9:=(ba7 a0);let a1:=(okS tV t4.2.eh1 0 (List.length t3));let a2:=(↑(List.length t9.1):Int);let t11:=(lp (r4 (⟨t1,rt tV t10.1,rt tV t9.1,a2,t2.t.m.r0.x,t2.t.m.r0.y,t2.t.m.r0.z,t2.t.m.r1.x,t2.t.m.r1.y,t2.t.m.r1.z,t2.t.m.r2.x,t2.t.m.r2.y,t2.t.m.r2.z,t2.t.d,t2.s.x,t2.s.y,t2.s.z⟩:o5)) (⟨0,0,[]⟩:i7));let t13:=(G9 (rt tV (rt tV t10.1)) (rt tV t11.2.pa4));let a3:=(H4 (rt tV (rt tV t10.1)) (rt tV t11.2.pa4));let a4:=(↑(List.length t6.1):Int);let t8:=(lp (H6 (⟨t1,List.length t3,t6.2,a4,t2.t.m.r0.x,t2.t.m.r0.y,t2.t.m.r0.z,t2.t.m.r1.x,t2.t.m.r1.y,t2.t.m.r1.z,t2.t.m.r2.x,t2.t.m.r2.y,t2.t.m.r2.z,t2.t.d,t2.s.x,t2.s.y,t2.s.z,t4.2.eh1⟩:s8)) (⟨0,rt tP t7.1,rt tP t6.1,0,0,[]⟩:k9));let t14:=(ba7 (slR tV t8.2.eh2 0 t8.2.ns9));let t15:=(lp (r4 (⟨t1,rt tV t14.1,rt tV t9.1,a2,t2.t.m.r0.x,t2.t.m.r0.y,t2.t.m.r0.z,t2.t.m.r1.x,t2.t.m.r1.y,t2.t.m.r1.z,t2.t.m.r2.x,t2.t.m.r2.y,t2.t.m.r2.z,t2.t.d,t2.s.x,t2.s.y,t2.s.z⟩:o5)) (⟨0,0,[]⟩:i7));let t16:=(G9 (rt tV (rt tV t14.1)) []);let t17:=(G9 (rt tV (rt tV t14.1)) (rt tV t15.2.pa4));let t19:=(lp (H6 (⟨t1,List.length t3,t6.2,a4,t2.t.m.r0.x,t2.t.m.r0.y,t2.t.m.r0.z,t2.t.m.r1.x,t2.t.m.r1.y,t2.t.m.r1.z,t2.t.m.r2.x,t2.t.m.r2.y,t2.t.m.r2.z,t2.t.d,t2.s.x,t2.s.y,t2.s.z,t4.2.eh1⟩:s8)) (⟨1,rt tP t18.1,rt tP t6.1,0,0,[]⟩:k9));let t20:=(ba7 (slR tV t19.2.eh2 0 t19.2.ns9));let t21:=(lp (r4 (⟨t1,rt tV t20.1,rt tV t9.1,a2,t2.t.m.r0.x,t2.t.m.r0.y,t2.t.m.r0.z,t2.t.m.r1.x,t2.t.m.r1.y,t2.t.m.r1.z,t2.t.m.r2.x,t2.t.m.r2.y,t2.t.m.r2.z,t2.t.d,t2.s.x,t2.s.y,t2.s.z⟩:o5)) (⟨0,0,[]⟩:i7));let t22:=(G9 (rt tV (rt tV t20.1)) []);let t23:=(G9 (rt tV (rt tV t20.1)) (rt tV t21.2.pa4));let t26:=(lp (H6 (⟨t1,List.length t3,t6.2,a4,t2.t.m.r0.x,t2.t.m.r0.y,t2.t.m.r0.z,t2.t.m.r1.x,t2.t.m.r1.y,t2.t.m.r1.z,t2.t.m.r2.x,t2.t.m.r2.y,t2.t.m.r2.z,t2.t.d,t2.s.x,t2.s.y,t2.s.z,t4.2.eh1⟩:s8)) (⟨1,rt tP t25.1,rt tP t6.1,0,t4.2.ns9,t4.2.eh2⟩:k9));let t27:=(ba7 (slR tV t26.2.eh2 0 t26.2.ns9));let t28:=(lp (r4 (⟨t1,rt tV t27.1,rt tV t9.1,a2,t2.t.m.r0.x,t2.t.m.r0.y,t2.t.m.r0.z,t2.t.m.r1.x,t2.t.m.r1.y,t2.t.m.r1.z,t2.t.m.r2.x,t2.t.m.r2.y,t2.t.m.r2.z,t2.t.d,t2.s.x,t2.s.y,t2.s.z⟩:o5)) (⟨0,0,[]⟩:i7));let t29:=(G9 (rt tV (rt tV t27.1)) []);let t30:=(G9 (rt tV (rt tV t27.1)) (rt tV t28.2.pa4));let a5:=((cnE tV t10.1)&&((cnE tV t9.1)&&true));let a6:=(H4 (rt tV (rt tV t10.1)) []);let a7:=(a2 != (↑(List.length t10.1):Int));let w0:Option (c7×List c8):=(sl a1 (sl (Y0 a0) (sl (db9 ()) (sl (t6.2 != t7.2) (some (b false,[])) (sl (a4 != (↑(List.length t7.1):Int)) (some (b false,[])) (sl ((cnE tP t7.1)&&((cnE tP t6.1)&&true)) (sl (Nat.beq t8.1 1) (some (b false,[])) (sl (Nat.beq t8.1 2) (sl a1 (sl (C0 a0) (sl (Na4 ()) (sl (t9.2 != t6.2) (some (b false,[])) (sl (t10.2 != t6.2) (some (b false,[])) (sl a7 (some (b false,[])) (sl a5 (sl (Nat.beq t11.1 1) (sl t1 (sl (okE tV (rt tV t10.1)) (sl a6 (some (b t12,[])) none) none) (some (b false,[]))) (sl (Nat.beq t11.1 2) (sl t1 (sl (okE tV (rt tV t10.1)) (sl (okE tV t11.2.pa4) (sl a3 (some (b t13,[])) none) none) none) (some (b false,[]))) none)) none)))) none) none) none) (sl (Nat.beq t8.1 3) (sl a1 (sl (C0 a0) (sl (okS tV t8.2.eh2 0 t8.2.ns9) (sl (C0 (slR tV t8.2.eh2 0 t8.2.ns9)) (sl (t9.2 != t6.2) (some (b false,[])) (sl (t14.2 != t6.2) (some (b false,[])) (sl (a2 != (↑(List.length t14.1):Int)) (some (b false,[])) (sl ((cnE tV t14.1)&&((cnE tV t9.1)&&true)) (sl (Nat.beq t15.1 1) (sl t1 (sl (okE tV (rt tV t14.1)) (sl (H4 (rt tV (rt tV t14.1)) []) (some (b t16,[])) none) none) (some (b false,[]))) (sl (Nat.beq t15.1 2) (sl t1 (sl (okE tV (rt tV t14.1)) (sl (okE tV t15.2.pa4) (sl (H4 (rt tV (rt tV t14.1)) (rt tV t15.2.pa4)) (some (b t17,[])) none) none) none) (some (b false,[]))) none)) none)))) none) none) none) none) none))) none))) none) none) none);let w1:Option (c7×List c8):=(sl a1 (sl (C0 a0) (sl (Na4 ()) (sl (t9.2 != t6.2) (some (b false,[])) (sl (t10.2 != t6.2) (some (b false,[])) (sl a7 (some (b false,[])) (sl a5 (sl (Nat.beq t11.1 1) (sl t1 (sl (okE tV (rt tV t10.1)) (sl a6 (some (b t12,[])) none) none) (some (b false,[]))) (sl (Nat.beq t11.1 2) (sl t1 (sl (okE tV (rt tV t10.1)) (sl (okE tV t11.2.pa4) (sl a3 (some (b t13,[])) none) none) none) (some (b false,[]))) none)) none)))) none) none) none);(sl Da5 (sl (okE tI x) (sl (ob2 (rt tI x)) (sl (okE tI y) (sl (Ja3 (rt tI y)) (sl (Nat.beq t4.1 1) (some (b false,[])) (sl (Nat.beq t4.1 2) (sl (Nat.beq t5.1 1) w0 (sl (Nat.beq t5.1 2) (some (b false,[])) (sl (Nat.beq t5.1 3) (sl a1 (sl (Y0 a0) (sl (okS tV [] 0 0) (sl (Y0 (slR tV [] 0 0)) (sl (t6.2 != t18.2) (some (b false,[])) (sl (a4 != (↑(List.length t18.1):Int)) (some (b false,[])) (sl ((cnE tP t18.1)&&((cnE tP t6.1)&&true)) (sl (Nat.beq t19.1 1) (some (b false,[])) (sl (Nat.beq t19.1 2) w1 (sl (Nat.beq t19.1 3) (sl a1 (sl (C0 a0) (sl (okS tV t19.2.eh2 0 t19.2.ns9) (sl (C0 (slR tV t19.2.eh2 0 t19.2.ns9)) (sl (t9.2 != t6.2) (some (b false,[])) (sl (t20.2 != t6.2) (some (b false,[])) (sl (a2 != (↑(List.length t20.1):Int)) (some (b false,[])) (sl ((cnE tV t20.1)&&((cnE tV t9.1)&&true)) (sl (Nat.beq t21.1 1) (sl t1 (sl (okE tV (rt tV t20.1)) (sl (H4 (rt tV (rt tV t20.1)) []) (some (b t22,[])) none) none) (some (b false,[]))) (sl (Nat.beq t21.1 2) (sl t1 (sl (okE tV (rt tV t20.1)) (sl (okE tV t21.2.pa4) (sl (H4 (rt tV (rt tV t20.1)) (rt tV t21.2.pa4)) (some (b t23,[])) none) none) none) (some (b false,[]))) none)) none)))) none) none) none) none) none))) none))) none) none) none) none) none))) (sl (Nat.beq t4.1 3) (sl (Nat.beq t24.1 1) w0 (sl (Nat.beq t24.1 2) (some (b false,[])) (sl (Nat.beq t24.1 3) (sl a1 (sl (Y0 a0) (sl (okS tV t4.2.eh2 0 t4.2.ns9) (sl (Y0 (slR tV t4.2.eh2 0 t4.2.ns9)) (sl (t6.2 != t25.2) (some (b false,[])) (sl (a4 != (↑(List.length t25.1):Int)) (some (b false,[])) (sl ((cnE tP t25.1)&&((cnE tP t6.1)&&true)) (sl (Nat.beq t26.1 1) (some (b false,[])) (sl (Nat.beq t26.1 2) w1 (sl (Nat.beq t26.1 3) (sl a1 (sl (C0 a0) (sl (okS tV t26.2.eh2 0 t26.2.ns9) (sl (C0 (slR tV t26.2.eh2 0 t26.2.ns9)) (sl (t9.2 != t6.2) (some (b false,[])) (sl (t27.2 != t6.2) (some (b false,[])) (sl (a2 != (↑(List.length t27.1):Int)) (some (b false,[])) (sl ((cnE tV t27.1)&&((cnE tV t9.1)&&true)) (sl (Nat.beq t28.1 1) (sl t1 (sl (okE tV (rt tV t27.1)) (sl (H4 (rt tV (rt tV t27.1)) []) (some (b t29,[])) none) none) (some (b false,[]))) (sl (Nat.beq t28.1 2) (sl t1 (sl (okE tV (rt tV t27.1)) (sl (okE tV t28.2.pa4) (sl (H4 (rt tV (rt tV t27.1)) (rt tV t28.2.pa4)) (some (b t30,[])) none) none) none) (some (b false,[]))) none)) none)))) none) none) none) none) none))) none))) none) none) none) none) none))) none))) none) none) none) none) none)
noncomputable def ma2(x:List Int)(y:List Int):Bool:=J0 (one r1B) (da6 x y)
noncomputable def ma3(x:List Int)(y:List Int):Bool:=okO (one r1B) (da6 x y)
noncomputable def Zb5:Sum:=Y2 (La8 tI) (La8 tI) (λx y=>.guard (ma3 x y) (.ret ((one r1B).enc (ma2 x y),[])))
theorem Pb1:g8 prog GI 3 Zb5:=Xa3 (bdI b3 Gb4) (one r1B) (o:=da6) λx y=>gb6 (.s .p (.s .p (.s .p (.s .p (.s .p (.s .p (.s (.s .p (.b (.u sa2.ls))) (.s (.s .p (.b (.u sa3.ls))) (.s .p (.s .p (.s .p (.s (.s .p (.b (.u sa5.ls))) (.s .p (.s .p (.s .p (.s .p (.s (.s .p (.b (.u sa6.ls))) .p))))))))))))))))) [sa2.pr,sa3.pr,sa5.pr,sa6.pr] (by kernel_rfl) (.cons Ab5 (.cons Ab7 (.cons Bb1 (.cons Bb3 .nil)))) (by kernel_rfl)
def Ya0(g:V3->V3)(l:List V3)(j:Nat):List V3:=(l.take j).map g++l.drop j
theorem dd1(g:V3->V3)(l:List V3)(j:Nat):(Ya0 g l j).length=l.length:=by
 unfold Ya0;rw[Qkt,Qkb,Qkc,Qku];omega
theorem Fd7{l:List V3}{j:Nat}(hj:j<l.length):l.drop j=gL tV l j::l.drop (j+1):=by
 rw[Za9 tV hj];exact List.drop_eq_getElem_cons hj
theorem dd2(g:V3->V3){l:List V3}{j:Nat}(hj:j<l.length):gL tV (Ya0 g l j) j=gL tV l j:=by
 unfold Ya0;rw[Fd7 hj];show (((l.take j).map g)++_).getD j _=_;rw[Qko,List.getElem?_append_right (by rw[Qkb,Qkc];omega),Qkb,Qkc,show j-min j l.length=0 by omega]
 rfl
theorem Fd8(g:V3->V3){l:List V3}{j:Nat}(hj:j<l.length):(Ya0 g l j).set j (g (gL tV l j))=Ya0 g l (j+1):=by
 unfold Ya0;rw[Fd7 hj,List.set_append,Qkb,Qkc,if_neg (by omega),show j-min j l.length=0 by omega,List.set_cons_zero,ab7 tV hj,List.map_append,List.append_assoc]
 rfl
theorem qd4(g:V3->V3){l:List V3}{j:Nat}(hj:j<l.length):gL tV (Ya0 g l (j+1)) j=g (gL tV l j):=by
 rw[<- Fd8 g hj];show ((Ya0 g l j).set j _).getD j _=_;rw[Qko,List.getElem?_set_self (by rw[dd1];exact hj)]
 rfl
theorem je5(g:V3->V3)(l:List V3):Ya0 g l l.length=l.map g:=by unfold Ya0;rw[Qkv,List.drop_length,Qkad]
theorem ue0{d:Int}{v:V3}(hv:Sm3 11 v)(hd:1<=d):q9 (W ((W (Int.tdiv v.x d))*d)) (W ((W (Int.tdiv v.y d))*d)) (W ((W (Int.tdiv v.z d))*d))=rnV d v:=by
 have h:=dd0 (d:=d) hv;unfold q9;simp only[pe7];rw[Ga9 (x:=Int.tdiv v.x d*d) (h.1.mono (by omega)),Ga9 (x:=Int.tdiv v.y d*d) (h.2.1.mono (by omega)),Ga9 (x:=Int.tdiv v.z d*d) (h.2.2.mono (by omega))]
 rfl
def mvF(f:Frm)(v:V3):V3:=TF f (rnV f.t.d v)
section
variable{f:Frm}(hf:bd4 f)
include hf
theorem Ae7 (q : Bool) {l : List V3} (h4 : 1 ≤ l.length) (h8 : l.length ≤ 8) (hl : ∀ v ∈ l, Sm3 11 v) :
  lp (S5 ⟨q,f.t.d,l.length,l.length,(l.length:Int),f.t.m.r0.x,f.t.m.r0.y,f.t.m.r0.z,f.t.m.r1.x,f.t.m.r1.y,f.t.m.r1.z,f.t.m.r2.x,f.t.m.r2.y,f.t.m.r2.z,f.t.d,f.s.x,f.s.y,f.s.z⟩) ⟨0,0,bL tV l,0,[]⟩=(3,⟨1,(l.length:Int),bL tV (l.map (rnV f.t.d)),l.length,bL tV (l.map (mvF f))⟩):=by
 suffices key:∃t s,lp (S5 ⟨q,f.t.d,l.length,l.length,(l.length:Int),f.t.m.r0.x,f.t.m.r0.y,f.t.m.r0.z,f.t.m.r1.x,f.t.m.r1.y,f.t.m.r1.z,f.t.m.r2.x,f.t.m.r2.y,f.t.m.r2.z,f.t.d,f.s.x,f.s.y,f.s.z⟩) ⟨0,0,bL tV l,0,[]⟩=(t,s)/\(t=3/\s=⟨1,(l.length:Int),bL tV (l.map (rnV f.t.d)),l.length,bL tV (l.map (mvF f))⟩) by
  obtain⟨t,s,h,rfl,rfl⟩:=key;exact h
 refine aa3 (step:=S5 ⟨q,f.t.d,l.length,l.length,(l.length:Int),f.t.m.r0.x,f.t.m.r0.y,f.t.m.r0.z,f.t.m.r1.x,f.t.m.r1.y,f.t.m.r1.z,f.t.m.r2.x,f.t.m.r2.y,f.t.m.r2.z,f.t.d,f.s.x,f.s.y,f.s.z⟩) (mk:=λj (o:List V3)=>(⟨phV o,(j:Int),bL tV (Ya0 (rnV f.t.d) l j),o.length,bL tV o⟩:l7)) l.length (λj o=>j<=l.length/\o=(l.take j).map (mvF f)) (λt s=>t=3/\s=⟨1,(l.length:Int),bL tV (l.map (rnV f.t.d)),l.length,bL tV (l.map (mvF f))⟩) (by omega)
  (λj o hj hi=>?_) (λj o hj hi=>?_) 0 [] ⟨Qkp _,by simp⟩
 ·obtain⟨_,hi⟩:=hi;have hlen:o.length<=8:=by
   rw[hi,Qkb]
   have:=List.length_take_le j l
   omega
  have hn:=E6 hj (show l.length<=4611686018427387904 by omega)
  have hb:=j9 hj;have hj1:j<(Ya0 (rnV f.t.d) l j).length:=by rw[dd1];exact hj
  have hj2:j<(Ya0 (rnV f.t.d) l (j+1)).length:=by rw[dd1];exact hj
  have hv:=hl _ (Ma5 tV hj);have hvec:=ue0 (d:=f.t.d) hv hf.t.d1;have ha:=Xa2 hf hv;have ea:E3 ⟨⟨⟨⟨f.t.m.r0.x,f.t.m.r0.y,f.t.m.r0.z⟩,⟨f.t.m.r1.x,f.t.m.r1.y,f.t.m.r1.z⟩,⟨f.t.m.r2.x,f.t.m.r2.y,f.t.m.r2.z⟩⟩,f.t.d⟩,⟨f.s.x,f.s.y,f.s.z⟩⟩ (rnV f.t.d (gL tV l j))=(mvF f (gL tV l j),true):=ha.p;have eg:y9 ⟨⟨⟨⟨f.t.m.r0.x,f.t.m.r0.y,f.t.m.r0.z⟩,⟨f.t.m.r1.x,f.t.m.r1.y,f.t.m.r1.z⟩,⟨f.t.m.r2.x,f.t.m.r2.y,f.t.m.r2.z⟩⟩,f.t.d⟩,⟨f.s.x,f.s.y,f.s.z⟩⟩ (rnV f.t.d (gL tV l j))=true:=ha.g;have sp:∀(v w:V3),C9 (tV.row v) 0 [i w.x,i w.y,i w.z]=tV.row w:=λ_ _=>rfl
  have hrow:i8 (bL tV (Ya0 (rnV f.t.d) l j)) (0+j)=tV.row (gL tV l j):=by rw[Qks,O3 tV hj1,dd2 _ hj]
  have hset:setAt (bL tV (Ya0 (rnV f.t.d) l j)) (0+j) (tV.row (rnV f.t.d (gL tV l j)))=bL tV (Ya0 (rnV f.t.d) l (j+1)):=by rw[Qks,za9,Fd8 _ hj]
  have hrow2:(Nat.blt (0+j) (len (bL tV (Ya0 (rnV f.t.d) l j)))&&Nat.ble (0+3) (len (tV.row (gL tV l j))))=true:=by
   rw[Qks,ka7,show Nat.blt j (Ya0 (rnV f.t.d) l j).length=true by rw[Nat.blt_eq];exact hj1]
   rfl
  have hd0:(f.t.d==0)=false:=by rw[beq_eq_false_iff_ne];have:=hf.t.d1;omega
  have hT:(l.take (j+1)).map (mvF f)=o++[mvF f (gL tV l j)]:=by
   rw[ab7 tV hj,List.map_append,<- hi];rfl
  have hnext : ∀ {s : l7}, s = ⟨1, ((j + 1 : Nat) : Int), bL tV (Ya0 (rnV f.t.d) l (j + 1)), o.length + 1, bL tV (o ++ [mvF f (gL tV l j)])⟩ → Nx (.next s) (fun t => t = 3 ∧ (⟨phV o, (j : Int), bL tV (Ya0 (rnV f.t.d) l j), o.length, bL tV o⟩ : l7) = ⟨1, (l.length : Int), bL tV (l.map (rnV f.t.d)), l.length, bL tV (l.map (mvF f))⟩)
    (λs=>∃o',s=(⟨phV o',((j+1:Nat):Int),bL tV (Ya0 (rnV f.t.d) l (j+1)),o'.length,bL tV o'⟩:l7)/\(j+1<=l.length/\o'=(l.take (j+1)).map (mvF f))):=λ{s} hs=>.nx ⟨o++[mvF f (gL tV l j)],by rw[hs,Dd6,Qkt];rfl,by omega,hT.symm⟩
  clear hi
  cases o with
  |nil =>
   show Nx (P5 Stp.next Stp.exit Stp.fail _ _) _ _;simp only[P5,Int.toNat_natCast,Ha2 hj1,Na7 hj1,dd2 _ hj,hvec,hrow,sp,hset,Ha2 hj2,Na7 hj2,qd4 _ hj,ea,eg,hn,hb,hd0,hrow2];rw[btD (q7 hj)];exact hnext rfl
  |cons q' o =>
   have rr:(Nat.beq (q'::o).length (len (bL tV (q'::o)))&&Nat.ble (((q'::o).length+1)*24) room)=true:=le7 rfl (by omega)
   show Nx (D0 Stp.next Stp.exit Stp.fail _ _) _ _;simp only[D0,Int.toNat_natCast,Ha2 hj1,Na7 hj1,dd2 _ hj,hvec,hrow,sp,hset,Ha2 hj2,Na7 hj2,qd4 _ hj,ea,eg,hn,hb,hd0,hrow2,rr,Je8];rw[btD (q7 hj)];exact hnext rfl
 ·obtain⟨h1,hi⟩:=hi;have e:j=l.length:=by omega
  subst e;have hO:o=l.map (mvF f):=by rw[hi,Qkv]
  rw[je5];have hol:o.length=l.length:=by rw[hO,Qkb]
  rw[<- hO];cases o with
  |nil=>simp only[List.length_nil] at hol;omega
  |cons q' o =>
   refine⟨3,?_,rfl,by rw[hol];rfl⟩
   show D0 Stp.next Stp.exit Stp.fail _ _=_;simp only[D0];rw[bfD (y5 (Qkl _))]
omit hf in
theorem Zd9{u w:V3}(hu:inV u=true)(hw:inV w=true):O5 u w=o8 u w/\Sm3 48 (o8 u w):=by
 obtain⟨⟨a1,a2⟩,⟨a3,a4⟩,a5,a6⟩:=(la9 _).1 hu;obtain⟨⟨c1,c2⟩,⟨c3,c4⟩,c5,c6⟩:=(la9 _).1 hw;refine⟨?_,⟨by simp only[o8];omega,by simp only[o8];omega⟩,⟨by simp only[o8];omega,by simp only[o8];omega⟩,by simp only[o8];omega,by simp only[o8];omega⟩
 unfold O5 o8;rw[aa4 (by omega) (by omega),aa4 (by omega) (by omega),aa4 (by omega) (by omega)]
omit hf in
theorem ae0{u:V3}(hu:Sm3 48 u):r7 u u=dot u u:=by
 obtain⟨a1,a2⟩:=hc6 (a:=48) (c:=48) hu.1 hu.1;obtain⟨a3,a4⟩:=hc6 (a:=48) (c:=48) hu.2.1 hu.2.1;obtain⟨a5,a6⟩:=hc6 (a:=48) (c:=48) hu.2.2 hu.2.2;have e:((48*48:Nat):Int)=2304:=rfl;rw[e] at a1 a2 a3 a4 a5 a6;unfold r7;simp only[Wa0,xb1];unfold dot;exact Ga9 ⟨by omega,by omega⟩
theorem Ae8 (q : Bool) {l : List V3} (h4 : 1 ≤ l.length) (h8 : l.length ≤ 8) (hl : ∀ v ∈ l, ∃ w, v = rnV f.t.d w ∧ Sm3 11 w) (hi : l.all inV = true) (hm : (l.map (TF f)).all inV = true) :
  (lp (L9 ⟨q,l.length,(l.length:Int),f.t.m.r0.x,f.t.m.r0.y,f.t.m.r0.z,f.t.m.r1.x,f.t.m.r1.y,f.t.m.r1.z,f.t.m.r2.x,f.t.m.r2.y,f.t.m.r2.z,f.t.d,f.s.x,f.s.y,f.s.z,bL tV l,l.length,bL tV (l.map (TF f))⟩) ⟨1,0⟩).1=3:=by
 have hR:=zd5 hf hl;have hml:(l.map (TF f)).length=l.length:=Qkb ..;have hg:∀{k:Nat},k<l.length->gL tV (l.map (TF f)) k=TF f (gL tV l k):=λ{k} hk=>by
  rw[Za9 tV (by rw[hml];exact hk),Za9 tV hk,List.getElem_map]
 obtain⟨t,s,h,rfl⟩:=aa3 (step:=L9 ⟨q,l.length,(l.length:Int),f.t.m.r0.x,f.t.m.r0.y,f.t.m.r0.z,f.t.m.r1.x,f.t.m.r1.y,f.t.m.r1.z,f.t.m.r2.x,f.t.m.r2.y,f.t.m.r2.z,f.t.d,f.s.x,f.s.y,f.s.z,bL tV l,l.length,bL tV (l.map (TF f))⟩) (mk:=λj (_:Unit)=>(⟨1,(j:Int)⟩:l5)) l.length (λ_ _=>True) (λt _=>t=3) (by omega)
  (λj _ hj _=>by
   have hn:=E6 hj (show l.length<=4611686018427387904 by omega)
   have h0:0<l.length:=by omega
   have hb:=j9 hj;have hb0:inB 0 l.length=true:=j9 h0;have hj':j<(l.map (TF f)).length:=by rw[hml];exact hj
   have h0':0<(l.map (TF f)).length:=by rw[hml];exact h0
   have mj:=Ma5 tV hj;have m0:=Ma5 tV h0;have tm:∀{v:V3},v∈l->inV (TF f v)=true:=λ{v} hv=>Qkj.1 hm _ (Qka.2 ⟨v,hv,rfl⟩)
   have s1:=Zd9 (Qkj.1 hi _ mj) (Qkj.1 hi _ m0);have s2:=Zd9 (tm mj) (tm m0);have r0:rdR tV (bL tV l) 0=gL tV l 0:=Ha2 h0;have l0:ldR tV (bL tV l) 0=true:=Na7 h0;have r0':rdR tV (bL tV (l.map (TF f))) 0=gL tV (l.map (TF f)) 0:=Ha2 h0';have l0':ldR tV (bL tV (l.map (TF f))) 0=true:=Na7 h0';have same:=Rot.same hR mj m0;have hne:(dot (o8 (gL tV l j) (gL tV l 0)) (o8 (gL tV l j) (gL tV l 0)) != dot (o8 (TF f (gL tV l j)) (TF f (gL tV l 0))) (o8 (TF f (gL tV l j)) (TF f (gL tV l 0))))=false:=by rw[same];simp
   show Nx (D1 Stp.next Stp.exit Stp.fail _ _) _ _;simp only[D1,Int.toNat_natCast,Ha2 hj,Na7 hj,Ha2 hj',Na7 hj',r0,l0,r0',l0',hg hj,hg h0,s1.1,s2.1,ae0 s1.2,ae0 s2.2,hne,hn,hb,hb0];rw[btD (q7 hj)];exact Nx.nx (s:=(⟨1,((j+1:Nat):Int)⟩:l5)) (E:=λt=>t=3) (N:=λs=>∃_:Unit,s=(⟨1,((j+1:Nat):Int)⟩:l5)/\True) ⟨(),rfl,trivial⟩)
  (λj _ hj _=>⟨3,by
   show D1 Stp.next Stp.exit Stp.fail _ _=_;simp only[D1];rw[bfD (y5 (by omega))],rfl⟩) 0 () trivial
 rw[show (⟨1,0⟩:l5)=⟨1,((0:Nat):Int)⟩ from rfl,h]
end
def eqQ(q x:Pln):Bool:=(q.n.x==x.n.x)&&((q.n.y==x.n.y)&&((q.n.z==x.n.z)&&((q.b==x.b)&&true)))
theorem ae1(q:Pln):eqQ q q=true:=by simp[eqQ]
theorem je6{q:Pln}{L:List Pln}(h:q∈L):L.any (eqQ q)=true:=List.any_eq_true.2 ⟨q,h,ae1 q⟩
theorem Ae9 (P : s7) (q : Pln) (L : List Pln) (h1 : P.ra4 = L) (h2 : P.Gc2 = (L.length : Int)) (h3 : P.dd3 = q.n.x) (h4 : P.dd4 = q.n.y) (h5 : P.dd5 = q.n.z) (h6 : P.dd6 = q.b) (hL : L.length ≤ 1000000) :
  lp (M0 P) ⟨1,false,0⟩=(2,⟨1,L.any (eqQ q),(L.length:Int)⟩):=by
 suffices key:∃t s,lp (M0 P) ⟨1,false,0⟩=(t,s)/\(t=2/\s=⟨1,L.any (eqQ q),(L.length:Int)⟩) by
  obtain⟨t,s,h,rfl,rfl⟩:=key;exact h
 refine aa3 (step:=M0 P) (mk:=λj (c:Bool)=>(⟨1,c,(j:Int)⟩:l9)) L.length (λj c=>j<=L.length/\c=(L.take j).any (eqQ q)) (λt s=>t=2/\s=⟨1,L.any (eqQ q),(L.length:Int)⟩) (by omega)
  (λj c hj hi=>?_) (λj c hj hi=>?_) 0 false ⟨Qkp _,by simp⟩
 ·obtain⟨_,hi⟩:=hi;have hn:=E6 hj (show L.length<=4611686018427387904 by omega)
  have hT:(L.take (j+1)).any (eqQ q)=(c||eqQ q (gL tP L j)):=by
   rw[ab7 tP hj,List.any_append,<- hi];simp
  show Nx (D2 Stp.next Stp.exit Stp.fail _ _) _ _;simp only[D2,Int.toNat_natCast,h1,h2,h3,h4,h5,h6,hn,j9 hj];rw[btD (q7 hj)];cases c with
  |true =>
   refine Nx.nx (s:=(⟨1,true,((j+1:Nat):Int)⟩:l9)) ⟨true,rfl,by omega,?_⟩
   rw[hT];rfl
  |false =>
   refine Nx.nx (s:=(⟨1,eqQ q (gL tP L j),((j+1:Nat):Int)⟩:l9)) ⟨eqQ q (gL tP L j),rfl,by omega,?_⟩
   rw[hT];rfl
 ·obtain⟨h7,hi⟩:=hi;have e:j=L.length:=by omega
  subst e;rw[Qkv] at hi;subst hi;refine⟨2,?_,rfl,rfl⟩;show D2 Stp.next Stp.exit Stp.fail _ _=_;simp only[D2,h2];rw[bfD (y5 (Qkl _))]
section
variable{f:Frm}
theorem Be0 (q : Bool) (k : Nat) (e : Int) (A O : List Pln) (m : Nat) (el er : List (List c7)) (hA : A.length ≤ 1000000) (hO : O.length ≤ 1000000) (h : ∀ p ∈ A, ∃ q ∈ O, R5 f p = (q, true) ∧ L3 f p = true) :
  lp (H6 ⟨q,k,e,(A.length:Int),f.t.m.r0.x,f.t.m.r0.y,f.t.m.r0.z,f.t.m.r1.x,f.t.m.r1.y,f.t.m.r1.z,f.t.m.r2.x,f.t.m.r2.y,f.t.m.r2.z,f.t.d,f.s.x,f.s.y,f.s.z,el⟩) ⟨1,O,A,0,m,er⟩=(3,⟨1,O,A,(A.length:Int),m,er⟩):=by
 suffices key:∃t s,lp (H6 ⟨q,k,e,(A.length:Int),f.t.m.r0.x,f.t.m.r0.y,f.t.m.r0.z,f.t.m.r1.x,f.t.m.r1.y,f.t.m.r1.z,f.t.m.r2.x,f.t.m.r2.y,f.t.m.r2.z,f.t.d,f.s.x,f.s.y,f.s.z,el⟩) ⟨1,O,A,0,m,er⟩=(t,s)/\(t=3/\s=⟨1,O,A,(A.length:Int),m,er⟩) by
  obtain⟨t,s,h,rfl,rfl⟩:=key;exact h
 refine aa3 (step:=H6 ⟨q,k,e,(A.length:Int),f.t.m.r0.x,f.t.m.r0.y,f.t.m.r0.z,f.t.m.r1.x,f.t.m.r1.y,f.t.m.r1.z,f.t.m.r2.x,f.t.m.r2.y,f.t.m.r2.z,f.t.d,f.s.x,f.s.y,f.s.z,el⟩) (mk:=λj (_:Unit)=>(⟨1,O,A,(j:Int),m,er⟩:k9)) A.length (λj _=>j<=A.length) (λt s=>t=3/\s=⟨1,O,A,(A.length:Int),m,er⟩) (by omega)
  (λj c hj hi=>?_) (λj c hj hi=>?_) 0 () (Qkp _)
 ·have hn:=E6 hj (show A.length<=4611686018427387904 by omega)
  obtain⟨r,hr,e1,e2⟩:=h _ (Ma5 tP hj);have e1':R5 ⟨⟨⟨⟨f.t.m.r0.x,f.t.m.r0.y,f.t.m.r0.z⟩,⟨f.t.m.r1.x,f.t.m.r1.y,f.t.m.r1.z⟩,⟨f.t.m.r2.x,f.t.m.r2.y,f.t.m.r2.z⟩⟩,f.t.d⟩,⟨f.s.x,f.s.y,f.s.z⟩⟩ (gL tP A j)=(r,true):=e1;have e2':L3 ⟨⟨⟨⟨f.t.m.r0.x,f.t.m.r0.y,f.t.m.r0.z⟩,⟨f.t.m.r1.x,f.t.m.r1.y,f.t.m.r1.z⟩,⟨f.t.m.r2.x,f.t.m.r2.y,f.t.m.r2.z⟩⟩,f.t.d⟩,⟨f.s.x,f.s.y,f.s.z⟩⟩ (gL tP A j)=true:=e2;show Nx (D3 Stp.next Stp.exit Stp.fail _ _) _ _;simp only[D3,Int.toNat_natCast,w5,o9,e1',e2',hn,j9 hj];rw[Ae9 _ r O rfl rfl rfl rfl rfl rfl hO,je6 hr,btD (q7 hj)];exact Nx.nx (s:=(⟨1,O,A,((j+1:Nat):Int),m,er⟩:k9)) (E:=λt=>t=3/\(⟨1,O,A,(j:Int),m,er⟩:k9)=⟨1,O,A,(A.length:Int),m,er⟩) (N:=λs=>∃_:Unit,s=(⟨1,O,A,((j+1:Nat):Int),m,er⟩:k9)/\j+1<=A.length) ⟨(),rfl,by omega⟩
 ·have e:j=A.length:=by omega
  subst e;refine⟨3,?_,rfl,rfl⟩;show D3 Stp.next Stp.exit Stp.fail _ _=_;simp only[D3];rw[bfD (y5 (Qkl _))]
def ph0(j:Nat):Nat:=match j with
 |0=>0
 |_+1=>1
theorem Tc1(g:V3->V3):∀(l o:List V3),(l.foldl (λo v=>ea7 o (g v)) o).length<=o.length+l.length
 |[],o=>by simp
 |v::l,o=>by
  rw[List.foldl_cons];have h1:=Tc1 g l (ea7 o (g v));have h2:=Sc8 (g v) o;simp only[List.length_cons];omega
theorem Be1(P:o5)(s:i7)(h:s.ph=0):r4 P s=D4 .next .exit .fail P s:=by
 unfold r4;rw[h];rfl
theorem Be2 (q : Bool) (B A : List V3) (hA : A.length ≤ 1000) (h : ∀ v ∈ A, E3 f v = (TF f v, true) ∧ y9 f v = true) :
  lp (r4 ⟨q,B,A,(A.length:Int),f.t.m.r0.x,f.t.m.r0.y,f.t.m.r0.z,f.t.m.r1.x,f.t.m.r1.y,f.t.m.r1.z,f.t.m.r2.x,f.t.m.r2.y,f.t.m.r2.z,f.t.d,f.s.x,f.s.y,f.s.z⟩) ⟨0,0,[]⟩=(ph0 A.length+1,⟨ph0 A.length,(A.length:Int),A.foldl (λo v=>ea7 o (TF f v)) []⟩):=by
 suffices key:∃t s,lp (r4 ⟨q,B,A,(A.length:Int),f.t.m.r0.x,f.t.m.r0.y,f.t.m.r0.z,f.t.m.r1.x,f.t.m.r1.y,f.t.m.r1.z,f.t.m.r2.x,f.t.m.r2.y,f.t.m.r2.z,f.t.d,f.s.x,f.s.y,f.s.z⟩) ⟨0,0,[]⟩=(t,s)/\(t=ph0 A.length+1/\s=⟨ph0 A.length,(A.length:Int),A.foldl (λo v=>ea7 o (TF f v)) []⟩) by
  obtain⟨t,s,h,rfl,rfl⟩:=key;exact h
 refine aa3 (step:=r4 ⟨q,B,A,(A.length:Int),f.t.m.r0.x,f.t.m.r0.y,f.t.m.r0.z,f.t.m.r1.x,f.t.m.r1.y,f.t.m.r1.z,f.t.m.r2.x,f.t.m.r2.y,f.t.m.r2.z,f.t.d,f.s.x,f.s.y,f.s.z⟩) (mk:=λj (o:List V3)=>(⟨ph0 j,(j:Int),o⟩:i7)) A.length (λj o=>j<=A.length/\o=(A.take j).foldl (λo v=>ea7 o (TF f v)) []) (λt s=>t=ph0 A.length+1/\s=⟨ph0 A.length,(A.length:Int),A.foldl (λo v=>ea7 o (TF f v)) []⟩) (by omega)
  (λj o hj hi=>?_) (λj o hj hi=>?_) 0 [] ⟨Qkp _,by simp⟩
 ·obtain⟨_,hi⟩:=hi;have hn:=E6 hj (show A.length<=4611686018427387904 by omega)
  obtain⟨e1,e2⟩:=h _ (Ma5 tV hj);have e1':E3 ⟨⟨⟨⟨f.t.m.r0.x,f.t.m.r0.y,f.t.m.r0.z⟩,⟨f.t.m.r1.x,f.t.m.r1.y,f.t.m.r1.z⟩,⟨f.t.m.r2.x,f.t.m.r2.y,f.t.m.r2.z⟩⟩,f.t.d⟩,⟨f.s.x,f.s.y,f.s.z⟩⟩ (gL tV A j)=(TF f (gL tV A j),true):=e1;have e2':y9 ⟨⟨⟨⟨f.t.m.r0.x,f.t.m.r0.y,f.t.m.r0.z⟩,⟨f.t.m.r1.x,f.t.m.r1.y,f.t.m.r1.z⟩,⟨f.t.m.r2.x,f.t.m.r2.y,f.t.m.r2.z⟩⟩,f.t.d⟩,⟨f.s.x,f.s.y,f.s.z⟩⟩ (gL tV A j)=true:=e2;have hT:(A.take (j+1)).foldl (λo v=>ea7 o (TF f v)) []=ea7 o (TF f (gL tV A j)):=by
   rw[ab7 tV hj,List.foldl_append,<- hi];rfl
  have hlen:o.length<=1000:=by
   have h1:=Tc1 (TF f) (A.take j) [];have h2:=List.length_take_le j A;rw[hi];simp only[List.length_nil] at h1;omega
  cases j with
  |zero =>
   have ho:o=[]:=by rw[hi];simp
   subst ho;show Nx (D4 Stp.next Stp.exit Stp.fail _ _) _ _;simp only[D4,Int.toNat_natCast,e1',e2',hn,j9 hj,Fd2 [] _ (by simp),Fd3 [] _ (by simp)]
   rw[btD (q7 hj)];exact Nx.nx (s:=(⟨1,((0+1:Nat):Int),ea7 [] (TF f (gL tV A 0))⟩:i7)) (N:=λs=>∃a',s=(⟨1,((0+1:Nat):Int),a'⟩:i7)/\(0+1<=A.length/\a'=(A.take (0+1)).foldl (λo v=>ea7 o (TF f v)) [])) ⟨_,rfl,by omega,hT.symm⟩
  |succ j =>
   show Nx (D5 Stp.next Stp.exit Stp.fail _ _) _ _;simp only[D5,Int.toNat_natCast,w5,lb5,e1',e2',hn,j9 hj,Fd2 o _ (show o.length<=1000000 by omega),Fd3 o _ (show o.length<=1000000 by omega)]
   rw[btD (q7 hj)];exact Nx.nx (s:=(⟨1,((j+1+1:Nat):Int),ea7 o (TF f (gL tV A (j+1)))⟩:i7)) (N:=λs=>∃a',s=(⟨1,((j+1+1:Nat):Int),a'⟩:i7)/\(j+1+1<=A.length/\a'=(A.take (j+1+1)).foldl (λo v=>ea7 o (TF f v)) [])) ⟨_,rfl,by omega,hT.symm⟩
 ·obtain⟨h7,hi⟩:=hi;have e:j=A.length:=by omega
  subst e;rw[Qkv] at hi;subst hi;refine⟨ph0 A.length+1,?_,rfl,rfl⟩;generalize hF:A.foldl (λo v=>ea7 o (TF f v)) []=F
  generalize hN:A.length=n;cases n with
  |zero =>
   rw[Be1 _ _ rfl];simp only[D4];rw[bfD (y5 (Qkl _))];rfl
  |succ n =>
   show D5 Stp.next Stp.exit Stp.fail _ _=_;simp only[D5];rw[bfD (y5 (Qkl _))];rfl
end
theorem qd5:Da3=some (b true,[]):=by kernel_rfl
theorem zd6:Da5=true:=by unfold Da5;rw[qd5];rfl
theorem zd7:Da4=true:=by unfold Da4;rw[qd5];rfl
theorem qd6{l:List V3}:(Da7 l).1.length<=l.length:=by
 unfold Da7;split
 ·exact Nat.le_trans (List.length_filter_le _ _) (bd7 l)
 ·simp
theorem Tc2(x y:List Int):da6 x y=some (b true,[]):=by
 have hf:=Wd8 x;have hM:=pd4 y;have hgo:=Nd4 y;unfold da6;simp only[w5,lb5,zd6,zd7,Wd9,hgo];generalize Qa7 x=f at *
 have h4:=hM.l4;have h8:=hM.l8;have hbd:∀v∈R3 y,Sm3 11 v:=λv hv=>hM.bd v hv
 generalize R3 y=l at *
 have h0:=Ae7 hf true (l:=l) (by omega) h8 hbd
 have hl1:∀v∈l.map (rnV f.t.d),∃w,v=rnV f.t.d w/\Sm3 11 w:=λv hv=>by
  obtain⟨w,hw,rfl⟩:=Qka.1 hv;exact⟨w,rfl,hbd w hw⟩
 have e2:l.map (mvF f)=(l.map (rnV f.t.d)).map (TF f):=by rw[List.map_map];rfl
 have hi1:(l.map (rnV f.t.d)).all inV=true:=Qkj.2 λv hv=>by
  obtain⟨w,rfl,hw⟩:=hl1 v hv;have h:=dd0 (d:=f.t.d) hw;exact (la9 _).2 ⟨h.1.mono (by omega),h.2.1.mono (by omega),h.2.2.mono (by omega)⟩
 have hm:((l.map (rnV f.t.d)).map (TF f)).all inV=true:=Qkj.2 λv hv=>by
  obtain⟨w,hw,rfl⟩:=Qka.1 hv;obtain⟨w',rfl,hw'⟩:=hl1 w hw;exact (Xa2 hf hw').i
 have hn1:(l.map (rnV f.t.d)).length=l.length:=Qkb ..;rw[e2] at h0;generalize l.map (rnV f.t.d)=l1 at *
 have hn2:(l1.map (TF f)).length=l.length:=by rw[Qkb];exact hn1
 have h1:=Ae8 hf true (l:=l1) (by omega) (by omega) hl1 hi1 hm
 have hS:=Fd6 (zd5 hf hl1).toMat hi1 hm;have h48:l1.length<=48:=by omega
 obtain⟨f1,f2,f3,f4⟩:=Sim.faces hS h48;have f5:=Sim.vlen hS h48;have f6:=Sim.put hS h48;have f7:=Sim.chk hS h48;have hap:∀v∈(Da7 l1).1,E3 f v=(TF f v,true)/\y9 f v=true:=λv hv=>by
  obtain⟨w,rfl,hw⟩:=hl1 v ((Ha4 l1).2.2 v hv).2;exact⟨(Xa2 hf hw).p,(Xa2 hf hw).g⟩
 have hx:=qd6 (l:=l1);have hx2:=qd6 (l:=l1.map (TF f));have hfl:(X2 l1).1.length<=1000000:=by
  unfold X2;split
  ·exact pd5 h48 hi1
  ·simp
 have hpl:∀p∈(X2 l1).1,∃q∈(X2 (l1.map (TF f))).1,R5 f p=(q,true)/\L3 f p=true:=λp hp=>by
  by_cases hc:Da6 l1=0
  ·unfold X2 at hp ⊢;rw[if_pos hc] at hp;rw[f7,if_pos hc];exact Zd7 hf hl1 hi1 hm (Ha3 hc).2.2 hp
  ·unfold X2 at hp;rw[if_neg hc] at hp;cases hp
 have h2:=Be0 (f:=f) true l.length (X2 l1).2 (X2 l1).1 (X2 (l1.map (TF f))).1 l.length (bL tV l1) (bL tV (l1.map (TF f))) hfl (by rw[f2];exact hfl) hpl
 have h5:=Be2 (f:=f) true (Da7 (l1.map (TF f))).1 (Da7 l1).1 (by omega) hap
 rw[f6] at h5;have s1:slR tV (bL tV l1) 0 l.length=l1:=by rw[<- hn1];exact vb0 tV l1
 have s2:slR tV (bL tV (l1.map (TF f))) 0 l.length=l1.map (TF f):=by rw[<- hn2];exact vb0 tV _
 have s3:okS tV (bL tV l1) 0 l.length=true:=by rw[<- hn1];exact Mb8 tV l1
 have s4:okS tV (bL tV (l1.map (TF f))) 0 l.length=true:=by rw[<- hn2];exact Mb8 tV _
 have g1:Y0 l1=true:=decide_eq_true (by omega)
 have g2:Y0 (l1.map (TF f))=true:=decide_eq_true (by omega)
 have g3:C0 l1=true:=decide_eq_true (by omega)
 have g4:C0 (l1.map (TF f))=true:=decide_eq_true (by omega)
 have c1:∀z:List V3,ua9 z=X2 z:=λ_=>rfl
 have c2:∀z:List V3,ba7 z=Da7 z:=λ_=>rfl
 have h1':∀k,k=l1.length->(lp (L9 ⟨true,k,(k:Int),f.t.m.r0.x,f.t.m.r0.y,f.t.m.r0.z,f.t.m.r1.x,f.t.m.r1.y,f.t.m.r1.z,f.t.m.r2.x,f.t.m.r2.y,f.t.m.r2.z,f.t.d,f.s.x,f.s.y,f.s.z,bL tV l1,k,bL tV (l1.map (TF f))⟩) ⟨1,0⟩).1=3:=λk hk=>by subst hk;exact h1
 have h1'':=h1' l.length hn1.symm;have b3:Nat.beq 3 1=false:=rfl;have b3':Nat.beq 3 2=false:=rfl;simp only[h0,b3,b3',sa9,r5,Qkw,h1'',s1,s2,s3,s4,c1,c2,g1,g2,g3,g4,f1,f2,h2,o9,Qkaf,f3,f4,f5,bne_self_eq_false,h5];have q1:=ie9 (Da7 (l1.map (TF f))).1 (by omega)
 have q2:=je0 (Da7 (l1.map (TF f))).1 (by omega)
 generalize hk:(Da7 l1).1.length=n at *
 cases n with
 |zero =>
  have hz:(Da7 (l1.map (TF f))).1=[]:=List.eq_nil_of_length_eq_zero (by omega)
  rw[hz] at q1 q2;rw[show Nat.beq (ph0 0+1) 1=true from rfl,hz,q1,q2]
  rfl
 |succ n =>
  rw[show Nat.beq (ph0 (n+1)+1) 1=false from rfl,show Nat.beq (ph0 (n+1)+1) 2=true from rfl,q1,q2]
  rfl
theorem je7(x y:List Int):ma2 x y=true:=by unfold ma2;rw[Tc2 x y];rfl
theorem je8(x y:List Int):ma3 x y=true:=by unfold ma3;rw[Tc2 x y];rfl
end Go.Ev.Ce
namespace Go.Ev
open Go Go.ChangeShapes Go.RowKit
structure Fc8(w w':World):Prop where
 os:w'.os=w.os
 output:w'.output=w.output
 size:w.heap.size<=w'.heap.size
 block:∀k,k<w.heap.size->w'.heap[k]?=w.heap[k]?
theorem Fc8.kept{w w':World}(h:Fc8 w w')(may:MemPlace->Prop):w.keptBut w' may:=by
 refine⟨h.os,h.output,λi hi=>?_⟩
 rw[h.block i hi];cases w.heap[i]? with
 |none=>rfl
 |some o=>cases o<;>first | exact⟨rfl,rfl,rfl,λ_ _=>rfl⟩ | exact .inr ⟨rfl,rfl⟩ | rfl
theorem Fc8.frozen{w w':World}(h:Fc8 w w')(b off:Nat)(hb:b<w.heap.size):w'.frozen? ⟨b,off,none⟩=w.frozen? ⟨b,off,none⟩:=by
 simp only[World.frozen?,h.block b hb]
theorem Fc8.cell{w w':World}(h:Fc8 w w')(b off:Nat)(hb:b<w.heap.size):w'.cell? ⟨b,off,none⟩=w.cell? ⟨b,off,none⟩:=by
 simp only[World.cell?,h.block b hb]
theorem Fc8.same{w w':World}(h:Fc8 w w')(p:MemPlace)(hp:p.block<w.heap.size):w.sameAt w' p:=by
 cases p with
 |cell b off=>exact h.cell b off hp
 |map b=>exact h.block b hp
theorem Bb4{α β:Type}{f:α->Option β}:∀{l:List α} {r:List β},l.mapM f=some r->r.length=l.length/\∀(j:Nat) y,r[j]?=some y->∃x,l[j]?=some x/\f x=some y
 |[],r,h=>by
  have:r=[]:=by simpa using h.symm
  subst this;simp
 |x::l,r,h=>by
  rw[List.mapM_cons] at h;obtain⟨y,h1,h2⟩:=Qkk.1 h;obtain⟨r',h3,h4⟩:=Qkk.1 h2
  have:r=y::r':=by simpa using h4.symm
  subst this;obtain⟨g1,g2⟩:=Bb4 h3;refine⟨by simp[g1],λj z hz=>?_⟩
  cases j with
  |zero=>simp at hz;subst hz;exact⟨x,rfl,h1⟩
  |succ j=>simpa using g2 j z (by simpa using hz)
section
variable{D:Type}{enc:TypeId×Value->D}{P:Program}
theorem Lb0 {T : TypeId → Prop} (K : Kids P T) (hsz : ∀ {t e : TypeId}, T t → P.underlying t = some (.slice e) → 0 < P.cellsOf e) {w w' : World} {sp : Nat → Bool} (hs : Fc8 w w') :
  ∀{ts:List TypeId} {vs:List Value} {ds:List (DataW D)} {ps:List MemPlace},(∀t∈ts,T t)->DataW.TrodAll enc P w 0 (λ_=>true) true ts vs ds ps->(∀p∈ps,p.block<w.heap.size)->(∀p∈ps,sp p.block=true)->DataW.TrodAll enc P w' 0 sp true ts vs ds ps
 |[],[],[],_,_,h,_,_=>h
 |t::ts,v::vs,d::ds,ps,ht,h,hlt,hsp=>by
  obtain⟨p,q,⟨fuel,h1⟩,h2,rfl⟩:=h;refine⟨p,q,⟨fuel,?_⟩,Lb0 K hsz hs (λt h=>ht t (by simp[h])) h2 (λx hx=>hlt x (by simp[hx])) (λx hx=>hsp x (by simp[hx])),rfl⟩
  exact DataW.trod_stays K hsz (λh=>by cases h) (ht t (by simp)) h1 (λx hx=>hs.same x (hlt x (by simp at hx ⊢;exact .inl hx))) (λx hx=>hsp x (by simp at hx ⊢;exact .inl hx))
 |[],_::_,_,_,_,h,_,_=>h.elim
 |[],[],_::_,_,_,h,_,_=>h.elim
 |_::_,[],_,_,_,h,_,_=>h.elim
 |_::_,_::_,[],_,_,h,_,_=>h.elim
theorem ae2 {T : TypeId → Prop} (K : Kids P T) (hsz : ∀ {t e : TypeId}, T t → P.underlying t = some (.slice e) → 0 < P.cellsOf e) {f : Func} {s : ChangeSpec} {apart fresh handsOn again : Bool} {W W' : World} {args : Array Value} {ds gs : List (DataW D)} {before : List MemPlace} {tb : TypeId}
  (hT:∀t∈f.params.toList,T t) (hW:DataW.Whole enc P f.params.toList s.vars apart W args.toList ds gs before) (hv:s.vars=[]) (hr:f.resultTypes=#[tb]) (hb:P.underlying tb=some .bool)
  (h1:(s.fn D ds).results=[.lit (.bool true)]) (h2:(s.fn D ds).args=ds) (h3:(s.fn D ds).vars=[]) (hs:Fc8 W W') :
  s.post enc P f apart fresh handsOn again W args (.bool true) W':=by
 have hlt:=hW.lt;obtain⟨pa,pv,hA,hV,hps,hz,hn⟩:=id hW;rw[hv] at hV;have hpv:gs=[]/\pv=[]:=by
  cases gs with
  |nil=>exact⟨rfl,hV⟩
  |cons=>exact hV.elim
 obtain⟨rfl,rfl⟩:=hpv;rw[<- Qkad ds] at h1 h3;have h2:(s.fn D (ds++[])).args=ds:=by rw[Qkad];exact h2
 have hpa:before=pa:=by rw[hps];simp
 subst hpa;have hagain:∀sp:Nat->Bool,(∀p∈before,sp p.block=true)->DataW.TrodAll enc P W' 0 sp true f.params.toList args.toList ds before:=λsp h=>Lb0 K hsz hs hT hA hlt h
 have hres:∀(b:Nat) (sp:Nat->Bool) (hd:Bool),DataW.TrodAll enc P W' b sp hd f.resultTypes.toList ((Value.bool true).resultList f.resultTypes.size) [.lit (.bool true)] []:=λb sp hd=>by
  rw[hr];exact⟨[],[],⟨1,by simp[DataW.trod,hb,Value.cells,Value.resultList]⟩,rfl,rfl⟩
 have hvars:∀sp:Nat->Bool,DataW.TrodVars enc P W' sp s.vars ([]:List (DataW D)) []:=λsp=>by rw[hv];exact rfl
 have hok:∀(j:Nat) (t:TypeId) (r:Value),f.resultTypes[j]?=some t->((Value.bool true).resultList f.resultTypes.size)[j]?=some r->Value.okWide P W' .any 0 t r:=by
  rw[hr];intro j t r h4 h5;cases j with
  |zero =>
   simp at h4
   subst h4
   have:r=.bool true:=by simpa [Value.resultList] using h5.symm
   subst this;exact okWide_bool_mk hb _
  |succ j=>simp at h4
 have hag:DataW.TrodAll enc P W' 0 (λ_=>true) true (f.resultTypes.toList++f.params.toList) ((Value.bool true).resultList f.resultTypes.size++args.toList) (.lit (.bool true)::ds) before:=by
  have:=hagain (λ_=>true) (λ_ _=>rfl)
  rw[hr];exact⟨[],before,⟨1,by simp[DataW.trod,hb,Value.cells,Value.resultList]⟩,this,rfl⟩
 refine⟨ds,[],before,[],before,[],hW,?_,?_,?_,hs.kept _,λ_=>?_⟩
 ·rw[h1];exact hres _ _ _
 ·rw[h2];exact hagain _ λp hp=>by simpa using hlt p hp
 ·rw[h3];exact hvars _
 ·refine⟨hok,.lit (.bool true)::ds,[],before,⟨before,[],hag,hvars _,by simp,?_,?_⟩,?_⟩
  ·intro b off hp;rw[hs.frozen b off (hlt _ hp)];exact hz b off (by simpa using hp)
  ·intro ha;simpa using hn ha
  ·intro p hp _;exact hp
variable{w:World}{base:Nat}{spare:Nat->Bool}{held:Bool}
def zd8(w:World):Fz:=λb o=>(w.cell? ⟨b,o,none⟩).isSome
theorem ae3 {fuel : Nat} {t : TypeId} {k : IntKind} {cs : List Value} {x : DataW D × List MemPlace} (ht : P.underlying t = some (.int k)) (h : DataW.trod enc P w base spare held fuel t cs = some x) :
  ∃n,cs=[.int k n]/\(Lit.int k n).wf=true/\x.1=.lit (.int k n):=by
 cases fuel with
 |zero=>cases h
 |succ fuel =>
  match cs,h with
  |[],h=>simp[DataW.trod,ht] at h
  |[v],h =>
   cases v with
   |int k' n =>
    simp only[DataW.trod,ht] at h
    split at h
    ·rename_i hk;obtain⟨rfl,hw⟩:=hk;injection h with h;subst h
     exact⟨n,rfl,hw,rfl⟩
    ·cases h
   |_=>simp[DataW.trod,ht] at h
  |a::b::r,h=>simp[DataW.trod,ht] at h
theorem je9 {fuel : Nat} {t : TypeId} {cs : List Value} {x : DataW D × List MemPlace} (ht : P.underlying t = some .bool) (h : DataW.trod enc P w base spare held fuel t cs = some x) :
  ∃n,cs=[.bool n]/\x.1=.lit (.bool n):=by
 cases fuel with
 |zero=>cases h
 |succ fuel =>
  match cs,h with
  |[],h=>simp[DataW.trod,ht] at h
  |[v],h =>
   cases v with
   |bool n =>
    simp only[DataW.trod,ht] at h;injection h with h;subst h
    exact⟨n,rfl,rfl⟩
   |_=>simp[DataW.trod,ht] at h
  |a::b::r,h=>simp[DataW.trod,ht] at h
theorem Fc9 {fuel : Nat} {t e : TypeId} {n : Nat} {cs : List Value} {x : DataW D × List MemPlace} (ht : P.underlying t = some (.array n e)) (h : DataW.trod enc P w base spare held fuel t cs = some x) :
  cs.length=P.cellsOf t/\∃(fuel':Nat) (xs:List (DataW D×List MemPlace)),xs.length=n/\x.1=.agg (xs.map (·.1))/\∀(j:Nat) y,xs[j]?=some y->DataW.trod enc P w base spare held fuel' e ((cs.drop (j*P.cellsOf e)).take (P.cellsOf e))=some y:=by
 cases fuel with
 |zero=>cases h
 |succ fuel =>
  unfold DataW.trod at h;rw[ht] at h
  simp only at h
  split at h
  ·rename_i hl;obtain⟨xs,h1,h2⟩:=Qkae.1 h;have hx:=Bb4 h1;exact⟨hl,fuel,xs,by simpa using hx.1,by rw[<- h2],λj y hy=>by
    obtain⟨a,ha,hb⟩:=hx.2 j y hy
    have:j<n:=by
     have:=(Qkab.1 hy).1
     rw[hx.1] at this;simpa using this
    rw[Qky this] at ha;injection ha with ha;subst ha;exact hb⟩
  ·cases h
theorem Nd5 {fuel : Nat} {t : TypeId} {fs : Array Field} {cs : List Value} {x : DataW D × List MemPlace} (ht : P.underlying t = some (.struct fs)) (h : DataW.trod enc P w base spare held fuel t cs = some x) :
  cs.length=P.cellsOf t/\∃(fuel':Nat) (xs:List (DataW D×List MemPlace)),xs.length=fs.size/\x.1=.agg (xs.map (·.1))/\∀(j:Nat) f,fs[j]?=some f->∃y,xs[j]?=some y/\DataW.trod enc P w base spare held fuel' f.type ((cs.drop f.offset).take (P.cellsOf f.type))=some y:=by
 cases fuel with
 |zero=>cases h
 |succ fuel =>
  unfold DataW.trod at h;rw[ht] at h
  simp only at h
  split at h
  ·rename_i hl;obtain⟨xs,h1,h2⟩:=Qkae.1 h;have hx:=Bb4 h1;refine⟨hl,fuel,xs,by simpa using hx.1,by rw[<- h2],λj f hf=>?_⟩
   have hj:j<xs.length:=by
    rw[hx.1];simpa using (Array.getElem?_eq_some_iff.1 hf).1
   obtain⟨a,ha,hb⟩:=hx.2 j _ (Qke hj)
   have:a=f:=by
    have:fs.toList[j]?=some f:=by simpa using hf
    exact Option.some.inj (ha.symm.trans this)
   subst this;exact⟨_,Qke hj,hb⟩
  ·cases h
theorem ae4 {fuel : Nat} {t e : TypeId} {cs : List Value} {x : DataW D × List MemPlace} (ht : P.underlying t = some (.slice e)) (h : DataW.trod enc P w base spare held fuel t cs = some x) :
  cs=[.slice none 0 0]\/∃(a:Addr) (n cap fuel':Nat),cs=[.slice (some a) n cap]/\n<=cap/\cap<=maxLen/\∀j,j<n->∃row y,w.cells? base (a.add (j*P.cellsOf e)) (P.cellsOf e)=some row/\DataW.trod enc P w base spare held fuel' e row=some y:=by
 cases fuel with
 |zero=>cases h
 |succ fuel =>
  match cs,h with
  |[],h=>simp[DataW.trod,ht] at h
  |[v],h =>
   cases v with
   |slice a len cap =>
    cases a with
    |none =>
     simp only[DataW.trod,ht] at h
     split at h<;>first | (rename_i e1;cases e1;done) | skip
     all_goals first | exact .inl rfl | (simp_all;done) | skip
    |some a =>
     refine .inr ?_;simp only[DataW.trod,ht] at h
     split at h
     ·rename_i hc;obtain⟨elems,h1,h2⟩:=Qkk.1 h;have hx:=Bb4 h1;refine⟨a,len,cap,fuel,rfl,hc.2.1,hc.2.2,λj hj=>?_⟩
      have hj':j<elems.length:=by rw[hx.1];simpa using hj
      obtain⟨i,hi,hb⟩:=hx.2 j _ (Qke hj');rw[Qky hj] at hi;injection hi with hi;subst hi;obtain⟨row,r1,r2⟩:=Qkk.1 hb;exact⟨row,_,r1,r2⟩
     ·cases h
   |_=>simp[DataW.trod,ht] at h
  |a::b::r,h=>simp[DataW.trod,ht] at h
theorem Fd9:∀(d:Nat) (t:TypeId) (l:List (Nat×CK)),V0 P d t=some l->∀(fuel:Nat) (cs:List Value) (x:DataW D×List MemPlace),DataW.trod enc P w base spare held fuel t cs=some x->∀p∈l,pa7 cs.toArray p
 |0,_,_,h,_,_,_,_=>by cases h
 |d+1,t,l,h,fuel,cs,x,hx=>by
  have hpart:∀{off n:Nat} {e:TypeId} {l':List (Nat×CK)} {fuel':Nat} {y:DataW D×List MemPlace},tb3 off n (V0 P d e)=some l'->DataW.trod enc P w base spare held fuel' e ((cs.drop off).take n)=some y->∀p∈l',pa7 cs.toArray p:=λ{off n e l' fuel' y} h1 h2 p hp=>by
   obtain⟨l2,g1,g2,rfl⟩:=xa4 h1;obtain⟨q,hq,rfl⟩:=Qka.1 hp
   have:=Fd9 d e l2 g1 fuel' _ y h2 q hq
   have hlt:=g2 q hq;unfold pa7 at this ⊢;simp only[List.getElem?_toArray,Qkz,hlt,if_true,List.getElem?_drop] at this ⊢;exact this
  have hcat:∀{α:Type} (f:α->Option (List (Nat×CK))) (xs:List α) (l:List (Nat×CK)),da7 (xs.map f)=some l->∀p∈l,∃a∈xs,∃l',f a=some l'/\p∈l':=λ{α} f xs=>by
   induction xs with
   |nil=>intro l h;simp only[List.map_nil,da7] at h;injection h with h;subst h;simp
   |cons a xs ih =>
    intro l h p hp;simp only[List.map_cons,da7] at h;cases h1:f a with
    |none=>simp[h1] at h
    |some l1 =>
    cases h2:da7 (xs.map f) with
    |none=>simp[h1,h2] at h
    |some l2 =>
    simp only[h1,h2] at h;injection h with h;subst h
    rcases List.mem_append.1 hp with hp|hp
    ·exact⟨a,by simp,l1,h1,hp⟩
    ·obtain⟨b,hb,r⟩:=ih l2 h2 p hp;exact⟨b,by simp[hb],r⟩
  unfold V0 at h;cases hu:P.underlying t with
  |none=>simp[hu] at h
  |some u =>
  cases u with
  |int k =>
   simp only[hu] at h;injection h with h;subst h
   obtain⟨n,rfl,_,_⟩:=ae3 hu hx;intro p hp;simp at hp;subst hp;exact⟨n,rfl⟩
  |bool =>
   simp only[hu] at h;injection h with h;subst h
   obtain⟨n,rfl,_⟩:=je9 hu hx;intro p hp;simp at hp;subst hp;exact⟨n,rfl⟩
  |struct fs =>
   simp only[hu] at h
   split at h
   ·cases h
   obtain⟨_,fuel',xs,_,_,hxs⟩:=Nd5 hu hx;intro p hp;obtain⟨f,hf,l',h1,h2⟩:=hcat _ _ _ h p hp
   split at h1
   ·cases h1
   obtain⟨j,hj⟩:=List.getElem?_of_mem hf;obtain⟨y,_,hy⟩:=hxs j f (by simpa using hj)
   have hc:P.cellsOf f.type=szT P f.type:=by
    unfold Program.cellsOf szT;cases P.info? f.type<;>rfl
   rw[hc] at hy;exact hpart h1 hy p h2
  |array n e =>
   simp only[hu] at h
   split at h
   case isFalse=>cases h
   obtain⟨_,fuel',xs,hn,_,hxs⟩:=Fc9 hu hx;intro p hp;obtain⟨j,hj,l',h1,h2⟩:=hcat _ _ _ h p hp;have hj':j<xs.length:=by rw[hn];simpa using hj
   have hy:=hxs j _ (Qke hj');have hc:P.cellsOf e=szT P e:=by
    unfold Program.cellsOf szT;cases P.info? e<;>rfl
   rw[hc] at hy;exact hpart h1 hy p h2
  |_=>simp[hu] at h
def Ha5(k:IntKind)(es:Nat)(g:Nat->Int):List c7:=(List.range es).map λc=>.v (.int k (g c))
def ra8(k:IntKind)(es:Nat):List (Nat×CK):=(List.range es).map λc=>(c,.int k)
theorem ke0 {d : Nat} {t : TypeId} {k : IntKind} {es : Nat} (hf : V0 P d t = some (ra8 k es)) {fuel : Nat} {cs : List Value} {x : DataW D × List MemPlace} (hx : DataW.trod enc P w base spare held fuel t cs = some x) (hl : cs.length = es) :
  ∃g:Nat->Int,∀c,c<es->cs[c]?=some (.int k (g c)):=by
 have h:=Fd9 d t _ hf fuel cs x hx;have h':∀c,∃n:Int,c<es->cs[c]?=some (.int k n):=λc=>by
  by_cases hc:c<es
  ·have:=h (c,.int k) (Qka.2 ⟨c,by simpa using hc,rfl⟩)
   obtain⟨n,hn⟩:=this;exact⟨n,λ_=>by simpa using hn⟩
  ·exact⟨0,λh=>absurd h hc⟩
 exact⟨λc=>Classical.choose (h' c),λc hc=>Classical.choose_spec (h' c) hc⟩
theorem ae5{F:Fz}{w:World}(k:IntKind)(n:Int):U4 F w (.v (.int k n)) (.int k n):=.v _ rfl
theorem zd9{k:IntKind}{es:Nat}{g:Nat->Int}{c:Nat}{x:c7}(h:(Ha5 k es g)[c]?=some x):c<es/\x=.v (.int k (g c)):=by
 unfold Ha5 at h;obtain⟨h1,h2⟩:=za5 h;exact⟨h1,h2.symm⟩
theorem Mc2 {t e : TypeId} {k : IntKind} {es d : Nat} (ht : P.underlying t = some (.slice e)) (hf : V0 P d e = some (ra8 k es)) (hes : P.cellsOf e = es) (h0 : 0 < es) {fuel : Nat} {cs : List Value} {x : DataW D × List MemPlace} (hx : DataW.trod enc P w 0 spare held fuel t cs = some x) :
  ∃(v:Value) (n:Nat) (g:Nat->Nat->Int),cs=[v]/\n<=maxLen/\U4 (zd8 w) w (.tree es n λj=>Ha5 k es (g j)) v:=by
 rcases ae4 ht hx with rfl|⟨a,n,cap,fuel',rfl,hn,hc,hel⟩
 ·exact⟨_,0,λ_ _=>0,rfl,Qkp _,.nil _ _⟩
 ·rw[hes] at hel;have hcell:∀j,j<n->∃g:Nat->Int,∀c,c<es->w.cell? ((a.add (j*es)).add c)=some (.int k (g c)):=λj hj=>by
   obtain⟨row,y,h1,h2⟩:=hel j hj;unfold World.cells? at h1
   split at h1
   ·obtain⟨l1,l2⟩:=Bb4 h1;have hl:row.length=es:=by simpa using l1
    obtain⟨g,hg⟩:=ke0 hf h2 hl;refine⟨g,λc hc=>?_⟩
    obtain⟨i,hi,hi2⟩:=l2 c _ (hg c hc);rw[Qky hc] at hi;injection hi with hi;subst hi;exact hi2
   ·cases h1
  have hg:∀j,∃g:Nat->Int,j<n->∀c,c<es->w.cell? ((a.add (j*es)).add c)=some (.int k (g c)):=λj=>by
   by_cases hj:j<n
   ·obtain⟨g,hg⟩:=hcell j hj;exact⟨g,λ_=>hg⟩
   ·exact⟨λ_=>0,λh=>absurd h hj⟩
  obtain⟨g,hg⟩:=Classical.axiomOfChoice hg;have hspot:0<n->a.spot=none:=λhn=>by
   have:=hg 0 hn 0 h0
   simpa [Addr.add] using World.cell?_spot this
  have hw:∀j c,j<n->c<es->w.cell? ⟨a.block,a.off+(j*es+c),none⟩=some (.int k (g j c)):=λj c hj hc=>by
   have:=hg j hj c hc
   rw[R7 (hspot (by omega)),R7 rfl] at this
   simpa [Nat.add_assoc] using this
  refine⟨_,n,g,rfl,Nat.le_trans hn hc,.tree es n _ a cap (λj c=>.int k (g j c)) hspot hn (λi hi=>by simp[Ha5]) (λi c hi hc=>?_) hw λi c hi hc=>?_⟩
  ·unfold zd8;rw[hw i c hi hc];rfl
  ·have:=(zd9 (Qke hc)).2
   rw[this];exact ae5 _ _
theorem Nd6(w:World):u7 (λk=>w.heap.size<=k) (λ_=>⟨0,0,0⟩) [] (zd8 w) w :=
 ⟨λid b h=>by simp at h,λid id' b b' h=>by simp at h,λ_ _ h=>h,λ_ h=>h⟩
theorem Nd7 {G : Nat → List Value} {f : FuncId} {S : Sum} (hS : g8 P G f S) {aargs : List c7} {args : List Value} (hrun : ∃ out, (S aargs []).run = some (b true, out)) (hl : aargs.length = args.length)
  (ha:∀(i:Nat) x x',aargs[i]?=some x->args[i]?=some x'->Y1 (λ_=>⟨0,0,0⟩) [] (zd8 w) w x x') (hG:∀g (c:Nat) x,(G g)[c]?=some x->x.oneCell'=true/\w.cell? ⟨g,c,none⟩=some x) :
  Calls P f args.toArray w λe w'=>e=.returned (.bool true)/\Fc8 w w':=by
 obtain⟨out,hrun⟩:=hrun;obtain⟨_,hc⟩:=hS aargs [] (b true) out hrun (λk=>w.heap.size<=k) (λ_=>⟨0,0,0⟩) (zd8 w) w args (Nd6 w) hl (λi x x' h1 h2=>.val (ha i x x' h1 h2)) (λg c x hx=>by
  obtain⟨h1,h2⟩:=hG g c x hx;exact⟨h1,by unfold zd8;rw[h2];rfl,h2⟩)
 refine hc.mono λe w' ⟨r',he,ρ',F',hA,hH,hW⟩=>?_
 have:=Z2 hW
 subst this;exact⟨he,hA.ext.os,hA.ext.output,hA.ext.size,λk hk=>hA.ext.block k hk (by omega)⟩
theorem Tc3 {ρ : Rho} {H : List c8} {t e : TypeId} {k : IntKind} {es d : Nat} {v : Value} {dd : DataW D} {pp : List MemPlace} {bs : Nat} {r : Reach} (ht : P.underlying t = some (.slice e)) (hf : V0 P d e = some (ra8 k es)) (hes : P.cellsOf e = es) (h0 : 0 < es)
  (hok:Value.okWide P w r bs t v) (h:DataW.Trod enc P w 0 spare held t v dd pp):∃(n:Nat) (g:Nat->Nat->Int),n<=maxLen/\Y1 ρ H (zd8 w) w (.tree es n λj=>Ha5 k es (g j)) v:=by
 obtain⟨fuel,hx⟩:=h;obtain⟨v',n,g,h1,h2,h3⟩:=Mc2 ht hf hes h0 hx;have hv:v.cells=#[v]:=by
  unfold Value.okWide at hok;rw[ht] at hok;cases v with
  |agg cs=>exfalso;simp[Cell.okWide,Cell.ok,ht] at hok
  |_=>rfl
 rw[hv] at h1
 have:v=v':=by simpa using h1
 subst this;exact⟨n,g,h2,.cell (.mem h3)⟩
theorem ue1 {t e u : TypeId} {n m : Nat} {k : IntKind} (ht : P.underlying t = some (.array n e)) (he : P.underlying e = some (.array m u)) (hu : P.underlying u = some (.int k)) (hce : P.cellsOf e = m) (hcu : P.cellsOf u = 1)
  {L:List (List Int)} {fuel:Nat} {cs:List Value} {ps:List MemPlace} (hx:DataW.trod enc P w base spare held fuel t cs=some (.agg (L.map λr=>.agg (r.map λz=>.lit (.int k z))),ps)) {a b:Nat} {r:List Int} {z:Int} (hr:L[a]?=some r) (hz:r[b]?=some z) :
  cs[a*m+b]?=some (.int k z):=by
 obtain⟨_,f1,xs,hl1,hd1,hx1⟩:=Fc9 ht hx;have hd1:L.map (λr=>DataW.agg (r.map λz=>DataW.lit (.int k z)))=xs.map (·.1):=by
  injection hd1
 have ha:∃y,xs[a]?=some y/\y.1=DataW.agg (r.map λz=>DataW.lit (.int k z)):=by
  have h1:(L.map (λr=>DataW.agg (H:=D) (r.map λz=>DataW.lit (.int k z))))[a]?=some (DataW.agg (r.map λz=>DataW.lit (.int k z))):=by simp[hr]
  rw[hd1,List.getElem?_map] at h1;cases hy:xs[a]? with
  |none=>simp[hy] at h1
  |some y=>exact⟨y,rfl,by simpa [hy] using h1⟩
 obtain⟨y,hy,hy1⟩:=ha;have hya:=hx1 a y hy;obtain⟨_,f2,ys,hl2,hd2,hx2⟩:=Fc9 he hya;rw[hy1] at hd2;have hd2:r.map (λz=>DataW.lit (H:=D) (.int k z))=ys.map (·.1):=by
  injection hd2
 have hb:∃y2,ys[b]?=some y2/\y2.1=DataW.lit (H:=D) (.int k z):=by
  have h1:(r.map (λz=>DataW.lit (H:=D) (.int k z)))[b]?=some (DataW.lit (.int k z)):=by simp[hz]
  rw[hd2,List.getElem?_map] at h1;cases hy:ys[b]? with
  |none=>simp[hy] at h1
  |some y=>exact⟨y,rfl,by simpa [hy] using h1⟩
 obtain⟨y2,hy2,hy3⟩:=hb;have hyb:=hx2 b y2 hy2;obtain⟨n',h4,_,h5⟩:=ae3 hu hyb;rw[hy3] at h5
 have:n'=z:=by injection h5 with h5;injection h5 with _ h5;exact h5.symm
 subst this;have hbm:b<m:=by rw[<- hl2];exact (Qkab.1 hy2).1
 have h6:=congrArg (λl=>l[0]?) h4
 rw[hcu,hce] at h6;simp only[Qkz,List.getElem?_drop,List.getElem?_cons_zero] at h6;simpa [hbm] using h6
end
end Go.Ev
namespace Go.Ev.L
open Go Go.Ev
theorem ae6 {α : Type} (t : Ty α) (n : Nat) (g : Nat → Nat → Int) (f : (Nat → Int) → α) (h : ∀ j, Ha5 .i64 t.es (g j) = t.row (f (g j))) :
  ∃l,(La8 t).dec (.tree t.es n λj=>Ha5 .i64 t.es (g j))=some l/\(La8 t).grd (.tree t.es n λj=>Ha5 .i64 t.es (g j))=true:=by
 refine⟨lsL t n λj=>Ha5 .i64 t.es (g j),?_,lb4 t (f:=λk=>f (g k)) λk _=>h k⟩
 show Bool.rec (motive:=λ_=>Option (List α)) none (some (lsL t n λj=>Ha5 .i64 t.es (g j))) (Nat.beq t.es t.es)=_
 rw[Qkw]
def Rdg{α:Type}(c:Cod α)(x:c7)(a:α):Prop:=c.dec x=some a/\c.grd x=true
theorem ae7{α:Type}(t:Ty α)(n:Nat)(g:Nat->Nat->Int)(f:(Nat->Int)->α)(h:∀j,Ha5 .i64 t.es (g j)=t.row (f (g j))):∃l,Rdg (La8 t) (.tree t.es n λj=>Ha5 .i64 t.es (g j)) l:=ae6 t n g f h
theorem qd7(n:Nat)(g:Nat->Nat->Int):∃l,Rdg (La8 tI) (.tree 1 n λj=>Ha5 .i64 1 (g j)) l:=ae7 tI n g (λg=>g 0) λ_=>rfl
section
variable{α β γ δ ε:Type}{c:Cod α}{d:Cod β}{e:Cod γ}{f:Cod δ}{c5:Cod ε}{x y z w v:c7}{a:α}{b':β}{g:γ}{j:δ}{m:ε}{r:c7×List c8}
theorem Ke0{k:α->β->DT (c7×List c8)}(h1:Rdg c x a)(h2:Rdg d y b')(h:(k a b').run=some r):(Y2 c d k [x,y] []).run=some r:=by
 unfold Y2;simp only[h1.1,h1.2,h2.1,h2.2];exact h
end
theorem ue2{g p:Bool}(hg:g=true)(hp:p=true):(DT.guard g (.ret ((one r1B).enc p,([]:List c8)))).run=some (b true,([]:List c8)):=by subst hg;subst hp;rfl
end Go.Ev.L
