/- Own work: a part of the proof. -/
import Derived.Test.YtekgjjgbdcgldaaGreatEvOT6
import Derived.KernelRfl
import Derived.Test.YtekgjjgbdcgldaaGreatEvSp3
set_option linter.unusedVariables false
set_option linter.unusedSimpArgs false
set_option linter.unnecessarySimpa false
set_option linter.unusedSectionVars false
namespace Go.Ev.Ce
open Go Go.Ev Go.Ev.L Go.Proofs
theorem xd6 {n:Nat} (h:n≤1000000000000):Nat.ble (n*24) room=true:=by
 rw[Nat.ble_eq];unfold room;omega
theorem Ld2 (l:List V3) (n:Nat) (h:n≤l.length):r6 (fun k=>(fun k=>tV.row (gL tV l k)) (0+k)) (List.range (n - 0))=bL tV (l.take n):=by
 rw[← Db7,o1,o1,List.length_take,Nat.min_eq_left h,Nat.sub_zero]
 apply List.map_congr_left
 intro k hk
 rw[List.mem_range] at hk
 show tV.row (gL tV l (0+k))=tV.row (gL tV (l.take n) k)
 congr 1
 simp[gL,List.getD_eq_getElem?_getD,List.getElem?_take,hk]
theorem Ld3 (l:List V3) (n:Nat):r6 (fun k=>(fun k=>tV.row (gL tV l k)) (n+k)) (List.range (l.length - n))=bL tV (l.drop n):=by
 rw[← Db7,o1,o1,List.length_drop]
 apply List.map_congr_left
 intro k hk
 show tV.row (gL tV l (n+k))=tV.row (gL tV (l.drop n) k)
 rw[Hc2]
def xd7 (x:List V3) (y:V3) (n:Nat):List V3:=x.take n++(y::x.drop n)
def atV (x:List V3) (y:V3):Nat:=x.findIdx fun p=>!decide (Ga2 p y < 0)
noncomputable def fd3 (x:List V3) (y:V3):List V3:=if (atV x y < x.length∧eqV (gL tV x (atV x y)) y=true) then x else xd7 x y (atV x y)
theorem Ld4 (x y:V3):Ma0 x y=some (b (decide (Ga2 x y < 0)),[]):=by
 have e:decide (Ga2 x y < 0)=decide (LtV x y):=by rw[decide_eq_decide];exact Hc1 x y
 rw[e]
 unfold Ma0
 by_cases h1:x.x=y.x
 ·rw[bf (show (x.x != y.x)=false by simp[h1])]
  by_cases h2:x.y=y.y
  ·rw[bf (show (x.y != y.y)=false by simp[h2])]
   have:decide (LtV x y)=decide (x.z < y.z):=by rw[decide_eq_decide];unfold LtV;omega
   rw[this]
  ·rw[bt (show (x.y != y.y)=true by simp[h2])]
   have:decide (LtV x y)=decide (x.y < y.y):=by rw[decide_eq_decide];unfold LtV;omega
   rw[this]
 ·rw[bt (show (x.x != y.x)=true by simp[h1])]
  have:decide (LtV x y)=decide (x.x < y.x):=by rw[decide_eq_decide];unfold LtV;omega
  rw[this]
theorem ye8 (x y:V3):Ma1 x y=decide (Ga2 x y < 0):=by unfold Ma1;rw[Ld4];rfl
theorem ye9 (x y:V3):ab6 x y=true:=by unfold ab6;rw[Ld4];rfl
theorem Ld5 (x:List V3) (y:V3) (hx:x.length≤1000000):Rd (one (r1L tV)) (sb9 x y) (fun r=>r=fd3 x y):=by
 have h:=Ka6 (step:=za1 ⟨x,y.x,y.y,y.z⟩) (mk:=fun j=>(⟨(j:Int)⟩:ja3)) (c:=fun p=>!decide (Ga2 p y < 0)) (u:=1) (fin:=2) tV x (by omega)
  (fun j hj=>by
   simp only[za1,Ca4,Int.toNat_natCast,ye9,ye8,o6 hj (show x.length≤4611686018427387904 by omega)]
   rw[btD (i8 hj),bt (f7 hj),q8]
   show sl (decide (Ga2 (gL tV x j) y < 0)) _ _=_
   cases decide (Ga2 (gL tV x j) y < 0)<;>rfl)
  (by simp only[za1,Ca4];rw[bfD (i7 (Nat.lt_irrefl _))]) 0 (Nat.zero_le _)
 rw[List.drop_zero] at h
 have key:∃ t,lp (za1 ⟨x,y.x,y.y,y.z⟩) ⟨0⟩=(t,⟨((atV x y:Nat):Int)⟩)∧(t=1∨t=2):=by
  rw[show (⟨0⟩:ja3)=⟨((0:Nat):Int)⟩ from rfl,h]
  split
  ·exact⟨1,by rw[Nat.zero_add];rfl,.inl rfl⟩
  ·rename_i hn
   refine⟨2,?_,.inr rfl⟩
   have:atV x y=x.length:=by
    unfold atV
    rw[List.findIdx_eq_length]
    intro p hp
    cases hb:(!decide (Ga2 p y < 0)) with
    | false=>rfl
    | true=>exact absurd (List.any_eq_true.2 ⟨p,hp,hb⟩) hn
   rw[this]
 obtain⟨t,h1,h2⟩:=key
 have h3:atV x y≤x.length:=List.findIdx_le_length
 have hdef:fd3 x y=if (atV x y < x.length∧eqV (gL tV x (atV x y)) y=true) then x else xd7 x y (atV x y):=rfl
 generalize atV x y=n at *
 have hlo:inB (n:Int) (x.length+1)=true:=f7 (by omega)
 have hd:(bL tV (x.take n)).length=n:=by rw[← l0,ga2,List.length_take];omega
 have hlen:(xd7 x y n).length=x.length+1:=by unfold xd7;simp only[List.length_append,List.length_cons,List.length_take,List.length_drop];omega
 have lt:len (bL tV (x.take n))=n:=by rw[l0];exact hd
 have ld:len (bL tV (x.drop n))=x.length - n:=by rw[ga2,List.length_drop]
 have b1:(Nat.beq 1 1&&Nat.ble ((1+(x.length - n))*24) room)=true:=by rw[xd6 (by omega)];rfl
 have b2:(Nat.beq 0 0&&Nat.ble ((0+n)*24) room)=true:=by rw[xd6 (by omega)];rfl
 have e0:app [] (bL tV (x.take n))=bL tV (x.take n):=rfl
 have b3:(Nat.beq (0+n) n&&Nat.ble (((0+n)+1)*24) room)=true:=by rw[xd6 (by omega),Nat.zero_add,Nat.beq_refl];rfl
 have l3:len (bL tV (x.take n++[y]))=n+1:=by rw[ga2,List.length_append,List.length_take];simp only[List.length_singleton];omega
 have b4:(Nat.beq ((0+n)+1) (n+1)&&Nat.ble ((((0+n)+1)+(x.length - n))*24) room)=true:=by rw[xd6 (by omega),Nat.zero_add,Nat.beq_refl];rfl
 have z0:∀ {k:Nat},Nat.beq k 0=true→k=0:=fun {k} h=>Nat.eq_of_beq_eq_true h
 have fin:fd3 x y=xd7 x y n→∀ m r,m=x.length+1→r=bL tV (xd7 x y n)→Rd (one (r1L tV)) (some (.sl 0 0 m 0,[⟨27,3,r,true,false,0⟩])) (fun r=>r=fd3 x y) :=
  fun hq m r hm hr=>Sd7 (by rw[hlen];exact hm) hr hq.symm
 have tail : fd3 x y = xd7 x y n → Rd (one (r1L tV)) (sl (Nat.beq n 0) (sl (Nat.beq (x.length - n) 0) (some ((.sl 0 0 1 0), [⟨27, 3, [[(i y.x), (i y.y), (i y.z)]], true, false, 0⟩]))
   (some ((.sl 0 0 (1+(x.length - n)) 0),[⟨27,3,(app [[(i y.x),(i y.y),(i y.z)]] (bL tV (x.drop n))),true,false,0⟩])))
   (sl (Nat.beq (x.length - n) 0) (some ((.sl 0 0 ((0+n)+1) 0),[⟨27,3,bL tV (x.take n++[y]),true,false,0⟩]))
    (some ((.sl 0 0 (((0+n)+1)+(x.length - n)) 0),[⟨27,3,(app (bL tV (x.take n++[y])) (bL tV (x.drop n))),true,false,0⟩])))) (fun r=>r=fd3 x y):=fun hq=>by
  refine Rd.sl (fun q1=>Rd.sl (fun q2=>?_) (fun q2=>?_)) (fun q1=>Rd.sl (fun q2=>?_) (fun q2=>?_))
  ·have:=z0 q1;have:=z0 q2
   refine fin hq _ _ (by omega) ?_
   have:x=[]:=List.eq_nil_of_length_eq_zero (by omega)
   subst this
   rw[show n=0 by omega];rfl
  ·have:=z0 q1;subst this
   exact fin hq _ _ (by omega) rfl
  ·have:=z0 q2
   refine fin hq _ _ (by omega) ?_
   unfold xd7
   rw[show x.drop n=[] from List.drop_eq_nil_of_le (by omega)]
  ·refine fin hq _ _ (by omega) ?_
   rw[Fa5]
   unfold xd7
   rw[List.append_assoc];rfl
 unfold sb9
 simp only[j8,j7]
 rw[h1]
 simp only[Int.toNat_natCast,Ld2 x n h3,Ld3,lt,ld,b1,b2,e0,b3,fc3,l3,b4,hlo,q8]
 have main : Rd (one (r1L tV)) (sl (decide ((n : Int) < (x.length : Int))) (sl (inB (n : Int) x.length) (sl (((gL tV x n).x == y.x) && (((gL tV x n).y == y.y) && (((gL tV x n).z == y.z) && true))) (some (eL tV x, []))
   (sl (Nat.beq n 0) (sl (Nat.beq (x.length - n) 0) (some ((.sl 0 0 1 0),[⟨27,3,[[(i y.x),(i y.y),(i y.z)]],true,false,0⟩]))
   (some ((.sl 0 0 (1+(x.length - n)) 0),[⟨27,3,(app [[(i y.x),(i y.y),(i y.z)]] (bL tV (x.drop n))),true,false,0⟩])))
   (sl (Nat.beq (x.length - n) 0) (some ((.sl 0 0 ((0+n)+1) 0),[⟨27,3,bL tV (x.take n++[y]),true,false,0⟩]))
    (some ((.sl 0 0 (((0+n)+1)+(x.length - n)) 0),[⟨27,3,(app (bL tV (x.take n++[y])) (bL tV (x.drop n))),true,false,0⟩]))))) none)
   (sl (Nat.beq n 0) (sl (Nat.beq (x.length - n) 0) (some ((.sl 0 0 1 0),[⟨27,3,[[(i y.x),(i y.y),(i y.z)]],true,false,0⟩]))
   (some ((.sl 0 0 (1+(x.length - n)) 0),[⟨27,3,(app [[(i y.x),(i y.y),(i y.z)]] (bL tV (x.drop n))),true,false,0⟩])))
   (sl (Nat.beq (x.length - n) 0) (some ((.sl 0 0 ((0+n)+1) 0),[⟨27,3,bL tV (x.take n++[y]),true,false,0⟩]))
    (some ((.sl 0 0 (((0+n)+1)+(x.length - n)) 0),[⟨27,3,(app (bL tV (x.take n++[y])) (bL tV (x.drop n))),true,false,0⟩]))))) (fun r=>r=fd3 x y):=by
  by_cases hn:n < x.length
  ·rw[btD (i8 hn),bt (f7 hn)]
   exact Rd.sl (fun q=>⟨_,x,rfl,Zd6 tV x,by rw[hdef,if_pos ⟨hn,q⟩]⟩) fun q=>tail (by
    rw[hdef,if_neg fun h=>?_]
    have h:=h.2
    rw[show eqV (gL tV x n) y=false from q] at h
    cases h)
  ·rw[bfD (i7 hn)]
   exact tail (by rw[hdef,if_neg fun h=>hn h.1])
 rcases h2 with rfl | rfl
 ·exact main
 ·exact main
def Ya0:List V3→V3→List V3
 | [],y=>[y]
 | a::l,y=>if Ga2 a y < 0 then a::Ya0 l y else if eqV a y then a::l else y::a::l
theorem ce2 (y:V3):∀ x,fd3 x y=Ya0 x y
 | []=>rfl
 | a::l=>by
  have ih:=ce2 y l
  unfold Ya0
  by_cases h:Ga2 a y < 0
  ·rw[if_pos h,← ih]
   have e:atV (a::l) y=atV l y+1:=by unfold atV;rw[List.findIdx_cons];simp[h]
   unfold fd3
   rw[e]
   have e2:gL tV (a::l) (atV l y+1)=gL tV l (atV l y):=rfl
   rw[e2]
   simp only[List.length_cons,Nat.add_lt_add_iff_right]
   split
   ·rfl
   ·rfl
  ·rw[if_neg h]
   have e:atV (a::l) y=0:=by unfold atV;rw[List.findIdx_cons];simp[h]
   unfold fd3
   rw[e]
   have e2:gL tV (a::l) 0=a:=rfl
   rw[e2]
   simp only[List.length_cons,Nat.zero_lt_succ,true_and]
   split
   ·rfl
   ·rfl
theorem Ob0 (y p:V3):∀ x,p∈Ya0 x y↔p=y∨p∈x
 | []=>by simp[Ya0]
 | a::l=>by
  unfold Ya0
  have ih:=Ob0 y p l
  split
  ·simp only[List.mem_cons,ih]
   constructor
   ·rintro (h | h | h)
    ·exact .inr (.inl h)
    ·exact .inl h
    ·exact .inr (.inr h)
   ·rintro (h | h | h)
    ·exact .inr (.inl h)
    ·exact .inl h
    ·exact .inr (.inr h)
  ·split
   ·rename_i h
    rw[gc5] at h
    subst h
    simp only[List.mem_cons]
    constructor
    ·exact fun h=>.inr h
    ·rintro (h | h)
     ·exact .inl h
     ·exact h
   ·simp only[List.mem_cons]
theorem nd8 (y:V3):∀ {x},qc9 x→qc9 (Ya0 x y)
 | [],_=>List.pairwise_singleton _ _
 | a::l,h=>by
  obtain⟨h1,h2⟩:=List.pairwise_cons.1 h
  unfold Ya0
  split
  ·rename_i hc
   rw[Hc1] at hc
   refine List.pairwise_cons.2 ⟨fun p hp=>?_,nd8 y h2⟩
   rcases (Ob0 y p l).1 hp with e | hp
   ·subst e;exact hc
   ·exact h1 p hp
  ·rename_i hc
   rw[Hc1] at hc
   split
   ·exact h
   ·rename_i hne
    have hlt:LtV y a:=by
     rcases ae8 y a with h | h | h
     ·exact h
     ·exact absurd ((gc5 _ _).2 h.symm) hne
     ·exact absurd h hc
    refine List.pairwise_cons.2 ⟨fun p hp=>?_,h⟩
    rcases List.mem_cons.1 hp with e | hp
    ·subst e;exact hlt
    ·exact Nb2 hlt (h1 p hp)
theorem ce3 (x:List V3) (y:V3) (hx:x.length≤1000000):Nb5 x y=Ya0 x y:=(Ld5 x y hx).p.trans (ce2 y x)
theorem ce4 (x:List V3) (y:V3) (hx:x.length≤1000000):Nb6 x y=true:=(Ld5 x y hx).g
end Go.Ev.Ce
namespace Go.Ev.Ce
open Go Go.Ev Go.Ev.L Go.Proofs
noncomputable def nrm (F:List Pln) (v:V3):List V3:=(own F v).map fun p=>p.n
theorem Le3 (F:List Pln) (v:V3) (hF:F.length≤1000000):∃ t s,lp (Fa3 ⟨F,v.x,v.y,v.z⟩) ⟨0,0,0,[]⟩=(t,s)∧(t=phV (nrm F v)+1∧∃ j:Int,s=⟨phV (nrm F v),j,(nrm F v).length,bL tV (nrm F v)⟩):=by
 refine F5 (step:=Fa3 ⟨F,v.x,v.y,v.z⟩) (mk:=fun j (o:List V3)=>(⟨phV o,(j:Int),o.length,bL tV o⟩:w7)) F.length (fun j o=>j≤F.length∧o=((F.take j).filter fun p=>U9 p v==0).map fun p=>p.n) (fun t s=>t=phV (nrm F v)+1∧∃ j:Int,s=⟨phV (nrm F v),j,(nrm F v).length,bL tV (nrm F v)⟩) (by omega)
  (fun j o hj hi=>?_) (fun j o hj hi=>?_) 0 [] ⟨Nat.zero_le _,by simp⟩
 ·obtain⟨_,hi⟩:=hi
  have hlen:o.length≤1000000:=by
   rw[hi,List.length_map]
   have h1:=List.length_filter_le (fun p=>U9 p v==0) (F.take j)
   have h2:=List.length_take_le j F
   omega
  have hn:=o6 hj (show F.length≤4611686018427387904 by omega)
  have hb:=f7 hj
  have hT:((F.take (j+1)).filter (fun p=>U9 p v==0)).map (fun p=>p.n)=o++(if (U9 (gL tP F j) v==0)=true then [(gL tP F j).n] else []):=by
   rw[za0 tP hj,List.filter_append,List.map_append,← hi,List.filter_cons,List.filter_nil]
   split<;>rfl
  have hnext : ∀ {s : w7} {o' : List V3}, o' = ((F.take (j + 1)).filter fun p => U9 p v == 0).map (fun p => p.n) → s = ⟨phV o', ((j + 1 : Nat) : Int), o'.length, bL tV o'⟩ → Nx (.next s) (fun t => t = phV (nrm F v) + 1 ∧ ∃ j' : Int, (⟨phV o, (j : Int), o.length, bL tV o⟩ : w7) = ⟨phV (nrm F v), j', (nrm F v).length, bL tV (nrm F v)⟩)
    (fun s=>∃ o',s=(⟨phV o',((j+1:Nat):Int),o'.length,bL tV o'⟩:w7)∧(j+1≤F.length∧o'=((F.take (j+1)).filter fun p=>U9 p v==0).map fun p=>p.n)):=fun {s o'} ho' hs=>.nx ⟨o',hs,by omega,ho'⟩
  clear hi
  cases o with
  | nil =>
   show Nx (T7 Stp.next Stp.exit Stp.fail _ _) _ _
   simp only[T7,Int.toNat_natCast,ud7,qc0,hn,hb]
   rw[btD (i8 hj)]
   cases hs:U9 (gL tP F j) v==0 with
   | true=>exact hnext (o':=[(gL tP F j).n]) (by rw[hT,hs];rfl) rfl
   | false=>exact hnext (o':=[]) (by rw[hT,hs];rfl) rfl
  | cons q o =>
   have rr:(Nat.beq (q::o).length (len (bL tV (q::o)))&&Nat.ble (((q::o).length+1)*24) room)=true:=Hd5 rfl (by omega)
   show Nx (T8 Stp.next Stp.exit Stp.fail _ _) _ _
   simp only[T8,Int.toNat_natCast,ud7,qc0,hn,hb,rr,Ye6]
   rw[btD (i8 hj)]
   cases hs:U9 (gL tP F j) v==0 with
   | true=>exact hnext (o':=q::o++[(gL tP F j).n]) (by rw[hT,hs];rfl) (by rw[List.length_append];rfl)
   | false=>exact hnext (o':=q::o) (by rw[hT,hs,if_neg (by simp),List.append_nil]) rfl
 ·obtain⟨h1,hi⟩:=hi
  have e:j=F.length:=by omega
  subst e
  have hO:o=nrm F v:=by rw[hi,List.take_length];rfl
  rw[← hO]
  cases o with
  | nil =>
   refine⟨1,?_,rfl,_,rfl⟩
   show T7 Stp.next Stp.exit Stp.fail _ _=_
   simp only[T7]
   rw[bfD (i7 (Nat.lt_irrefl _))]
  | cons q o =>
   refine⟨2,?_,rfl,_,rfl⟩
   show T8 Stp.next Stp.exit Stp.fail _ _=_
   simp only[T8]
   rw[bfD (i7 (Nat.lt_irrefl _))]
def N46 (n:V3):Prop:=Sm 4608 n.x∧Sm 4608 n.y∧Sm 4608 n.z
noncomputable def cr3 (N:List V3) (a c k:Nat):Bool:=dot (f0 (gL tV N a) (gL tV N c)) (gL tV N k) != 0
noncomputable def cr2 (N:List V3) (a c:Nat):Bool:=(List.range c).any (cr3 N a c)
noncomputable def cr1 (N:List V3) (a:Nat):Bool:=(List.range a).any (cr2 N a)
noncomputable def cr0 (N:List V3):Bool:=(List.range N.length).any (cr1 N)
theorem sf4 {x y z:V3} (hx:N46 x) (hy:N46 y) (hz:N46 z):da2 (ua5 x y) z=dot (f0 x y) z:=by
 obtain⟨k1,k2,k3⟩:=Hd0 hx hy
 obtain⟨⟨a1,a2⟩,⟨a3,a4⟩,a5,a6⟩:=hz
 rw[Zd3,Hb7 (k1.mono (by omega)),Hb7 (k2.mono (by omega)),Hb7 (k3.mono (by omega))]
 have r1:=mb k1.1 k1.2 a1 a2;have r2:=mb k2.1 k2.2 a3 a4;have r3:=mb k3.1 k3.2 a5 a6
 unfold da2
 simp only[Gb5,nc0]
 rw[ka8 (by omega) (by omega)]
 rfl
section
variable (N:List V3) (hN:∀ n∈N,N46 n) (hl:N.length≤1000000)
include hN hl
theorem Le4 (a c:Nat) (ha:a < N.length) (hc:c < a):∃ j,lp (ra2 ⟨N.length,(a:Int),(c:Int),bL tV N⟩) ⟨0,0⟩=(if cr2 N a c then 1 else 2,⟨0,((j:Nat):Int)⟩) :=
 Ib3 (step:=ra2 ⟨N.length,(a:Int),(c:Int),bL tV N⟩) (mk:=fun j=>(⟨0,(j:Int)⟩:B9)) c (cr3 N a c) 1 2 (by omega)
  (fun j hj=>by
   have hcN:c < N.length:=by omega
   have hjN:j < N.length:=by omega
   show T9 Stp.next Stp.exit Stp.fail _ _=_
   simp only[T9,Int.toNat_natCast,Ib5 ha,Ib5 hcN,Ib5 hjN,Wb5 ha,Wb5 hcN,Wb5 hjN,sf4 (hN _ (Pa5 tV ha)) (hN _ (Pa5 tV hcN)) (hN _ (Pa5 tV hjN)),f7 ha,f7 hcN,f7 hjN,o6 hj (show c≤4611686018427387904 by omega)]
   rw[btD (i8 hj)]
   rfl)
  (by
   show T9 Stp.next Stp.exit Stp.fail _ _=_
   simp only[T9];rw[bfD (i7 (Nat.lt_irrefl _))])
theorem Le5 (a:Nat) (ha:a < N.length):∃ j,lp (ra3 ⟨(a:Int)⟩) ⟨0,N.length,0,bL tV N⟩=(if cr1 N a then 1 else 2,⟨0,N.length,((j:Nat):Int),bL tV N⟩) :=
 Ib3 (step:=ra3 ⟨(a:Int)⟩) (mk:=fun j=>(⟨0,N.length,(j:Int),bL tV N⟩:C0)) a (cr2 N a) 1 2 (by omega)
  (fun j hj=>by
   obtain⟨j',h1⟩:=Le4 N hN hl a j ha hj
   show U0 Stp.next Stp.exit Stp.fail _ _=_
   simp only[U0,h1,o6 hj (show a≤4611686018427387904 by omega)]
   rw[btD (i8 hj)]
   cases cr2 N a j<;>rfl)
  (by
   show U0 Stp.next Stp.exit Stp.fail _ _=_
   simp only[U0];rw[bfD (i7 (Nat.lt_irrefl _))])
theorem Le6:∃ j,lp (I0 ⟨⟩) ⟨1,0,N.length,bL tV N⟩=(if cr0 N then 1 else 3,⟨1,((j:Nat):Int),N.length,bL tV N⟩) :=
 Ib3 (step:=I0 ⟨⟩) (mk:=fun j=>(⟨1,(j:Int),N.length,bL tV N⟩:C3)) N.length (cr1 N) 1 3 (by omega)
  (fun j hj=>by
   obtain⟨j',h1⟩:=Le5 N hN hl j hj
   show U1 Stp.next Stp.exit Stp.fail ⟨⟩ _=_
   simp only[U1,h1,o6 hj (show N.length≤4611686018427387904 by omega)]
   rw[btD (i8 hj)]
   cases cr1 N j<;>rfl)
  (by
   show U1 Stp.next Stp.exit Stp.fail ⟨⟩ _=_
   simp only[U1];rw[bfD (i7 (Nat.lt_irrefl _))])
end
theorem Le7 (N:List V3):cr0 N=true↔∃ x y z,x∈N∧y∈N∧z∈N∧dot (f0 x y) z≠0:=by
 constructor
 ·intro h
  obtain⟨a,ha,h⟩:=List.any_eq_true.1 h
  obtain⟨c,hc,h⟩:=List.any_eq_true.1 h
  obtain⟨k,hk,h⟩:=List.any_eq_true.1 h
  rw[List.mem_range] at ha hc hk
  exact⟨_,_,_,Pa5 tV ha,Pa5 tV (show c < N.length by omega),Pa5 tV (show k < N.length by omega),bne_iff_ne.1 h⟩
 ·rintro⟨x,y,z,hx,hy,hz,hw⟩
  obtain⟨i1,h1,rfl⟩:=List.mem_iff_getElem.1 hx
  obtain⟨i2,h2,rfl⟩:=List.mem_iff_getElem.1 hy
  obtain⟨i3,h3,rfl⟩:=List.mem_iff_getElem.1 hz
  rw[← kb7 tV h1,← kb7 tV h2,← kb7 tV h3] at hw
  have key:∀ a c k,a < N.length→c < a→k < c→dot (f0 (gL tV N a) (gL tV N c)) (gL tV N k)≠0→cr0 N=true:=fun a c k ha hc hk hw =>
   List.any_eq_true.2 ⟨a,List.mem_range.2 ha,List.any_eq_true.2 ⟨c,List.mem_range.2 hc,List.any_eq_true.2 ⟨k,List.mem_range.2 hk,bne_iff_ne.2 hw⟩⟩⟩
  have p1:∀ x y z:V3,dot (f0 y x) z=-dot (f0 x y) z:=fun x y z=>by simp only[dot,f0];grind
  have p2:∀ x y z:V3,dot (f0 x z) y=-dot (f0 x y) z:=fun x y z=>by simp only[dot,f0];grind
  have q0:∀ x z:V3,dot (f0 x x) z=0:=fun x z=>by simp only[dot,f0];grind
  have q1:∀ x y:V3,dot (f0 x y) y=0:=fun x y=>by simp only[dot,f0];grind
  have q2:∀ x y:V3,dot (f0 x y) x=0:=fun x y=>by simp only[dot,f0];grind
  have n12:i1≠i2:=fun e=>hw (by subst e;exact q0 _ _)
  have n23:i2≠i3:=fun e=>hw (by subst e;exact q1 _ _)
  have n13:i1≠i3:=fun e=>hw (by subst e;exact q2 _ _)
  rcases Nat.lt_or_gt_of_ne n12 with h12 | h12<;>rcases Nat.lt_or_gt_of_ne n23 with h23 | h23<;>rcases Nat.lt_or_gt_of_ne n13 with h13 | h13
  ·-- 1 < 2 < 3:(3,2,1)
   exact key i3 i2 i1 h3 h23 h12 fun e=>hw (by rw[p1,p2,p1] at e;omega)
  ·omega
  ·-- 1 < 3 < 2:(2,3,1)
   exact key i2 i3 i1 h2 h23 h13 fun e=>hw (by rw[p2,p1] at e;omega)
  ·-- 3 < 1 < 2:(2,1,3)
   exact key i2 i1 i3 h2 h12 h13 fun e=>hw (by rw[p1] at e;omega)
  ·-- 2 < 1 < 3:(3,1,2)
   exact key i3 i1 i2 h3 h13 h12 fun e=>hw (by rw[p1,p2] at e;omega)
  ·-- 2 < 3 < 1:(1,3,2)
   exact key i1 i3 i2 h1 h13 h23 fun e=>hw (by rw[p2] at e;omega)
  ·omega
  ·exact key i1 i2 i3 h1 h12 h23 hw
theorem je8 (F:List Pln) (v:V3):cr0 (nrm F v)=kv F v:=by
 rw[Bool.eq_iff_iff,Le7]
 unfold kv
 rw[Je9]
 unfold nrm
 have e:∀ p q s:Pln,mw p q s=dot (f0 p.n q.n) s.n:=fun p q s=>by simp only[mw,dot,f0];grind
 constructor
 ·rintro⟨x,y,z,hx,hy,hz,hw⟩
  obtain⟨p,hp,rfl⟩:=List.mem_map.1 hx
  obtain⟨q,hq,rfl⟩:=List.mem_map.1 hy
  obtain⟨s,hs,rfl⟩:=List.mem_map.1 hz
  exact⟨p,q,s,hp,hq,hs,by rw[e];exact hw⟩
 ·rintro⟨p,q,s,hp,hq,hs,hw⟩
  exact⟨_,_,_,List.mem_map.2 ⟨p,hp,rfl⟩,List.mem_map.2 ⟨q,hq,rfl⟩,List.mem_map.2 ⟨s,hs,rfl⟩,by rw[e] at hw;exact hw⟩
theorem Ld6 (F:List Pln) (v:V3) (hF:OkF F):Ma2 F v=some (b (kv F v),[]):=by
 obtain⟨t,s,h,rfl,j,rfl⟩:=Le3 F v hF.l
 have hN:∀ n∈nrm F v,N46 n:=fun n hn=>by
  obtain⟨p,hp,rfl⟩:=List.mem_map.1 hn
  have hb:=Ib0 (hF.v p (List.mem_filter.1 hp).1)
  exact⟨⟨hb.x1,hb.x2⟩,⟨hb.y1,hb.y2⟩,hb.z1,hb.z2⟩
 have hl:(nrm F v).length≤1000000:=by
  unfold nrm own
  rw[List.length_map]
  exact Nat.le_trans (List.length_filter_le _ _) hF.l
 unfold Ma2
 rw[← je8]
 simp only[j8,j7,h]
 cases hn:nrm F v with
 | nil =>
  have h0:lp (I0 ⟨⟩) ⟨0,0,0,[]⟩=(2,⟨0,0,0,[]⟩):=ud5 (step:=I0 ⟨⟩) rfl
  rw[h0]
  rfl
 | cons q o =>
  rw[hn] at hN hl
  obtain⟨j',h1⟩:=Le6 (q::o) hN hl
  show sl (true&&true) (sl (Nat.beq 2 1) _ (sl (Nat.beq 2 2) (sl (Nat.beq (lp (I0 ⟨⟩) ⟨1,0,(q::o).length,bL tV (q::o)⟩).1 1) _ (sl (Nat.beq (lp (I0 ⟨⟩) ⟨1,0,(q::o).length,bL tV (q::o)⟩).1 2) _ (sl (Nat.beq (lp (I0 ⟨⟩) ⟨1,0,(q::o).length,bL tV (q::o)⟩).1 3) _ _))) _)) _=_
  rw[h1]
  cases cr0 (q::o)<;>rfl
theorem Ld7 (F:List Pln) (v:V3) (hF:OkF F):Ma3 F v=kv F v:=by unfold Ma3;rw[Ld6 F v hF];rfl
theorem Ld8 (F:List Pln) (v:V3) (hF:OkF F):Ma4 F v=true:=by unfold Ma4;rw[Ld6 F v hF];rfl
theorem if1 {l:List V3} (hl:l.all inV=true) (h48:l.length≤48):za8 l=Pb2 l:=by
 have hin:l.any (fun v=>!inV v)=false:=by rw[List.any_eq_false];intro v hv;rw[List.all_eq_true.1 hl v hv];simp
 have h48':¬ (l.length:Int) > 48:=by omega
 unfold Pb2 za8
 rw[if_neg h48',if_neg h48',if_pos hl,hin,if_neg (by simp)]
 cases hf:nf0 l with
 | true =>
  have h0:=nd0 h48 hl (Xe4 hf)
  unfold za8 at h0
  rw[if_neg h48',hin,if_neg (by simp)] at h0
  rw[h0];rfl
 | false =>
  cases hb:Ib6 l with
  | true=>rfl
  | false =>
   have h0:za8 l=0:=by
    unfold za8
    rw[if_neg h48',hin,if_neg (by simp),hb];rfl
   have:=hf6 hl (sb7 h0).2.2
   rw[hf] at this;cases this
theorem ze0 (l:List V3):za8 l=Pb2 l:=by
 by_cases h48:(l.length:Int) > 48
 ·unfold za8 Pb2
  rw[if_pos h48,if_pos h48]
 ·cases hl:l.all inV with
  | true=>exact if1 hl (by omega)
  | false =>
   have hin:l.any (fun v=>!inV v)=true:=by
    rw[List.all_eq_false] at hl
    obtain⟨v,hv,h⟩:=hl
    exact List.any_eq_true.2 ⟨v,hv,by simpa using h⟩
   unfold za8 Pb2
   rw[if_neg h48,if_neg h48,hin,hl]
   rfl
theorem ze1 (l:List V3):ud8 l=La7 l:=by
 unfold ud8 La7
 rw[ze0]
theorem Wc4 (l:List V3) (hl:l.length≤1000000):Rd (two (r1L tP) r1I) (va4 l) (fun r=>r=La7 l):=by
 by_cases h:l.length≤48
 ·rw[← ze1];exact ve4 l h
 ·have hv:Pb2 l=2:=by unfold Pb2;rw[if_pos (by omega)]
  have hc:za8 l=2:=by rw[ze0,hv]
  unfold va4 La7
  simp only[j8,N6,ld9 l (by omega),ld3 l (by omega),hv]
  rw[hc,if_neg (by omega)]
  exact⟨_,([],2),rfl,rfl,rfl⟩
theorem ze2 (l:List V3) (hl:l.length≤1000000):Gb1 l=La7 l:=(Wc4 l hl).p
theorem ze3 (l:List V3) (hl:l.length≤1000000):Gb2 l=true:=(Wc4 l hl).g
noncomputable def exS (F:List Pln) (o:List V3) (v:V3):List V3:=if kv F v=true then Ya0 o v else o
theorem ze4 (o:List V3) (v:V3):Ya0 o v≠[]:=fun e=>by
 have:=(Ob0 v v o).2 (.inl rfl)
 rw[e] at this;cases this
theorem nd9 (v:V3):∀ o:List V3,(Ya0 o v).length≤o.length+1
 | []=>by simp[Ya0]
 | a::l=>by
  have:=nd9 v l
  unfold Ya0
  split
  ·simp only[List.length_cons];omega
  ·split<;>simp only[List.length_cons]<;>omega
theorem Wc5 (F:List Pln) (w:V3):∀ (l o:List V3),w∈l.foldl (exS F) o↔w∈o∨(w∈l∧kv F w=true)
 | [],o=>by simp
 | v::l,o=>by
  rw[List.foldl_cons,Wc5 F w l]
  unfold exS
  split
  ·rename_i h
   rw[Ob0]
   constructor
   ·rintro ((rfl | h1) | h1)
    ·exact .inr ⟨List.mem_cons_self,h⟩
    ·exact .inl h1
    ·exact .inr ⟨List.mem_cons_of_mem _ h1.1,h1.2⟩
   ·rintro (h1 | ⟨h1,h2⟩)
    ·exact .inl (.inr h1)
    ·rcases List.mem_cons.1 h1 with rfl | h1
     ·exact .inl (.inl rfl)
     ·exact .inr ⟨h1,h2⟩
  ·rename_i h
   constructor
   ·rintro (h1 | h1)
    ·exact .inl h1
    ·exact .inr ⟨List.mem_cons_of_mem _ h1.1,h1.2⟩
   ·rintro (h1 | ⟨h1,h2⟩)
    ·exact .inl h1
    ·rcases List.mem_cons.1 h1 with rfl | h1
     ·exact absurd h2 h
     ·exact .inr ⟨h1,h2⟩
theorem Wc6 (F:List Pln):∀ (l o:List V3),qc9 o→qc9 (l.foldl (exS F) o)
 | [],o,h=>h
 | v::l,o,h=>by
  rw[List.foldl_cons]
  refine Wc6 F l _ ?_
  unfold exS
  split
  ·exact nd8 v h
  ·exact h
theorem je9 (F:List Pln) (l:List V3):l.foldl (exS F) []=Wb8 F l:=by
 refine Jb9 _ _ (Wc6 F l [] .nil) ?_ fun v=>?_
 ·exact (Td4 l).filter _
 ·rw[Wc5]
  unfold Wb8
  rw[List.mem_filter,Nb3]
  simp
theorem ke0 (l:List V3) (F:List Pln) (hl:l.length≤1000000) (hF:OkF F):∃ t s,lp (za2 ⟨l,F⟩) ⟨0,0,[]⟩=(t,s)∧(t=phV (Wb8 F l)+1∧∃ j:Int,s=⟨phV (Wb8 F l),j,Wb8 F l⟩):=by
 refine F5 (step:=za2 ⟨l,F⟩) (mk:=fun j (o:List V3)=>(⟨phV o,(j:Int),o⟩:u7)) l.length (fun j o=>j≤l.length∧o.length≤j∧o=(l.take j).foldl (exS F) []) (fun t s=>t=phV (Wb8 F l)+1∧∃ j:Int,s=⟨phV (Wb8 F l),j,Wb8 F l⟩) (by omega)
  (fun j o hj hi=>?_) (fun j o hj hi=>?_) 0 [] ⟨Nat.zero_le _,by simp,by simp⟩
 ·obtain⟨_,hlen,hi⟩:=hi
  have hn:=o6 hj (show l.length≤4611686018427387904 by omega)
  have hb:=f7 hj
  have hT:(l.take (j+1)).foldl (exS F) []=exS F o (gL tV l j):=by
   rw[za0 tV hj,List.foldl_append,← hi];rfl
  have hLen:(exS F o (gL tV l j)).length≤j+1:=by
   unfold exS
   split
   ·have:=nd9 (gL tV l j) o;omega
   ·omega
  have hnext : ∀ {s : u7}, s = ⟨phV (exS F o (gL tV l j)), ((j + 1 : Nat) : Int), exS F o (gL tV l j)⟩ → Nx (.next s) (fun t => t = phV (Wb8 F l) + 1 ∧ ∃ j' : Int, (⟨phV o, (j : Int), o⟩ : u7) = ⟨phV (Wb8 F l), j', Wb8 F l⟩)
    (fun s=>∃ o',s=(⟨phV o',((j+1:Nat):Int),o'⟩:u7)∧(j+1≤l.length∧o'.length≤j+1∧o'=(l.take (j+1)).foldl (exS F) [])):=fun {s} hs=>.nx ⟨_,hs,by omega,hLen,hT.symm⟩
  have ph1:∀ o:List V3,phV (Ya0 o (gL tV l j))=1:=fun o=>by
   cases h:Ya0 o (gL tV l j) with
   | nil=>exact absurd h (ze4 _ _)
   | cons _ _=>rfl
  clear hi
  cases o with
  | nil =>
   show Nx (Q0 Stp.next Stp.exit Stp.fail _ _) _ _
   simp only[Q0,Int.toNat_natCast,j8,N6,Ld7 F _ hF,Ld8 F _ hF,ce3 [] _ (show ([]:List V3).length≤1000000 by simp),ce4 [] _ (show ([]:List V3).length≤1000000 by simp),hn,hb]
   rw[btD (i8 hj)]
   cases hs:kv F (gL tV l j) with
   | true=>exact hnext (by unfold exS;rw[hs,if_pos rfl,ph1])
   | false=>exact hnext (by unfold exS;rw[hs];rfl)
  | cons q o =>
   show Nx (Q1 Stp.next Stp.exit Stp.fail _ _) _ _
   simp only[Q1,Int.toNat_natCast,j8,N6,Ld7 F _ hF,Ld8 F _ hF,ce3 (q::o) _ (show (q::o).length≤1000000 by omega),ce4 (q::o) _ (show (q::o).length≤1000000 by omega),hn,hb]
   rw[btD (i8 hj)]
   cases hs:kv F (gL tV l j) with
   | true=>exact hnext (by unfold exS;rw[hs,if_pos rfl,ph1])
   | false=>exact hnext (by unfold exS;rw[hs];rfl)
 ·obtain⟨h1,hlen,hi⟩:=hi
  have e:j=l.length:=by omega
  subst e
  have hO:o=Wb8 F l:=by rw[hi,List.take_length,je9]
  rw[← hO]
  cases o with
  | nil =>
   refine⟨1,?_,rfl,_,rfl⟩
   show Q0 Stp.next Stp.exit Stp.fail _ _=_
   simp only[Q0]
   rw[bfD (i7 (Nat.lt_irrefl _))]
  | cons q o =>
   refine⟨2,?_,rfl,_,rfl⟩
   show Q1 Stp.next Stp.exit Stp.fail _ _=_
   simp only[Q1]
   rw[bfD (i7 (Nat.lt_irrefl _))]
theorem Ld9 (l:List V3) (hl:l.length≤1000000):Rd (two (r1L tV) r1I) (Ca6 l) (fun r=>r=Pb3 l):=by
 unfold Ca6 Pb3
 simp only[j8,N6,j7,ze2 l hl,ze3 l hl]
 unfold La7
 by_cases h:za8 l=0
 ·obtain⟨h1,h2,h3⟩:=sb7 h
  have hF:OkF (F0 l):=⟨Jd7 h1 h2,fun p hp=>(ve7 hp).ok⟩
  obtain⟨t,s,k,rfl,j,rfl⟩:=ke0 l (F0 l) hl hF
  rw[if_pos h,if_pos h]
  simp only[k]
  cases Wb8 (F0 l) l with
  | nil=>exact⟨_,([],0),rfl,rfl,rfl⟩
  | cons q o=>exact⟨_,(q::o,0),rfl,Wc1 _ _,rfl⟩
 ·have hne:(za8 l != 0)=true:=bne_iff_ne.2 h
  rw[if_neg h,if_neg h]
  simp only[hne,q8]
  exact⟨_,([],za8 l),rfl,rfl,rfl⟩
theorem ze5 (l:List V3) (hl:l.length≤1000000):Sa5 l=Pb3 l:=(Ld9 l hl).p
theorem ze6 (l:List V3) (hl:l.length≤1000000):Sa6 l=true:=(Ld9 l hl).g
end Go.Ev.Ce
namespace Go.Ev.Ce
open Go Go.Ev Go.Ev.L Go.Proofs
theorem ce5 (l:List V3) (v:V3) (hl:l.length≤1000000000):Ua2 l v=some (b (Vc9 l v),[]):=by
 have h:=Wa1 (step:=wa7 ⟨l,v.x,v.y,v.z⟩) (mk:=fun j=>(⟨(j:Int)⟩:V0)) (c:=fun q=>eqV q v) (u:=1) (fin:=2) tV l hl
  (fun j hj=>by
   simp only[wa7,ra1,Int.toNat_natCast,o6 hj (show l.length≤4611686018427387904 by omega)]
   rw[btD (i8 hj),bt (f7 hj)]
   rfl)
  (by simp only[wa7,ra1];rw[bfD (i7 (Nat.lt_irrefl _))]) 0 (Nat.zero_le _)
 rw[List.drop_zero] at h
 unfold Ua2 Vc9
 simp only[j8,j7]
 rw[show (⟨0⟩:V0)=⟨((0:Nat):Int)⟩ from rfl,h]
 cases l.any fun q=>eqV q v<;>rfl
theorem Md0 (l:List V3) (v:V3) (hl:l.length≤1000000000):Ua3 l v=Vc9 l v:=by unfold Ua3;rw[ce5 l v hl];rfl
theorem Md1 (l:List V3) (v:V3) (hl:l.length≤1000000000):Ua4 l v=true:=by unfold Ua4;rw[ce5 l v hl];rfl
theorem Le8 (s:List V3) (v:V3):phV (xb6 s v)=1:=by
 cases h:xb6 s v with
 | nil=>exact absurd h (Ic0 _ _)
 | cons _ _=>rfl
theorem ce6 (a l : List V3) (m : Nat) (hm : m < a.length) (hl : l.length ≤ 48) (o : List V3) (ho : o.length ≤ 1000000) :
  ∃ t s,lp (pa4 ⟨a,l,(m:Int)⟩) ⟨phV o,0,o.length,bL tV o⟩=(t,s)∧(t=phV (la9 l o (gL tV a m))+1∧∃ j:Int,s=⟨phV (la9 l o (gL tV a m)),j,(la9 l o (gL tV a m)).length,bL tV (la9 l o (gL tV a m))⟩):=by
 refine F5 (step:=pa4 ⟨a,l,(m:Int)⟩) (mk:=fun j (s:List V3)=>(⟨phV s,(j:Int),s.length,bL tV s⟩:D0)) l.length (fun j s=>j≤l.length∧s.length≤o.length+j∧s=(l.take j).foldl (ic1 (gL tV a m)) o) (fun t s=>t=phV (la9 l o (gL tV a m))+1∧∃ j:Int,s=⟨phV (la9 l o (gL tV a m)),j,(la9 l o (gL tV a m)).length,bL tV (la9 l o (gL tV a m))⟩) (by omega)
  (fun j s hj hi=>?_) (fun j s hj hi=>?_) 0 o ⟨Nat.zero_le _,by omega,by simp⟩
 ·obtain⟨_,hlen,hi⟩:=hi
  have hn:=o6 hj (show l.length≤4611686018427387904 by omega)
  have hb:inB (j:Int) l.length=true:=f7 hj
  have hT:(l.take (j+1)).foldl (ic1 (gL tV a m)) o=xb6 s (r8 (gL tV a m) (gL tV l j)):=by
   rw[za0 tV hj,List.foldl_append,← hi]
   rfl
  have hnext : ∀ {s' : D0}, s' = ⟨1, ((j + 1 : Nat) : Int), (xb6 s (r8 (gL tV a m) (gL tV l j))).length, bL tV (xb6 s (r8 (gL tV a m) (gL tV l j)))⟩ → Nx (.next s') (fun t => t = phV (la9 l o (gL tV a m)) + 1 ∧ ∃ j' : Int, (⟨phV s, (j : Int), s.length, bL tV s⟩ : D0) = ⟨phV (la9 l o (gL tV a m)), j', (la9 l o (gL tV a m)).length, bL tV (la9 l o (gL tV a m))⟩)
    (fun s'=>∃ o',s'=(⟨phV o',((j+1:Nat):Int),o'.length,bL tV o'⟩:D0)∧(j+1≤l.length∧o'.length≤o.length+(j+1)∧o'=(l.take (j+1)).foldl (ic1 (gL tV a m)) o)):=fun {s'} hs=>.nx ⟨xb6 s (r8 (gL tV a m) (gL tV l j)),by rw[hs,Le8],by omega,by have:=Wc0 s (r8 (gL tV a m) (gL tV l j));omega,hT.symm⟩
  have hA:Mb3 (gL tV a m) (gL tV l j)=r8 (gL tV a m) (gL tV l j):=rfl
  clear hi
  cases s with
  | nil =>
   show Nx (la3 Stp.next Stp.exit Stp.fail _ _) _ _
   simp only[la3,Int.toNat_natCast,hn,hb,f7 hm,hA,Md0 [] _ (show ([]:List V3).length≤1000000000 by simp),Md1 [] _ (show ([]:List V3).length≤1000000000 by simp)]
   rw[btD (i8 hj)]
   exact hnext rfl
  | cons q s =>
   have rr:(Nat.beq (q::s).length (len (bL tV (q::s)))&&Nat.ble (((q::s).length+1)*24) room)=true:=Hd5 rfl (by omega)
   show Nx (la4 Stp.next Stp.exit Stp.fail _ _) _ _
   simp only[la4,Int.toNat_natCast,hn,hb,f7 hm,hA,rr,Ye6,cb7,mb3,Md0 (q::s) _ (show (q::s).length≤1000000000 by omega),Md1 (q::s) _ (show (q::s).length≤1000000000 by omega)]
   rw[btD (i8 hj)]
   cases hh:Vc9 (q::s) (r8 (gL tV a m) (gL tV l j)) with
   | true =>
    refine hnext ?_
    unfold xb6
    rw[hh]
    rfl
   | false =>
    refine hnext ?_
    unfold xb6
    rw[hh]
    show (⟨1,_,(q::s).length+1,_⟩:D0)=⟨1,_,(q::s++[_]).length,_⟩
    rw[List.length_append]
    rfl
 ·obtain⟨hje,hlen,hi⟩:=hi
  have hje:j=l.length:=by omega
  subst hje
  have hO:s=la9 l o (gL tV a m):=by rw[hi,List.take_length];rfl
  rw[← hO]
  cases s with
  | nil =>
   refine⟨1,?_,rfl,_,rfl⟩
   show la3 Stp.next Stp.exit Stp.fail _ _=_
   simp only[la3]
   rw[bfD (i7 (Nat.lt_irrefl _))]
  | cons q s =>
   refine⟨2,?_,rfl,_,rfl⟩
   show la4 Stp.next Stp.exit Stp.fail _ _=_
   simp only[la4]
   rw[bfD (i7 (Nat.lt_irrefl _))]
theorem Le9 (a l:List V3) (ha:a.length≤48) (hl:l.length≤48):∃ t s,lp (ab7 ⟨⟩) ⟨0,a,l,0,0,[]⟩=(t,s)∧(t=phV (xa1 a l)+1∧∃ j:Int,s=⟨phV (xa1 a l),a,l,j,(xa1 a l).length,bL tV (xa1 a l)⟩):=by
 refine F5 (step:=ab7 ⟨⟩) (mk:=fun j (s:List V3)=>(⟨phV s,a,l,(j:Int),s.length,bL tV s⟩:H6)) a.length (fun j s=>j≤a.length∧s=(a.take j).foldl (la9 l) []) (fun t s=>t=phV (xa1 a l)+1∧∃ j:Int,s=⟨phV (xa1 a l),a,l,j,(xa1 a l).length,bL tV (xa1 a l)⟩) (by omega)
  (fun j s hj hi=>?_) (fun j s hj hi=>?_) 0 [] ⟨Nat.zero_le _,by simp⟩
 ·obtain⟨_,hi⟩:=hi
  have hlen:s.length≤1000000:=by
   have h1:=Nb9 l (a.take j) []
   rw[← hi] at h1
   have h2:=List.length_take_le j a
   have h3:(a.take j).length*l.length≤48*48:=Nat.mul_le_mul (by omega) hl
   simp only[List.length_nil] at h1
   omega
  have hn:=o6 hj (show a.length≤4611686018427387904 by omega)
  have hb:inB (j:Int) a.length=true:=f7 hj
  have hT:(a.take (j+1)).foldl (la9 l) []=la9 l s (gL tV a j):=by
   rw[za0 tV hj,List.foldl_append,← hi]
   rfl
  have hnext : ∀ {s' : H6}, s' = ⟨phV (la9 l s (gL tV a j)), a, l, ((j + 1 : Nat) : Int), (la9 l s (gL tV a j)).length, bL tV (la9 l s (gL tV a j))⟩ → Nx (.next s') (fun t => t = phV (xa1 a l) + 1 ∧ ∃ j' : Int, (⟨phV s, a, l, (j : Int), s.length, bL tV s⟩ : H6) = ⟨phV (xa1 a l), a, l, j', (xa1 a l).length, bL tV (xa1 a l)⟩)
    (fun s'=>∃ o',s'=(⟨phV o',a,l,((j+1:Nat):Int),o'.length,bL tV o'⟩:H6)∧(j+1≤a.length∧o'=(a.take (j+1)).foldl (la9 l) [])):=fun {s'} hs=>.nx ⟨_,hs,by omega,hT.symm⟩
  clear hi
  cases s with
  | nil =>
   obtain⟨t,s',k1,rfl,j',rfl⟩:=ce6 a l j hj hl [] (by simp)
   have k1:lp (pa4 ⟨a,l,(j:Int)⟩) ⟨0,0,0,[]⟩=_:=k1
   show Nx (la5 Stp.next Stp.exit Stp.fail ⟨⟩ _) _ _
   simp only[la5,j8,j7,hn,k1]
   rw[btD (i8 hj)]
   cases hr:la9 l [] (gL tV a j) with
   | nil=>exact hnext (by rw[hr];rfl)
   | cons q o=>exact hnext (by rw[hr];rfl)
  | cons q s =>
   obtain⟨t,s',k1,rfl,j',rfl⟩:=ce6 a l j hj hl (q::s) hlen
   have k1:lp (pa4 ⟨a,l,(j:Int)⟩) ⟨1,0,(q::s).length,bL tV (q::s)⟩=_:=k1
   show Nx (la6 Stp.next Stp.exit Stp.fail ⟨⟩ _) _ _
   simp only[la6,j8,j7,hn,k1]
   rw[btD (i8 hj)]
   cases hr:la9 l (q::s) (gL tV a j) with
   | nil=>exact hnext (by rw[hr];rfl)
   | cons q' o=>exact hnext (by rw[hr];rfl)
 ·obtain⟨hje,hi⟩:=hi
  have hje:j=a.length:=by omega
  subst hje
  have hO:s=xa1 a l:=by rw[hi,List.take_length];rfl
  rw[← hO]
  cases s with
  | nil =>
   refine⟨1,?_,rfl,_,rfl⟩
   show la5 Stp.next Stp.exit Stp.fail ⟨⟩ _=_
   simp only[la5]
   rw[bfD (i7 (Nat.lt_irrefl _))]
  | cons q s =>
   refine⟨2,?_,rfl,_,rfl⟩
   show la6 Stp.next Stp.exit Stp.fail ⟨⟩ _=_
   simp only[la6]
   rw[bfD (i7 (Nat.lt_irrefl _))]
theorem ze7 (a l:List V3):∃ x,tb0 a l=some x∧(two (r1L tV) r1I).rd x=some (Ab3 a l):=by
 unfold tb0 Ab3
 by_cases h1:48 < a.length
 ·rw[btD (show (a.length:Int) > 48 by omega),if_pos (.inl h1)]
  exact⟨_,rfl,rfl⟩
 rw[bfD (show ¬ (a.length:Int) > 48 by omega)]
 by_cases h2:48 < l.length
 ·rw[btD (show (l.length:Int) > 48 by omega),if_pos (.inr h2)]
  exact⟨_,rfl,rfl⟩
 rw[bfD (show ¬ (l.length:Int) > 48 by omega),if_neg (by omega)]
 obtain⟨t,s,k1,rfl,j,rfl⟩:=Le9 a l (by omega) (by omega)
 simp only[j8,j7,k1]
 have hlen:(xa1 a l).length≤1000000:=by
  have h1:=Kd3 a l
  have h3:a.length*l.length≤48*48:=Nat.mul_le_mul (by omega) (by omega)
  omega
 cases hr:xa1 a l with
 | nil =>
  rw[ze5 [] (by simp),ze6 [] (by simp)]
  exact⟨_,rfl,Wc1 _ _⟩
 | cons q o =>
  rw[hr] at hlen
  simp only[cb7,mb3,ze5 (q::o) hlen,ze6 (q::o) hlen]
  exact⟨_,rfl,Wc1 _ _⟩
theorem Ye9 (a l:List V3):Nb7 a l=Ab3 a l:=by obtain⟨x,h,k⟩:=ze7 a l;unfold Nb7;rw[h];exact Qa1 _ k
theorem Ze0 (a l:List V3):Nb8 a l=true:=by obtain⟨x,h,k⟩:=ze7 a l;unfold Nb8;rw[h];exact gb6 _ k
end Go.Ev.Ce
namespace Go.Ev.Ce
open Go Go.Ev Go.Ev.L Go.Proofs
noncomputable def tet:List V3:=[⟨0,0,0⟩,⟨1,0,0⟩,⟨0,1,0⟩,⟨0,0,1⟩]
noncomputable def ze8:List V3:=[⟨0,0,0⟩,⟨2,0,0⟩,⟨1,0,0⟩,⟨3,0,0⟩,⟨0,1,0⟩,⟨2,1,0⟩,⟨0,0,1⟩,⟨2,0,1⟩]
noncomputable def Me0:List V3:=[⟨0,0,0⟩,⟨0,0,1⟩,⟨0,1,0⟩,⟨1,0,0⟩,⟨2,0,0⟩,⟨2,0,1⟩,⟨2,1,0⟩,⟨3,0,0⟩]
noncomputable def Md2:List V3:=[⟨0,0,0⟩,⟨0,0,1⟩,⟨0,1,0⟩,⟨2,0,1⟩,⟨2,1,0⟩,⟨3,0,0⟩]
theorem Me1:xa1 tet [⟨0,0,0⟩,⟨2,0,0⟩]=ze8:=by kernel_rfl
theorem Me2:za8 ze8=0:=by kernel_rfl
theorem Me3:dis ze8=Me0:=by
 refine Jb9 _ _ (Td4 _) ?_ fun v=>?_
 ·simp[Me0,LtV]
 ·rw[Nb3]
  unfold ze8 Me0
  simp only[List.mem_cons,List.not_mem_nil,or_false]
  constructor<;>rintro (h | h | h | h | h | h | h | h)<;>simp[h]
theorem Me4:Me0.filter (kv (F0 ze8))=Md2:=by kernel_rfl
theorem Me5:Ab3 tet [⟨0,0,0⟩,⟨2,0,0⟩]=(Md2,0):=by
 unfold Ab3
 rw[if_neg (by simp[tet]),Me1]
 unfold Pb3 Wb8
 rw[if_pos Me2,Me3,Me4]
theorem ze9:Ab3 tet []=([],11):=by
 unfold Ab3
 rw[if_neg (by simp[tet])]
 have h:xa1 tet []=[]:=by kernel_rfl
 rw[h]
 unfold Pb3
 rw[Ib7,if_neg (by omega)]
theorem Me6:Ab3 tet [⟨24,0,0⟩]=([],3):=by
 unfold Ab3
 rw[if_neg (by simp[tet])]
 have h:za8 (xa1 tet [⟨24,0,0⟩])=3:=by kernel_rfl
 unfold Pb3
 rw[h,if_neg (by omega)]
theorem Me7:tc2 tet ⟨3,-1,2⟩=(3,true):=by kernel_rfl
theorem sf5:Jb8 [⟨⟨1,1,1⟩,3⟩,⟨⟨-1,0,0⟩,0⟩] ⟨1,0,2⟩ 1=([⟨⟨1,1,1⟩,6⟩,⟨⟨-1,0,0⟩,1⟩],true):=by kernel_rfl
theorem sf6:Jb8 [⟨⟨1,1,1⟩,3⟩,⟨⟨-1,0,0⟩,0⟩] ⟨1,0,2⟩ (-1)=([⟨⟨1,1,1⟩,0⟩,⟨⟨-1,0,0⟩,-1⟩],true):=by kernel_rfl
theorem sf7:Jb8 [⟨⟨1,1,1⟩,3⟩,⟨⟨-1,0,0⟩,0⟩] ⟨13,0,0⟩ 1=([],false):=by kernel_rfl
theorem sf8:Jb8 [⟨⟨1,1,1⟩,3⟩,⟨⟨-1,0,0⟩,0⟩] ⟨0,-1,0⟩ (-1)=([],false):=by kernel_rfl
theorem sf9:Jb8 [⟨⟨1,0,0⟩,2097152⟩] ⟨1,0,0⟩ 1=([],false):=by kernel_rfl
theorem Md3:xa0=some (b true,[]):=by
 have ht:Sa9=tet:=Le1
 have lt:tet.length≤1000000:=by simp[tet]
 unfold xa0
 simp only[ht,Le2,j8,N6,Qe2,Qe3,Me5,ze9,Me6,tc3 tet _ lt,tc4 tet _ lt,Me7,tc3 [] _ (by simp),tc4 [] _ (by simp)]
 rw[Ud7 _ _ (by simp),Ud8 _ _ (by simp),Kd9 _ _ (by simp),Ld0 _ _ (by simp),Ud7 _ ⟨13,0,0⟩ (by simp),Ud8 _ ⟨13,0,0⟩ (by simp),Kd9 _ ⟨0,-1,0⟩ (by simp),Ld0 _ ⟨0,-1,0⟩ (by simp),Ud7 [⟨⟨1,0,0⟩,2097152⟩] _ (by simp),Ud8 [⟨⟨1,0,0⟩,2097152⟩] _ (by simp),sf5,sf6,sf7,sf8,sf9]
 simp only[te3 _ (show [(⟨⟨1,1,1⟩,6⟩:Pln),⟨⟨-1,0,0⟩,1⟩].length≤1000000000 by simp),te4 _ (show [(⟨⟨1,1,1⟩,6⟩:Pln),⟨⟨-1,0,0⟩,1⟩].length≤1000000000 by simp),te3 _ (show [(⟨⟨1,1,1⟩,0⟩:Pln),⟨⟨-1,0,0⟩,-1⟩].length≤1000000000 by simp),te4 _ (show [(⟨⟨1,1,1⟩,0⟩:Pln),⟨⟨-1,0,0⟩,-1⟩].length≤1000000000 by simp)]
 have e1:na6 Md2 [⟨0,0,0⟩,⟨0,0,1⟩,⟨0,1,0⟩,⟨2,0,1⟩,⟨2,1,0⟩,⟨3,0,0⟩]=true:=ce0 Md2 (by simp[Md2])
 have e2:na7 Md2 [⟨0,0,0⟩,⟨0,0,1⟩,⟨0,1,0⟩,⟨2,0,1⟩,⟨2,1,0⟩,⟨3,0,0⟩]=true:=ce1 Md2 (by simp[Md2])
 rw[e1,e2]
 rfl
theorem Vd3:Ma5=true:=by unfold Ma5;rw[Md3];rfl
theorem Vd4:Ma6=true:=by unfold Ma6;rw[Md3];rfl
end Go.Ev.Ce
section
namespace Go.Ev.Ce
open Go Go.Ev Go.Ev.L Go.Proofs
set_option maxRecDepth 100000
noncomputable def Ga5:List (Nat×Sum):=[(15,Jb7),(25,Tb0),(24,Jb6),(27,kc8),(26,fc9),(28,rc4),(29,nd2),(30,hb8),(31,ob9),(32,Sb7)]
theorem Pb8:j9 prog G Ga5:=⟨Ec5,Vc6,Ec3,Nc1,ed2,Uc6,Ud5,zb6,Ib9,Vc3,trivial⟩
structure Q3 where
 bs7:Bool
 na9:Int
 d6:Int
 b8:Int
 d8:Int
 c9:List V3
 l5:List V3
 l6:List V3
 l9:List V3
 m8:List V3
 m9:List V3
 n7:List V3
 n8:List V3
 n9:List V3
 I8:Nat
 K2:Nat→List b7
 K3:Nat
 K4:Nat→List b7
structure A8 where
 pb2:Int
noncomputable def Kb0 (p:Q3) (s:A8):St:=⟨(ra 5 ((.ptr 0 0 0 0)::(.unk::((b p.bs7)::(ra 43 ((.sl 1 0 5 0)::((i 5)::((i p.na9)::(ra 32 ((.sl 2 0 2 0)::((i 2)::((i s.pb2)::(ra 26 []))))))))))))),[⟨0,3,[[(i p.d6),(i p.b8),(i p.d8)]],true,false,0⟩,⟨43,2,[[(eL tV p.c9),(eL tV p.l5)],[(eL tV p.l6),(eL tV p.l9)],[(eL tV p.m8),(eL tV p.m9)],[(eL tV p.n7),(eL tV p.n8)],[(eL tV p.n9),(.v (.slice none 0 0))]],true,false,0⟩,⟨33,1,[[(.tree 3 p.I8 p.K2)],[(.tree 3 p.K3 p.K4)]],true,false,0⟩]⟩
noncomputable def S1 {α:Type} (k:A8→α) (e:Nat→α) (z:α) (p:Q3) (s:A8):α:=let t1:=(sa9 (lsL tV (toN (hdA (d9 (e8 [[(.tree 3 p.I8 p.K2)],[(.tree 3 p.K3 p.K4)]] (0+s.pb2.toNat)) 0))) (toG (hdA (d9 (e8 [[(.tree 3 p.I8 p.K2)],[(.tree 3 p.K3 p.K4)]] (0+s.pb2.toNat)) 0)))) (⟨p.d6,p.b8,p.d8⟩:V3));let t2:=(Sa7 (lsL tV (toN (hdA (d9 (e8 [[(.tree 3 p.I8 p.K2)],[(.tree 3 p.K3 p.K4)]] (0+s.pb2.toNat)) 0))) (toG (hdA (d9 (e8 [[(.tree 3 p.I8 p.K2)],[(.tree 3 p.K3 p.K4)]] (0+s.pb2.toNat)) 0)))) (⟨p.d6,p.b8,p.d8⟩:V3));(sl (decide (s.pb2 < 2)) (sl (inB s.pb2 2) (sl (((Nat.blt (0+s.pb2.toNat) (len [[(b7.tree 3 p.I8 p.K2)],[(.tree 3 p.K3 p.K4)]]))&&(Nat.ble (0+1) (len (e8 [[(.tree 3 p.I8 p.K2)],[(.tree 3 p.K3 p.K4)]] (0+s.pb2.toNat)))))&&(K6 [(CK.sl 3)] (d9 (e8 [[(.tree 3 p.I8 p.K2)],[(.tree 3 p.K3 p.K4)]] (0+s.pb2.toNat)) 0))) (sl (okL tV (toN (hdA (d9 (e8 [[(.tree 3 p.I8 p.K2)],[(.tree 3 p.K3 p.K4)]] (0+s.pb2.toNat)) 0))) (toG (hdA (d9 (e8 [[(.tree 3 p.I8 p.K2)],[(.tree 3 p.K3 p.K4)]] (0+s.pb2.toNat)) 0)))) (sl (ta0 (lsL tV (toN (hdA (d9 (e8 [[(.tree 3 p.I8 p.K2)],[(.tree 3 p.K3 p.K4)]] (0+s.pb2.toNat)) 0))) (toG (hdA (d9 (e8 [[(.tree 3 p.I8 p.K2)],[(.tree 3 p.K3 p.K4)]] (0+s.pb2.toNat)) 0)))) (⟨p.d6,p.b8,p.d8⟩:V3)) (sl (okL tV (toN (hdA (d9 (e8 [[(.tree 3 p.I8 p.K2)],[(.tree 3 p.K3 p.K4)]] (0+s.pb2.toNat)) 0))) (toG (hdA (d9 (e8 [[(.tree 3 p.I8 p.K2)],[(.tree 3 p.K3 p.K4)]] (0+s.pb2.toNat)) 0)))) (sl (Sa8 (lsL tV (toN (hdA (d9 (e8 [[(.tree 3 p.I8 p.K2)],[(.tree 3 p.K3 p.K4)]] (0+s.pb2.toNat)) 0))) (toG (hdA (d9 (e8 [[(.tree 3 p.I8 p.K2)],[(.tree 3 p.K3 p.K4)]] (0+s.pb2.toNat)) 0)))) (⟨p.d6,p.b8,p.d8⟩:V3)) (sl (t1.1 != t2.1) (e 1) (sl (!(t1.2==t2.2)) (e 1) (k ⟨(W (s.pb2+1))⟩))) z) z) z) z) z) z) (e 2))
noncomputable def N0 (p:Q3) (s:A8):Stp A8:=S1 .next .exit .fail p s
noncomputable def za9:Lo Q3 A8:=⟨En Ga5,0,pf4,[1,1,1,0,1,4,4,1,1,0,4,1,1,1,1,1,4,4],[5,7,51,52,53,86,87,88],.p,[⟨(ru2 5 ((.s (.o (.ptr 0 0 0 0)))::((.s (.o .unk))::((.s (.o .bool))::(ru2 43 ((.s (.o (.sl 1 0 (some 0) (some 5))))::((.s (.o (.lit .i64 5)))::((.s (.o (.int .i64)))::(ru2 32 ((.s (.o (.sl 2 0 (some 0) (some 2))))::((.s (.o (.lit .i64 2)))::((.s (.o (.int .i64)))::(ru2 26 []))))))))))))),[⟨0,3,true,(some [[(.o (.int .i64)),(.o (.int .i64)),(.o (.int .i64))]])⟩,⟨43,2,true,(some [[(.c 3 (nL tV)),(.c 3 (nL tV))],[(.c 3 (nL tV)),(.c 3 (nL tV))],[(.c 3 (nL tV)),(.c 3 (nL tV))],[(.c 3 (nL tV)),(.c 3 (nL tV))],[(.c 3 (nL tV)),(.o .nil)]])⟩,⟨33,1,true,(some [[(.o (.tree 3))],[(.o (.tree 3))]])⟩],fun a H=>(⟨(toB (slT a 7)),(toI (slT a 53)),(toI (slT (rwT (elT H 0) 0) 0)),(toI (slT (rwT (elT H 0) 0) 1)),(toI (slT (rwT (elT H 0) 0) 2)),(rL tV (slT (rwT (elT H 1) 0) 0)),(rL tV (slT (rwT (elT H 1) 0) 1)),(rL tV (slT (rwT (elT H 1) 1) 0)),(rL tV (slT (rwT (elT H 1) 1) 1)),(rL tV (slT (rwT (elT H 1) 2) 0)),(rL tV (slT (rwT (elT H 1) 2) 1)),(rL tV (slT (rwT (elT H 1) 3) 0)),(rL tV (slT (rwT (elT H 1) 3) 1)),(rL tV (slT (rwT (elT H 1) 4) 0)),(toN (slT (rwT (elT H 2) 0) 0)),(toG (slT (rwT (elT H 2) 0) 0)),(toN (slT (rwT (elT H 2) 1) 0)),(toG (slT (rwT (elT H 2) 1) 0))⟩,⟨(toI (slT a 88))⟩)⟩],N0,[(none,fun p s=>⟨[(b false)],[]⟩),(some 2,fun p s=>⟨(ra 5 ((.ptr 0 0 0 0)::(.unk::((b p.bs7)::(ra 43 ((.sl 1 0 5 0)::((i 5)::((i p.na9)::(ra 32 ((.sl 2 0 2 0)::((i 2)::((i s.pb2)::((b (decide (s.pb2 < 2)))::(ra 25 [])))))))))))))),[⟨0,3,[[(i p.d6),(i p.b8),(i p.d8)]],true,false,0⟩,⟨43,2,[[(eL tV p.c9),(eL tV p.l5)],[(eL tV p.l6),(eL tV p.l9)],[(eL tV p.m8),(eL tV p.m9)],[(eL tV p.n7),(eL tV p.n8)],[(eL tV p.n9),(.v (.slice none 0 0))]],true,false,0⟩,⟨33,1,[[(.tree 3 p.I8 p.K2)],[(.tree 3 p.K3 p.K4)]],true,false,0⟩]⟩)],Kb0⟩
theorem Kb1:za9.Ok:=Lo.ok [] (by kernel_rfl) .nil rfl (.cons (fun a H=>by kernel_rfl) .nil) fun p s=>(.of @S1 (fun F _ _ _ _ _=>by unfold S1;(repeat' apply k8 (f:=F))<;>rfl) (by kernel_rfl))
structure ba3 where
 bs7:Bool
 d6:Int
 b8:Int
 d8:Int
structure A9 where
 na9:Int
 c9:List V3
 l5:List V3
 l6:List V3
 l9:List V3
 m8:List V3
 m9:List V3
 n7:List V3
 n8:List V3
 n9:List V3
noncomputable def Kb2 (p:ba3) (s:A9):St:=⟨(ra 5 ((.ptr 0 0 0 0)::(.unk::((b p.bs7)::(ra 43 ((.sl 1 0 5 0)::((i 5)::((i s.na9)::(ra 61 []))))))))),[⟨0,3,[[(i p.d6),(i p.b8),(i p.d8)]],true,false,0⟩,⟨43,2,[[(eL tV s.c9),(eL tV s.l5)],[(eL tV s.l6),(eL tV s.l9)],[(eL tV s.m8),(eL tV s.m9)],[(eL tV s.n7),(eL tV s.n8)],[(eL tV s.n9),(.v (.slice none 0 0))]],true,false,0⟩]⟩
noncomputable def S3 {α:Type} (k:A9→α) (e:Nat→α) (z:α) (p:ba3) (s:A9):α:=let t1:=(Qa4 (lsL tV (toN (hdA (d9 (e8 [[(eL tV s.c9),(eL tV s.l5)],[(eL tV s.l6),(eL tV s.l9)],[(eL tV s.m8),(eL tV s.m9)],[(eL tV s.n7),(eL tV s.n8)],[(eL tV s.n9),(.v (.slice none 0 0))]] (0+s.na9.toNat)) 0))) (toG (hdA (d9 (e8 [[(eL tV s.c9),(eL tV s.l5)],[(eL tV s.l6),(eL tV s.l9)],[(eL tV s.m8),(eL tV s.m9)],[(eL tV s.n7),(eL tV s.n8)],[(eL tV s.n9),(.v (.slice none 0 0))]] (0+s.na9.toNat)) 0)))) (lsL tV (toN (hdA (tlA (d9 (e8 [[(eL tV s.c9),(eL tV s.l5)],[(eL tV s.l6),(eL tV s.l9)],[(eL tV s.m8),(eL tV s.m9)],[(eL tV s.n7),(eL tV s.n8)],[(eL tV s.n9),(.v (.slice none 0 0))]] (0+s.na9.toNat)) 0)))) (toG (hdA (tlA (d9 (e8 [[(eL tV s.c9),(eL tV s.l5)],[(eL tV s.l6),(eL tV s.l9)],[(eL tV s.m8),(eL tV s.m9)],[(eL tV s.n7),(eL tV s.n8)],[(eL tV s.n9),(.v (.slice none 0 0))]] (0+s.na9.toNat)) 0))))));let t2:=(Nb7 (lsL tV (toN (hdA (d9 (e8 [[(eL tV s.c9),(eL tV s.l5)],[(eL tV s.l6),(eL tV s.l9)],[(eL tV s.m8),(eL tV s.m9)],[(eL tV s.n7),(eL tV s.n8)],[(eL tV s.n9),(.v (.slice none 0 0))]] (0+s.na9.toNat)) 0))) (toG (hdA (d9 (e8 [[(eL tV s.c9),(eL tV s.l5)],[(eL tV s.l6),(eL tV s.l9)],[(eL tV s.m8),(eL tV s.m9)],[(eL tV s.n7),(eL tV s.n8)],[(eL tV s.n9),(.v (.slice none 0 0))]] (0+s.na9.toNat)) 0)))) (lsL tV (toN (hdA (tlA (d9 (e8 [[(eL tV s.c9),(eL tV s.l5)],[(eL tV s.l6),(eL tV s.l9)],[(eL tV s.m8),(eL tV s.m9)],[(eL tV s.n7),(eL tV s.n8)],[(eL tV s.n9),(.v (.slice none 0 0))]] (0+s.na9.toNat)) 0)))) (toG (hdA (tlA (d9 (e8 [[(eL tV s.c9),(eL tV s.l5)],[(eL tV s.l6),(eL tV s.l9)],[(eL tV s.m8),(eL tV s.m9)],[(eL tV s.n7),(eL tV s.n8)],[(eL tV s.n9),(.v (.slice none 0 0))]] (0+s.na9.toNat)) 0))))));let t3:=(na6 (rt tV t1.1) (rt tV t2.1));let t4:=(lp (N0 (⟨p.bs7,s.na9,p.d6,p.b8,p.d8,(rt tV s.c9),(rt tV s.l5),(rt tV s.l6),(rt tV s.l9),(rt tV s.m8),(rt tV s.m9),(rt tV s.n7),(rt tV s.n8),(rt tV s.n9),(toN (hdA (d9 (e8 [[(eL tV s.c9),(eL tV s.l5)],[(eL tV s.l6),(eL tV s.l9)],[(eL tV s.m8),(eL tV s.m9)],[(eL tV s.n7),(eL tV s.n8)],[(eL tV s.n9),(.v (.slice none 0 0))]] (0+s.na9.toNat)) 0))),(toG (hdA (d9 (e8 [[(eL tV s.c9),(eL tV s.l5)],[(eL tV s.l6),(eL tV s.l9)],[(eL tV s.m8),(eL tV s.m9)],[(eL tV s.n7),(eL tV s.n8)],[(eL tV s.n9),(.v (.slice none 0 0))]] (0+s.na9.toNat)) 0))),(toN (hdA (tlA (d9 (e8 [[(eL tV s.c9),(eL tV s.l5)],[(eL tV s.l6),(eL tV s.l9)],[(eL tV s.m8),(eL tV s.m9)],[(eL tV s.n7),(eL tV s.n8)],[(eL tV s.n9),(.v (.slice none 0 0))]] (0+s.na9.toNat)) 0)))),(toG (hdA (tlA (d9 (e8 [[(eL tV s.c9),(eL tV s.l5)],[(eL tV s.l6),(eL tV s.l9)],[(eL tV s.m8),(eL tV s.m9)],[(eL tV s.n7),(eL tV s.n8)],[(eL tV s.n9),(.v (.slice none 0 0))]] (0+s.na9.toNat)) 0))))⟩:Q3)) (⟨0⟩:A8));(sl (decide (s.na9 < 5)) (sl (inB s.na9 5) (sl (((Nat.blt (0+s.na9.toNat) (len [[(eL tV s.c9),(eL tV s.l5)],[(eL tV s.l6),(eL tV s.l9)],[(eL tV s.m8),(eL tV s.m9)],[(eL tV s.n7),(eL tV s.n8)],[(eL tV s.n9),(.v (.slice none 0 0))]]))&&(Nat.ble (0+2) (len (e8 [[(eL tV s.c9),(eL tV s.l5)],[(eL tV s.l6),(eL tV s.l9)],[(eL tV s.m8),(eL tV s.m9)],[(eL tV s.n7),(eL tV s.n8)],[(eL tV s.n9),(.v (.slice none 0 0))]] (0+s.na9.toNat)))))&&(K6 [(CK.sl 3),(CK.sl 3)] (d9 (e8 [[(eL tV s.c9),(eL tV s.l5)],[(eL tV s.l6),(eL tV s.l9)],[(eL tV s.m8),(eL tV s.m9)],[(eL tV s.n7),(eL tV s.n8)],[(eL tV s.n9),(.v (.slice none 0 0))]] (0+s.na9.toNat)) 0))) (sl (okL tV (toN (hdA (d9 (e8 [[(eL tV s.c9),(eL tV s.l5)],[(eL tV s.l6),(eL tV s.l9)],[(eL tV s.m8),(eL tV s.m9)],[(eL tV s.n7),(eL tV s.n8)],[(eL tV s.n9),(.v (.slice none 0 0))]] (0+s.na9.toNat)) 0))) (toG (hdA (d9 (e8 [[(eL tV s.c9),(eL tV s.l5)],[(eL tV s.l6),(eL tV s.l9)],[(eL tV s.m8),(eL tV s.m9)],[(eL tV s.n7),(eL tV s.n8)],[(eL tV s.n9),(.v (.slice none 0 0))]] (0+s.na9.toNat)) 0)))) (sl (okL tV (toN (hdA (tlA (d9 (e8 [[(eL tV s.c9),(eL tV s.l5)],[(eL tV s.l6),(eL tV s.l9)],[(eL tV s.m8),(eL tV s.m9)],[(eL tV s.n7),(eL tV s.n8)],[(eL tV s.n9),(.v (.slice none 0 0))]] (0+s.na9.toNat)) 0)))) (toG (hdA (tlA (d9 (e8 [[(eL tV s.c9),(eL tV s.l5)],[(eL tV s.l6),(eL tV s.l9)],[(eL tV s.m8),(eL tV s.m9)],[(eL tV s.n7),(eL tV s.n8)],[(eL tV s.n9),(.v (.slice none 0 0))]] (0+s.na9.toNat)) 0))))) (sl (Qa5 (lsL tV (toN (hdA (d9 (e8 [[(eL tV s.c9),(eL tV s.l5)],[(eL tV s.l6),(eL tV s.l9)],[(eL tV s.m8),(eL tV s.m9)],[(eL tV s.n7),(eL tV s.n8)],[(eL tV s.n9),(.v (.slice none 0 0))]] (0+s.na9.toNat)) 0))) (toG (hdA (d9 (e8 [[(eL tV s.c9),(eL tV s.l5)],[(eL tV s.l6),(eL tV s.l9)],[(eL tV s.m8),(eL tV s.m9)],[(eL tV s.n7),(eL tV s.n8)],[(eL tV s.n9),(.v (.slice none 0 0))]] (0+s.na9.toNat)) 0)))) (lsL tV (toN (hdA (tlA (d9 (e8 [[(eL tV s.c9),(eL tV s.l5)],[(eL tV s.l6),(eL tV s.l9)],[(eL tV s.m8),(eL tV s.m9)],[(eL tV s.n7),(eL tV s.n8)],[(eL tV s.n9),(.v (.slice none 0 0))]] (0+s.na9.toNat)) 0)))) (toG (hdA (tlA (d9 (e8 [[(eL tV s.c9),(eL tV s.l5)],[(eL tV s.l6),(eL tV s.l9)],[(eL tV s.m8),(eL tV s.m9)],[(eL tV s.n7),(eL tV s.n8)],[(eL tV s.n9),(.v (.slice none 0 0))]] (0+s.na9.toNat)) 0)))))) (sl (okL tV (toN (hdA (d9 (e8 [[(eL tV s.c9),(eL tV s.l5)],[(eL tV s.l6),(eL tV s.l9)],[(eL tV s.m8),(eL tV s.m9)],[(eL tV s.n7),(eL tV s.n8)],[(eL tV s.n9),(.v (.slice none 0 0))]] (0+s.na9.toNat)) 0))) (toG (hdA (d9 (e8 [[(eL tV s.c9),(eL tV s.l5)],[(eL tV s.l6),(eL tV s.l9)],[(eL tV s.m8),(eL tV s.m9)],[(eL tV s.n7),(eL tV s.n8)],[(eL tV s.n9),(.v (.slice none 0 0))]] (0+s.na9.toNat)) 0)))) (sl (okL tV (toN (hdA (tlA (d9 (e8 [[(eL tV s.c9),(eL tV s.l5)],[(eL tV s.l6),(eL tV s.l9)],[(eL tV s.m8),(eL tV s.m9)],[(eL tV s.n7),(eL tV s.n8)],[(eL tV s.n9),(.v (.slice none 0 0))]] (0+s.na9.toNat)) 0)))) (toG (hdA (tlA (d9 (e8 [[(eL tV s.c9),(eL tV s.l5)],[(eL tV s.l6),(eL tV s.l9)],[(eL tV s.m8),(eL tV s.m9)],[(eL tV s.n7),(eL tV s.n8)],[(eL tV s.n9),(.v (.slice none 0 0))]] (0+s.na9.toNat)) 0))))) (sl (Nb8 (lsL tV (toN (hdA (d9 (e8 [[(eL tV s.c9),(eL tV s.l5)],[(eL tV s.l6),(eL tV s.l9)],[(eL tV s.m8),(eL tV s.m9)],[(eL tV s.n7),(eL tV s.n8)],[(eL tV s.n9),(.v (.slice none 0 0))]] (0+s.na9.toNat)) 0))) (toG (hdA (d9 (e8 [[(eL tV s.c9),(eL tV s.l5)],[(eL tV s.l6),(eL tV s.l9)],[(eL tV s.m8),(eL tV s.m9)],[(eL tV s.n7),(eL tV s.n8)],[(eL tV s.n9),(.v (.slice none 0 0))]] (0+s.na9.toNat)) 0)))) (lsL tV (toN (hdA (tlA (d9 (e8 [[(eL tV s.c9),(eL tV s.l5)],[(eL tV s.l6),(eL tV s.l9)],[(eL tV s.m8),(eL tV s.m9)],[(eL tV s.n7),(eL tV s.n8)],[(eL tV s.n9),(.v (.slice none 0 0))]] (0+s.na9.toNat)) 0)))) (toG (hdA (tlA (d9 (e8 [[(eL tV s.c9),(eL tV s.l5)],[(eL tV s.l6),(eL tV s.l9)],[(eL tV s.m8),(eL tV s.m9)],[(eL tV s.n7),(eL tV s.n8)],[(eL tV s.n9),(.v (.slice none 0 0))]] (0+s.na9.toNat)) 0)))))) (sl (t1.2 != t2.2) (e 1) (sl (okE tV t1.1) (sl (okE tV t2.1) (sl (na7 (rt tV t1.1) (rt tV t2.1)) (sl (!t3) (e 1) (sl ((cnE tV s.c9)&&((cnE tV s.l5)&&((cnE tV s.l6)&&((cnE tV s.l9)&&((cnE tV s.m8)&&((cnE tV s.m9)&&((cnE tV s.n7)&&((cnE tV s.n8)&&((cnE tV s.n9)&&true))))))))) (sl (Nat.beq t4.1 1) (e 1) (sl (Nat.beq t4.1 2) (k ⟨(W (s.na9+1)),(rt tV s.c9),(rt tV s.l5),(rt tV s.l6),(rt tV s.l9),(rt tV s.m8),(rt tV s.m9),(rt tV s.n7),(rt tV s.n8),(rt tV s.n9)⟩) z)) z)) z) z) z)) z) z) z) z) z) z) z) z) (e 2))
noncomputable def N1 (p:ba3) (s:A9):Stp A9:=S3 .next .exit .fail p s
noncomputable def Aa0:Lo ba3 A9:=⟨En Ga5,0,pf4,[1,1,1,0,1,4,4],[5,7,51,52,53],(.s .p (.s .p (.s (.b (.s .p (.s .p (.s .p (.s .p (.s .p (.b (.u za9.ls)))))))) .p))),[⟨(ru2 5 ((.s (.o (.ptr 0 0 0 0)))::((.s (.o .unk))::((.s (.o .bool))::(ru2 43 ((.s (.o (.sl 1 0 (some 0) (some 5))))::((.s (.o (.lit .i64 5)))::((.s (.o (.int .i64)))::(ru2 61 []))))))))),[⟨0,3,true,(some [[(.o (.int .i64)),(.o (.int .i64)),(.o (.int .i64))]])⟩,⟨43,2,true,(some [[(.c 3 (nL tV)),(.c 3 (nL tV))],[(.c 3 (nL tV)),(.c 3 (nL tV))],[(.c 3 (nL tV)),(.c 3 (nL tV))],[(.c 3 (nL tV)),(.c 3 (nL tV))],[(.c 3 (nL tV)),(.o .nil)]])⟩],fun a H=>(⟨(toB (slT a 7)),(toI (slT (rwT (elT H 0) 0) 0)),(toI (slT (rwT (elT H 0) 0) 1)),(toI (slT (rwT (elT H 0) 0) 2))⟩,⟨(toI (slT a 53)),(rL tV (slT (rwT (elT H 1) 0) 0)),(rL tV (slT (rwT (elT H 1) 0) 1)),(rL tV (slT (rwT (elT H 1) 1) 0)),(rL tV (slT (rwT (elT H 1) 1) 1)),(rL tV (slT (rwT (elT H 1) 2) 0)),(rL tV (slT (rwT (elT H 1) 2) 1)),(rL tV (slT (rwT (elT H 1) 3) 0)),(rL tV (slT (rwT (elT H 1) 3) 1)),(rL tV (slT (rwT (elT H 1) 4) 0))⟩)⟩],N1,[(none,fun p s=>⟨[(b false)],[]⟩),(some 0,fun p s=>⟨(ra 5 ((.ptr 0 0 0 0)::(.unk::((b p.bs7)::(ra 43 ((.sl 1 0 5 0)::((i 5)::((i s.na9)::((b (decide (s.na9 < 5)))::(ra 60 [])))))))))),[⟨0,3,[[(i p.d6),(i p.b8),(i p.d8)]],true,false,0⟩,⟨43,2,[[(eL tV s.c9),(eL tV s.l5)],[(eL tV s.l6),(eL tV s.l9)],[(eL tV s.m8),(eL tV s.m9)],[(eL tV s.n7),(eL tV s.n8)],[(eL tV s.n9),(.v (.slice none 0 0))]],true,false,0⟩]⟩)],Kb2⟩
theorem Kb3:Aa0.Ok:=Lo.ok [za9.pr] (by kernel_rfl) (.cons Kb1 .nil) rfl (.cons (fun a H=>by kernel_rfl) .nil) fun p s=>(.of @S3 (fun F _ _ _ _ _=>by unfold S3;(repeat' apply k8 (f:=F))<;>rfl) (by kernel_rfl))
noncomputable def ja7 (x:LL) (y:List V3) (z:V3):Option (b7×List c7):=let t1:=Ma5;let t2:=(V1 (rt tI x.u));let t3:=(na8 (rt tV (t2.1::t2.2)) 6);let t4:=(bb3 (↑(List.length x.v):Int) 5);let t5:=(xb3 (rt tI x.v) (W (1+t4)));let t6:=(na8 (rt tV y) 6);let t7:=(lp (N1 (⟨t1,z.x,z.y,z.z⟩:ba3)) (⟨0,(rt tV t3),(rt tV t5),(rt tV t5),(rt tV t3),(rt tV t3),(rt tV t6),(rt tV t6),(rt tV t5),(rt tV t3)⟩:A9));(sl Ma6 (sl (okE tI x.u) (sl (Ya9 (rt tI x.u)) (sl (Nat.ble 1 (List.length (N9 (rt tI x.u)))) (sl (okE tV (t2.1::t2.2)) (sl (fa5 (rt tV (t2.1::t2.2)) 6) (sl (qb3 (↑(List.length x.v):Int) 5) (sl (okE tI x.v) (sl (xb4 (rt tI x.v) (W (1+t4))) (sl (okE tV y) (sl (fa5 (rt tV y) 6) (sl (okE tV y) (sl (fa5 (rt tV y) 6) (sl ((cnE tV t3)&&((cnE tV t5)&&((cnE tV t5)&&((cnE tV t3)&&((cnE tV t3)&&((cnE tV t6)&&((cnE tV t6)&&((cnE tV t5)&&((cnE tV t3)&&true))))))))) (sl (Nat.beq t7.1 1) (some ((b false),[])) (sl (Nat.beq t7.1 2) (some ((b t1),[])) none)) none) none) none) none) none) none) none) none) none) none) none) none) none) none)
noncomputable def ua1 (x:LL) (y:List V3) (z:V3):Bool:=M4 (one r1B) (ja7 x y z)
noncomputable def ua2 (x:LL) (y:List V3) (z:V3):Bool:=okO (one r1B) (ja7 x y z)
noncomputable def ic2:Sum:=wc7 (K9 tZ) (oa4 tV) (K9 tV) (fun x y z=>.guard (ua2 x y z) (.ret ((one r1B).enc (ua1 x y z),[])))
theorem Xb4:g9 prog G 4 ic2:=Se3 (bd b4 Pb8) (one r1B) (o:=ja7) fun x y z=>xa9 (.s .p (.s .p (.s .p (.s (.s .p (.b (.u Aa0.ls))) .p)))) [Aa0.pr] (by kernel_rfl) (.cons Kb3 .nil) (by kernel_rfl)
end Go.Ev.Ce
end
namespace Go.Ev.Ce
open Go Go.Ev Go.Ev.L Go.Proofs
theorem Me8 (l:List Int) (n:Nat) (hn1:1≤n) (hn5:n≤5):Rd (one (r1L tV)) (La6 l (n:Int)) (fun r=>r.length=n):=by
 have key:∃ t s,lp (Ea7 ⟨(n:Int)⟩) ⟨0,0,l,0,0,[]⟩=(t,s)∧(t=2∧∃ O:List V3,O.length=n∧s.ns6=n∧s.eh1=bL tV O):=by
  refine F5 (step:=Ea7 ⟨(n:Int)⟩) (mk:=fun j (a:List V3×Int)=>(⟨phV a.1,(j:Int),l,a.2,a.1.length,bL tV a.1⟩:u9)) n (fun j a=>a.1.length=j∧0≤a.2∧a.2≤10*j∧j≤n)
   (fun t s=>t=2∧∃ O:List V3,O.length=n∧s.ns6=n∧s.eh1=bL tV O) (by omega) (fun j a hj hi=>?_) (fun j a hj hi=>?_) 0 ([],0) ⟨rfl,by simp,by simp,by omega⟩
  ·obtain⟨O,d⟩:=a
   obtain⟨i1,i2,i3,i4⟩:=hi
   simp only at i1 i2 i3
   obtain⟨v,d1,n1,n2,n3,n4,n5⟩:=ab4 4 l d i2 (by omega) (by omega) (by omega)
   obtain⟨w,hw⟩:∃ w:Nat,v=(w:Int):=⟨v.toNat,by omega⟩
   subst hw
   have hw4:w < 4:=by omega
   have hrow:∃ m:Int,e8 [[(i 8)],[(i 8)],[(i 3)],[(i 24)]] (0+w)=[i m]∧0≤m∧m≤24:=by
    match w,hw4 with
    | 0,_=>exact⟨8,rfl,by omega,by omega⟩
    | 1,_=>exact⟨8,rfl,by omega,by omega⟩
    | 2,_=>exact⟨3,rfl,by omega,by omega⟩
    | 3,_=>exact⟨24,rfl,by omega,by omega⟩
   obtain⟨m,hm,m1,m2⟩:=hrow
   obtain⟨a1,a2,a3,d2,v1,_,_,_,v5,v6⟩:=Ve9 m l d1 (by omega) (by omega) m1 (by omega)
   have e1:toI (hdA (d9 [i m] 0))=m:=rfl
   have e2:K6 [(CK.int .i64)] (d9 [i m] 0)=true:=rfl
   have e3:Nat.ble (0+1) (len [i m])=true:=rfl
   have e4:Nat.blt (0+w) (len [[(i 8)],[(i 8)],[(i 3)],[(i 24)]])=true:=by rw[Nat.zero_add,Nat.blt_eq];exact hw4
   have hn:=o6 hj (show n≤4611686018427387904 by omega)
   have fin : Nx (.next (⟨1, ((j + 1 : Nat) : Int), l, d2, O.length + 1, bL tV (O ++ [⟨a1, a2, a3⟩])⟩ : u9)) (fun t => t = 2 ∧ ∃ O' : List V3, O'.length = n ∧ (⟨phV O, (j : Int), l, d, O.length, bL tV O⟩ : u9).ns6 = n ∧ (⟨phV O, (j : Int), l, d, O.length, bL tV O⟩ : u9).eh1 = bL tV O')
     (fun s=>∃ a':List V3×Int,s=(⟨phV a'.1,((j+1:Nat):Int),l,a'.2,a'.1.length,bL tV a'.1⟩:u9)∧(a'.1.length=j+1∧0≤a'.2∧a'.2≤10*((j+1:Nat):Int)∧j+1≤n)) :=
    .nx ⟨(O++[⟨a1,a2,a3⟩],d2),by simp only[ae0,List.length_append,List.length_singleton],by simp only[List.length_append,List.length_singleton];omega,by simp only;omega,by simp only;omega,by omega⟩
   cases O with
   | nil =>
    show Nx (na4 Stp.next Stp.exit Stp.fail _ _) _ _
    simp only[na4,j8,j7,n1,Int.toNat_natCast,hm,e1,e2,e3,e4,v1,hn]
    rw[btD (show (j:Int) < (n:Int) by omega),bt (f7 hw4)]
    exact fin
   | cons o os =>
    show Nx (T6 Stp.next Stp.exit Stp.fail _ _) _ _
    have rr:=Hd5 (l:=o::os) rfl (by simp only[List.length_cons] at i1 ⊢;omega)
    simp only[T6,j8,j7,n1,Int.toNat_natCast,hm,e1,e2,e3,e4,v1,hn,rr,fc3]
    rw[btD (show (j:Int) < (n:Int) by omega),bt (f7 hw4)]
    exact fin
  ·obtain⟨O,d⟩:=a
   obtain⟨i1,i2,i3,i4⟩:=hi
   simp only at i1
   cases O with
   | nil=>simp at i1;omega
   | cons o os =>
    have:j=n:=by omega
    refine⟨2,?_,rfl,o::os,by omega,by show (o::os).length=n;omega,rfl⟩
    show T6 Stp.next Stp.exit Stp.fail _ _=_
    simp only[T6]
    rw[bfD (by show ¬ ((j:Nat):Int) < (n:Int);omega)]
 obtain⟨t,s,h1,rfl,O,h2,h3,h4⟩:=key
 unfold La6
 simp only[j8,j7]
 rw[h1]
 simp only[h3,h4]
 exact⟨_,O,rfl,by rw[← h2];exact We3 tV 27 O,h2⟩
theorem if2 (x:List Int):(V1 x).1::(V1 x).2=N9 x:=by
 have h:=Hd6 x
 unfold V1
 cases hL:N9 x with
 | nil=>rw[hL] at h;simp at h
 | cons a l=>rfl
theorem Ae0 (a l:List V3):(Ab3 a l).1.length≤1000000:=by
 unfold Ab3
 split
 ·simp
 ·rename_i h
  unfold Pb3
  split
  ·rename_i h0
   have h1:=vd2 (xa1 a l)
   have h2:=(sb7 h0).1
   have h3:((dis (xa1 a l)).filter (kv (F0 (xa1 a l)))).length≤(dis (xa1 a l)).length:=List.length_filter_le _ _
   show ((dis (xa1 a l)).filter (kv (F0 (xa1 a l)))).length≤_
   omega
  ·simp
theorem xd8 (P:Q3) (X Y:List V3) (hX:lsL tV P.I8 P.K2=X) (hY:lsL tV P.K3 P.K4=Y) (oX:okL tV P.I8 P.K2=true) (oY:okL tV P.K3 P.K4=true) (lX:X.length≤1000000) (lY:Y.length≤1000000):(lp (N0 P) ⟨0⟩).1=2:=by
 have h:=Wa1 (step:=N0 P) (mk:=fun j=>(⟨(j:Int)⟩:A8)) (c:=fun _=>false) (u:=1) (fin:=2) tI [0,0] (by simp)
  (fun j hj=>by
   have hj:j < 2:=hj
   have hw:W ((j:Int)+1)=((j+1:Nat):Int):=o6 hj (by omega)
   have hcase:j=0∨j=1:=by omega
   obtain ⟨Z, hZ, oZ, lZ, rZ⟩ : ∃ Z : List V3, lsL tV (toN (hdA (d9 (e8 [[(b7.tree 3 P.I8 P.K2)], [(.tree 3 P.K3 P.K4)]] (0 + j)) 0))) (toG (hdA (d9 (e8 [[(b7.tree 3 P.I8 P.K2)], [(.tree 3 P.K3 P.K4)]] (0 + j)) 0))) = Z ∧
     okL tV (toN (hdA (d9 (e8 [[(b7.tree 3 P.I8 P.K2)],[(.tree 3 P.K3 P.K4)]] (0+j)) 0))) (toG (hdA (d9 (e8 [[(b7.tree 3 P.I8 P.K2)],[(.tree 3 P.K3 P.K4)]] (0+j)) 0)))=true∧Z.length≤1000000 ∧
     (((Nat.blt (0+j) (len [[(b7.tree 3 P.I8 P.K2)],[(.tree 3 P.K3 P.K4)]]))&&(Nat.ble (0+1) (len (e8 [[(b7.tree 3 P.I8 P.K2)],[(.tree 3 P.K3 P.K4)]] (0+j)))))&&(K6 [(CK.sl 3)] (d9 (e8 [[(b7.tree 3 P.I8 P.K2)],[(.tree 3 P.K3 P.K4)]] (0+j)) 0)))=true:=by
    rcases hcase with rfl | rfl
    ·exact⟨X,hX,oX,lX,rfl⟩
    ·exact⟨Y,hY,oY,lY,rfl⟩
   simp only[N0,S1,Int.toNat_natCast,hw,hZ,oZ,rZ,tc3 Z _ lZ,tc4 Z _ lZ,Ud9 Z _ lZ,Vd0 Z _ lZ]
   rw[btD (show (j:Int) < 2 by omega),bt (f7 hj)]
   rw[show ((tc2 Z ⟨P.d6,P.b8,P.d8⟩).1 != (tc2 Z ⟨P.d6,P.b8,P.d8⟩).1)=false by simp,show (!(tc2 Z ⟨P.d6,P.b8,P.d8⟩).2==(tc2 Z ⟨P.d6,P.b8,P.d8⟩).2)=false by simp]
   rfl)
  (by simp only[N0,S1];rw[bfD (by show ¬ ((2:Nat):Int) < 2;omega)]) 0 (Nat.zero_le _)
 rw[show (⟨0⟩:A8)=⟨((0:Nat):Int)⟩ from rfl,h]
 rfl
noncomputable abbrev Kb4 (a0 a1 b0 b1 c0 c1 d0 d1 e0:List V3):List (List b7):=[[(eL tV a0),(eL tV a1)],[(eL tV b0),(eL tV b1)],[(eL tV c0),(eL tV c1)],[(eL tV d0),(eL tV d1)],[(eL tV e0),(.v (.slice none 0 0))]]
theorem xd9 (bs : Bool) (z : V3) (a0 a1 b0 b1 c0 c1 d0 d1 e0 : List V3) (hl : a0.length ≤ 1000000 ∧ a1.length ≤ 1000000 ∧ b0.length ≤ 1000000 ∧ b1.length ≤ 1000000 ∧ c0.length ≤ 1000000 ∧ c1.length ≤ 1000000 ∧ d0.length ≤ 1000000 ∧ d1.length ≤ 1000000 ∧ e0.length ≤ 1000000) :
  (lp (N1 ⟨bs,z.x,z.y,z.z⟩) ⟨0,a0,a1,b0,b1,c0,c1,d0,d1,e0⟩).1=2:=by
 obtain⟨la0,la1,lb0,lb1,lc0,lc1,ld0,ld1,le0⟩:=hl
 have h:=Wa1 (step:=N1 ⟨bs,z.x,z.y,z.z⟩) (mk:=fun j=>(⟨(j:Int),a0,a1,b0,b1,c0,c1,d0,d1,e0⟩:A9)) (c:=fun _=>false) (u:=1) (fin:=2) tI [0,0,0,0,0] (by simp)
  (fun j hj=>by
   have hj:j < 5:=hj
   have hw:W ((j:Int)+1)=((j+1:Nat):Int):=o6 hj (by omega)
   have hcase:j=0∨j=1∨j=2∨j=3∨j=4:=by omega
   obtain ⟨X, Y, hX, hY, oX, oY, lX, lY, rX⟩ : ∃ X Y : List V3, lsL tV (toN (hdA (d9 (e8 (Kb4 a0 a1 b0 b1 c0 c1 d0 d1 e0) (0 + j)) 0))) (toG (hdA (d9 (e8 (Kb4 a0 a1 b0 b1 c0 c1 d0 d1 e0) (0 + j)) 0))) = X ∧
     lsL tV (toN (hdA (tlA (d9 (e8 (Kb4 a0 a1 b0 b1 c0 c1 d0 d1 e0) (0+j)) 0)))) (toG (hdA (tlA (d9 (e8 (Kb4 a0 a1 b0 b1 c0 c1 d0 d1 e0) (0+j)) 0))))=Y ∧
     okL tV (toN (hdA (d9 (e8 (Kb4 a0 a1 b0 b1 c0 c1 d0 d1 e0) (0+j)) 0))) (toG (hdA (d9 (e8 (Kb4 a0 a1 b0 b1 c0 c1 d0 d1 e0) (0+j)) 0)))=true ∧
     okL tV (toN (hdA (tlA (d9 (e8 (Kb4 a0 a1 b0 b1 c0 c1 d0 d1 e0) (0+j)) 0)))) (toG (hdA (tlA (d9 (e8 (Kb4 a0 a1 b0 b1 c0 c1 d0 d1 e0) (0+j)) 0))))=true ∧
     X.length≤1000000∧Y.length≤1000000 ∧
     (((Nat.blt (0+j) (len (Kb4 a0 a1 b0 b1 c0 c1 d0 d1 e0)))&&(Nat.ble (0+2) (len (e8 (Kb4 a0 a1 b0 b1 c0 c1 d0 d1 e0) (0+j)))))&&(K6 [(CK.sl 3),(CK.sl 3)] (d9 (e8 (Kb4 a0 a1 b0 b1 c0 c1 d0 d1 e0) (0+j)) 0)))=true:=by
    rcases hcase with rfl | rfl | rfl | rfl | rfl
    ·exact⟨a0,a1,j8 tV a0,j8 tV a1,N6 tV a0,N6 tV a1,la0,la1,rfl⟩
    ·exact⟨b0,b1,j8 tV b0,j8 tV b1,N6 tV b0,N6 tV b1,lb0,lb1,rfl⟩
    ·exact⟨c0,c1,j8 tV c0,j8 tV c1,N6 tV c0,N6 tV c1,lc0,lc1,rfl⟩
    ·exact⟨d0,d1,j8 tV d0,j8 tV d1,N6 tV d0,N6 tV d1,ld0,ld1,rfl⟩
    ·exact⟨e0,[],j8 tV e0,rfl,N6 tV e0,rfl,le0,by simp,rfl⟩
   have hS:=Ae0 X Y
   simp only[N1,S3,Int.toNat_natCast,hw,j8,j7,N6,hX,hY,oX,oY,rX,Qe2,Qe3,Ye9,Ze0,ce0 _ (show (Ab3 X Y).1.length≤1000000000 by omega),ce1 _ (show (Ab3 X Y).1.length≤1000000000 by omega)]
   rw[btD (show (j:Int) < 5 by omega),bt (f7 hj)]
   rw[xd8 _ X Y hX hY oX oY lX lY,show ((Ab3 X Y).2 != (Ab3 X Y).2)=false by simp]
   rfl)
  (by simp only[N1,S3];rw[bfD (by show ¬ ((5:Nat):Int) < 5;omega)]) 0 (Nat.zero_le _)
 rw[show (⟨0,a0,a1,b0,b1,c0,c1,d0,d1,e0⟩:A9)=⟨((0:Nat):Int),a0,a1,b0,b1,c0,c1,d0,d1,e0⟩ from rfl,h]
 rfl
theorem Wc7 (x:LL) (y:List V3) (z:V3):ja7 x y z=some (b true,[]):=by
 have hp:=Hd6 x.u
 have hm:bb3 (x.v.length:Int) 5=(x.v.length:Int) % 5:=Pe6 _ (by omega) (by omega)
 obtain⟨m,hm2⟩:∃ m:Nat,(x.v.length:Int) % 5=(m:Int):=⟨((x.v.length:Int) % 5).toNat,by omega⟩
 have hm5:m < 5:=by omega
 have hw:W (1+(m:Int))=((m+1:Nat):Int):=by rw[ka8 (by omega) (by omega)];omega
 have h7:=Me8 x.v (m+1) (by omega) (by omega)
 have l7:(xb3 x.v ((m+1:Nat):Int)).length=m+1:=h7.p
 have g7:xb4 x.v ((m+1:Nat):Int)=true:=h7.g
 have e6:∀ l:List V3,na8 l 6=l.take 6:=fun l=>Vd1 l 6
 have f6:∀ l:List V3,fa5 l 6=true:=fun l=>Vd2 l 6
 have lt6:∀ l:List V3,(l.take 6).length≤1000000:=fun l=>by have:=List.length_take_le 6 l;omega
 have hb1:Nat.ble 1 (N9 x.u).length=true:=by rw[Nat.ble_eq];omega
 unfold ja7
 simp only[j8,N6,j7,Vd4,Vd3,te9,hb1,if2,e6,f6,Pe7 _ (show (0:Int) < 5 by omega) (show (5:Int)≤4000000000000000000 by omega),hm,hm2,hw,g7]
 rw[xd9 _ z _ _ _ _ _ _ _ _ _ ⟨lt6 _,by omega,by omega,lt6 _,lt6 _,lt6 _,lt6 _,by omega,lt6 _⟩]
 rfl
theorem Vd5 (x:LL) (y:List V3) (z:V3):ua1 x y z=true:=by unfold ua1;rw[Wc7];rfl
theorem Vd6 (x:LL) (y:List V3) (z:V3):ua2 x y z=true:=by unfold ua2;rw[Wc7];rfl
end Go.Ev.Ce
namespace Go.Ev.Ce
open Go Go.Ev Go.Ev.L Go.ChangeShapes Go.RowKit
theorem Md4 (n:Nat) (g:Nat→Nat→Int):(tLs tI).ok [.tree 1 n fun j=>fa4 .i64 1 (g j)]=true:=by
 show Bool.and (Nat.beq 1 1) (okL tI n fun j=>fa4 .i64 1 (g j))=true
 have h:okL tI n (fun j=>fa4 .i64 1 (g j))=true:=Va2 tI (f:=fun k=>g k 0) fun _ _=>rfl
 rw[h];rfl
theorem Ae1 (m n:Nat) (g j:Nat→Nat→Int):∃ a,Rdg (K9 tZ) (.agg [.tree 1 m fun i=>fa4 .i64 1 (g i),.tree 1 n fun i=>fa4 .i64 1 (j i)]) a:=be6 tZ (by
 show Bool.and _ _=true
 rw[Md4,Md4];rfl)
end Go.Ev.Ce
