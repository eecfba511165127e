/- Own work: a part of the proof. -/
import Derived.Test.YtekgjjgbdcgldaaGreatEvOS7
import Derived.Test.YtekgjjgbdcgldaaGreatEvJ0
import Derived.KernelRfl
import Derived.Test.YtekgjjgbdcgldaaGreatEvSp2
set_option linter.unusedVariables false
set_option linter.unusedSimpArgs false
set_option linter.unnecessarySimpa false
set_option linter.unusedSectionVars false
namespace Go.Ev.Ce
open Go Go.Ev Go.Ev.L Go.Proofs
def rch (n e:V3):Int:=(n.x.natAbs:Int)*e.x+(n.y.natAbs:Int)*e.y+(n.z.natAbs:Int)*e.z
def mb7 (e:V3):Bool:=(decide (0≤e.x)&&decide (e.x≤12))&&((decide (0≤e.y)&&decide (e.y≤12))&&(decide (0≤e.z)&&decide (e.z≤12)))
def pq (e:V3) (s:Int) (p:Pln):Pln:=⟨p.n,p.b+s*rch p.n e⟩
def okq (e:V3) (s:Int) (p:Pln):Bool:=okp p&&smb 2097152 (p.b+s*rch p.n e)
def K1 (c:List Pln) (e:V3) (s:Int):List Pln×Bool:=if (mb7 e&&c.all (okq e s))=true then (c.map (pq e s),true) else ([],false)
structure B12 (e:V3):Prop where
 x1:0≤e.x
 x2:e.x≤12
 y1:0≤e.y
 y2:e.y≤12
 z1:0≤e.z
 z2:e.z≤12
theorem vc1 (e:V3):mb7 e=true↔B12 e:=by
 unfold mb7
 simp only[Bool.and_eq_true,decide_eq_true_eq]
 exact⟨fun⟨⟨a,b⟩,⟨c,d⟩,f,g⟩=>⟨a,b,c,d,f,g⟩,fun⟨a,b,c,d,f,g⟩=>⟨⟨a,b⟩,⟨c,d⟩,f,g⟩⟩
theorem lc0 {n e:Int} (hn:Sm 4608 n) (h0:0≤e) (h1:e≤12):0≤(n.natAbs:Int)*e∧(n.natAbs:Int)*e≤55296:=by
 have a:(n.natAbs:Int)≤4608:=by have:=hn.1;have:=hn.2;omega
 refine⟨Int.mul_nonneg (by omega) h0,?_⟩
 have:=Int.mul_le_mul a h1 h0 (by omega)
 omega
theorem ce5 {p:Pln} (hp:okp p=true) {e:V3} (he:B12 e):0≤rch p.n e∧rch p.n e≤165888:=by
 have hb:=qb4 hp
 have h1:=lc0 ⟨hb.x1,hb.x2⟩ he.x1 he.x2
 have h2:=lc0 ⟨hb.y1,hb.y2⟩ he.y1 he.y2
 have h3:=lc0 ⟨hb.z1,hb.z2⟩ he.z1 he.z2
 unfold rch
 omega
theorem smL {n x:Int} (h1:-n≤x) (h2:x≤n) (hn:n≤1000000000000000000):Sm 1000000000000000000 x:=⟨by omega,by omega⟩
theorem Sd7 {p:Pln} (hp:okp p=true) {e:V3} (he:B12 e):Ca1 p.n e=rch p.n e:=by
 have hb:=qb4 hp
 have h1:=lc0 ⟨hb.x1,hb.x2⟩ he.x1 he.x2
 have h2:=lc0 ⟨hb.y1,hb.y2⟩ he.y1 he.y2
 have h3:=lc0 ⟨hb.z1,hb.z2⟩ he.z1 he.z2
 unfold Ca1
 rw[mb3 (smL hb.x1 hb.x2 (by omega)),mb3 (smL hb.y1 hb.y2 (by omega)),mb3 (smL hb.z1 hb.z2 (by omega))]
 simp only
 rw[ga3 (n:=(p.n.x.natAbs:Int)*e.x) (by omega) (by omega),ga3 (n:=(p.n.y.natAbs:Int)*e.y) (by omega) (by omega),ga3 (n:=(p.n.z.natAbs:Int)*e.z) (by omega) (by omega),
  ga3 (n:=(p.n.x.natAbs:Int)*e.x+(p.n.y.natAbs:Int)*e.y) (by omega) (by omega),ga3 (by omega) (by omega)]
 rfl
theorem Ie3 {p:Pln} (hp:okp p=true) {e:V3} (he:B12 e):Ha3 p.n e=some (i (rch p.n e),[]):=by
 have hb:=qb4 hp
 have h1:=lc0 ⟨hb.x1,hb.x2⟩ he.x1 he.x2
 have h2:=lc0 ⟨hb.y1,hb.y2⟩ he.y1 he.y2
 have h3:=lc0 ⟨hb.z1,hb.z2⟩ he.z1 he.z2
 have s1:=smL hb.x1 hb.x2 (by omega);have s2:=smL hb.y1 hb.y2 (by omega);have s3:=smL hb.z1 hb.z2 (by omega)
 unfold Ha3
 simp only[Ha1 s1,Ha1 s2,Ha1 s3,Ha2 s1,Ha2 s2,Ha2 s3]
 rw[ga3 (n:=(p.n.x.natAbs:Int)*e.x) (by omega) (by omega),ga3 (n:=(p.n.y.natAbs:Int)*e.y) (by omega) (by omega),ga3 (n:=(p.n.z.natAbs:Int)*e.z) (by omega) (by omega),
  ga3 (n:=(p.n.x.natAbs:Int)*e.x+(p.n.y.natAbs:Int)*e.y) (by omega) (by omega),ga3 (by omega) (by omega)]
 rfl
theorem lc1 (n e:V3):Ua3 n e=true:=by
 have h:∀ x:Int,E3 x=true:=fun x=>by
  unfold E3 ka3
  cases decide (x < 0)<;>rfl
 unfold Ua3 Ha3
 simp only[h]
 rfl
theorem Ie4 {p:Pln} (hp:okp p=true) {e:V3} (he:B12 e):wa0 p.n e=rch p.n e:=by unfold wa0;rw[Ie3 hp he];rfl
noncomputable def ad2 (p:Pln) (y:Int):Pln×Bool:=if (okp p&&(smb 4194304 y&&smb 2097152 (W (p.b+y))))=true then (⟨p.n,W (p.b+y)⟩,true) else (⟨⟨0,0,0⟩,0⟩,false)
theorem Ie5 (p:Pln) (y:Int):∃ x,La5 p y=some x∧(two r1P r1B).rd x=some (ad2 p y):=by
 have e1:J4 4194304 [y]=smb 4194304 y:=by rw[ub4 _ _ (by omega) (by simp)];simp
 have e2:J5 4194304 [y]=true:=ub5 _ _ (by omega) (by simp)
 have e3:J4 2097152 [W (p.b+y)]=smb 2097152 (W (p.b+y)):=by rw[ub4 _ _ (by omega) (by simp)];simp
 have e4:J5 2097152 [W (p.b+y)]=true:=ub5 _ _ (by omega) (by simp)
 unfold La5 ad2
 simp only[he3,he4,e1,e2,e3,e4]
 cases okp p
 ·exact⟨_,rfl,rfl⟩
 ·cases smb 4194304 y
  ·exact⟨_,rfl,rfl⟩
  ·cases smb 2097152 (W (p.b+y))<;>exact⟨_,rfl,rfl⟩
theorem Cd6 (p:Pln) (y:Int):ma1 p y=ad2 p y:=by
 obtain⟨x,h,k⟩:=Ie5 p y
 unfold ma1;rw[h];exact ea7 _ k
theorem Cd7 (p:Pln) (y:Int):ma2 p y=true:=by
 obtain⟨x,h,k⟩:=Ie5 p y
 unfold ma2;rw[h];exact pa0 _ k
theorem cf3 {p:Pln} (hp:okp p=true) (b':Int):okp ⟨p.n,b'⟩=smb 2097152 b':=by
 unfold okp at hp ⊢
 rw[Bool.and_eq_true,Bool.and_eq_true] at hp
 rw[hp.1,hp.2.1]
 simp
theorem ke1 (p:Pln) (y:Int):∃ x,ib7 p y=some x∧(two r1P r1B).rd x=some (ad2 p y):=by
 unfold ib7 ad2
 simp only[Od7,Wc6]
 cases hp:okp p
 ·exact⟨_,rfl,rfl⟩
 ·rw[cf3 hp]
  have hs:smb 4194304 y=(!decide (y < -4194304)&&!decide (y > 4194304)):=rfl
  rw[hs]
  cases decide (y < -4194304)
  ·cases decide (y > 4194304)
   ·cases smb 2097152 (W (p.b+y))<;>exact⟨_,rfl,rfl⟩
   ·exact⟨_,rfl,rfl⟩
  ·exact⟨_,rfl,rfl⟩
theorem ke2 (p:Pln) (y:Int):ib8 p y=ad2 p y:=by
 obtain⟨x,h,k⟩:=ke1 p y
 unfold ib8;rw[h];exact ea7 _ k
theorem ke3 (p:Pln) (y:Int):ib9 p y=true:=by
 obtain⟨x,h,k⟩:=ke1 p y
 unfold ib9;rw[h];exact pa0 _ k
theorem ce6 {e:V3} (he:B12 e) {s y:Int} (hs:s=1∨s=-1) {p:Pln} (hy:okp p=true→y=s*rch p.n e):ad2 p y=if okq e s p=true then (pq e s p,true) else (⟨⟨0,0,0⟩,0⟩,false):=by
 unfold ad2 okq pq
 cases hp:okp p
 ·rfl
 ·have hr:=ce5 hp he
  have hb:=qb4 hp
  have e1:=hy hp
  subst e1
  have hm:-165888≤s*rch p.n e∧s*rch p.n e≤165888:=by
   rcases hs with rfl | rfl<;>omega
  have h1:smb 4194304 (s*rch p.n e)=true:=(ab3 _ _).2 ⟨by omega,by omega⟩
  have hb1:=hb.b1;have hb2:=hb.b2
  rw[h1,ga3 (by omega) (by omega)]
  rfl
theorem Sd8 (e:V3):ga8 e=some (b (mb7 e),[]):=by
 have hs:lp (F5 ⟨e.x,e.y,e.z⟩) ⟨0⟩=(if mb7 e then 2 else 1,(lp (F5 ⟨e.x,e.y,e.z⟩) ⟨0⟩).2):=by
  refine Prod.ext ?_ rfl
  have h:=Wa4 (step:=F5 ⟨e.x,e.y,e.z⟩) (mk:=fun j=>(⟨(j:Int)⟩:y9)) (c:=fun n=>decide (n < 0)||decide (n > 12)) (u:=1) (fin:=2) tI [e.x,e.y,e.z] (by simp)
   (fun j hj=>by
    have hj:j < 3:=hj
    have hc:j=0∨j=1∨j=2:=by omega
    have hw:W ((j:Int)+1)=((j+1:Nat):Int):=o5 hj (by omega)
    simp only[F5,R2,Int.toNat_natCast,hw]
    rw[btD (show (j:Int) < 3 by omega),bt (f8 hj)]
    rcases hc with rfl | rfl | rfl
    ·show sl true (sl (decide (e.x < 0)) _ (sl (decide (e.x > 12)) _ _)) _=sl (decide (e.x < 0)||decide (e.x > 12)) _ _
     cases decide (e.x < 0)<;>cases decide (e.x > 12)<;>rfl
    ·show sl true (sl (decide (e.y < 0)) _ (sl (decide (e.y > 12)) _ _)) _=sl (decide (e.y < 0)||decide (e.y > 12)) _ _
     cases decide (e.y < 0)<;>cases decide (e.y > 12)<;>rfl
    ·show sl true (sl (decide (e.z < 0)) _ (sl (decide (e.z > 12)) _ _)) _=sl (decide (e.z < 0)||decide (e.z > 12)) _ _
     cases decide (e.z < 0)<;>cases decide (e.z > 12)<;>rfl)
   (by simp only[F5,R2];rw[bfD (by show ¬ ((3:Nat):Int) < 3;omega)]) 0 (Nat.zero_le _)
  rw[List.drop_zero] at h
  rw[show (⟨0⟩:y9)=⟨((0:Nat):Int)⟩ from rfl,h]
  have hq:∀ n:Int,(decide (n < 0)||decide (n > 12))=!(decide (0≤n)&&decide (n≤12)):=fun n=>by
   by_cases h1:n < 0<;>by_cases h2:n > 12<;>simp[h1,h2]<;>omega
  simp only[List.any_cons,List.any_nil,Bool.or_false,hq]
  unfold mb7
  cases (decide (0≤e.x)&&decide (e.x≤12))<;>cases (decide (0≤e.y)&&decide (e.y≤12))<;>cases (decide (0≤e.z)&&decide (e.z≤12))<;>rfl
 unfold ga8
 rw[hs]
 cases mb7 e<;>rfl
theorem Sd9 (e:V3):ga9 e=mb7 e:=by unfold ga9;rw[Sd8];rfl
theorem Td0 (e:V3):ha0 e=true:=by unfold ha0;rw[Sd8];rfl
theorem Td1 (e:V3):Ua4 e=some (b (mb7 e),[]):=by
 unfold Ua4 mb7
 show sl (decide (0≤e.x)) (sl (decide (e.x≤12)) (sl (decide (0≤e.y)) (sl (decide (e.y≤12)) (sl (decide (0≤e.z)) _ _) _) _) _) _=_
 cases decide (0≤e.x)<;>cases decide (e.x≤12)<;>cases decide (0≤e.y)<;>cases decide (e.y≤12)<;>cases decide (0≤e.z)<;>cases decide (e.z≤12)<;>rfl
theorem Ie6 (e:V3):mb5 e=mb7 e:=by unfold mb5;rw[Td1];rfl
theorem Ie7 (e:V3):mb6 e=true:=by unfold mb6;rw[Td1];rfl
end Go.Ev.Ce
namespace Go.Ev.Ce
open Go Go.Ev Go.Ev.L Go.Proofs
theorem Ie8 {α:Type} (t:Ty α) {l:List α} {j:Nat} {c:α→Bool} (h:j < l.length):(l.take (j+1)).all c=((l.take j).all c&&c (gL t l j)):=by
 rw[ab4 t h,List.all_append,List.all_cons,List.all_nil,Bool.and_true]
theorem lf9 {α:Type} (t:Ty α) {l:List α} {j:Nat} {c:α→Bool} (h:j < l.length) (hc:c (gL t l j)=false):l.all c=false:=by
 rw[List.all_eq_false]
 exact⟨_,Uc5 t h,by rw[hc];simp⟩
section
variable (c:List Pln) (e:V3) (s:Int)
structure PI (j:Nat) (o:List Pln):Prop where
 le:j≤c.length
 o:o=(c.take j).map (pq e s)
 a:(c.take j).all (okq e s)=true
def PE {σ:Type} (mk:Nat→List Pln→σ) (t:Nat) (st:σ):Prop:=(t=1∧c.all (okq e s)=false)∨(c.all (okq e s)=true∧t=phP (c.map (pq e s))+2∧∃ j,st=mk j (c.map (pq e s)))
theorem vc2 {σ : Type} {step : σ → Stp σ} {mk : Nat → List Pln → σ} (hc : c.length ≤ 1000000)
  (h:∀ j o,j < c.length→o.length≤1000000→step (mk j o)=if okq e s (gL tP c j)=true then .next (mk (j+1) (o++[pq e s (gL tP c j)])) else .exit 1)
  (hf:∀ o,step (mk c.length o)=.exit (phP o+2)):∃ t st,lp step (mk 0 [])=(t,st)∧PE c e s mk t st :=
 U0 (step:=step) (mk:=mk) c.length (PI c e s) (PE c e s mk) (by omega)
  (fun j o hj hi=>by
   have hlen:o.length≤1000000:=by
    rw[hi.o,List.length_map]
    have:=List.length_take_le j c
    omega
   rw[h j o hj hlen]
   cases hk:okq e s (gL tP c j) with
   | true=>exact .nx ⟨_,rfl,by omega,by rw[ab4 tP hj,List.map_append,← hi.o];rfl,by rw[Ie8 tP hj,hi.a,hk];rfl⟩
   | false=>exact .ex (.inl ⟨rfl,lf9 tP hj hk⟩))
  (fun j o hj hi=>by
   have hje:j=c.length:=by have:=hi.le;omega
   subst hje
   have ho:=hi.o
   have ha:=hi.a
   rw[List.take_length] at ho ha
   subst ho
   exact⟨_,hf _,.inr ⟨ha,rfl,_,rfl⟩⟩) 0 [] ⟨Nat.zero_le _,by simp,by simp⟩
end
theorem mf0 (O:List Pln) (p:Pln):app (bL tP O) [[i p.n.x,i p.n.y,i p.n.z,i p.b]]=bL tP (O++[p]):=sa7 tP O [p]
theorem vc3 {σ : Type} {e : V3} {s : Int} {p : Pln} (k : Pln → Stp σ) :
  sl (!(if okq e s p=true then (pq e s p,true) else ((⟨⟨0,0,0⟩,0⟩:Pln),false)).2) (.exit 1) (k (if okq e s p=true then (pq e s p,true) else ((⟨⟨0,0,0⟩,0⟩:Pln),false)).1)=if okq e s p=true then k (pq e s p) else .exit 1:=by
 cases okq e s p<;>rfl
theorem Cd8 (c:List Pln) {e:V3} (he:B12 e) (hc:c.length≤1000000):∃ t st,lp (ya3 ⟨e.x,e.y,e.z,c,(c.length:Int)⟩) ⟨0,0,0,[]⟩=(t,st)∧PE c e 1 (fun j o=>(⟨phP o,(j:Int),o.length,bL tP o⟩:n8)) t st:=by
 refine vc2 c e 1 (step:=ya3 ⟨e.x,e.y,e.z,c,(c.length:Int)⟩) (mk:=fun j o=>(⟨phP o,(j:Int),o.length,bL tP o⟩:n8)) hc (fun j o hj ho=>?_) (fun o=>?_)
 ·have hn:=o5 hj (show c.length≤4611686018427387904 by omega)
  have hb:=f8 hj
  have hp:ad2 (gL tP c j) (oa9 ⟨e.x,e.y,e.z⟩ (gL tP c j))=if okq e 1 (gL tP c j)=true then (pq e 1 (gL tP c j),true) else (⟨⟨0,0,0⟩,0⟩,false):=ce6 he (.inl rfl) fun hp=>by
   rw[Int.one_mul];exact Sd7 hp he
  cases o with
  | nil =>
   show O4 Stp.next Stp.exit Stp.fail _ _=_
   simp only[O4,Int.toNat_natCast,Cd6,Cd7,hp,hn,hb]
   rw[btD (k8 hj)]
   exact vc3 (fun p=>Stp.next (⟨1,((j+1:Nat):Int),1,[[i p.n.x,i p.n.y,i p.n.z,i p.b]]⟩:n8))
  | cons q o =>
   have rr:(Nat.beq (q::o).length (len (bL tP (q::o)))&&Nat.ble (((q::o).length+1)*32) room)=true:=bb4 rfl (by omega)
   show O5 Stp.next Stp.exit Stp.fail _ _=_
   simp only[O5,Int.toNat_natCast,Cd6,Cd7,hp,hn,hb,rr,mf0]
   rw[btD (k8 hj)]
   refine (vc3 (fun p=>Stp.next (⟨1,((j+1:Nat):Int),(q::o).length+1,bL tP (q::o++[p])⟩:n8))).trans ?_
   cases okq e 1 (gL tP c j)
   ·rfl
   ·show Stp.next (⟨1,_,(q::o).length+1,_⟩:n8)=Stp.next (⟨1,_,(q::o++[_]).length,_⟩:n8)
    rw[List.length_append]
    rfl
 ·cases o with
  | nil =>
   show O4 Stp.next Stp.exit Stp.fail _ _=_
   simp only[O4]
   rw[bfD (p7 (Nat.lt_irrefl _))]
   rfl
  | cons q o =>
   show O5 Stp.next Stp.exit Stp.fail _ _=_
   simp only[O5]
   rw[bfD (p7 (Nat.lt_irrefl _))]
   rfl
theorem Cd9 (c:List Pln) {e:V3} (he:B12 e) (hc:c.length≤1000000):∃ t st,lp (ya4 ⟨e.x,e.y,e.z,c,(c.length:Int)⟩) ⟨0,0,0,[]⟩=(t,st)∧PE c e (-1) (fun j o=>(⟨phP o,(j:Int),o.length,bL tP o⟩:n9)) t st:=by
 refine vc2 c e (-1) (step:=ya4 ⟨e.x,e.y,e.z,c,(c.length:Int)⟩) (mk:=fun j o=>(⟨phP o,(j:Int),o.length,bL tP o⟩:n9)) hc (fun j o hj ho=>?_) (fun o=>?_)
 ·have hn:=o5 hj (show c.length≤4611686018427387904 by omega)
  have hb:=f8 hj
  have hp:ad2 (gL tP c j) (La6 ⟨e.x,e.y,e.z⟩ (gL tP c j))=if okq e (-1) (gL tP c j)=true then (pq e (-1) (gL tP c j),true) else (⟨⟨0,0,0⟩,0⟩,false):=ce6 he (.inr rfl) fun hp=>by
   show W (0 - Ca1 (gL tP c j).n e)=_
   have:=ce5 hp he
   rw[Sd7 hp he,ga3 (by omega) (by omega)]
   omega
  cases o with
  | nil =>
   show O6 Stp.next Stp.exit Stp.fail _ _=_
   simp only[O6,Int.toNat_natCast,Cd6,Cd7,hp,hn,hb]
   rw[btD (k8 hj)]
   exact vc3 (fun p=>Stp.next (⟨1,((j+1:Nat):Int),1,[[i p.n.x,i p.n.y,i p.n.z,i p.b]]⟩:n9))
  | cons q o =>
   have rr:(Nat.beq (q::o).length (len (bL tP (q::o)))&&Nat.ble (((q::o).length+1)*32) room)=true:=bb4 rfl (by omega)
   show O7 Stp.next Stp.exit Stp.fail _ _=_
   simp only[O7,Int.toNat_natCast,Cd6,Cd7,hp,hn,hb,rr,mf0]
   rw[btD (k8 hj)]
   refine (vc3 (fun p=>Stp.next (⟨1,((j+1:Nat):Int),(q::o).length+1,bL tP (q::o++[p])⟩:n9))).trans ?_
   cases okq e (-1) (gL tP c j)
   ·rfl
   ·show Stp.next (⟨1,_,(q::o).length+1,_⟩:n9)=Stp.next (⟨1,_,(q::o++[_]).length,_⟩:n9)
    rw[List.length_append]
    rfl
 ·cases o with
  | nil =>
   show O6 Stp.next Stp.exit Stp.fail _ _=_
   simp only[O6]
   rw[bfD (p7 (Nat.lt_irrefl _))]
   rfl
  | cons q o =>
   show O7 Stp.next Stp.exit Stp.fail _ _=_
   simp only[O7]
   rw[bfD (p7 (Nat.lt_irrefl _))]
   rfl
theorem Dd0 (c:List Pln) {e:V3} (he:B12 e) {s:Int} (hs:s=1∨s=-1) (hc:c.length≤1000000):∃ t st,lp (Ea6 ⟨c,s,e.x,e.y,e.z⟩) ⟨0,0,0,[]⟩=(t,st)∧PE c e s (fun j o=>(⟨phP o,(j:Int),o.length,bL tP o⟩:o9)) t st:=by
 refine vc2 c e s (step:=Ea6 ⟨c,s,e.x,e.y,e.z⟩) (mk:=fun j o=>(⟨phP o,(j:Int),o.length,bL tP o⟩:o9)) hc (fun j o hj ho=>?_) (fun o=>?_)
 ·have hn:=o5 hj (show c.length≤4611686018427387904 by omega)
  have hb:=f8 hj
  have hp:ad2 (gL tP c j) (W (s*wa0 (gL tP c j).n ⟨e.x,e.y,e.z⟩))=if okq e s (gL tP c j)=true then (pq e s (gL tP c j),true) else (⟨⟨0,0,0⟩,0⟩,false):=ce6 he hs fun hp=>by
   have hr:=ce5 hp he
   have e1:wa0 (gL tP c j).n ⟨e.x,e.y,e.z⟩=rch (gL tP c j).n e:=Ie4 hp he
   rw[e1]
   rcases hs with rfl | rfl<;>rw[ga3 (by omega) (by omega)]
  cases o with
  | nil =>
   show S8 Stp.next Stp.exit Stp.fail _ _=_
   simp only[S8,Int.toNat_natCast,ke2,ke3,lc1,hp,hn,hb]
   rw[btD (k8 hj)]
   exact vc3 (fun p=>Stp.next (⟨1,((j+1:Nat):Int),1,[[i p.n.x,i p.n.y,i p.n.z,i p.b]]⟩:o9))
  | cons q o =>
   have rr:(Nat.beq (q::o).length (len (bL tP (q::o)))&&Nat.ble (((q::o).length+1)*32) room)=true:=bb4 rfl (by omega)
   show S9 Stp.next Stp.exit Stp.fail _ _=_
   simp only[S9,Int.toNat_natCast,ke2,ke3,lc1,hp,hn,hb,rr,mf0]
   rw[btD (k8 hj)]
   refine (vc3 (fun p=>Stp.next (⟨1,((j+1:Nat):Int),(q::o).length+1,bL tP (q::o++[p])⟩:o9))).trans ?_
   cases okq e s (gL tP c j)
   ·rfl
   ·show Stp.next (⟨1,_,(q::o).length+1,_⟩:o9)=Stp.next (⟨1,_,(q::o++[_]).length,_⟩:o9)
    rw[List.length_append]
    rfl
 ·cases o with
  | nil =>
   show S8 Stp.next Stp.exit Stp.fail _ _=_
   simp only[S8]
   rw[bfD (p7 (Nat.lt_irrefl _))]
   rfl
  | cons q o =>
   show S9 Stp.next Stp.exit Stp.fail _ _=_
   simp only[S9]
   rw[bfD (p7 (Nat.lt_irrefl _))]
   rfl
theorem Dd1 (l:List Pln):(two (r1L tP) r1B).rd (.tup [.sl 0 0 l.length 0,b true],[⟨73,4,bL tP l,true,false,0⟩])=some (l,true):=by
 have h:(r1L tP).rd [⟨73,4,bL tP l,true,false,0⟩] (.sl 0 0 l.length 0)=some l:=by
  show Bool.rec (motive:=fun _=>Option (List Pln)) none (some (slR tP (bL tP l) 0 l.length)) (Bool.and true (okS tP (bL tP l) 0 l.length))=_
  rw[cb9,nb5]
  rfl
 simp only[two,h]
 rfl
theorem Dd2 (l:List Pln) (x:Bool):(two (r1L tP) r1B).rd (.tup [eL tP l,b x],[])=some (l,x):=by
 have h:(r1L tP).rd [] (eL tP l)=some l:=by
  have:=he6 tP l
  exact this
 simp only[two,h]
 rfl
theorem Ie9 (c:List Pln) (e:V3) (hc:c.length≤1000000):∃ x,ib4 c e=some x∧(two (r1L tP) r1B).rd x=some (K1 c e 1):=by
 unfold ib4 qb2 qa6 K1
 simp only[l5,j7,Sd9,Td0]
 cases hb:mb7 e with
 | false=>exact⟨_,rfl,rfl⟩
 | true =>
  obtain⟨t,st,h,hE⟩:=Cd8 c ((vc1 e).1 hb) hc
  rw[h]
  rcases hE with⟨rfl,ha⟩ | ⟨ha,rfl,j,rfl⟩
  ·rw[ha]
   exact⟨_,rfl,rfl⟩
  ·rw[ha]
   cases hm:c.map (pq e 1) with
   | nil=>exact⟨_,rfl,rfl⟩
   | cons q o=>exact⟨_,rfl,Dd1 (q::o)⟩
theorem Td2 (c:List Pln) (e:V3) (hc:c.length≤1000000):∃ x,La7 c e=some x∧(two (r1L tP) r1B).rd x=some (K1 c e (-1)):=by
 unfold La7 qb3 qa7 K1
 simp only[l5,j7,Sd9,Td0]
 cases hb:mb7 e with
 | false=>exact⟨_,rfl,rfl⟩
 | true =>
  obtain⟨t,st,h,hE⟩:=Cd9 c ((vc1 e).1 hb) hc
  rw[h]
  rcases hE with⟨rfl,ha⟩ | ⟨ha,rfl,j,rfl⟩
  ·rw[ha]
   exact⟨_,rfl,rfl⟩
  ·rw[ha]
   cases hm:c.map (pq e (-1)) with
   | nil=>exact⟨_,rfl,rfl⟩
   | cons q o=>exact⟨_,rfl,Dd1 (q::o)⟩
theorem rd7 (c:List Pln) (e:V3) {s:Int} (hs:s=1∨s=-1) (hc:c.length≤1000000):∃ x,Ma1 c e s=some x∧(two (r1L tP) r1B).rd x=some (K1 c e s):=by
 unfold Ma1 K1
 simp only[l5,j7,Ie6,Ie7]
 cases hb:mb7 e with
 | false=>exact⟨_,rfl,rfl⟩
 | true =>
  obtain⟨t,st,h,hE⟩:=Dd0 c ((vc1 e).1 hb) hs hc
  rw[h]
  rcases hE with⟨rfl,ha⟩ | ⟨ha,rfl,j,rfl⟩
  ·rw[ha]
   exact⟨_,rfl,rfl⟩
  ·rw[ha]
   cases hm:c.map (pq e s) with
   | nil=>exact⟨_,rfl,rfl⟩
   | cons q o=>exact⟨_,rfl,Dd1 (q::o)⟩
section
variable (c:List Pln) (e:V3) (hc:c.length≤1000000)
include hc
theorem Dd3:Fa2 c e=K1 c e 1:=by obtain⟨x,h,k⟩:=Ie9 c e hc;unfold Fa2;rw[h];exact ea7 _ k
theorem Dd4:Fa3 c e=true:=by obtain⟨x,h,k⟩:=Ie9 c e hc;unfold Fa3;rw[h];exact pa0 _ k
theorem lc2:ma3 c e=K1 c e (-1):=by obtain⟨x,h,k⟩:=Td2 c e hc;unfold ma3;rw[h];exact ea7 _ k
theorem lc3:ma4 c e=true:=by obtain⟨x,h,k⟩:=Td2 c e hc;unfold ma4;rw[h];exact pa0 _ k
theorem rd8 {s:Int} (hs:s=1∨s=-1):Ma2 c e s=K1 c e s:=by obtain⟨x,h,k⟩:=rd7 c e hs hc;unfold Ma2;rw[h];exact ea7 _ k
theorem rd9 {s:Int} (hs:s=1∨s=-1):Ma3 c e s=true:=by obtain⟨x,h,k⟩:=rd7 c e hs hc;unfold Ma3;rw[h];exact pa0 _ k
theorem ke4:jb1 c e=some (.tup [eL tP (K1 c e 1).1,b (K1 c e 1).2],[]):=by
 unfold jb1
 simp only[l5,aa1,rd8 c e hc (.inl rfl),rd9 c e hc (.inl rfl)]
 rfl
theorem sd0:Ma4 c e=some (.tup [eL tP (K1 c e (-1)).1,b (K1 c e (-1)).2],[]):=by
 unfold Ma4
 simp only[l5,aa1,rd8 c e hc (.inr rfl),rd9 c e hc (.inr rfl)]
 rfl
theorem Ve9:Ab7 c e=K1 c e 1:=by unfold Ab7;rw[ke4 c e hc];exact ea7 _ (Dd2 _ _)
theorem We0:Ab8 c e=true:=by unfold Ab8;rw[ke4 c e hc];exact pa0 _ (Dd2 _ _)
theorem se3:ab6 c e=K1 c e (-1):=by unfold ab6;rw[sd0 c e hc];exact ea7 _ (Dd2 _ _)
theorem se4:ab7 c e=true:=by unfold ab7;rw[sd0 c e hc];exact pa0 _ (Dd2 _ _)
end
theorem vc4 (c:List Pln) (e:V3) (s:Int):(K1 c e s).1.length≤c.length:=by
 unfold K1
 split
 ·simp
 ·simp
theorem se5 (c:List Pln) (e:V3) (h:(K1 c e 1).2=true):K1 (K1 c e 1).1 e (-1)=(c,true):=by
 unfold K1 at h
 split at h
 ·rename_i hk
  rw[Bool.and_eq_true] at hk
  have h1:∀ p∈c,okq e 1 p=true:=List.all_eq_true.1 hk.2
  have hq:∀ p:Pln,pq e (-1) (pq e 1 p)=p:=fun p=>by
   show (⟨p.n,p.b+1*rch p.n e+-1*rch p.n e⟩:Pln)=p
   rw[show p.b+1*rch p.n e+-1*rch p.n e=p.b by omega]
  have ha:(c.map (pq e 1)).all (okq e (-1))=true:=by
   rw[List.all_eq_true]
   intro q hq'
   obtain⟨p,hp,rfl⟩:=List.mem_map.1 hq'
   have h2:=h1 p hp
   unfold okq at h2
   rw[Bool.and_eq_true] at h2
   have e1:okp (pq e 1 p)=true:=(cf3 h2.1 _).trans h2.2
   have e2:smb 2097152 ((pq e 1 p).b+-1*rch (pq e 1 p).n e)=true:=by
    show smb 2097152 (p.b+1*rch p.n e+-1*rch p.n e)=true
    rw[show p.b+1*rch p.n e+-1*rch p.n e=p.b by omega,ab3]
    have:=qb4 h2.1
    exact⟨this.b1,this.b2⟩
   unfold okq
   rw[e1,e2]
   rfl
  have e0:K1 c e 1=(c.map (pq e 1),true):=by
   unfold K1
   rw[if_pos (by rw[hk.1,hk.2];rfl)]
  rw[e0]
  unfold K1
  rw[if_pos (by rw[hk.1,ha];rfl),List.map_map]
  have:(c.map (pq e (-1)∘pq e 1))=c:=by
   rw[show (pq e (-1)∘pq e 1)=id from funext hq,List.map_id]
  rw[this]
 ·cases h
end Go.Ev.Ce
namespace Go.Ev.Ce
open Go Go.Ev Go.Ev.L Go.Proofs
theorem Td3 (c : List Pln) (x : V3) (hc : c.length ≤ 1000000) :
  ia1 (K1 c x 1).1 (K1 c x 1).1=true∧ia2 (K1 c x 1).1 (K1 c x 1).1=true∧ia1 (K1 c x (-1)).1 (K1 c x (-1)).1=true∧ia2 (K1 c x (-1)).1 (K1 c x (-1)).1=true:=by
 have h1:=vc4 c x 1;have h2:=vc4 c x (-1)
 exact⟨Xc1 _ (by omega),Xc2 _ (by omega),Xc1 _ (by omega),Xc2 _ (by omega)⟩
theorem Ab9 (P:P2) (hok:okL tP P.vb1 P.vb2=true) (hc:(lsL tP P.vb1 P.vb2).length≤1000000):(lp (L8 P) ⟨0⟩).1=2:=by
 have h:=Wa4 (step:=L8 P) (mk:=fun j=>(⟨(j:Int)⟩:z6)) (c:=fun _=>false) (u:=1) (fin:=2) tI [0,0,0] (by simp)
  (fun j hj=>by
   have hj:j < 3:=hj
   have hw:W ((j:Int)+1)=((j+1:Nat):Int):=o5 hj (by omega)
   have hld:ldR tV [[i P.ja5,i P.ja6,i P.ja7],[i P.ma5,i P.ma6,i P.ma7],[i 12,i P.ma8,i 12]] (0+j)=true:=by
    have hc:j=0∨j=1∨j=2:=by omega
    rcases hc with rfl | rfl | rfl<;>rfl
   simp only[L8,R3,Int.toNat_natCast,hw,hld]
   generalize rdR tV [[i P.ja5,i P.ja6,i P.ja7],[i P.ma5,i P.ma6,i P.ma7],[i 12,i P.ma8,i 12]] (0+j)=x
   generalize lsL tP P.vb1 P.vb2=c at hc
   obtain⟨h1,h2,h3,h4⟩:=Td3 c x hc
   have hl:=vc4 c x 1
   have hb:(K1 c x 1).1.length≤1000000:=by omega
   simp only[Dd3 c x hc,Dd4 c x hc,Ve9 c x hc,We0 c x hc,lc2 c x hc,lc3 c x hc,se3 c x hc,se4 c x hc,l5,aa1,hok,h1,h2,h3,h4,lc2 _ x hb,lc3 _ x hb]
   rw[btD (show (j:Int) < 3 by omega),bt (f8 hj)]
   cases hp:(K1 c x 1).2 with
   | false =>
    rw[show (!(K1 c x (-1)).2==(K1 c x (-1)).2)=false by simp]
    rfl
   | true =>
    rw[se5 c x hp,Xc1 c (by omega),Xc2 c (by omega),show (!(K1 c x (-1)).2==(K1 c x (-1)).2)=false by simp]
    rfl)
  (by simp only[L8,R3];rw[bfD (by show ¬ ((3:Nat):Int) < 3;omega)]) 0 (Nat.zero_le _)
 rw[show (⟨0⟩:z6)=⟨((0:Nat):Int)⟩ from rfl,h]
 rfl
theorem vf7 {n:Nat} {g:Nat→List b7} {l:List Pln} (hn:n=l.length) (hg:∀ k,k < l.length→g k=tP.row (gL tP l k)):okL tP n g=true∧lsL tP n g=l:=by
 subst hn
 exact⟨Va2 tP (f:=fun k=>gL tP l k) hg,Wb0 tP rfl hg⟩
theorem ad3 (x:List Int) (y:V3) (z:List Pln) (w:B3) (v:V3) (hg:wa6=true) (hs:wa5=true):ha5 x y z w v=some (b true,[]):=by
 have hm:=if9 x
 have ho:=uf9 (L0 x) y (by omega)
 have hgo:=uf8 (L0 x) y (by omega)
 have hwl:((if 8 < (↑(List.length z):Int) then 8 else (↑(List.length z):Int)).toNat - 0)=(z.take 8).length:=by
  rw[List.length_take];split<;>omega
 have hin:inB (if 8 < (↑(List.length z):Int) then 8 else (↑(List.length z):Int)) (z.length+1)=true:=by
  split
  ·exact f8 (j:=8) (by omega)
  ·exact f8 (by omega)
 have hwild:=vf7 (l:=z.take 8) (n:=(if 8 < (↑(List.length z):Int) then 8 else (↑(List.length z):Int)).toNat - 0) (g:=fun k=>(fun k=>tP.row (gL tP z k)) (0+k)) hwl (fun k hk=>by
  show tP.row (gL tP z (0+k))=_
  have hk8:k < 8:=by rw[List.length_take] at hk;omega
  rw[Nat.zero_add,Yc4 tP z hk8])
 have key:=Wa4 (step:=V0 ⟨true,w.b0,w.b1,w.b2,v.x,v.y,v.z,((if 8 < (↑(List.length z):Int) then 8 else (↑(List.length z):Int)).toNat - 0),(fun k=>(fun k=>tP.row (gL tP z k)) (0+k))⟩) (mk:=fun j=>(⟨(j:Int),L0 x,Ga4 (L0 x) y⟩:z7)) (c:=fun _=>false) (u:=1) (fin:=2) tI [0,0,0] (by simp)
  (fun j hj=>by
   have hj:j < 3:=hj
   have hw:W ((j:Int)+1)=((j+1:Nat):Int):=o5 hj (by omega)
   have hcase:j=0∨j=1∨j=2:=by omega
   simp only[V0,R4,Int.toNat_natCast,hw,l5,j7]
   rw[btD (show (j:Int) < 3 by omega),bt (f8 hj)]
   rcases hcase with rfl | rfl | rfl
   ·rw[Ab9]
    ·rfl
    ·exact aa1 tP (L0 x)
    ·show (rt tP (L0 x)).length≤1000000
     rw[l5];omega
   ·rw[Ab9]
    ·rfl
    ·exact aa1 tP (Ga4 (L0 x) y)
    ·show (rt tP (Ga4 (L0 x) y)).length≤1000000
     rw[l5];omega
   ·rw [Ab9 _ hwild.1 (by
     have e:(lsL tP ((if 8 < (↑(List.length z):Int) then 8 else (↑(List.length z):Int)).toNat - 0) (fun k=>(fun k=>tP.row (gL tP z k)) (0+k))).length≤1000000:=by
      rw[hwild.2,List.length_take];omega
     exact e)]
    rfl)
  (by simp only[V0,R4];rw[bfD (by show ¬ ((3:Nat):Int) < 3;omega)]) 0 (Nat.zero_le _)
 unfold ha5
 simp only[l5,aa1,j7,if8,hgo,hg,hs,hin]
 rw[show (⟨0,L0 x,Ga4 (L0 x) y⟩:z7)=⟨((0:Nat):Int),L0 x,Ga4 (L0 x) y⟩ from rfl,key]
 rfl
end Go.Ev.Ce
namespace Go.Ev.Ce
open Go Go.Ev Go.Ev.L Go.Proofs
noncomputable def Dd5 (v:V3):List b7:=[i v.x,i v.y,i v.z,b true]
noncomputable def jb2 (l:List V3):List (List b7):=l.map Dd5
@[reducible] noncomputable def flV:List (Nat×CK):=[(0,(.int .i64)),(1,(.int .i64)),(2,(.int .i64))]
def ce7 (l:List V3) (x:V3):Bool:=l.any fun q=>eqV q x
theorem sd1 (x q:V3):vb4 flV [i x.x,i x.y,i x.z] (Dd5 q)=eqV q x:=by
 show Bool.and (decide (x.x=q.x)) (Bool.and (decide (x.y=q.y)) (Bool.and (decide (x.z=q.z)) true))=_
 unfold eqV
 have h:∀ a c:Int,decide (a=c)=(c==a):=fun a c=>by rw[Bool.eq_iff_iff,decide_eq_true_eq,beq_iff_eq];exact eq_comm
 rw[h,h,h]
theorem Je0 (x:V3):∀ l,Fa5 3 [(0,(.int .i64)),(1,(.int .i64)),(2,(.int .i64))] [i x.x,i x.y,i x.z] (jb2 l)=ce7 l x
 | []=>rfl
 | q::l=>by
  have ih:=Je0 x l
  unfold Fa5 at ih ⊢
  show Option.rec (motive:=fun _=>Bool) false (fun r=>toB (hdA (g9 r 3))) (Bool.rec (motive:=fun _=>Option (List b7)) (ac7 flV [i x.x,i x.y,i x.z] (jb2 l)) (some (Dd5 q)) (vb4 flV [i x.x,i x.y,i x.z] (Dd5 q)))=ce7 (q::l) x
  rw[sd1]
  unfold ce7 at ih ⊢
  rw[List.any_cons]
  cases eqV q x with
  | true=>rfl
  | false=>exact ih
theorem mf1 (x:V3):∀ l,ce7 l x=false→U1 [(0,(.int .i64)),(1,(.int .i64)),(2,(.int .i64))] [i x.x,i x.y,i x.z] [i x.x,i x.y,i x.z,b true] (jb2 l)=jb2 (l++[x])
 | [],_=>rfl
 | q::l,h=>by
  unfold ce7 at h
  rw[List.any_cons,Bool.or_eq_false_iff] at h
  show Bool.rec (motive:=fun _=>List (List b7)) (Dd5 q::U1 flV [i x.x,i x.y,i x.z] (Dd5 x) (jb2 l)) (Dd5 x::jb2 l) (vb4 flV [i x.x,i x.y,i x.z] (Dd5 q))=_
  rw[sd1,h.1,show U1 flV [i x.x,i x.y,i x.z] (Dd5 x) (jb2 l)=_ from mf1 x l h.2]
  rfl
def ad4 (s:List V3) (v:V3):List V3:=if ce7 s v then s else s++[v]
noncomputable def sd2 (x:V3) (s:List V3) (y:V3):List V3:=ad4 s (C6 x y)
noncomputable def ub8 (l:List V3) (s:List V3) (x:V3):List V3:=l.foldl (sd2 x) s
noncomputable def lc4 (a l:List V3):List V3:=a.foldl (ub8 l) []
theorem Dd6 (s:List V3) (v:V3):ad4 s v≠[]:=by
 unfold ad4
 split
 ·rename_i h
  intro e
  rw[e] at h
  cases h
 ·simp
theorem Td4 (s:List V3) (v:V3):(ad4 s v).length≤s.length+1:=by
 unfold ad4
 split
 ·omega
 ·simp
theorem Td5 (x:V3):∀ (l s:List V3),(ub8 l s x).length≤s.length+l.length
 | [],s=>by simp[ub8]
 | y::l,s=>by
  have h1:=Td5 x l (sd2 x s y)
  have h2:=Td4 s (C6 x y)
  unfold sd2 at h1
  show (ub8 l (ad4 s (C6 x y)) x).length≤_
  simp only[List.length_cons]
  omega
theorem vc5 (l:List V3):∀ (a s:List V3),(a.foldl (ub8 l) s).length≤s.length+a.length*l.length
 | [],s=>by simp
 | x::a,s=>by
  have h1:=vc5 l a (ub8 l s x)
  have h2:=Td5 x l s
  rw[List.foldl_cons,List.length_cons,Nat.succ_mul]
  omega
theorem Je1 (a l:List V3):(lc4 a l).length≤a.length*l.length:=by
 have:=vc5 l a []
 simp only[List.length_nil,Nat.zero_add] at this
 exact this
noncomputable def Db4 (x:V3) (j:Nat) (o:List V3):n5:=match o with
 | []=>⟨0,(j:Int),0,[],[],0,0,0⟩
 | q::o=>⟨1,(j:Int),(q::o).length,bL tV (q::o),jb2 (q::o),x.x,x.y,x.z⟩
theorem ke5 {x:V3} {j:Nat} {o:List V3} (h:o≠[]):Db4 x j o=⟨1,(j:Int),o.length,bL tV o,jb2 o,x.x,x.y,x.z⟩:=by
 cases o with
 | nil=>exact absurd rfl h
 | cons q o=>rfl
theorem Gf8 (O:List V3) (v:V3):app (bL tV O) [[i v.x,i v.y,i v.z]]=bL tV (O++[v]):=sa7 tV O [v]
theorem Je2 (x : V3) (l : List V3) (P : A7) (h1 : P.Bb2 = l) (h2 : P.Dd9 = (l.length : Int)) (hl : l.length ≤ 48) (o : List V3) (ho : o.length ≤ 1000000) (hP : o = [] → P.u7 = x.x ∧ P.u9 = x.y ∧ P.v7 = x.z) :
  ∃ t s,lp (F6 P) (Db4 x 0 o)=(t,s)∧(t=phV (ub8 l o x)+1∧∃ j,s=Db4 x j (ub8 l o x)):=by
 refine U0 (step:=F6 P) (mk:=Db4 x) l.length (fun j s=>j≤l.length∧s=(l.take j).foldl (sd2 x) o∧s.length≤o.length+j∧(s=[]→P.u7=x.x∧P.u9=x.y∧P.v7=x.z)) (fun t s=>t=phV (ub8 l o x)+1∧∃ j,s=Db4 x j (ub8 l o x)) (by omega)
  (fun j s hj hi=>?_) (fun j s hj hi=>?_) 0 o ⟨Nat.zero_le _,by simp,by omega,hP⟩
 ·obtain⟨_,hi,hlen,hz⟩:=hi
  have hn:=o5 hj (show l.length≤4611686018427387904 by omega)
  have hb:inB (j:Int) l.length=true:=f8 hj
  have hT:(l.take (j+1)).foldl (sd2 x) o=ad4 s (C6 x (gL tV l j)):=by
   rw[ab4 tV hj,List.foldl_append,← hi]
   rfl
  have hnext:∀ {s':n5},s'=Db4 x (j+1) (ad4 s (C6 x (gL tV l j)))→Nx (.next s') (fun t=>t=phV (ub8 l o x)+1∧∃ j',Db4 x j s=Db4 x j' (ub8 l o x)) (fun s'=>∃ o',s'=Db4 x (j+1) o'∧(j+1≤l.length∧o'=(l.take (j+1)).foldl (sd2 x) o∧o'.length≤o.length+(j+1)∧(o'=[]→P.u7=x.x∧P.u9=x.y∧P.v7=x.z))):=fun {s'} hs=>.nx ⟨_,hs,by omega,hT.symm,by have:=Td4 s (C6 x (gL tV l j));omega,fun h=>absurd h (Dd6 _ _)⟩
  clear hi
  cases s with
  | nil =>
   obtain⟨z1,z2,z3⟩:=hz rfl
   have hu:∀ v:V3,U1 [(0,(.int .i64)),(1,(.int .i64)),(2,(.int .i64))] [i v.x,i v.y,i v.z] [i v.x,i v.y,i v.z,b true] []=jb2 [v]:=fun v=>mf1 v [] rfl
   have hv:∀ v:V3,Fa5 3 [(0,(.int .i64)),(1,(.int .i64)),(2,(.int .i64))] [i v.x,i v.y,i v.z] []=false:=fun v=>Je0 v []
   have hs:ad4 [] (C6 x (gL tV l j))=[C6 x (gL tV l j)]:=rfl
   have e:F6 P (Db4 x j [])=.next ⟨1,((j+1:Nat):Int),1,[[i (C6 x (gL tV l j)).x,i (C6 x (gL tV l j)).y,i (C6 x (gL tV l j)).z]],jb2 [C6 x (gL tV l j)],x.x,x.y,x.z⟩:=by
    show I1 Stp.next Stp.exit Stp.fail P (Db4 x j [])=_
    simp only[I1,Db4,h1,h2,z1,z2,z3,Int.toNat_natCast,hn,hb,hv,hu,Bool.not_false,o0]
    rw[btD (k8 hj)]
   rw[e]
   exact hnext (by rw[hs];rfl)
  | cons q s =>
   have rr:(Nat.beq (q::s).length (len (bL tV (q::s)))&&Nat.ble (((q::s).length+1)*24) room)=true:=bf3 rfl (by omega)
   show Nx (I4 Stp.next Stp.exit Stp.fail P (Db4 x j (q::s))) _ _
   simp only[I4,Db4,h1,h2,Int.toNat_natCast,hn,hb,Je0,rr,Gf8]
   rw[btD (k8 hj)]
   cases hh:ce7 (q::s) (C6 x (gL tV l j)) with
   | true =>
    refine hnext ?_
    rw[ke5 (Dd6 _ _)]
    unfold ad4
    rw[hh]
    rfl
   | false =>
    refine hnext ?_
    rw[ke5 (Dd6 _ _)]
    unfold ad4
    rw[hh,mf1 _ _ hh]
    show (⟨1,_,(q::s).length+1,_,_,_,_,_⟩:n5)=⟨1,_,(q::s++[_]).length,_,_,_,_,_⟩
    rw[List.length_append]
    rfl
 ·obtain⟨hje,hi,hlen,hz⟩:=hi
  have hje:j=l.length:=by omega
  subst hje
  have hO:s=ub8 l o x:=by rw[hi,List.take_length];rfl
  rw[← hO]
  cases s with
  | nil =>
   refine⟨1,?_,rfl,_,rfl⟩
   show I1 Stp.next Stp.exit Stp.fail P (Db4 x l.length [])=_
   simp only[I1,Db4,h2]
   rw[bfD (p7 (Nat.lt_irrefl _))]
  | cons q s =>
   refine⟨2,?_,rfl,_,rfl⟩
   show I4 Stp.next Stp.exit Stp.fail P (Db4 x l.length (q::s))=_
   simp only[I4,Db4,h2]
   rw[bfD (p7 (Nat.lt_irrefl _))]
noncomputable def Dd7 (a l:List V3) (j:Nat) (o:List V3):p8:=match o with
 | []=>⟨0,l,a,(j:Int),0,[],[]⟩
 | q::o=>⟨1,l,a,(j:Int),(q::o).length,bL tV (q::o),jb2 (q::o)⟩
theorem mf2 (a l:List V3) (ha:a.length≤48) (hl:l.length≤48):∃ t s,lp (da0 ⟨(a.length:Int)⟩) (Dd7 a l 0 [])=(t,s)∧(t=phV (lc4 a l)+1∧∃ j,s=Dd7 a l j (lc4 a l)):=by
 refine U0 (step:=da0 ⟨(a.length:Int)⟩) (mk:=Dd7 a l) a.length (fun j s=>j≤a.length∧s=(a.take j).foldl (ub8 l) []) (fun t s=>t=phV (lc4 a l)+1∧∃ j,s=Dd7 a l j (lc4 a l)) (by omega)
  (fun j s hj hi=>?_) (fun j s hj hi=>?_) 0 [] ⟨Nat.zero_le _,by simp⟩
 ·obtain⟨_,hi⟩:=hi
  have hlen:s.length≤1000000:=by
   have h1:=vc5 l (a.take j) []
   rw[← hi] at h1
   have h2:=List.length_take_le j a
   have h3:(a.take j).length*l.length≤48*48:=Nat.mul_le_mul (by omega) hl
   simp only[List.length_nil] at h1
   omega
  have hn:=o5 hj (show a.length≤4611686018427387904 by omega)
  have hb:inB (j:Int) a.length=true:=f8 hj
  have hT:(a.take (j+1)).foldl (ub8 l) []=ub8 l s (gL tV a j):=by
   rw[ab4 tV hj,List.foldl_append,← hi]
   rfl
  have hnext:∀ {s':p8},s'=Dd7 a l (j+1) (ub8 l s (gL tV a j))→Nx (.next s') (fun t=>t=phV (lc4 a l)+1∧∃ j',Dd7 a l j s=Dd7 a l j' (lc4 a l)) (fun s'=>∃ o',s'=Dd7 a l (j+1) o'∧(j+1≤a.length∧o'=(a.take (j+1)).foldl (ub8 l) [])):=fun {s'} hs=>.nx ⟨_,hs,by omega,hT.symm⟩
  clear hi
  cases s with
  | nil =>
   obtain⟨t,s',k1,rfl,j',rfl⟩:=Je2 (gL tV a j) l ⟨l,a,(a.length:Int),(j:Int),l,(l.length:Int),(gL tV a j).x,(gL tV a j).y,(gL tV a j).z⟩ rfl rfl hl [] (by simp) (fun _=>⟨rfl,rfl,rfl⟩)
   have k1:lp (F6 ⟨l,a,(a.length:Int),(j:Int),l,(l.length:Int),(gL tV a j).x,(gL tV a j).y,(gL tV a j).z⟩) ⟨0,0,0,[],[],0,0,0⟩=_:=k1
   show Nx (I5 Stp.next Stp.exit Stp.fail ⟨(a.length:Int)⟩ ⟨0,l,a,(j:Int),0,[],[]⟩) _ _
   simp only[I5,l5,j7,Int.toNat_natCast,hn,hb,k1]
   rw[btD (k8 hj)]
   cases hr:ub8 l [] (gL tV a j) with
   | nil=>exact hnext (by rw[hr];rfl)
   | cons q o=>exact hnext (by rw[hr];rfl)
  | cons q s =>
   obtain⟨t,s',k1,rfl,j',rfl⟩:=Je2 (gL tV a j) l ⟨l,a,(a.length:Int),(j:Int),l,(l.length:Int),0,0,0⟩ rfl rfl hl (q::s) hlen (fun h=>by cases h)
   have k1:lp (F6 ⟨l,a,(a.length:Int),(j:Int),l,(l.length:Int),0,0,0⟩) ⟨1,0,(q::s).length,bL tV (q::s),jb2 (q::s),(gL tV a j).x,(gL tV a j).y,(gL tV a j).z⟩=_:=k1
   show Nx (I6 Stp.next Stp.exit Stp.fail ⟨(a.length:Int)⟩ ⟨1,l,a,(j:Int),(q::s).length,bL tV (q::s),jb2 (q::s)⟩) _ _
   simp only[I6,l5,j7,Int.toNat_natCast,hn,hb,k1]
   rw[btD (k8 hj)]
   cases hr:ub8 l (q::s) (gL tV a j) with
   | nil=>exact hnext (by rw[hr];rfl)
   | cons q' o=>exact hnext (by rw[hr];rfl)
 ·obtain⟨hje,hi⟩:=hi
  have hje:j=a.length:=by omega
  subst hje
  have hO:s=lc4 a l:=by rw[hi,List.take_length];rfl
  rw[← hO]
  cases s with
  | nil =>
   refine⟨1,?_,rfl,_,rfl⟩
   show I5 Stp.next Stp.exit Stp.fail ⟨(a.length:Int)⟩ ⟨0,l,a,(a.length:Int),0,[],[]⟩=_
   simp only[I5]
   rw[bfD (p7 (Nat.lt_irrefl _))]
  | cons q s =>
   refine⟨2,?_,rfl,_,rfl⟩
   show I6 Stp.next Stp.exit Stp.fail ⟨(a.length:Int)⟩ ⟨1,l,a,(a.length:Int),(q::s).length,bL tV (q::s),jb2 (q::s)⟩=_
   simp only[I6]
   rw[bfD (p7 (Nat.lt_irrefl _))]
noncomputable def Dd8 (a l:List V3):List V3×Int:=if 48 < a.length∨48 < l.length then ([],2) else Fc5 (lc4 a l)
theorem Je3 (l:List V3) (n:Int):(two (r1L tV) r1I).rd (.tup [eL tV l,i n],[])=some (l,n):=by
 have h:(r1L tV).rd [] (eL tV l)=some l:=he6 tV l
 simp only[two,h]
 rfl
theorem vf8 (m n:Nat):decide ((if (n:Int) > (m:Int) then (n:Int) else (m:Int)) > 48)=decide (48 < m∨48 < n):=by
 rw[decide_eq_decide]
 split<;>omega
theorem cf4 (a l:List V3):∃ x,ub7 a l=some x∧(two (r1L tV) r1I).rd x=some (Dd8 a l):=by
 unfold ub7 Dd8
 rw[vf8]
 by_cases h:48 < a.length∨48 < l.length
 ·rw[decide_eq_true h,if_pos h]
  exact⟨_,rfl,rfl⟩
 ·rw[decide_eq_false h,if_neg h]
  obtain⟨t,s,k1,rfl,j,rfl⟩:=mf2 a l (by omega) (by omega)
  have k1:lp (da0 ⟨(a.length:Int)⟩) ⟨0,l,a,0,0,[],[]⟩=_:=k1
  unfold Xa7 ea8
  simp only[l5,j7,k1,vf6.1,vf6.2]
  have hlen:(lc4 a l).length≤900000:=by
   have h1:=Je1 a l
   have h3:a.length*l.length≤48*48:=Nat.mul_le_mul (by omega) (by omega)
   omega
  cases hr:lc4 a l with
  | nil=>exact⟨_,rfl,Je3 _ _⟩
  | cons q o =>
   rw[hr] at hlen
   have hg:Ea3 (q::o)=true:=decide_eq_true ⟨by simp,hlen⟩
   have e1:slR tV (bL tV (q::o)) 0 (q::o).length=q::o:=cb9 tV _
   have e2:okS tV (bL tV (q::o)) 0 (q::o).length=true:=nb5 tV _
   simp only[Dd7,phV]
   refine⟨(.tup [eL tV (Fc5 (q::o)).1,i (Fc5 (q::o)).2],[]),?_,Je3 _ _⟩
   show sl (okS tV (bL tV (q::o)) 0 (q::o).length) (sl (Ea3 (slR tV (bL tV (q::o)) 0 (q::o).length)) (some (b7.tup [eL tV (Ea2 (slR tV (bL tV (q::o)) 0 (q::o).length)).1,i (Ea2 (slR tV (bL tV (q::o)) 0 (q::o).length)).2],[])) none) none=_
   rw[e1,e2,hg]
   rfl
theorem vf9 (a l:List V3):bb5 a l=Dd8 a l:=by obtain⟨x,h,k⟩:=cf4 a l;unfold bb5;rw[h];exact ea7 _ k
theorem wf0 (a l:List V3):bb6 a l=true:=by obtain⟨x,h,k⟩:=cf4 a l;unfold bb6;rw[h];exact pa0 _ k
end Go.Ev.Ce
namespace Go.Ev.Ce
open Go Go.Ev Go.Ev.L Go.Proofs
noncomputable def mxS (n:V3) (m:Int) (v:V3):Int:=if y8 v n > m then y8 v n else m
noncomputable def mxL (n:V3):List V3→Int
 | []=>0
 | v::l=>l.foldl (mxS n) (y8 v n)
noncomputable def Je4 (l:List V3) (n:V3):Int×Bool:=(mxL n l,decide (0 < l.length))
theorem We1 (n v:V3):∀ l,l≠[]→mxL n (l++[v])=mxS n (mxL n l) v
 | [],h=>absurd rfl h
 | w::l,_=>by
  show (l++[v]).foldl (mxS n) (y8 w n)=_
  rw[List.foldl_append]
  rfl
theorem Je5 {n:V3} {l:List V3} {j:Nat} (hj:j < l.length):mxL n (l.take (j+1))=if j=0 then y8 (gL tV l j) n else mxS n (mxL n (l.take j)) (gL tV l j):=by
 rw[ab4 tV hj]
 split
 ·rename_i h
  subst h
  rfl
 ·rename_i h
  refine We1 _ _ _ fun e=>?_
  have:=congrArg List.length e
  rw[List.length_take,List.length_nil] at this
  omega
theorem sd3 (l:List V3) (n:V3) (hl:l.length≤1000000):Ca2 l n=some (.tup [i (Je4 l n).1,b (Je4 l n).2],[]):=by
 obtain⟨t,s,h,rfl,k,rfl⟩:=U0 (step:=ca1 ⟨l,l,(l.length:Int),n.x,n.y,n.z⟩) (mk:=fun j (m:Int)=>(⟨m,(j:Int)⟩:Q4)) l.length (fun j m=>j≤l.length∧m=mxL n (l.take j)) (fun t s=>t=1∧∃ k:Int,s=⟨mxL n l,k⟩) (by omega)
  (fun j m hj hi=>by
   obtain⟨_,hi⟩:=hi
   have hn:=o5 hj (show l.length≤4611686018427387904 by omega)
   have hT:=Je5 (n:=n) hj
   simp only[ca1,ha3,Int.toNat_natCast,hn]
   rw[btD (k8 hj),bt (f8 hj)]
   by_cases h0:j=0
   ·subst h0
    exact .nx ⟨_,rfl,by omega,by rw[hT];rfl⟩
   ·rw[if_neg h0,← hi] at hT
    rw[bf (by rw[beq_eq_false_iff_ne];omega)]
    unfold mxS at hT
    split at hT
    ·rename_i h;rw[btD h];exact .nx ⟨_,rfl,by omega,hT.symm⟩
    ·rename_i h;rw[bfD h];exact .nx ⟨_,rfl,by omega,hT.symm⟩)
  (fun j m hj hi=>by
   obtain⟨hje,hi⟩:=hi
   have hje:j=l.length:=by omega
   subst hje
   rw[List.take_length] at hi
   subst hi
   refine⟨1,?_,rfl,_,rfl⟩
   simp only[ca1,ha3]
   rw[bfD (p7 (Nat.lt_irrefl _))]) 0 0 ⟨Nat.zero_le _,by simp[mxL]⟩
 have h:lp (ca1 ⟨l,l,(l.length:Int),n.x,n.y,n.z⟩) ⟨0,0⟩=_:=h
 unfold Ca2 Je4
 simp only[l5,j7,h]
 have e:decide ((l.length:Int) > 0)=decide (0 < l.length):=by rw[decide_eq_decide];omega
 rw[e]
 rfl
theorem sd4 (l:List V3) (n:V3) (hl:l.length≤1000000):Ca3 l n=Je4 l n:=by unfold Ca3;rw[sd3 l n hl];rfl
theorem sd5 (l:List V3) (n:V3) (hl:l.length≤1000000):Ca4 l n=true:=by unfold Ca4;rw[sd3 l n hl];rfl
theorem ke6 (l:List V3) (hl:l.length≤1000000000):wa1 l l=some (b true,[]):=by
 have he:∀ v:V3,(v.x==v.x&&(v.y==v.y&&(v.z==v.z&&true)))=true:=fun v=>by simp
 have h:=Wa4 (step:=ha4 ⟨l,l⟩) (mk:=fun j=>(⟨(j:Int)⟩:H5)) (c:=fun _=>false) (u:=1) (fin:=2) tV l hl
  (fun j hj=>by
   simp only[ha4,da1,Int.toNat_natCast,o5 hj (by omega),he]
   rw[btD (k8 hj),bt (f8 hj),bt (f8 hj)]
   rfl)
  (by simp only[ha4,da1];rw[bfD (p7 (Nat.lt_irrefl _))]) 0 (Nat.zero_le _)
 rw[List.drop_zero,show (l.any fun _=>false)=false by simp] at h
 unfold wa1
 simp only[l5,j7]
 rw[show (⟨0⟩:H5)=⟨((0:Nat):Int)⟩ from rfl,h,bf (by simp)]
 rfl
theorem We2 (l:List V3) (hl:l.length≤1000000000):wa2 l l=true:=by unfold wa2;rw[ke6 l hl];rfl
theorem We3 (l:List V3) (hl:l.length≤1000000000):wa3 l l=true:=by unfold wa3;rw[ke6 l hl];rfl
theorem We4:Sa2=[⟨0,0,0⟩,⟨1,0,0⟩,⟨0,1,0⟩,⟨0,0,1⟩]:=rfl
theorem We5:qa8=true:=rfl
theorem zc0:∀ (l r:List V3),l.Pairwise LtV→r.Pairwise LtV→(∀ v,v∈l↔v∈r)→l=r
 | [],[],_,_,_=>rfl
 | [],y::r,_,_,h=>absurd ((h y).2 (List.mem_cons_self ..)) (by simp)
 | x::l,[],_,_,h=>absurd ((h x).1 (List.mem_cons_self ..)) (by simp)
 | x::l,y::r,h1,h2,h=>by
  obtain⟨a1,a2⟩:=List.pairwise_cons.1 h1
  obtain⟨b1,b2⟩:=List.pairwise_cons.1 h2
  have e:x=y:=by
   rcases List.mem_cons.1 ((h x).1 (List.mem_cons_self ..)) with e | hx
   ·exact e
   ·rcases List.mem_cons.1 ((h y).2 (List.mem_cons_self ..)) with e | hy
    ·exact e.symm
    ·exact absurd (uc0 (b1 x hx) (a1 y hy)) (kc1 y)
  subst e
  have:l=r:=zc0 l r a2 b2 fun v=>by
   have hv:=h v
   simp only[List.mem_cons] at hv
   constructor
   ·intro hm
    rcases hv.1 (.inr hm) with e | h'
    ·subst e;exact absurd (a1 v hm) (kc1 v)
    ·exact h'
   ·intro hm
    rcases hv.2 (.inr hm) with e | h'
    ·subst e;exact absurd (b1 v hm) (kc1 v)
    ·exact h'
  rw[this]
end Go.Ev.Ce
namespace Go.Ev.Ce
open Go Go.Ev Go.Ev.L Go.Proofs
noncomputable def tet:List V3:=[⟨0,0,0⟩,⟨1,0,0⟩,⟨0,1,0⟩,⟨0,0,1⟩]
noncomputable def Je6:List V3:=[⟨0,0,0⟩,⟨2,0,0⟩,⟨1,0,0⟩,⟨3,0,0⟩,⟨0,1,0⟩,⟨2,1,0⟩,⟨0,0,1⟩,⟨2,0,1⟩]
noncomputable def We6:List V3:=[⟨0,0,0⟩,⟨0,0,1⟩,⟨0,1,0⟩,⟨1,0,0⟩,⟨2,0,0⟩,⟨2,0,1⟩,⟨2,1,0⟩,⟨3,0,0⟩]
noncomputable def Td6:List V3:=[⟨0,0,0⟩,⟨0,0,1⟩,⟨0,1,0⟩,⟨2,0,1⟩,⟨2,1,0⟩,⟨3,0,0⟩]
theorem We7:lc4 tet [⟨0,0,0⟩,⟨2,0,0⟩]=Je6:=by kernel_rfl
theorem We8:qb7 Je6=0:=by kernel_rfl
theorem We9:dis Je6=We6:=by
 refine zc0 _ _ (Fe4 _) ?_ fun v=>?_
 ·simp[We6,LtV]
 ·rw[kc2]
  unfold Je6 We6
  simp only[List.mem_cons,List.not_mem_nil,or_false]
  constructor<;>rintro (h | h | h | h | h | h | h | h)<;>simp[h]
theorem Xe0:We6.filter (kv (F0 Je6))=Td6:=by kernel_rfl
theorem Xe1:Dd8 tet [⟨0,0,0⟩,⟨2,0,0⟩]=(Td6,0):=by
 unfold Dd8
 rw[if_neg (by simp[tet]),We7]
 unfold Fc5 vf4
 rw[if_pos We8,We9,Xe0]
theorem Je7:Dd8 tet []=([],11):=by
 unfold Dd8
 rw[if_neg (by simp[tet])]
 have h:lc4 tet []=[]:=by kernel_rfl
 rw[h]
 unfold Fc5
 rw[Lb1,if_neg (by omega)]
theorem Xe2:Dd8 tet [⟨24,0,0⟩]=([],3):=by
 unfold Dd8
 rw[if_neg (by simp[tet])]
 have h:qb7 (lc4 tet [⟨24,0,0⟩])=3:=by kernel_rfl
 unfold Fc5
 rw[h,if_neg (by omega)]
theorem Xe3:Je4 tet ⟨3,-1,2⟩=(3,true):=by kernel_rfl
theorem Gf9:K1 [⟨⟨1,1,1⟩,3⟩,⟨⟨-1,0,0⟩,0⟩] ⟨1,0,2⟩ 1=([⟨⟨1,1,1⟩,6⟩,⟨⟨-1,0,0⟩,1⟩],true):=by kernel_rfl
theorem Hf0:K1 [⟨⟨1,1,1⟩,3⟩,⟨⟨-1,0,0⟩,0⟩] ⟨1,0,2⟩ (-1)=([⟨⟨1,1,1⟩,0⟩,⟨⟨-1,0,0⟩,-1⟩],true):=by kernel_rfl
theorem Hf1:K1 [⟨⟨1,1,1⟩,3⟩,⟨⟨-1,0,0⟩,0⟩] ⟨13,0,0⟩ 1=([],false):=by kernel_rfl
theorem Hf2:K1 [⟨⟨1,1,1⟩,3⟩,⟨⟨-1,0,0⟩,0⟩] ⟨0,-1,0⟩ (-1)=([],false):=by kernel_rfl
theorem Hf3:K1 [⟨⟨1,0,0⟩,2097152⟩] ⟨1,0,0⟩ 1=([],false):=by kernel_rfl
theorem Td7:wa4=some (b true,[]):=by
 have ht:Sa2=tet:=We4
 have lt:tet.length≤1000000:=by simp[tet]
 unfold wa4
 simp only[ht,We5,l5,aa1,vf9,wf0,Xe1,Je7,Xe2,sd4 tet _ lt,sd5 tet _ lt,Xe3,sd4 [] _ (by simp),sd5 [] _ (by simp)]
 rw[Dd3 _ _ (by simp),Dd4 _ _ (by simp),lc2 _ _ (by simp),lc3 _ _ (by simp),Dd3 _ ⟨13,0,0⟩ (by simp),Dd4 _ ⟨13,0,0⟩ (by simp),lc2 _ ⟨0,-1,0⟩ (by simp),lc3 _ ⟨0,-1,0⟩ (by simp),Dd3 [⟨⟨1,0,0⟩,2097152⟩] _ (by simp),Dd4 [⟨⟨1,0,0⟩,2097152⟩] _ (by simp),Gf9,Hf0,Hf1,Hf2,Hf3]
 simp only[Xc1 _ (show [(⟨⟨1,1,1⟩,6⟩:Pln),⟨⟨-1,0,0⟩,1⟩].length≤1000000000 by simp),Xc2 _ (show [(⟨⟨1,1,1⟩,6⟩:Pln),⟨⟨-1,0,0⟩,1⟩].length≤1000000000 by simp),Xc1 _ (show [(⟨⟨1,1,1⟩,0⟩:Pln),⟨⟨-1,0,0⟩,-1⟩].length≤1000000000 by simp),Xc2 _ (show [(⟨⟨1,1,1⟩,0⟩:Pln),⟨⟨-1,0,0⟩,-1⟩].length≤1000000000 by simp)]
 have e1:wa2 Td6 [⟨0,0,0⟩,⟨0,0,1⟩,⟨0,1,0⟩,⟨2,0,1⟩,⟨2,1,0⟩,⟨3,0,0⟩]=true:=We2 Td6 (by simp[Td6])
 have e2:wa3 Td6 [⟨0,0,0⟩,⟨0,0,1⟩,⟨0,1,0⟩,⟨2,0,1⟩,⟨2,1,0⟩,⟨3,0,0⟩]=true:=We3 Td6 (by simp[Td6])
 rw[e1,e2]
 rfl
theorem ad5:wa5=true:=by unfold wa5;rw[Td7];rfl
theorem ad6:wa6=true:=by unfold wa6;rw[Td7];rfl
end Go.Ev.Ce
namespace Go.Ev.Ce
open Go Go.Ev Go.Ev.L Go.Proofs
theorem ce8 (x:List Int) (y:V3) (z:List Pln) (w:B3) (v:V3):sa1 x y z w v=true:=by unfold sa1;rw[ad3 x y z w v ad6 ad5];rfl
theorem ce9 (x:List Int) (y:V3) (z:List Pln) (w:B3) (v:V3):sa2 x y z w v=true:=by unfold sa2;rw[ad3 x y z w v ad6 ad5];rfl
end Go.Ev.Ce
namespace Go.Ev.Ce
open Go Go.Ev Go.Ev.L Go.ChangeShapes Go.RowKit
theorem se6 (g:Nat→Int) (h:∀ c,c < 3→0≤g c∧g c≤255):∃ a,Rdg (B0 tW) (.agg (ea0 .u8 3 g)) a∧0≤a.b0∧0≤a.b1∧0≤a.b2 :=
 ⟨⟨g 0,g 1,g 2⟩,⟨rfl,rfl⟩,(h 0 (by omega)).1,(h 1 (by omega)).1,(h 2 (by omega)).1⟩
theorem Xe4 {D : Type} {enc : TypeId × Value → D} {P : Program} {w : World} {base : Nat} {spare : Nat → Bool} {held : Bool} {ρ : Rho} {H : List b8} {F : Fz} {t e : TypeId} {d : Nat} {v : Value} {dd : DataW D} {pp : List MemPlace} {bs : Nat} {r : Reach}
  (ht:P.underlying t=some (.array 3 e)) (he:P.underlying e=some (.int .u8)) (hts:P.cellTypes P.depth t=some [e,e,e]) (hf:U2 P d t=some (ya8 .u8 3)) (hes:P.cellsOf t=3)
  (hok:Value.okWide P w r bs t v) (h:DataW.Trod enc P w base spare held t v dd pp):∃ g:Nat→Int,(∀ c,c < 3→0≤g c∧g c≤255)∧Z4 ρ H F w (.agg (ea0 .u8 3 g)) v:=by
 obtain⟨g,hv⟩:=Cd5 (ρ:=ρ) (H:=H) (F:=F) (by simp[agT,ht]) hf hes hok h
 refine⟨g,fun c hc=>?_,hv⟩
 obtain⟨vs,e0,hl,hr⟩:=ra6 (.val hv)
 subst e0
 have hlen:vs.size=3:=by rw[← hl];simp[ea0]
 have hc':c < vs.size:=by omega
 have hg:(ea0 .u8 3 g)[c]?=some (.v (.int .u8 (g c))):=by
  unfold ea0
  rw[List.getElem?_map,List.getElem?_range hc]
  rfl
 have hx:=aa8 (.val (.cell (hr c _ _ hg (Array.getElem?_eq_getElem hc'))))
 unfold Value.okWide at hok
 rw[ht] at hok
 obtain⟨cs,e1,hsz,ts,h1,h2,h3⟩:=hok
 injection e1 with e1
 subst e1
 rw[hts] at h1
 injection h1 with h1
 subst h1
 obtain⟨u,hu,hcell⟩:=h3 c _ (Array.getElem?_eq_getElem hc')
 rw[hx] at hcell
 have hue:u=e:=by
  have:c=0∨c=1∨c=2:=by omega
  rcases this with rfl | rfl | rfl<;>simpa using hu.symm
 subst hue
 simp only[Cell.okWide,Cell.ok,he] at hcell
 have:=hcell.2
 simp only[IntKind.has,IntKind.min,IntKind.max,IntKind.bits,IntKind.signed] at this
 simp at this
 omega
end Go.Ev.Ce
