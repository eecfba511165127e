/- Own work. -/
import Derived.Test.YtekgjjgbdcgldaaGreatEvOV8
set_option linter.all false
noncomputable section
def Qma:=@List.mem_append_left
def Qmb:=@List.length_eq_zero_iff
def Qmc:=@List.mem_singleton
def Qmd:=@List.length_append
def Qme:=@List.getD_eq_getElem?_getD
def Qmf:=@Bool.and_self
def Qmg:=@List.length_take
def Qmh:=@Classical.axiomOfChoice
def Qmi:=@List.mem_of_mem_take
namespace Go.Ev.Ce
open Go Go.Ev Go.Ev.L Go.Proofs
theorem ve2{q x:List Pln}(hx:x.Nodup):∀y∈xa6 q x,y.Nodup:=λy hy=>by
 unfold xa6 at hy
 split at hy
 ·rw[Qmc.1 hy];exact hx
 ·obtain⟨j,_,rfl,_⟩:=qb6.1 hy;exact zc1 _
theorem Bd0{ps r:List (List Pln)}{q:List Pln}(h:s6 ps q=some r)(hp:∀x∈ps,x.Nodup):∀x∈r,x.Nodup:=by
 unfold s6 at h
 split at h
 ·split at h
  ·injection h with h;subst h;intro y hy;obtain⟨x,hx,hy⟩:=List.mem_flatMap.1 hy;exact ve2 (hp x hx) y hy
  ·cases h
 ·injection h with h;subst h;exact hp
theorem Vc7:∀(s:List (List Pln)) {ps r:List (List Pln)},Ba5 s (some ps)=some r->(∀x∈ps,x.Nodup)->∀x∈r,x.Nodup
 |[],ps,r,h,hp=>by
  have:some ps=some r:=h
  injection this with this;subst this;exact hp
 |q::s,ps,r,h,hp=>by
  have h:Ba5 s (s6 ps q)=some r:=h;cases hw:s6 ps q with
  |none=>rw[hw,zc6] at h;cases h
  |some ps' =>
   rw[hw] at h;exact Vc7 s h (Bd0 hw hp)
theorem le0{c:List Pln}{s r:List (List Pln)}(h:ea6 c s=some r):∀x∈r,x.Nodup:=Vc7 s h λx hx=>by
 split at hx
 ·rw[Qmc.1 hx];exact zc1 _
 ·cases hx
theorem jf4{q:List Pln}(hq:ful q=true):∀p∈lean q,okp p=true:=λp hp=>rb6 (W8.1 hq).1 p (Qma _ (Ua5 hp))
theorem zf5{q:List Pln}{j:Nat}(h:j<(lean q).length):gL tP (lean q) j∈lean q:=va9 tP h
theorem jf5{y:List Pln}(hy:ful y=true)(hn:y.Nodup)(hl:y.length<=47):xa6 y y=[]/\Ia2 y y=true:=by
 obtain⟨hc,z,hz⟩:=W8.1 hy;have ha:apart y y=false:=by
  cases h:apart y y with
  |false=>rfl
  |true=>exact ((jb9 hc hc).1 h z hz hz).elim
 have hr:xa5 y (lean y)=true:=if7 hn (λp hp=>hp) (λp hp=>Ua5 hp) hl
 refine⟨?_,by unfold Ia2;rw[hr,Bool.or_true]⟩
 unfold xa6;rw[ha,if_neg (by decide)]
 cases ho:Ia6 y (lean y) (lean y).length with
 |nil=>rfl
 |cons a l =>
  exfalso;obtain⟨j,hj,he,hne⟩:=qb6.1 (show a∈Ia6 y (lean y) (lean y).length by rw[ho];simp)
  rw[he] at hne;exact hne (if8 hc (jf4 hy) hz ((Eb4 hy).2 hz) hr hj λw hw=>hw.h _ (Qma _ (Ua5 (zf5 hj))))
theorem Rc9{q:List Pln}:∀ys:List (List Pln),(∀x∈ys,apart x q=true)->ys.flatMap (xa6 q)=ys/\ys.all (Ia2 q)=true
 |[],_=>⟨rfl,rfl⟩
 |x::ys,h=>by
  obtain⟨h1,h2⟩:=Rc9 ys λy hy=>h y (List.mem_cons_of_mem _ hy)
  have hx:=h x (by simp)
  refine⟨?_,?_⟩
  ·rw[List.flatMap_cons,h1];unfold xa6;rw[hx];rfl
  ·rw[List.all_cons,h2];unfold Ia2;rw[hx];rfl
theorem Vd0{y:List Pln}{ys:List (List Pln)}(hy:ful y=true)(hn:y.Nodup)(hl:y.length<=47)(ha:∀x∈ys,apart x y=true)(hys:ys.length<=200):s6 (y::ys) y=some ys:=by
 obtain⟨p1,p2⟩:=jf5 hy hn hl;obtain⟨q1,q2⟩:=Rc9 ys ha;unfold s6;rw[hy,if_pos rfl,List.flatMap_cons,p1,q1,List.nil_append,List.all_cons,p2,q2,decide_eq_true hys];rfl
theorem sd6:∀ps:List (List Pln),(∀y∈ps,ful y=true/\y.Nodup/\y.length<=47)->ps.Pairwise (λa b=>∀z,Ins (a++ws) z->Ins (b++ws) z->False)->ps.length<=200->Ba5 ps (some ps)=some []
 |[],_,_,_=>rfl
 |y::ys,h,hd,hl=>by
  obtain⟨h1,h2,h3⟩:=h y (by simp)
  obtain⟨d1,d2⟩:=List.pairwise_cons.1 hd;simp only[List.length_cons] at hl;have e:=Vd0 (ys:=ys) h1 h2 h3 (λx hx=>(jb9 (W8.1 (h x (by simp[hx])).1).1 (W8.1 h1).1).2 λz z1 z2=>d1 x hx z z2 z1) (by omega)
  show Ba5 ys (s6 (y::ys) y)=_;rw[e];exact sd6 ys (λx hx=>h x (by simp[hx])) d2 (by omega)
theorem Me7(s t:List (List Pln))(o:Option (List (List Pln))):Ba5 (s++t) o=Ba5 t (Ba5 s o):=by unfold Ba5;rw[List.foldl_append]
theorem mc7(c:List Pln)(s:List (List Pln)):ea6 c s=Ba5 s (some (if ful c then [lean c] else [])):=rfl
theorem Vc8{ps:List (List Pln)}:∀s:List (List Pln),(∀q∈s,∀x∈ps,apart x q=true)->ps.length<=200->Ba5 s (some ps)=some ps
 |[],_,_=>rfl
 |q::s,h,hl=>by
  have e:s6 ps q=some ps:=by
   obtain⟨q1,q2⟩:=Rc9 ps (h q (by simp))
   unfold s6;rw[q1,q2,decide_eq_true hl]
   split<;>rfl
  show Ba5 s (s6 ps q)=_;rw[e];exact Vc8 s (λq hq=>h q (by simp[hq])) hl
theorem zf6{a c:List Pln}(ha:ful a=true)(hc:(chk c==0)=true)(h:∀z,Inr (a++ws) z->Inr (c++ws) z):lies a c=true:=by
 obtain⟨h1,h2,_⟩:=Ic8 ha;unfold lies;rw[ha,hc,Bool.true_and,Bool.true_and,List.all_eq_true];intro x hx;have hok:=tf7 x hx;rw[vf8 (λp hp=>jc3 (rb6 hc p (Qma _ hp))) hok]
 have hp:pts a=cor (a++ws):=by unfold pts;rw[if_pos h1]
 rw[hp] at hx;exact λp hp=>(h x (cf2 h2 x hx).toInr).h p (Qma _ hp)
structure Zf4(own:List Pln)(s r:List (List Pln)):Prop where
 m:Ma7 own s=(r,0)
 n:r.length<=144
 l:∀x∈r,x.length<=37
 full:∀x∈r,ful x=true
 lies:∀x∈r,Ce.lies x own=true
 off:∀x∈r,mb4 x s=true
 dis:∀j,j<r.length->mb4 (gL (tLs tP) r j) (r.take j)=true
 all:(s++r).length<=16->w9 (s++r) own=(true,0)
 self:r.length<=16->(w9 r own).2=9\/((w9 r own).2=0/\(w9 r own).1=mb4 own s)
open Classical in
theorem lg3{own:List Pln}{s:List (List Pln)}(ho:Mc own)(hs:Ms 2 s):∃r,Zf4 own s r:=by
 obtain⟨r,hm,hb⟩:=Me6 (c:=own) (s:=s) (by have:=ho.l;omega) hs.n λq hq=>(hs.c q hq).l
 have hP:=je5 ho.ful hm;have hch:∀q∈s,(chk q==0)=true:=λq hq=>(hs.c q hq).chk
 have hrch:∀x∈r,(chk x==0)=true:=λx hx=>(W8.1 (hP.ful x hx)).1
 have hnd:=le0 hm;refine⟨r,(zc8 ho.chk (hs.schk (by omega)) hm).2,hb.n,hb.m,hP.ful,λx hx=>zf6 (hP.ful x hx) ho.chk (hP.sub x hx),λx hx=>?_,λj hj=>?_,λhl=>?_,λhl=>?_⟩
 ·exact (zc9 (hrch x hx) hch).2 λq hq z z1 z2=>hP.off x hx q hq (hs.c q hq).ful z z1 z2.inr
 ·have hg:gL (tLs tP) r j=r[j]:=by simp[gL,Qme,List.getElem?_eq_getElem hj]
  have hmj:gL (tLs tP) r j∈r:=va9 (tLs tP) hj;refine (zc9 (hrch _ hmj) λq hq=>hrch q (Qmi hq)).2 λq hq z z1 z2=>?_
  obtain⟨i,hi,rfl⟩:=List.getElem_of_mem hq;rw[Qmg] at hi;rw[List.getElem_take] at z2;rw[hg] at z1;exact (List.pairwise_iff_getElem.1 hP.dis) i j (by omega) hj (by omega) z z2 z1
 ·have e : ea6 own (s ++ r) = some [] := by
   rw[mc7,Me7,<- mc7,hm];exact sd6 r (λy hy=>⟨hP.ful y hy,hnd y hy,by have:=hb.m y hy;omega⟩) hP.dis (by have:=hb.n;omega)
  have hsch:schk (s++r)=0:=pc7 hl λq hq=>(List.mem_append.1 hq).elim (hch q) (hrch q)
  have:Ma7 own (s++r)=([],0):=(zc8 ho.chk hsch e).2
  unfold w9;rw[this];rfl
 ·have hsch:schk r=0:=pc7 hl hrch;cases hm2:ea6 own r with
  |none =>
   left;have hc:=ho.chk;rw[beq_iff_eq] at hc;unfold w9 Ma7;rw[hc,hsch,hm2];rfl
  |some r2 =>
   right;rw[(zc8 ho.chk hsch hm2).1];refine⟨rfl,?_⟩;rw[Bool.eq_iff_iff,decide_eq_true_eq,zc9 ho.chk hch];constructor
   ·intro hC q hq z z1 z2;obtain⟨y,hy,hyf,hyz⟩:=hC ho.ful z z1.inr;obtain⟨_,y0,hy0⟩:=W8.1 hyf;obtain⟨u,hu⟩:=wf5 hyz hy0 (q++ws) z2.h;exact hP.off y hy q hq (hs.c q hq).ful u (hu.mono λp hp=>Qma _ hp) (hu.mono λp hp=>List.mem_append_right _ hp).inr
   ·intro hA hf z hz;have hlc:(chk (lean own)==0)=true:=qd0 ho.chk;have e:r=[lean own]:=by
     have e1:=Vc8 (ps:=[lean own]) s (λq hq x hx=>by
      rw[Qmc.1 hx];exact (jb9 hlc (hch q hq)).2 λz z1 z2=>hA q hq z ((Eb4 ho.ful).1 z1) z2) (by simp)
     rw[mc7,hf,if_pos rfl,e1] at hm;injection hm with hm;exact hm.symm
    exact⟨lean own,by rw[e];simp,qd1 hf,(Ua6 hf).2 hz⟩
theorem jf6{α:Type}(t:Ty α)(l:List α)(j:Nat)(h:j<=l.length):lsL t (j-0) (λk=>(λk=>t.row (gL t l k)) (0+k))=l.take j/\okL t (j-0) (λk=>(λk=>t.row (gL t l k)) (0+k))=true:=by
 refine⟨fc1 t (by rw[Qmg];omega) λk hk=>?_,ab5 t (f:=λk=>gL t l (0+k)) λ_ _=>rfl⟩
 simp only[Nat.zero_add];congr 1;simp only[gL,Qme];rw[List.getElem?_take,if_pos (by omega)]
theorem sd7{α:Type}(t:Ty α)(l:List α){n:Nat}(h:n=l.length):lsL t n (λk=>l5 (bL t l) k)=l/\okL t n (λk=>l5 (bL t l) k)=true:=by
 subst h;exact⟨fc1 t rfl λk hk=>by rw[V1 t hk],ab5 t (f:=λk=>gL t l k) λk hk=>by rw[V1 t hk]⟩
theorem zf7{α:Type}(l:List α):app [] l=l:=rfl
theorem ve3{own:List Pln}{s r:List (List Pln)}(h:Zf4 own s r)(ho:own.length<=48)(hs:Ms 2 s):(lp (S4 ⟨true,own,s,r,r,(r.length:Int)⟩) ⟨0⟩).1=2:=by
 have hsl:∀q∈s,q.length<=1000000:=λq hq=>by have:=(hs.c q hq).l;omega
 have hsn:s.length<=1000000:=by have:=hs.n;omega
 have hrn:=h.n;have hl:=hb9 (step:=S4 ⟨true,own,s,r,r,(r.length:Int)⟩) (mk:=λj=>(⟨(j:Int)⟩:I1)) (c:=λ_=>false) (u:=1) (fin:=2) (tLs tP) r (by omega)
  (λj hj=>by
   have hm:gL (tLs tP) r j∈r:=va9 (tLs tP) hj;have hx:=h.l _ hm;have d:=h.dis j hj;obtain⟨e1,e2⟩:=jf6 (tLs tP) r j (by omega)
   have hi:inB (j:Int) (r.length+1)=true:=f0 (by omega)
   have htl:∀q∈r.take j,q.length<=1000000:=λq hq=>by have:=h.l q (Qmi hq);omega
   have htn:(r.take j).length<=1000000:=by rw[Qmg];omega
   simp only[S4,aa7,Int.toNat_natCast,i5,o5,xc8 (c:=gL (tLs tP) r j) (by omega),xc9 (c:=gL (tLs tP) r j) (by omega),h.full _ hm,
    af5 (a:=gL (tLs tP) r j) (c:=own) (by omega) (by omega),af6 (a:=gL (tLs tP) r j) (c:=own) (by omega) (by omega),h.lies _ hm,Kc0 (c:=gL (tLs tP) r j) (by omega) hsn hsl,Kc1 (c:=gL (tLs tP) r j) (by omega) hsn hsl,h.off _ hm,
    e1,e2,hi,Kc0 (c:=gL (tLs tP) r j) (by omega) htn htl,Kc1 (c:=gL (tLs tP) r j) (by omega) htn htl,d,n8 hj (show r.length<=4611686018427387904 by omega),Bool.not_true,f9,G0]
   rw[btD (g7 hj),bt (f0 hj)])
  (by simp only[S4,aa7];rw[bfD (l9 (Nat.lt_irrefl _))]) 0 (Nat.zero_le _)
 rw[List.drop_zero,show (r.any λ_=>false)=false by simp] at hl
 exact hl
theorem Jd5(x:List Int)(y:List (List Int)):ra1 x y=some (b true,[]):=by
 have ho:Mc (Ba8 x):=Zf1 x;have hs:Ms 2 (va5 y 2):=yf7 y 2 (by omega)
 have gs:xb8 y 2=true:=yf8 y 2 (by omega)
 have hol:=ho.l;have hsn:=hs.n;have hsl:∀q∈va5 y 2,q.length<=1000000:=λq hq=>by have:=(hs.c q hq).l;omega
 obtain⟨r,hF⟩:=lg3 ho hs;have hrn:=hF.n;have hrl:∀q∈r,q.length<=1000000:=λq hq=>by have:=hF.l q hq;omega
 have hloop:=ve3 hF (by omega) hs
 have hall:=hF.all;have hself:=hF.self;unfold ra1;simp only[i5,o5,i8,ve0,ve1,Zf2,gs,Ud1 (x:=Ba8 x) (y:=va5 y 2) (by omega) (by omega) hsl,Ud2 (x:=Ba8 x) (y:=va5 y 2) (by omega) (by omega) hsl,hF.m,f9,Qmf]
 generalize Ba8 x=own at *
 generalize va5 y 2=s at *
 rw[hloop];have h1:=lc9 (x:=r) (y:=own) (by omega) (by omega) hrl
 have h2:=rd5 (x:=r) (y:=own) (by omega) (by omega) hrl
 have h3:=Kc0 (c:=own) (s:=s) (by omega) (by omega) hsl
 have h4:=Kc1 (c:=own) (s:=s) (by omega) (by omega) hsl
 have hsr:∀q∈s++r,q.length<=1000000:=λq hq=>(List.mem_append.1 hq).elim (hsl q) (hrl q)
 have hlsr:(s++r).length<=1000000:=by rw[Qmd];omega
 have h5:=Rc7 (x:=s++r) (y:=own) (z:=true) (by omega) hlsr hsr
 -- what comes last
 have fin:r.length<=16->sl ((w9 r own).2==9) (some ((b true,[]):b7×List b8)) (sl ((w9 r own).2==0) (some (b ((w9 r own).1==mb4 own s),[])) (some (b false,[])))=some (b true,[]):=λhr=>by
  rcases hself hr with h|⟨h,h'⟩
  ·rw[h];rfl
  ·simp only[h,h',beq_self_eq_true];rfl
 simp only[ue3,ue4,G0,f9,show ((0:Int) != 0)=false from rfl,Ab2,zf7,S6,Nat.zero_add,Ra1,h1,h2,h3,h4]
 have nb0:∀{n:Nat},n≠0->Nat.beq n 0=false:=λ{n} h=>by cases n with
  |zero=>exact absurd rfl h
  |succ n=>rfl
 have rm0:∀n:Nat,n<=1000000->Nat.ble (n*24) room=true:=λn h=>Nat.ble_eq_true_of_le (by unfold room;omega)
 have z00:Nat.beq 0 0=true:=rfl;obtain⟨e1,e2⟩:=sd7 (tLs tP) r (n:=r.length) rfl;obtain⟨e3,e4⟩:=sd7 (tLs tP) s (n:=s.length) rfl;obtain⟨e5,e6⟩:=sd7 (tLs tP) (s++r) (n:=s.length+r.length) (by rw[Qmd])
 have big:(s++r).length<=16->T0 (s++r) own true=true:=λh=>by rw[h5.1,hall h];rfl
 by_cases hs0:s.length=0
 ·have hs0':=Qmb.1 hs0;subst hs0';simp only[List.nil_append,List.length_nil] at *
  by_cases hr0:r.length=0
  ·have hr0':=Qmb.1 hr0;subst hr0';simp only[List.length_nil,z00,f9,h5.2,big (by simp)]
   exact fin (by simp)
  ·simp only[z00,nb0 hr0,rm0 r.length (by omega),Qmf,f9,G0,e1,e2,h5.2]
   by_cases h16:r.length<=16
   ·rw[bfD (show ¬ ((r.length:Nat):Int)>16 by omega),big h16]
    exact fin h16
   ·rw[btD (show ((r.length:Nat):Int)>16 by omega)]
 ·by_cases hr0:r.length=0
  ·have hr0':=Qmb.1 hr0;subst hr0';simp only[List.append_nil,List.length_nil] at *
   simp only[nb0 hs0,z00,rm0 s.length (by omega),Qmf,f9,G0,e3,e4,h5.2]
   rw[bfD (show ¬ ((s.length:Nat):Int)>16 by omega),big (by omega)]
   exact fin (by simp)
  ·simp only[nb0 hs0,nb0 hr0,z00,rm0 s.length (by omega),rm0 (s.length+r.length) (by omega),Nat.beq_refl,Qmf,f9,G0,e5,e6,h5.2]
   rw[Qmd] at *
   by_cases h16:s.length+r.length<=16
   ·rw[bfD (show ¬ ((s.length+r.length:Nat):Int)>16 by omega),big h16]
    exact fin (by omega)
   ·rw[btD (show ((s.length+r.length:Nat):Int)>16 by omega)]
theorem Me8(x:List Int)(y:List (List Int)):Da0 x y=true:=by unfold Da0;rw[Jd5];rfl
theorem Me9(x:List Int)(y:List (List Int)):Da1 x y=true:=by unfold Da1;rw[Jd5];rfl
end Go.Ev.Ce
namespace Go.Ev
open Go Go.ChangeShapes Go.RowKit
section
variable{D:Type}{enc:TypeId×Value->D}{P:Program}{w:World}{spare:Nat->Bool}{held:Bool}
theorem Of4 {t e u : TypeId} {k : IntKind} {d : Nat} (ht : P.underlying t = some (.slice e)) (he : P.underlying e = some (.slice u)) (hf : ga2 P d u = some (Ja2 k 1)) (hes : P.cellsOf u = 1) (hce : P.cellsOf e = 1) {fuel : Nat} {cs : List Value} {x : DataW D × List MemPlace} (hx : DataW.trod enc P w 0 spare held fuel t cs = some x) :
  ∃(v:Value) (n:Nat) (m:Nat->Nat) (g:Nat->Nat->Int),cs=[v]/\ea3 (Rc1 w) w (.tree 1 n λj=>[.tree 1 (m j) λq=>[.v (.int k (g j q))]]) v:=by
 rcases ke3 ht hx with rfl|⟨a,n,cap,fuel',rfl,hn,hc,hel⟩
 ·exact⟨_,0,λ_=>0,λ_ _=>0,rfl,.nil _ _⟩
 ·rw[hce] at hel;have hcell:∀j,j<n->∃(m:Nat) (g:Nat->Int) (v:Value),w.cell? (a.add (j*1))=some v/\ea3 (Rc1 w) w (.tree 1 m λq=>[.v (.int k (g q))]) v:=λj hj=>by
   obtain⟨row,y,h1,h2⟩:=hel j hj;obtain⟨v',m,g,e1,_,e3⟩:=uc2 he hf hes (by omega) h2
   subst e1;refine⟨m,λq=>g q 0,v',?_,?_⟩
   ·unfold World.cells? at h1
    split at h1
    ·obtain⟨l1,l2⟩:=Sb2 h1;obtain⟨i,hi,hi2⟩:=l2 0 v' rfl
     have:i=0:=by
      have:=List.getElem?_eq_some_iff.1 hi
      obtain⟨h3,h4⟩:=this;simpa using h4.symm
     subst this;have e:(a.add (j*1)).add 0=a.add (j*1):=by
      unfold Addr.add;cases (a.spot)<;>simp
     rw[<- e];exact hi2
    ·cases h1
   ·exact e3.get λq _=>rfl
  have hg:∀j,∃p:Nat×(Nat->Int),j<n->∃v:Value,w.cell? (a.add (j*1))=some v/\ea3 (Rc1 w) w (.tree 1 p.1 λq=>[.v (.int k (p.2 q))]) v:=λj=>by
   by_cases hj:j<n
   ·obtain⟨m,g,v,h1,h2⟩:=hcell j hj;exact⟨(m,g),λ_=>⟨v,h1,h2⟩⟩
   ·exact⟨(0,λ_=>0),λh=>absurd h hj⟩
  obtain⟨p,hp⟩:=Qmh hg;have hv:∀j,∃v:Value,j<n->w.cell? (a.add (j*1))=some v/\ea3 (Rc1 w) w (.tree 1 (p j).1 λq=>[.v (.int k ((p j).2 q))]) v:=λj=>by
   by_cases hj:j<n
   ·obtain⟨v,h⟩:=hp j hj;exact⟨v,λ_=>h⟩
   ·exact⟨.bool true,λh=>absurd h hj⟩
  obtain⟨v,hv⟩:=Qmh hv;have hspot:0<n->a.spot=none:=λhn=>by
   have:=(hv 0 hn).1
   simpa [Addr.add] using World.cell?_spot this
  have hw:∀j c,j<n->c<1->w.cell? ⟨a.block,a.off+(j*1+c),none⟩=some (v j):=λj c hj hc=>by
   have:=(hv j hj).1
   rw[X9 (hspot (by omega))] at this
   have:c=0:=by omega
   subst this;simpa using (hv j hj).1 |> λh=>by rw[X9 (hspot (by omega))] at h;simpa using h
  refine⟨_,n,λj=>(p j).1,λj q=>(p j).2 q,rfl,.tree 1 n _ a cap (λj _=>v j) hspot hn (λi hi=>rfl) (λi c hi hc=>?_) hw λi c hi hc=>?_⟩
  ·unfold Rc1;rw[hw i c hi hc];rfl
  ·have:c=0:=by simpa using hc
   subst this;exact (hv i hi).2
theorem zf8 {ρ : Rho} {H : List b8} {t e u : TypeId} {k : IntKind} {d : Nat} {v : Value} {dd : DataW D} {pp : List MemPlace} {bs : Nat} {r : Reach} (ht : P.underlying t = some (.slice e)) (he : P.underlying e = some (.slice u)) (hf : ga2 P d u = some (Ja2 k 1)) (hes : P.cellsOf u = 1) (hce : P.cellsOf e = 1)
  (hok:Value.okWide P w r bs t v) (h:DataW.Trod enc P w 0 spare held t v dd pp):∃(n:Nat) (m:Nat->Nat) (g:Nat->Nat->Int),ka6 ρ H (Rc1 w) w (.tree 1 n λj=>[.tree 1 (m j) λq=>[.v (.int k (g j q))]]) v:=by
 obtain⟨fuel,hx⟩:=h;obtain⟨v',n,m,g,h1,h3⟩:=Of4 ht he hf hes hce hx;have hv:v.cells=#[v]:=by
  unfold Value.okWide at hok;rw[ht] at hok;cases v with
  |agg cs=>exfalso;simp[Cell.okWide,Cell.ok,ht] at hok
  |_=>rfl
 rw[hv] at h1
 have:v=v':=by simpa using h1
 subst this;exact⟨n,m,g,.cell (.mem h3)⟩
end
end Go.Ev
namespace Go.Ev.Ce
open Go Go.Ev Go.Ev.L Go.ChangeShapes Go.RowKit
theorem zf9(n:Nat)(m:Nat->Nat)(g:Nat->Nat->Int):∃l,Rdg (P0 (tLs tI)) (.tree 1 n λj=>[.tree 1 (m j) λq=>[.v (.int .i64 (g j q))]]) l:=by
 refine⟨lsL (tLs tI) n λj=>[.tree 1 (m j) λq=>[.v (.int .i64 (g j q))]],rfl,?_⟩
 show okL (tLs tI) n _=true;unfold okL;rw[List.all_eq_true];intro j _;show Bool.and (Nat.beq 1 1) (okL tI (m j) λq=>[.v (.int .i64 (g j q))])=true
 have h:okL tI (m j) (λq=>[.v (.int .i64 (g j q))])=true:=ab5 tI (f:=λq=>g j q) λ_ _=>rfl
 rw[h];rfl
end Go.Ev.Ce
