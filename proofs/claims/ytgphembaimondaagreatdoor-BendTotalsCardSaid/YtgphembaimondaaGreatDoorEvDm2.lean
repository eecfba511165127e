/- Own work. -/
import Derived.Test.YtgphembaimondaaGreatDoorEvSp2
import Derived.MapKept
import GoSem.Instr.MapUpdate
import Derived.OrdersIn
set_option linter.all false
noncomputable section
def Qea:=@List.length_append
def Qeb:=@Array.getElem?_setIfInBounds_ne
def Qec:=@List.mem_iff_getElem
def Qed:=@Nat.lt_irrefl
def Qee:=@Nat.zero_le
namespace Go.Ev
open Go
def Kb6(WB W':Nat->Prop)(ds:List Deferred)(w:World):Prop:=(∀d∈ds,∃D,d={ target:=.collected D,args:=#[] }/\w.heap[D]?=some (.deferred (some []))/\¬ W' D/\D<w.heap.size/\WB D)/\ds.Nodup
def VR(ρ:Rho)(H:List c7)(F:Fz)(w:World)(a:List b9)(vs:List Value):Prop:=a.length=vs.length/\∀(i:Nat) x x',a[i]?=some x->vs[i]?=some x'->XW ρ H F w x x'
structure C2(P:Program)(WB:Nat->Prop)(K:Nat->Prop)(J:List Value->World->Prop)(ρ0:Rho)(H0:List c7)(F0:Fz)(w0:World)(H:List c7)(ds:List Deferred)(w:World)(ρ:Rho)(F:Fz)(W':Nat->Prop)(up:List Value):Prop where
 sub:∀k,W' k->WB k
 adv:Adv WB ρ0 H0 F0 w0 ρ H F w
 hrel:r4 W' ρ (j8 H) F w
 srel:de6 P WB W' ρ H F w
 kept:∀k,K k->¬ W' k/\k<w.heap.size
 far:∀(id:Nat) b,H[id]?=some b->r5 b=true->b.dead=false->¬ K (ρ id).blk
 jot:J up w
 marks:Kb6 WB W' ds w
structure I2(P:Program)(WB:Nat->Prop)(K:Nat->Prop)(J:List Value->World->Prop)(n:Nat)(ρ0:Rho)(H0:List c7)(F0:Fz)(w0:World)(s:St)(ac:Act)(w:World)(ρ:Rho)(F:Fz)(W':Nat->Prop)(up:List Value):Prop where
 core:C2 P WB K J ρ0 H0 F0 w0 s.H ac.defers w ρ F W' up
 vals:VR ρ s.H F w s.a (ac.tmps.toList++up)
 size:ac.tmps.size=n
def Ac5(P:Program)(WB:Nat->Prop)(K:Nat->Prop)(J:List Value->World->Prop)(n:Nat)(ρ0:Rho)(H0:List c7)(F0:Fz)(w0:World)(s:St)(ac:Act)(w:World):Prop :=
 ∃ρ F W' up,I2 P WB K J n ρ0 H0 F0 w0 s ac w ρ F W' up
def Tr(ρ:Rho)(H:List c7)(F:Fz)(w:World)(ρ':Rho)(H':List c7)(F':Fz)(w':World):Prop:=∀x x',XW ρ H F w x x'->XW ρ' H' F' w' x x'
def yb9(K:Nat->Prop)(J:List Value->World->Prop):Prop:=∀up w w',(∀k,K k->w'.heap[k]?=w.heap[k]?)->J up w->J up w'
section
variable{P:Program}{WB K:Nat->Prop}{J:List Value->World->Prop}{ρ ρ0 ρ':Rho}{H H0 H1:List c7}{F F0 F':Fz}{w w0 w':World}{W':Nat->Prop}{up:List Value}{s:St}{ac ac':Act}{E:Env}
theorem Kb6.step{ds:List Deferred}(h:Kb6 WB W' ds w)(he:Ext W' F w w'):Kb6 WB W' ds w':=⟨λd hd=>by
 obtain⟨D,h1,h2,h3,h4,h5⟩:=h.1 d hd;exact⟨D,h1,(he.block D h4 h3).trans h2,h3,Qaj h4 he.size,h5⟩,h.2⟩
theorem C2.step{ds:List Deferred}(h:C2 P WB K J ρ0 H0 F0 w0 H ds w ρ F W' up)(hJ:yb9 K J)(hA:Adv W' ρ (j8 H) F w ρ' H1 F' w')(ho:vb4 H H1=true)(hH1:r4 W' ρ' H1 F' w') :
  C2 P WB K J ρ0 H0 F0 w0 (o9 H H1) ds w' (ρsp H ρ ρ') F' W' up/\Tr ρ H F w (ρsp H ρ ρ') (o9 H H1) F' w' :=
 ⟨⟨h.sub,h.adv.trans (ee0 hA ho h.sub),Ud8 hA ho hH1,Ud9 hA ho h.srel,λk hk=>⟨(h.kept k hk).1,Qaj (h.kept k hk).2 hA.ext.size⟩,
  de9 hA ho h.far,hJ up w w' (λk hk=>hA.ext.block k (h.kept k hk).2 (h.kept k hk).1) h.jot,h.marks.step hA.ext⟩,λ_ _ hx=>ye8 hA ho hx⟩
structure Za5(DS:Nat->Prop)(tm:Array Value)(ds:List Deferred)(W:Nat->Prop)(ρ0:Rho)(H0:List c7)(F0:Fz)(w0:World)(s:St)(ac:Act)(w:World):Prop where
 defers:ac.defers=ds
 size:ac.tmps.size=tm.size
 same:∀t,¬ DS t->ac.tmps[t]?=tm[t]?
 rel:∃ρ F,Adv W ρ0 H0 F0 w0 ρ s.H F w/\r4 W ρ s.H F w/\da4 ρ s.H F w s.a ac.tmps
theorem O8{ac:Act}(dst:Option Nat)(v:Value):(ac.put dst v).tmps.size=ac.tmps.size:=by cases dst<;>simp[Act.put]
theorem kb3{ac:Act}{dst:Option Nat}{v:Value}{t:Nat}(h:dst≠some t):(ac.put dst v).tmps[t]?=ac.tmps[t]?:=by
 cases dst with
 |none=>rfl
 |some d=>exact Qeb λe=>h (by rw[e])
section
variable{W:Nat->Prop}{DS:Nat->Prop}{tm:Array Value}{ds:List Deferred}{Fe:Fence}{n:Nat}
variable(hF:FW Fe)(hG0:GOk E F0 w0)(hcalls:∀f,e8 E.P E.G f (E.call f))
include hF hG0 hcalls
theorem piM{ops:Array Oper}{o:Oper}{g:Option (Nat×Bool)}{s s':St}{ac:Act}{i:Nat}{rest:List Nat}{Q:Exit->Act->World->Prop}(hi:ops[i]?=some o)(hg:S6 ops o=some g)(hDS:∀d,o.dst=some d->DS d)
  (hI:Za5 DS tm ds W ρ0 H0 F0 w0 s ac w) (he:(Aa3 E s ⟨o.dst,g,[],jb8 E.P ops o⟩).run=some s') (hK:∀ac' w',Za5 DS tm ds W ρ0 H0 F0 w0 s' ac' w'->wpOpsIn Fe n E.P ops Q rest ac' w'):wpOpsIn Fe n E.P ops Q (i::rest) ac w:=by
 obtain⟨hd,hsz,hsm,ρ,F,hAdv,hH,hA⟩:=hI;simp only[wpOpsIn,hi];have hsame:∀v t,¬ DS t->(ac.put o.dst v).tmps[t]?=tm[t]?:=λv t ht=>(kb3 λe=>ht (hDS t e)).trans (hsm t ht)
 rcases lc2 hg hA he with⟨hw,he⟩|⟨hw,he⟩
 ·rw[if_pos hw];unfold pc2 at he;obtain⟨⟨x,H'⟩,h1,h2⟩:=DT.run_bind_some he;have h1':(evalOp E s.a s.H (jb8 E.P ops o)).run=some (x,H'):=h1;have hop:=dc1 (ac:={ ac with defers:=[] }) hA hH (hG0.adv hAdv) hcalls h1'
  refine hop.inAny hF n _ _ λx' w' hp=>?_
  obtain⟨ρ',F',a1,a2,a3⟩:=hp;have h2':some (⟨putA s.a o.dst x,H'⟩:St)=some s':=h2;injection h2' with h2';subst h2';exact hK _ _ ⟨(o5 _ _).trans hd,(O8 _ _).trans hsz,hsame x',ρ',F',hAdv.trans a1,a2,(hA.adv a1).putA o.dst a3⟩
 ·rw[if_neg (by simp[hw])]
  subst he;exact⟨λf _=>hF.fn f,hK _ _ ⟨(o5 _ _).trans hd,(O8 _ _).trans hsz,hsame _,ρ,F,hAdv,hH,hA.putA o.dst (.ofv _)⟩⟩
theorem kf0{ops:Array Oper}{Q:Exit->Act->World->Prop}{rest:List Nat}:∀(r:List Oper) (k:Nat) (l:List PI) (s s':St) (ac:Act) (w:World),(∃t,ops.toList.drop k=r++t)->(∀o∈r,∀d,o.dst=some d->DS d)->Ob4 E.P ops r=some l->Za5 DS tm ds W ρ0 H0 F0 w0 s ac w->(D8 E l s).run=some s' ->
  (∀ac' w',Za5 DS tm ds W ρ0 H0 F0 w0 s' ac' w'->wpOpsIn Fe n E.P ops Q rest ac' w')->wpOpsIn Fe n E.P ops Q (List.range' k r.length++rest) ac w
 |[],k,l,s,s',ac,w,hr,hDS,hl,hI,he,hQ=>by
  simp only[Ob4] at hl;injection hl with hl;subst hl;have he':some s=some s':=he
  simp_all
 |o::r,k,l,s,s',ac,w,hr,hDS,hl,hI,he,hQ=>by
  obtain⟨t,hr⟩:=hr;obtain⟨g,l',h1,h2,rfl⟩:=Rc8 hl;have he':((Aa3 E s ⟨o.dst,g,[],jb8 E.P ops o⟩).bind (D8 E l')).run=some s':=he;obtain⟨s1,h3,h4⟩:=DT.run_bind_some he';have hi:ops[k]?=some o:=by
   have:(ops.toList.drop k)[0]?=some o:=by rw[hr];rfl
   simpa using this
  rw[show (o::r).length=r.length+1 from rfl,List.range'_succ,List.cons_append]
  refine piM hF hG0 hcalls hi h1 (λd hd=>hDS o (.head _) d hd) hI h3 λac' w' hI'=>?_
  refine kf0 r (k+1) l' s1 s' ac' w' ⟨t,?_⟩ (λo ho=>hDS o (.tail _ ho)) h2 hI' h4 hQ
  rw[<- List.drop_drop,hr];rfl
end
theorem zb0 (ds : List Nat) : ∀ (a l : List b9) (k i : Nat), (Y6 ds a l k)[i]? = match a[i]? with
  |some x=>some (Bool.rec (motive:=λ_=>b9) x ((l[i]?).getD .unk) (Ma5 (k+i) ds))
  |none=>none
 |[],l,k,i=>by simp[Y6]
 |x::a,l,k,i=>by
  have e:Y6 ds (x::a) l k=Bool.rec (motive:=λ_=>b9) x (hdA l) (Ma5 k ds)::Y6 ds a (tlA l) (k+1):=rfl
  rw[e];cases i with
  |zero=>cases l<;>rfl
  |succ i =>
   simp only[List.getElem?_cons_succ];rw[zb0 ds a (tlA l) (k+1) i,show k+1+i=k+(i+1) by omega]
   cases l with
   |nil=>simp[tlA]
   |cons y l=>simp[tlA]
theorem zb1(ds:List Nat):∀(a l:List b9) (k:Nat),(Y6 ds a l k).length=a.length
 |[],_,_=>rfl
 |x::a,l,k=>congrArg Nat.succ (zb1 ds a (tlA l) (k+1))
theorem Ac6(k:Nat)(l:List Nat):Ma5 k l=true↔k∈l:=by
 induction l with
 |nil=>simp[Ma5]
 |cons x l ih =>
  have e:Ma5 k (x::l)=Bool.rec (Ma5 k l) true (Nat.beq x k):=rfl;rw[e,Qbp];cases h:Nat.beq x k with
  |true=>have:=Qae h;simp[this]
  |false =>
   have:=Qbae h
   grind
theorem Sc9{x:b9}{x':Value}(h:XW ρ H F w x x'):v8 ρ (j8 H) F w (T6 H x) x':=by
 cases h with
 |w h =>
  unfold T6;split
  ·rename_i id i c g;split
   ·rename_i b hb;cases r5 b with
    |true=>exact .unk _
    |false=>exact h
   ·exact .unk _
  ·exact h
 |c h =>
  cases h with
  |n h =>
   unfold T6;split
   ·split
    ·rename_i b hb;cases r5 b with
     |true=>exact .unk _
     |false=>exact .val (.cell h)
    ·exact .unk _
   ·exact .val (.cell h)
  |box id c g b hb hd he =>
   unfold T6;simp only[p9,hb,Ba3 he];exact .unk _
  |map id c g b t hb hd he =>
   unfold T6;simp only[p9,hb,Ga4 he];exact .unk _
theorem I2.arel{n:Nat}(h:I2 P WB K J n ρ0 H0 F0 w0 s ac w ρ F W' up):da4 ρ (j8 s.H) F w (l9 (T6 s.H) (A7 s.a n)) ac.tmps:=by
 have hl:=h.vals.1;have hn:=h.size;rw[Qea,Array.length_toList] at hl;rw[k9,A8];refine⟨by simp;omega,λi x x' hx hx'=>?_⟩
 rw[Qbm] at hx;have hi:i<n:=hn ▸ (Qbo.1 hx').1;rw[Qbe,if_pos hi] at hx;cases hy:s.a[i]? with
 |none=>rw[hy] at hx;cases hx
 |some y =>
  rw[hy] at hx;injection hx with hx;subst hx;refine Sc9 (h.vals.2 i y x' hy ?_)
  grind
theorem dc5{n:Nat}(hJ:yb9 K J){dd:List Nat}{s s2:St}{ac':Act}(hI:I2 P WB K J n ρ0 H0 F0 w0 s ac w ρ F W' up)(ho:vb4 s.H s2.H=true)
  (hM:Za5 (·∈dd) ac.tmps ac.defers W' ρ (j8 s.H) F w s2 ac' w'):Ac5 P WB K J n ρ0 H0 F0 w0 ⟨Y6 dd s.a s2.a 0,o9 s.H s2.H⟩ ac' w'/\ac'.defers=ac.defers/\(∀t,¬ t∈dd->ac'.tmps[t]?=ac.tmps[t]?):=by
 obtain⟨hd,hsz,hsm,ρ',F',hA,hH,hAr⟩:=hM;obtain⟨c1,c2⟩:=hI.core.step hJ hA ho hH;refine⟨⟨_,F',W',up,hd ▸ c1,⟨by rw[zb1];have:=hI.vals.1;rw[Qea,Array.length_toList] at this ⊢;omega,λi y y' hy hy'=>?_⟩,hsz.trans hI.size⟩,hd,hsm⟩
 have hn:=hI.size
 simp only at hy
 rw[zb0] at hy;cases hz:s.a[i]? with
 |none=>rw[hz] at hy;cases hy
 |some z =>
  rw[hz] at hy;injection hy with hy;rw[Qbh] at hy
  rcases Qan i n with hi|hi
  ·rw[Qbg (by rw[Array.length_toList];omega)] at hy'
   have hy':ac'.tmps[i]?=some y':=by simpa using hy'
   cases hm:Ma5 i dd with
   |true =>
    rw[hm] at hy;have hy:(s2.a[i]?).getD .unk=y:=hy;cases hq:s2.a[i]? with
    |none=>rw[hq] at hy;subst hy;exact .w (.unk _)
    |some q =>
     rw[hq] at hy;have hy:q=y:=hy;subst hy;exact .w (Cd0 hA ho (hAr.2 i q y' hq hy'))
   |false =>
    rw[hm] at hy;have hy:z=y:=hy;subst hy;have hnm:¬ i∈dd:=λh=>by rw[(Ac6 i dd).2 h] at hm;cases hm
    rw[hsm i hnm] at hy';refine c2 _ _ (hI.vals.2 i z y' hz ?_)
    grind
  ·have hlen : s2.a.length = n := by
    have:=hAr.1
    omega
   have hnone:s2.a[i]?=none:=Qal (by omega)
   rw[Qbf (by rw[Array.length_toList];omega)] at hy'
   have hy0:(ac.tmps.toList++up)[i]?=some y':=by
    grind
   rw[hnone] at hy;cases hm:Ma5 i dd with
   |true=>rw[hm] at hy;have hy:b9.unk=y:=hy;subst hy;exact .w (.unk _)
   |false=>rw[hm] at hy;have hy:z=y:=hy;subst hy;exact c2 _ _ (hI.vals.2 i z y' hz hy0)
theorem ye9{Fe:Fence}{n m k kk:Nat}(hF:FW Fe)(hG0:GOk E F0 w0)(hcalls:∀f,e8 E.P E.G f (E.call f))(hJ:yb9 K J){ops:Array Oper}{Q:Exit->Act->World->Prop}{rest:List Nat}{r:List Oper}{l:List PI}{dd:List Nat}{x:d8}{s s':St}
  (hr:∃t,ops.toList.drop k=r++t) (hDS:∀o∈r,∀d,o.dst=some d->d∈dd) (hl:Ob4 E.P ops r=some l) (hI:Ac5 E.P WB K J n ρ0 H0 F0 w0 s ac w) (he:(A1 E kk (.mask n dd (.ops l)) s).run=some (x,s'))
  (hQ:∀ac' w',Ac5 E.P WB K J n ρ0 H0 F0 w0 s' ac' w'->ac'.defers=ac.defers->(∀t,¬ t∈dd->ac'.tmps[t]?=ac.tmps[t]?)->wpOpsIn Fe m E.P ops Q rest ac' w'):x=.normal/\wpOpsIn Fe m E.P ops Q (List.range' k r.length++rest) ac w:=by
 obtain⟨ρ,F,W',up,hI⟩:=hI;have he':((A1 E kk (.ops l) ⟨l9 (T6 s.H) (A7 s.a n),j8 s.H⟩).bind λr=>.guard (vb4 s.H r.2.H) (.ret (r.1,⟨Y6 dd s.a r.2.a 0,o9 s.H r.2.H⟩))).run=some (x,s'):=he
 obtain⟨⟨x1,s1⟩,h1,h2⟩:=DT.run_bind_some he';obtain⟨ho,h2⟩:=DT.run_guard_some h2;have h2:some (x1,(⟨Y6 dd s.a s1.a 0,o9 s.H s1.H⟩:St))=some (x,s'):=h2;injection h2 with h2;injection h2 with e1 e2;subst e1 e2
 have h1':((D8 E l ⟨l9 (T6 s.H) (A7 s.a n),j8 s.H⟩).bind λs=>.ret (d8.normal,s)).run=some (x1,s1):=h1
 obtain⟨s2,h3,h4⟩:=DT.run_bind_some h1';have h4:some (d8.normal,s2)=some (x1,s1):=h4;injection h4 with h4;injection h4 with e1 e2;subst e1 e2
 refine⟨rfl,?_⟩;have hG:GOk E F w:=hG0.adv hI.core.adv;refine kf0 (DS:=(·∈dd)) (tm:=ac.tmps) (ds:=ac.defers) (W:=W') (ρ0:=ρ) (H0:=j8 s.H) (F0:=F) (w0:=w) hF hG hcalls r k l _ s2 ac w hr hDS hl ⟨rfl,rfl,λ_ _=>rfl,ρ,F,.refl,hI.core.hrel,hI.arel⟩ h3 λac' w' hM=>?_
 obtain⟨k1,k2,k3⟩:=dc5 hJ hI ho hM;exact hQ ac' w' k1 k2 k3
end
section
variable{P:Program}{WB K:Nat->Prop}{J:List Value->World->Prop}{ρ ρ0 ρ':Rho}{H H0 H':List c7}{F F0 F':Fz}{w w0 w':World}{W':Nat->Prop}{up up':List Value}{ds:List Deferred}
theorem pb6{a:Addr}(h:w'.heap[a.block]?=w.heap[a.block]?):w'.cell? a=w.cell? a:=by simp[World.cell?,h]
theorem dc6{id:Nat}{b:c7}(hE:∀(id:Nat) b,H[id]?=some b->∃b',H'[id]?=some b'/\b'.et=b.et/\b'.dead=b.dead/\b'.g=b.g/\b'.es=b.es/\b.elems.length<=b'.elems.length/\(r5 b=false->b'=b))(hl:H'.length=H.length)(hb:(j8 H')[id]?=some b)(hd:b.dead=false):(j8 H)[id]?=some b:=by
 obtain⟨h1,h2⟩:=S8 hb hd;have hlt:id<H.length:=hl ▸ (Qab.1 h1).1;obtain⟨b',k1,k2,_,_,k5,_,k6⟩:=hE id _ (Qaa hlt);obtain rfl:b'=b:=Qah (k1.symm.trans h1);have hs:r5 H[id]=false:=by
  unfold r5 at h2 ⊢;rw[<- k5];exact h2
 have:=k6 hs
 subst this;exact N1 (Qaa hlt) hs
theorem C2.alloc(h:C2 P WB K J ρ0 H0 F0 w0 H ds w ρ F W' up)(hJ:yb9 K J)(o:Obj) :
  C2 P WB K J ρ0 H0 F0 w0 H ds (w.alloc o) ρ F (λk=>W' k/\k≠w.heap.size) up/\Tr ρ H F w ρ H F (w.alloc o)/\WB w.heap.size/\(∀b,F w.heap.size b->False):=by
 have hold:∀k,k<w.heap.size->(w.alloc o).heap[k]?=w.heap[k]?:=λk hk=>by
  simp only[World.alloc,Qam];rw[if_neg (Qak hk)]
 have hsz:(w.alloc o).heap.size=w.heap.size+1:=by simp
 have hF:∀b o',F b o'->b<w.heap.size:=λb o' hf=>ab5 (h.hrel.frz b o' hf)
 have hcells:∀b o',F b o'->(w.alloc o).cell? ⟨b,o',none⟩=w.cell? ⟨b,o',none⟩:=λb o' hf=>pb6 (a:=⟨b,o',none⟩) (hold b (hF b o' hf))
 have hxc:∀x x',XC ρ H F w x x'->XC ρ H F (w.alloc o) x x':=λx x' hx=>by
  cases hx with
  |n hx=>exact .n (hx.carry (λid b hb hd=>⟨b,hb,hd,Qac _,λ_=>⟨rfl,rfl,Qac _⟩⟩) (λ_ _ h=>h) hcells)
  |box id c g b hb hd he=>exact .box id c g b hb hd he
  |map id c g b t hb hd he=>exact .map id c g b t hb hd he
 refine⟨⟨λk hk=>h.sub k hk.1,h.adv.trans ⟨⟨rfl,rfl,rfl,by omega,λk hk _=>hold k hk,hcells,Qac _⟩,.refl,λ_ _ h=>h,λ_ _ h=>.inl h,λid b hb hn=>absurd rfl (hn b hb)⟩,?_,?_,λk hk=>?_,h.far,?_,?_⟩,λx x' hx=>?_,h.sub _ (h.hrel.new _ (Qac _)),λb hf=>Qed _ (hF _ _ hf)⟩
 ·refine⟨λid b hb hd=>?_,h.hrel.apart,λb o' hf=>by rw[hcells b o' hf];exact h.hrel.frz b o' hf,λk hk=>⟨h.hrel.new k (by omega),by omega⟩⟩
  obtain⟨cc,t,fr,hB⟩:=h.hrel.blk id b hb hd;have hk:=hB.keep (w':=w.alloc o) (hold _ hB.lt) hcells;exact⟨cc,t,fr,hk.obj,hk.room,hk.len,hk.rows,hk.cell,λho=>by
   obtain⟨g1,g2,g3⟩:=hk.own ho;exact⟨g1,⟨g2,Qak hB.lt⟩,g3⟩,hk.kept⟩
 ·refine⟨λid b hb hs hd=>?_,h.srel.apart⟩
  obtain⟨k1,k2,k3,k4,k5⟩:=h.srel.has id b hb hs hd;refine⟨k1,λhk=>k2 hk.1,k3,by omega,?_⟩
  rcases k5 with⟨e,row,vs,t,m1,m2,m3,m4⟩|⟨t,K,El,fl,es,clk,m1,m2,m3,m4,m5⟩
  ·exact .inl ⟨e,row,vs,t,m1,(hold _ k4).trans m2,m3,λc x x' hx hx'=>⟨(m4 c x x' hx hx').1,hxc _ _ (m4 c x x' hx hx').2⟩⟩
  ·exact .inr ⟨t,K,El,fl,es,clk,m1,m2,m3,(hold _ k4).trans m4,m5⟩
 ·exact⟨λhw=>(h.kept k hk).1 hw.1,by have:=(h.kept k hk).2;omega⟩
 ·exact hJ up w _ (λk hk=>hold k (h.kept k hk).2) h.jot
 ·refine⟨λd hd=>?_,h.marks.2⟩
  obtain⟨D,h1,h2,h3,h4,h5⟩:=h.marks.1 d hd
  grind
 ·cases hx with
  |w hx=>exact .w (hx.carry (λid b hb hd=>⟨b,hb,hd,Qac _,λ_=>⟨rfl,rfl,Qac _⟩⟩) (λ_ _ h=>h) hcells)
  |c hx=>exact .c (hxc _ _ hx)
theorem C2.adopt(h:C2 P WB K J ρ0 H0 F0 w0 H ds w ρ F W' up)(k sz:Nat)(hk:WB k)(hkW:¬ W' k)(hkF:∀o,¬ F k o)(hks:k<w.heap.size)(hap:∀(id:Nat) b,H[id]?=some b->r5 b=true->b.dead=false->(ρ id).blk≠k)
  (hkK:¬ K k) (b:c7) (hb:r5 b=true) (hbd:b.dead=false) (hc:We8 (ρnew ρ H ⟨k,0,sz⟩) (H++[b]) F w b k\/We9 P w b k) :
  C2 P WB K J ρ0 H0 F0 w0 (H++[b]) ds w (ρnew ρ H ⟨k,0,sz⟩) F W' up/\Tr ρ H F w (ρnew ρ H ⟨k,0,sz⟩) (H++[b]) F w:=by
 have hρ:∀id,id<H.length->ρnew ρ H ⟨k,0,sz⟩ id=ρ id:=λid hid=>by simp[ρnew,Qak hid]
 have hρn:ρnew ρ H ⟨k,0,sz⟩ H.length=⟨k,0,sz⟩:=by simp[ρnew]
 have hlook:∀(id:Nat) c,(H++[b])[id]?=some c->(id<H.length/\H[id]?=some c)\/(id=H.length/\c=b):=λid c hc=>by
  rcases Qan id H.length with hh|hh
  ·rw[Qbg hh] at hc;exact .inl ⟨hh,hc⟩
  ·rw[Qbf hh] at hc;have h0:id-H.length=0:=by
    rcases Qbq (id-H.length) with h0|h0
    ·exact h0
    ·rw[Qal (by simp;omega)] at hc;cases hc
   rw[h0] at hc;exact .inr ⟨by omega,by simpa using hc.symm⟩
 have hleft:∀{id:Nat} {c:c7},H[id]?=some c->(H++[b])[id]?=some c/\id<H.length:=λ{id c} hc=>by
  have hlt:=(Qab.1 hc).1;exact⟨by rw[Qbg hlt];exact hc,hlt⟩
 have hlive:∀(id:Nat) c,(j8 (H++[b]))[id]?=some c->c.dead=false->(j8 H)[id]?=some c/\id<H.length:=λid c hc hd=>by
  obtain⟨h1,h2⟩:=S8 hc hd
  rcases hlook id c h1 with⟨hh,h3⟩|⟨_,rfl⟩
  ·exact⟨N1 h3 h2,hh⟩
  ·rw[hb] at h2;cases h2
 have hcar:Sc2 ρ (j8 H) (ρnew ρ H ⟨k,0,sz⟩) (j8 (H++[b])):=λid c hc hd=>by
  obtain⟨h1,h2⟩:=S8 hc hd;exact⟨c,N1 (hleft h1).1 h2,hd,Qac _,λ_=>⟨hρ id (hleft h1).2,rfl,Qac _⟩⟩
 have hxc:∀x x',XC ρ H F w x x'->XC (ρnew ρ H ⟨k,0,sz⟩) (H++[b]) F w x x':=λx x' hx=>by
  cases hx with
  |n hx=>exact .n (hx.carry hcar (λ_ _ h=>h) (λ_ _ _=>rfl))
  |box id c g b' hb' hd he=>rw[<- hρ id (hleft hb').2];exact .box id c g b' (hleft hb').1 hd he
  |map id c g b' t hb' hd he=>rw[<- hρ id (hleft hb').2];exact .map id c g b' t (hleft hb').1 hd he
 refine⟨⟨h.sub,h.adv.trans ⟨.refl,λid c hc=>⟨c,(hleft hc).1,rfl,Qac _,λ_=>⟨hρ id (hleft hc).2,rfl,Qac _⟩⟩,λ_ _ h=>h,λ_ _ h=>.inl h,λid c hc hn=>?_⟩,?_,?_,h.kept,λid c hc hs hd=>?_,h.jot,h.marks⟩,λx x' hx=>?_⟩
 ·grind
 ·exact h.hrel.pull (λi=>i) (λi c hc hd=>⟨(hlive i c hc hd).1,hρ i (hlive i c hc hd).2⟩) (λ_ _ _ _ _ _ _ _ e=>e)
 ·refine⟨λid c hc' hs hd=>?_,λid id' c c' hc1 hc1' hs hs' hd hd' hne=>?_⟩
  ·rcases hlook id c hc' with⟨hlt,h1⟩|⟨rfl,rfl⟩
   ·obtain⟨k1,k2,k3,k4,k5⟩:=h.srel.has id c h1 hs hd;rw[hρ id hlt];refine⟨k1,k2,k3,k4,?_⟩
    rcases k5 with⟨e,row,vs,t,m1,m2,m3,m4⟩|k5
    ·exact .inl ⟨e,row,vs,t,m1,m2,m3,λc x x' hx hx'=>⟨(m4 c x x' hx hx').1,hxc _ _ (m4 c x x' hx hx').2⟩⟩
    ·exact .inr k5
   simp_all
  ·rcases hlook id c hc1 with⟨hlt,h1⟩|⟨rfl,rfl⟩<;>rcases hlook id' c' hc1' with⟨hlt',h1'⟩|⟨rfl,rfl⟩
   ·rw[hρ id hlt,hρ id' hlt'];exact h.srel.apart id id' c c' h1 h1' hs hs' hd hd' hne
   ·simp_all
   ·grind
   ·exact absurd rfl hne
 ·rcases hlook id c hc with⟨hlt,h1⟩|⟨rfl,rfl⟩
  ·rw[hρ id hlt];exact h.far id c h1 hs hd
  ·rw[hρn];exact hkK
 ·cases hx with
  |w hx=>exact .w (hx.carry hcar (λ_ _ h=>h) (λ_ _ _=>rfl))
  |c hx=>exact .c (hxc _ _ hx)
theorem C2.change(h:C2 P WB K J ρ0 H0 F0 w0 H ds w ρ F W' up)(k:Nat)(hk:WB k)(hkW:¬ W' k)(hkF:∀o,¬ F k o)
  (hos:w'.os=w.os) (htape:w'.tape=w.tape) (hout:w'.output=w.output) (hdrawn:w.drawn<=w'.drawn) (hsize:w'.heap.size=w.heap.size) (hold:∀j,j≠k->w'.heap[j]?=w.heap[j]?)
  (hcc:∀cc t fr,w.heap[k]?=some (.cells cc t fr)->∃cc',w'.heap[k]?=some (.cells cc' t fr)/\cc'.size=cc.size)
  (hl:H'.length=H.length) (hE:∀(id:Nat) b,H[id]?=some b->∃b',H'[id]?=some b'/\b'.et=b.et/\b'.dead=b.dead/\b'.g=b.g/\b'.es=b.es/\b.elems.length<=b'.elems.length/\(r5 b=false->b'=b))
  (hsame:∀(id:Nat) b,H[id]?=some b->r5 b=true->b.dead=false->(ρ id).blk≠k->H'[id]?=some b)
  (hnew:(∀x x',XC ρ H F w x x'->XC ρ H' F w' x x')->∀(id:Nat) b,H'[id]?=some b->r5 b=true->b.dead=false->(ρ id).blk=k->We8 ρ H' F w' b k\/We9 P w' b k)
  (hJ:J up' w') (hM:∀D,({ target:=.collected D,args:=#[] }:Deferred)∈ds->w.heap[D]?=some (.deferred (some []))->D=k->w'.heap[D]?=some (.deferred (some []))) :
  C2 P WB K J ρ0 H0 F0 w0 H' ds w' ρ F W' up'/\Tr ρ H F w ρ H' F w':=by
 have hne:∀b o,F b o->b≠k:=λb o hf e=>hkF o (e ▸ hf)
 have hcells:∀b o,F b o->w'.cell? ⟨b,o,none⟩=w.cell? ⟨b,o,none⟩:=λb o hf=>pb6 (a:=⟨b,o,none⟩) (hold b (hne b o hf))
 have hback:∀(id:Nat) b',H'[id]?=some b'->∃b,H[id]?=some b/\b'.et=b.et/\b'.dead=b.dead/\r5 b=r5 b':=λid b' hb'=>by
  have hlt:id<H.length:=hl ▸ (Qab.1 hb').1;obtain⟨b2,k1,k2,k3,k4,k5,_⟩:=hE id _ (Qaa hlt);obtain rfl:b2=b':=Qah (k1.symm.trans hb');exact⟨_,Qaa hlt,k2,k3,by unfold r5;rw[k5]⟩
 have hcar:Sc2 ρ (j8 H) ρ (j8 H'):=λid b hb hd=>by
  obtain⟨h1,h2⟩:=S8 hb hd;obtain⟨b',k1,_,_,_,_,_,k6⟩:=hE id b h1
  have:=k6 h2
  subst this;exact⟨b',N1 k1 h2,hd,Qac _,λ_=>⟨rfl,rfl,Qac _⟩⟩
 have hxc:∀x x',XC ρ H F w x x'->XC ρ H' F w' x x':=λx x' hx=>by
  cases hx with
  |n hx=>exact .n (hx.carry hcar (λ_ _ h=>h) hcells)
  |box id c g b hb hd he =>
   obtain⟨b',k1,k2,k3,k4,k5,_⟩:=hE id b hb;exact .box id c g b' k1 (k3.trans hd) ⟨k5.trans he.1,k2.trans he.2⟩
  |map id c g b t hb hd he =>
   obtain⟨b',k1,k2,k3,k4,k5,_⟩:=hE id b hb;exact .map id c g b' t k1 (k3.trans hd) ⟨k5.trans he.1,k2.trans he.2⟩
 refine⟨⟨h.sub,h.adv.trans ⟨⟨hos,htape,hout,by omega,λj _ hj=>hold j λe=>hj (e ▸ hk),hcells,hdrawn⟩,λid b hb=>?_,λ_ _ h=>h,λ_ _ h=>.inl h,λid b' hb' hn=>?_⟩,?_,?_,λj hj=>⟨(h.kept j hj).1,by rw[hsize];exact (h.kept j hj).2⟩,λid b hb hs hd=>?_,hJ,⟨λd hd=>?_,h.marks.2⟩⟩,λx x' hx=>?_⟩
 ·grind
 ·grind
 ·refine⟨λid b hb hd=>?_,λid id' b b' hb hb' hd hd' ho hne'=>h.hrel.apart id id' b b' (dc6 hE hl hb hd) (dc6 hE hl hb' hd') hd hd' ho hne',λb o hf=>by rw[hcells b o hf];exact h.hrel.frz b o hf,λj hj=>h.hrel.new j (by rw[<- hsize];exact hj)⟩
  obtain⟨cc,t,fr,hB⟩:=h.hrel.blk id b (dc6 hE hl hb hd) hd;by_cases e:(ρ id).blk=k
  ·obtain⟨cc',h1,h2⟩:=hcc cc t fr (e ▸ hB.obj);have hno:b.own=false:=by
    cases ho:b.own with
    |false=>rfl
    |true=>exact absurd (e ▸ (hB.own ho).2.1) hkW
   have hz:b.elems.length*b.es=0:=by
    rcases Qbq (b.elems.length*b.es) with h0|h0
    ·exact h0
    ·exact absurd (e ▸ hB.kept hno 0 h0) (hkF _)
   refine⟨cc',t,fr,e ▸ h1,by rw[h2];exact hB.room,hB.len,hB.rows,λi r c x hr hx=>?_,(λho=>by rw[hno] at ho;cases ho),hB.kept⟩
   have hi:=(Qab.1 hr).1;have hc:=(Qab.1 hx).1;rw[hB.rows i r hr] at hc
   have:=Nat.mul_pos (show 0<b.elems.length by omega) (show 0<b.es by omega)
   omega
  ·exact⟨cc,t,fr,hB.keep (hold _ e) hcells⟩
 ·refine⟨λid b hb hs hd=>?_,λid id' b b' hb hb' hs hs' hd hd' hne'=>?_⟩
  ·obtain⟨b0,h1,h2,h3,h4⟩:=hback id b hb;obtain⟨k1,k2,k3,k4,k5⟩:=h.srel.has id b0 h1 (by rw[h4];exact hs) (by rw[<- h3];exact hd)
   refine⟨k1,k2,k3,by rw[hsize];exact k4,?_⟩
   by_cases e:(ρ id).blk=k
   ·grind
   ·have hb0:b0=b:=Qah ((hsame id b0 h1 (by rw[h4];exact hs) (by rw[<- h3];exact hd) e).symm.trans hb)
    subst hb0
    rcases k5 with⟨e',row,vs,t,m1,m2,m3,m4⟩|⟨t,K,El,fl,es,clk,m1,m2,m3,m4,m5⟩
    ·exact .inl ⟨e',row,vs,t,m1,(hold _ e).trans m2,m3,λc x x' hx hx'=>⟨(m4 c x x' hx hx').1,hxc _ _ (m4 c x x' hx hx').2⟩⟩
    ·exact .inr ⟨t,K,El,fl,es,clk,m1,m2,m3,(hold _ e).trans m4,m5⟩
  ·obtain⟨b0,h1,h2,h3,h4⟩:=hback id b hb;obtain⟨b0',h1',h2',h3',h4'⟩:=hback id' b' hb';exact h.srel.apart id id' b0 b0' h1 h1' (by rw[h4];exact hs) (by rw[h4'];exact hs') (by rw[<- h3];exact hd) (by rw[<- h3'];exact hd') hne'
 ·obtain⟨b0,h1,h2,h3,h4⟩:=hback id b hb;exact h.far id b0 h1 (by rw[h4];exact hs) (by rw[<- h3];exact hd)
 ·obtain⟨D,h1,h2,h3,h4,h5⟩:=h.marks.1 d hd
  grind
 ·cases hx with
  |w hx=>exact .w (hx.carry hcar (λ_ _ h=>h) hcells)
  |c hx=>exact .c (hxc _ _ hx)
end
section
variable{WB K:Nat->Prop}{J:List Value->World->Prop}{ρ ρ0:Rho}{H H0 H':List c7}{F F0:Fz}{w w0 w':World}{W':Nat->Prop}{up:List Value}{E:Env}{a:List b9}{ac:Act}{x:b9}{o:Oper}
def kb4(P:Program)(WB K:Nat->Prop)(J:List Value->World->Prop)(ρ0:Rho)(H0:List c7)(F0:Fz)(w0:World)(ρ:Rho)(H:List c7)(F:Fz)(w:World)(up:List Value)(ds:List Deferred)(x:b9)(H':List c7)(x':Value)(w':World):Prop :=
 ∃ρ' F' W'',C2 P WB K J ρ0 H0 F0 w0 H' ds w' ρ' F' W'' up/\Tr ρ H F w ρ' H' F' w'/\XW ρ' H' F' w' x x'
def ltO(n:Nat):Operand->Bool
 |.tmp t=>Nat.blt t n
 |_=>true
theorem Qa8{n:Nat}(hv:VR ρ H F w a (ac.tmps.toList++up))(hn:ac.tmps.size=n)(hG:GOk E F w)(y:Operand)(hy:ltO n y=true):XW ρ H F w (c9 E a (g9 y)) (ac.eval y):=by
 cases y with
 |tmp t =>
  show XW ρ H F w (c9 E a (.t t)) (ac.tmps.getD t undef);have hlt:t<n:=by have:=hy;unfold ltO at this;rwa [Qch] at this
  rw[Ra2];have hl:=hv.1;rw[Qea] at hl;have hsz:ac.tmps.toList.length=ac.tmps.size:=Array.length_toList;have hlt':t<ac.tmps.size:=hn ▸ hlt;have ha:t<a.length:=by rw[hl,hsz];exact Qaj hlt' (Nat.le_add_right _ _)
  have h1:a[t]?=some a[t]:=Qaa ha;have h2:(ac.tmps.toList++up)[t]?=some ac.tmps[t]:=by
   grind
  have:=hv.2 t _ _ h1 h2
  simpa [h1,Array.getD,hlt'] using this
 |const v=>exact .w (v8.ofVal v)
 |func f=>exact .w (.val (.cell (.mem (.fn0 f))))
 |global g =>
  have:da4 (λ_=>⟨0,0,0⟩) [] F w [] #[]:=⟨rfl,λi x x' hx=>by simp at hx⟩
  have h:=l5 (ρ:=ρ) (H:=j8 H) (a:=[]) (ac:=⟨#[],[]⟩) ⟨rfl,λi x x' hx=>by simp at hx⟩ hG (.global g)
  exact .w h
theorem pb7{t:Nat}{b:c7}(h:Sc8 b)(h':od4 t b):False:=by
 have h1:b.et=0:=h.2;have h2:b.et=t+1:=h'.2;rw[h1] at h2;cases h2
theorem kb5{id c g:Nat}{b:c7}{v:Value}(hs:Ib7 0 H x=some (id,c,g,b))(hx:XW ρ H F w x v):x=.ptr id 0 c g/\H[id]?=some b/\b.dead=false/\Sc8 b/\v=.pointer (some ⟨(ρ id).blk,c,none⟩):=by
 revert hs hx
 cases x with
 |ptr id' i' c' g' =>
  intro hs hx;simp only[Ib7,p9] at hs;cases hb:H[id']? with
  |none=>simp[hb] at hs
  |some b' =>
  simp only[hb] at hs;cases hd:b'.dead with
  |true=>simp[hd] at hs
  |false =>
  simp only[hd] at hs;cases he:(r5 b'&&Nat.beq b'.et 0) with
  |false=>simp[he] at hs
  |true =>
  simp only[he] at hs;cases hg:Nat.beq b'.g g' with
  |false=>simp[hg] at hs
  |true =>
  simp only[hg] at hs;cases hi:Nat.beq i' 0 with
  |false=>simp[hi] at hs
  |true =>
  simp only[hi] at hs;injection hs with hs;injection hs with e1 hs;injection hs with e2 hs;injection hs with e3 e4
  subst e1 e2 e3 e4;rw[Qbd] at he;have he:=And.intro (Qae he.1) (Qae he.2);have hi:=Qae hi;subst hi;refine⟨rfl,hb,hd,he,?_⟩;have hdead:∀q,(j8 H)[id']?=some q->q.dead=true:=λq hq=>by
   rw[Ac1 hb (Ba3 he)] at hq;injection hq with hq;rw[<- hq]
  have hno:∀{v},J9 ρ (j8 H) F w (.ptr id' 0 c' g') v->False:=λ{v} h=>by
   cases h with
   |mem h=>cases h
   |ptr _ _ _ _ ad q hq hd'=>rw[hdead q hq] at hd';cases hd'
  cases hx with
  |w h=>cases h with
   |val h=>cases h with
    |cell h=>exact (hno h).elim
  |c h =>
   cases h with
   |n h=>exact (hno h).elim
   |box=>rfl
   |map _ _ _ b2 t hb2 _ he2 =>
    have:b2=b':=Qah (hb2.symm.trans hb)
    subst this;exact (pb7 he he2).elim
 |_=>intro hs;cases hs
theorem Tc0{t id c g:Nat}{b:c7}{v:Value}(hs:Ib7 (t+1) H x=some (id,c,g,b))(hx:XW ρ H F w x v):x=.ptr id 0 c g/\H[id]?=some b/\b.dead=false/\od4 t b/\v=.map (some (ρ id).blk):=by
 revert hs hx
 cases x with
 |ptr id' i' c' g' =>
  intro hs hx;simp only[Ib7,p9] at hs;cases hb:H[id']? with
  |none=>simp[hb] at hs
  |some b' =>
  simp only[hb] at hs;cases hd:b'.dead with
  |true=>simp[hd] at hs
  |false =>
  simp only[hd] at hs;cases he:(r5 b'&&Nat.beq b'.et (t+1)) with
  |false=>simp[he] at hs
  |true =>
  simp only[he] at hs;cases hg:Nat.beq b'.g g' with
  |false=>simp[hg] at hs
  |true =>
  simp only[hg] at hs;cases hi:Nat.beq i' 0 with
  |false=>simp[hi] at hs
  |true =>
  simp only[hi] at hs;injection hs with hs;injection hs with e1 hs;injection hs with e2 hs;injection hs with e3 e4
  subst e1 e2 e3 e4;rw[Qbd] at he;have he:=And.intro (Qae he.1) (Qae he.2);have hi:=Qae hi;subst hi;refine⟨rfl,hb,hd,he,?_⟩;have hdead:∀q,(j8 H)[id']?=some q->q.dead=true:=λq hq=>by
   rw[Ac1 hb (Ga4 he)] at hq;injection hq with hq;rw[<- hq]
  have hno:∀{v},J9 ρ (j8 H) F w (.ptr id' 0 c' g') v->False:=λ{v} h=>by
   cases h with
   |mem h=>cases h
   |ptr _ _ _ _ ad q hq hd'=>rw[hdead q hq] at hd';cases hd'
  cases hx with
  |w h=>cases h with
   |val h=>cases h with
    |cell h=>exact (hno h).elim
  |c h =>
   cases h with
   |n h=>exact (hno h).elim
   |map=>rfl
   |box _ _ _ b2 hb2 _ he2 =>
    have:b2=b':=Qah (hb2.symm.trans hb)
    subst this;exact (pb7 he2 he).elim
 |_=>intro hs;cases hs
theorem od5(H:List c7)(et:Nat)(elems:List (List b9)):Sb7 H et elems=H++[{ et,es:=0,elems,own:=true,dead:=false,g:=0 }]:=by simp[Sb7,E0]
theorem od6{y:b9}{y':Value}(hy:XW ρ H F w y y')(hp:Fa6 y=true)(hb:ia0 yd1 (A0 y)=true) :
  (A0 y).length=y'.cells.toList.length/\∀(i:Nat) z z',(A0 y)[i]?=some z->y'.cells.toList[i]?=some z'->z'.oneCell'=true/\XC ρ H F w z z':=by
 have hone:∀{i:Nat} {z:b9} {z':Value},(A0 y)[i]?=some z->XC ρ H F w z z'->z'.oneCell'=true/\XC ρ H F w z z':=λ{i z z'} hz hx=>⟨hx.one (uc8 hb z (Qca hz)),hx⟩
 cases hy with
 |w h =>
  obtain⟨h1,h2⟩:=Fb2 h hp;exact⟨h1,λi z z' hz hz'=>hone hz (.n (h2 i z z' hz hz'))⟩
 |c h =>
  have h0:=h;cases h with
  |n h =>
   obtain⟨h1,h2⟩:=Fb2 (.val (.cell h)) hp;exact⟨h1,λi z z' hz hz'=>hone hz (.n (h2 i z z' hz hz'))⟩
  |box id c g b h1 h2 h3 =>
   refine⟨rfl,λi z z' hz hz'=>?_⟩
   cases i with
   |zero=>simp[A0,Value.cells] at hz hz';subst hz hz';exact⟨rfl,h0⟩
   |succ i=>simp[A0] at hz
  |map id c g b t h1 h2 h3 =>
   refine⟨rfl,λi z z' hz hz'=>?_⟩
   cases i with
   |zero=>simp[A0,Value.cells] at hz hz';subst hz hz';exact⟨rfl,h0⟩
   |succ i=>simp[A0] at hz
section
variable{ds:List Deferred}(hC:C2 E.P WB K J ρ0 H0 F0 w0 H ds w ρ F W' up)(hJ:yb9 K J)
include hC hJ
theorem ee1(row:List b9)(vs:Array Value)(t:TypeId)(hl:row.length=vs.size)(hc:∀(c:Nat) x x',row[c]?=some x->vs[c]?=some x'->x'.oneCell'=true/\XC ρ H F w x x') :
  kb4 E.P WB K J ρ0 H0 F0 w0 ρ H F w up ds (.ptr H.length 0 0 0) (Sb7 H 0 [row]) (.pointer (some ⟨w.heap.size,0,none⟩)) (w.alloc (.cells vs t)):=by
 obtain⟨c1,c2,c3,c4⟩:=hC.alloc hJ (.cells vs t);have hap:∀(id:Nat) b,H[id]?=some b->r5 b=true->b.dead=false->(ρ id).blk≠w.heap.size:=λid b hb hs hd=>Qak (hC.srel.has id b hb hs hd).2.2.2.1
 rw[od5];have hnew:(w.alloc (.cells vs t)).heap[w.heap.size]?=some (.cells vs t (0,0)):=by simp only[World.alloc,Qam];simp
 have hfirst:∀{x x'},XC ρ H F (w.alloc (.cells vs t)) x x'->XC (ρnew ρ H ⟨w.heap.size,0,0⟩) (H++[{ et:=0,es:=0,elems:=[row],own:=true,dead:=false,g:=0 }]) F (w.alloc (.cells vs t)) x x':=λ{x x'} hx=>by
  have hlt:∀{id:Nat} {b:c7},H[id]?=some b->id<H.length:=λh=>(Qab.1 h).1
  have hρ:∀id,id<H.length->ρnew ρ H ⟨w.heap.size,0,0⟩ id=ρ id:=λid hid=>by simp[ρnew,Qak hid]
  cases hx with
  |n hx =>
   refine .n (hx.carry (λid b hb hd=>?_) (λ_ _ h=>h) (λ_ _ _=>rfl))
   obtain⟨k1,k2⟩:=S8 hb hd;exact⟨b,N1 (by rw[Qbg (hlt k1)];exact k1) k2,hd,Qac _,λ_=>⟨hρ id (hlt k1),rfl,Qac _⟩⟩
  |box id c g b hb hd he =>
   rw[<- hρ id (hlt hb)];exact .box id c g b (by rw[Qbg (hlt hb)];exact hb) hd he
  |map id c g b t hb hd he =>
   rw[<- hρ id (hlt hb)];exact .map id c g b t (by rw[Qbg (hlt hb)];exact hb) hd he
 obtain⟨d1,d2⟩:=c1.adopt w.heap.size 0 c3 (λh=>h.2 rfl) (λo hf=>c4 o hf) (by simp) hap (λhk=>Qed _ (hC.kept _ hk).2) { et:=0,es:=0,elems:=[row],own:=true,dead:=false,g:=0 } (Ba3 ⟨rfl,rfl⟩) rfl
  (.inl ⟨⟨rfl,rfl⟩,row,vs,t,rfl,hnew,Nat.le_of_eq hl,λc x x' hx hx'=>by
   obtain⟨k1,k2⟩:=hc c x x' hx hx';have k3:=c2 x x' (.c k2);refine⟨k1,hfirst ?_⟩;cases k3 with
   |c h=>exact h
   |w h =>
    cases k2 with
    |n k2 =>
     cases h with
     |val h =>
      cases h with
      |cell h=>exact .n h
      |agg=>cases k1
      |fn f caps vs' hl' h' =>
       exact .n (k2.carry (λid b hb hd=>⟨b,hb,hd,Qac _,λ_=>⟨rfl,rfl,Qac _⟩⟩) (λ_ _ h=>h) λb o hf=>pb6 (a:=⟨b,o,none⟩) (by
        have:=ab5 (hC.hrel.frz b o hf)
        simp only[World.alloc,Qam];rw[if_neg (Qak this)]))
     |tup=>cases k1
    |box id c g b hb hd he=>exact .box id c g b hb hd he
    |map id c g b t hb hd he=>exact .map id c g b t hb hd he⟩)
 refine⟨_,F,_,d1,λx x' hx=>d2 _ _ (c2 _ _ hx),.c ?_⟩
 have hρn:(ρnew ρ H ⟨w.heap.size,0,0⟩ H.length).blk=w.heap.size:=by simp[ρnew]
 have:=XC.box (ρ:=ρnew ρ H ⟨w.heap.size,0,0⟩) (F:=F) (w:=w.alloc (.cells vs t)) H.length 0 0 { et:=0,es:=0,elems:=[row],own:=true,dead:=false,g:=0 } (H:=H++[{ et:=0,es:=0,elems:=[row],own:=true,dead:=false,g:=0 }]) (by simp) rfl ⟨rfl,rfl⟩
 rwa [hρn] at this
theorem Vd0{t:TypeId}{z:List b9}(ho:o.op=.alloc t)(hz:zeT E.P t=some z)(he:(Ma9 E a H (.balloc z)).run=some (x,H')) :
  i6 E.P o ac w (kb4 E.P WB K J ρ0 H0 F0 w0 ρ H F w up ds x H'):=by
 have he':some (b9.ptr (len H) 0 0 0,Sb7 H 0 [z])=some (x,H'):=he;injection he' with he';injection he' with e1 e2;subst e1 e2
 rw[l6];obtain⟨ti,zv,hi,hzz,rfl,hone⟩:=Ua5 hz;refine .value (x':=.pointer (some ⟨w.heap.size,0,none⟩)) (w':=w.alloc (.cells zv.cells t)) (by simp[execOp,ho,Instr.alloc,zeroValue,typeInfo,hi,hzz,newVar,newRow]) ?_
 refine ee1 hC hJ _ zv.cells t (by simp) λc y y' hy hy'=>?_
 rw[Qbm] at hy;have hy'':zv.cells.toList[c]?=some y':=by simpa using hy'
 rw[hy''] at hy
 simp at hy
 subst hy;exact⟨hone y' (Qca hy''),.n (.v _)⟩
theorem ze0{n:Nat}{t:TypeId}{y:Operand}(hv:VR ρ H F w a (ac.tmps.toList++up))(hn:ac.tmps.size=n)(hG:GOk E F w)(ho:o.op=.box t y)(hy:ltO n y=true)(he:(Ma9 E a H (.bbox (g9 y))).run=some (x,H')) :
  i6 E.P o ac w (kb4 E.P WB K J ρ0 H0 F0 w0 ρ H F w up ds x H'):=by
 have hyr:=Qa8 hv hn hG y hy;simp only[Ma9] at he;cases hc:(Fa6 (c9 E a (g9 y))&&ia0 yd1 (A0 (c9 E a (g9 y)))) with
 |false=>rw[hc] at he;cases he
 |true =>
 rw[hc] at he;have he':some (b9.ptr (len H) 0 0 0,Sb7 H 0 [A0 (c9 E a (g9 y))])=some (x,H'):=he;injection he' with he';injection he' with e1 e2;subst e1 e2
 rw[Qbd] at hc;rw[l6];obtain⟨h1,h2⟩:=od6 hyr hc.1 hc.2;refine .value (x':=.pointer (some ⟨w.heap.size,0,none⟩)) (w':=w.alloc (.cells (ac.eval y).cells t)) (by simp[execOp,ho,Instr.box,newVar,newRow]) ?_
 exact ee1 hC hJ _ (ac.eval y).cells t (by simpa using h1) λc y y' hy hy'=>h2 c y y' hy (by simpa using hy')
end
end
section
variable{WB K:Nat->Prop}{J:List Value->World->Prop}{ρ ρ0:Rho}{H H0 H':List c7}{F F0:Fz}{w w0 w':World}{W':Nat->Prop}{up:List Value}{E:Env}{a:List b9}{ac:Act}{x:b9}{o:Oper}
variable{ds:List Deferred}{n:Nat}(hC:C2 E.P WB K J ρ0 H0 F0 w0 H ds w ρ F W' up)(hJ:yb9 K J)(hv:VR ρ H F w a (ac.tmps.toList++up))(hn:ac.tmps.size=n)(hG:GOk E F w)
theorem Kd9{x:b9}{x':Value}(h:XC ρ H F w x x'):J9 ρ (j8 H) F w (T6 H x) x':=by
 cases h with
 |n h =>
  unfold T6;split
  ·split
   ·rename_i b hb;cases r5 b with
    |true=>exact .unk _
    |false=>exact h
   ·exact .unk _
  ·exact h
 |box id c g b hb hd he =>
  unfold T6;simp only[p9,hb,Ba3 he];exact .unk _
 |map id c g b t hb hd he =>
  unfold T6;simp only[p9,hb,Ga4 he];exact .unk _
include hC hJ hv hn hG
omit hJ in
theorem ee2{t:TypeId}{p:Nat}(ho:o.op=.load t (.tmp p))(hp:Nat.blt p n=true)(hu:E.P.underlying t≠none)(he:(Ma9 E a H (.bload (szT E.P t) (agT E.P t) p)).run=some (x,H')) :
  i6 E.P o ac w (kb4 E.P WB K J ρ0 H0 F0 w0 ρ H F w up ds x H'):=by
 have hyr:=Qa8 hv hn hG (.tmp p) hp;simp only[Ma9] at he;cases hs:Ib7 0 H (c9 E a (.t p)) with
 |none=>rw[hs] at he;cases he
 |some q =>
 obtain⟨id,c,g,b⟩:=q;rw[hs] at he
 simp only at he
 obtain⟨h1,h2,h3,h4,h5⟩:=kb5 hs hyr;cases hle:Nat.ble (c+szT E.P t) (len (j6 b.elems 0)) with
 |false=>rw[hle] at he;cases he
 |true =>
 rw[hle] at he;obtain⟨z,hz1,hz2⟩:=Aa6 he;obtain⟨e0,rfl⟩:x=z/\H=H':=by injection hz2 with e1 e2;exact⟨e1,e2.symm⟩
 rw[e0]
 clear e0 hz2
 obtain⟨_,_,_,_,hcont⟩:=hC.srel.has id b h2 (Ba3 h4) h3
 rcases hcont with⟨_,row,vs,tt,m1,m2,m3,m4⟩|⟨t',K',El,fl,es,clk,m1,_⟩
 case inr=>exact (pb7 h4 m1).elim
 have hrow:j6 b.elems 0=row:=by rw[m1];rfl
 rw[hrow] at hle hz1;rw[l6] at hle;have hle:=Qbb hle;have hti:∃i,E.P.info? t=some i/\i.size=szT E.P t:=by
  cases hd:E.P.underlying t with
  |none=>exact absurd hd hu
  |some d=>exact Ka1 hd
 obtain⟨ti,hi1,hi2⟩:=hti;generalize hsz:szT E.P t=k at *
 have hcell:∀j,j<k->w.cell? ⟨(ρ id).blk,c+j,none⟩=some (vs.getD (c+j) undef):=λj hj=>by
  have hlt:c+j<vs.size:=by omega
  simp[World.cell?,m2,hlt]
 have hrel:∀j,j<k->∀y,row[c+j]?=some y->XC ρ H F w y (vs.getD (c+j) undef):=λj hj y hy=>by
  have hlt:c+j<vs.size:=by omega
  exact (m4 (c+j) y _ hy (by simp[hlt])).2
 have hvals:∀(j:Nat) v,((List.range k).map λj=>vs.getD (c+j) undef)[j]?=some v->w.cell? (Addr.add ⟨(ρ id).blk,c,none⟩ j)=some v:=λj v hj=>by
  obtain⟨hj1,hj2⟩:=sa1 hj;rw[I5 rfl];rw[<- hj2];exact hcell j hj1
 have hev:ac.eval (.tmp p)=.pointer (some ⟨(ρ id).blk,c,none⟩):=h5;cases hag:agT E.P t with
 |true =>
  rw[hag] at hz1;have hz1:some (b9.agg (l9 (T6 H) (A7 (i9 row c) k)))=some z:=hz1;injection hz1 with hz1;subst hz1;have hlc:(Go.loadCells ⟨(ρ id).blk,c,none⟩ k).run E.P w=.ok ((List.range k).map λj=>vs.getD (c+j) undef).toArray w:=by
   have:=run_loadCells_list (P:=E.P) w ⟨(ρ id).blk,c,none⟩ ((List.range k).map λj=>vs.getD (c+j) undef) hvals
   simpa using this
  refine .value (x':=.agg ((List.range k).map λj=>vs.getD (c+j) undef).toArray) (w':=w) ?_ ⟨ρ,F,W',hC,λ_ _ h=>h,.w (.val (.agg _ _ ?_ λi y y' hy hy'=>?_))⟩
  ·simp[execOp,ho,hev,Instr.loadAt,Instr.sureAddr,loadVar,Fa8 hag,sizeOf,typeInfo,hi1,hi2,hlc]
  ·rw[k9,A8,v7];simp;omega
  ·rw[k9,A8,v7,Qbm] at hy;have hy':((List.range k).map λj=>vs.getD (c+j) undef)[i]?=some y':=by simpa using hy'
   obtain⟨hj1,hj2⟩:=sa1 hy';rw[Qbe,if_pos hj1,Qbj] at hy;cases hq:row[c+i]? with
   |none=>rw[hq] at hy;cases hy
   |some q =>
    rw[hq] at hy;injection hy with hy;subst hy;rw[<- hj2];exact Kd9 (hrel i hj1 q hq)
 |false =>
  rw[hag] at hz1;have hz1:(match A7 (i9 row c) k with | [x]=>some x | _=>none:Option b9)=some z:=hz1
  rw[A8,v7] at hz1;have hk1:k=1/\row[c]?=some z:=by
   have hl:((row.drop c).take k).length=k:=by simp;omega
   split at hz1
   ·rename_i y hy;injection hz1 with hz1;subst hz1;rw[hy] at hl;have hk:k=1:=by simpa using hl.symm
    refine⟨hk,?_⟩;have h0:((row.drop c).take k)[0]?=some y:=by rw[hy];rfl
    rw[Qbe,if_pos (by omega),Qbj] at h0
    simpa using h0
   ·cases hz1
  obtain⟨hk,hz⟩:=hk1;subst hk;have hc0:=hcell 0 (by omega)
  rw[Nat.add_zero] at hc0;refine .value (x':=vs.getD c undef) (w':=w) ?_ ⟨ρ,F,W',hC,λ_ _ h=>h,.c ?_⟩
  ·simp[execOp,ho,hev,Instr.loadAt,Instr.sureAddr,loadVar,xa0 hag hu,hc0]
  ·have:=hrel 0 (by omega) z (by rw[Nat.add_zero];exact hz)
   rwa [Nat.add_zero] at this
omit hJ in
theorem ze1{s:TypeId}{p f:Nat}{fs:Array Field}{fd:Field}(ho:o.op=.fieldAddr s (.tmp p) f)(hp:Nat.blt p n=true)(hs':E.P.underlying s=some (.struct fs))(hf:fs[f]?=some fd)(hz:szT E.P fd.type≠0)
  (he:(Ma9 E a H (.bfld fd.offset p)).run=some (x,H')):i6 E.P o ac w (kb4 E.P WB K J ρ0 H0 F0 w0 ρ H F w up ds x H'):=by
 have hyr:=Qa8 hv hn hG (.tmp p) hp;simp only[Ma9] at he;cases hs:Ib7 0 H (c9 E a (.t p)) with
 |none=>rw[hs] at he;cases he
 |some q =>
 obtain⟨id,c,g,b⟩:=q;rw[hs] at he;have he':some (b9.ptr id 0 (c+fd.offset) g,H)=some (x,H'):=he;obtain⟨rfl,rfl⟩:x=b9.ptr id 0 (c+fd.offset) g/\H=H':=by injection he' with he';injection he' with e1 e2;exact⟨e1.symm,e2⟩
 obtain⟨h1,h2,h3,h4,h5⟩:=kb5 hs hyr;obtain⟨ti,hi,hi0,hi1⟩:=Tb4 hz;have hev:ac.eval (.tmp p)=.pointer (some ⟨(ρ id).blk,c,none⟩):=h5;refine .value (x':=.pointer (some (Addr.add ⟨(ρ id).blk,c,none⟩ fd.offset))) (w':=w) (by simp[execOp,ho,hev,Instr.fieldAt,Instr.sureAddr,run_underlying hs',hf,fieldPlace,sizeOf,typeInfo,hi,hi1]) ⟨ρ,F,W',hC,λ_ _ h=>h,.c ?_⟩
 rw[I5 rfl];exact .box id (c+fd.offset) g b h2 h3 h4
omit hJ in
theorem ee3{p:Nat}(ho:o.op=.move (.tmp p)\/o.op=.assign (.tmp p))(hp:Nat.blt p n=true)
  (he:(Ma9 E a H (.bmv p)).run=some (x,H')):i6 E.P o ac w (kb4 E.P WB K J ρ0 H0 F0 w0 ρ H F w up ds x H'):=by
 have hyr:=Qa8 hv hn hG (.tmp p) hp;have he':some (c9 E a (.t p),H)=some (x,H'):=he;injection he' with he';injection he' with e1 e2;subst e1 e2;refine .value (x':=ac.eval (.tmp p)) (w':=w) (by rcases ho with ho | ho<;>simp[execOp,ho]) ⟨ρ,F,W',hC,λ_ _ h=>h,hyr⟩
theorem Vd1{t:TypeId}{p:Nat}{y:Operand}(ho:o.op=.store t (.tmp p) y)(hp:Nat.blt p n=true)(hy:ltO n y=true)(h0:szT E.P t≠0)(he:(Ma9 E a H (.bstore (szT E.P t) p (g9 y))).run=some (x,H')) :
  i6 E.P o ac w (kb4 E.P WB K J ρ0 H0 F0 w0 ρ H F w up ds x H'):=by
 have hpr:=Qa8 hv hn hG (.tmp p) hp;have hyr:=Qa8 hv hn hG y hy;simp only[Ma9] at he;cases hs:Ib7 0 H (c9 E a (.t p)) with
 |none=>rw[hs] at he;cases he
 |some q =>
 obtain⟨id,c,g,b⟩:=q;rw[hs] at he
 simp only at he
 obtain⟨h1,h2,h3,h4,h5⟩:=kb5 hs hpr;generalize hcs:A0 (c9 E a (g9 y))=cs at *
 cases hcc:(Nat.ble (c+szT E.P t) (len (j6 b.elems 0))&&Nat.beq (len cs) (szT E.P t)&&(Fa6 (c9 E a (g9 y))&&ia0 yd1 cs)) with
 |false=>rw[hcc] at he;cases he
 |true =>
 rw[hcc] at he;have he':some (b9.v (.tuple #[]),setAt H id { b with elems:=[T8 (j6 b.elems 0) c cs] })=some (x,H'):=he
 injection he' with he';injection he' with e1 e2;subst e1 e2
 simp only[Qbd,l6] at hcc;obtain⟨⟨hle,hlen⟩,hpo,hbo⟩:=hcc;have hle:=Qbb hle;have hlen:=Qae hlen;rw[<- hcs] at hbo;obtain⟨k1,k2⟩:=od6 hyr hpo hbo;rw[hcs] at k1 k2;obtain⟨hWB,hnW,hnF,hlt,hcont⟩:=hC.srel.has id b h2 (Ba3 h4) h3
 rcases hcont with⟨_,row,vs,tt,m1,m2,m3,m4⟩|⟨t',K',El,fl,es,clk,m1,_⟩
 case inr=>exact (pb7 h4 m1).elim
 have hrow:j6 b.elems 0=row:=by rw[m1];rfl
 rw[hrow] at hle ⊢;generalize hys:(ac.eval y).cells.toList=ys at *
 have hl2:ys.length=cs.length:=k1.symm;have hone:∀v∈ys,v.oneCell'=true:=λv hv'=>by
  obtain⟨j,hj,rfl⟩:=Qec.1 hv';have hj':j<cs.length:=by omega
  exact (k2 j _ _ (Qaa hj') (Qaa hj)).1
 have hfits:c+ys.length<=vs.size:=by omega
 have hstore:=run_storeCells_at (P:=E.P) (ρ id).blk c tt ys 0 vs w m2 (by simpa using hfits) hone
 simp only[Nat.add_zero] at hstore;obtain⟨ti,hi1,hi2⟩:=kd2 h0;have hsz0:(ac.eval y).cells.size=ti.size:=by
  grind
 have hev:ac.eval (.tmp p)=.pointer (some ⟨(ρ id).blk,c,none⟩):=h5;have hid:=(Qab.1 h2).1;rw[r6];refine .skip (w':=w.setRow (ρ id).blk (vs.toList.take c++ys++vs.toList.drop (c+ys.length)).toArray) ?_ ?_
 ·simp[execOp,ho,hev,Instr.storeAt,Instr.sureAddr,storeVar,sizeOf,typeInfo,hi1,hsz0,hys,hstore]
 ·have hheap:=setRow_heap w (ρ id).blk vs (vs.toList.take c++ys++vs.toList.drop (c+ys.length)).toArray tt (0,0) m2;have hsize:((vs.toList.take c++ys++vs.toList.drop (c+ys.length)).toArray).size=vs.size:=by simp;omega
  have hK:=λk (hk:K k)=>hC.kept k hk
  have hnK:∀k,K k->k≠(ρ id).blk:=λk hk e=>hC.far id b h2 (Ba3 h4) h3 (e ▸ hk)
  obtain⟨c1,c2⟩:=hC.change (w':=w.setRow (ρ id).blk (vs.toList.take c++ys++vs.toList.drop (c+ys.length)).toArray) (H':=H.set id { b with elems:=[T8 row c cs] }) (up':=up) (ρ id).blk hWB hnW hnF rfl rfl rfl (Qac _) (by simp[World.setRow]) (λj hj=>setRow_other w _ j _ hj)
   (λcc t' fr hcc=>by rw[m2] at hcc;cases hcc;exact⟨_,hheap,hsize⟩) (by simp)
   (λid' b' hb'=>by
    by_cases e:id=id'
    ·subst e;obtain rfl:b'=b:=Qah (hb'.symm.trans h2);exact⟨{ b' with elems:=[T8 row c cs] },by simp[hid],rfl,rfl,rfl,rfl,by rw[m1];simp,λhs0=>by rw[Ba3 h4] at hs0;cases hs0⟩
    ·exact⟨b',by rw[Qaf e];exact hb',rfl,rfl,rfl,rfl,Qac _,λ_=>rfl⟩)
   (λid' b' hb' hs' hd' hne=>by
    have e:id≠id':=λe=>hne (by rw[e])
    rw[Qaf e];exact hb')
   (λhx id' b' hb' hs' hd' hblk=>by
    have e:id=id':=Qbx λhne=>by
     rw[Qaf hne] at hb';exact hC.srel.apart id id' b b' h2 hb' (Ba3 h4) hs' h3 hd' hne hblk.symm
    subst e
    have:b'={ b with elems:=[T8 row c cs] }:=by simpa [hid] using hb'.symm
    subst this;have hfit:c+cs.length<=row.length:=by omega
    refine .inl ⟨h4,_,_,tt,rfl,hheap,by rw[Ja0 hfit,hsize];exact m3,λj u u' hu hu'=>?_⟩
    rw[Ob7 hfits] at hu'
    rcases Ob6 hfit hu with⟨g1,g2,g3⟩|⟨g1,g3⟩
    ·rw[if_pos (by omega)] at hu'
     obtain⟨q1,q2⟩:=k2 (j-c) u u' g3 hu';exact⟨q1,hx _ _ q2⟩
    ·rw[if_neg (by omega)] at hu'
     obtain⟨q1,q2⟩:=m4 j u u' g3 hu';exact⟨q1,hx _ _ q2⟩)
   (hJ up w _ (λk hk=>setRow_other w _ k _ (hnK k hk)) hC.jot)
   (λD _ hD e=>by rw[e,m2] at hD;cases hD)
  exact⟨ρ,F,W',c1,c2,.w (.ofv _)⟩
end
section
variable{P:Program}{w:World}
def ee4(P:Program)(w:World)(em:Bool)(m:Nat)(t:TypeId)(l:List (Nat×CK)):Prop :=
 ∀v:Value,(agT P t=true->v=.agg v.cells)->(agT P t=false->v.cells=#[v])->(∀p∈l,qa1 v.cells p)->(Instr.checkKey em m t v).run P w=.ok () w
theorem ee4.step {em : Bool} {m : Nat} {t : TypeId} {l : List (Nat × CK)} (h : ee4 P w em m t l) (hf : xe0 P w 0 t l ∨ True) (hu : P.underlying t ≠ none) (hone : agT P t = false → l ≠ [] ∧ ∀ p ∈ l, p.1 = 0) {xs : Array Value} {off : Nat} (hl : ∀ p ∈ l, p.1 < szT P t) (hx : ∀ p ∈ l.map fun p => (off + p.1, p.2), qa1 xs p) :
  ∃a,(part t xs off).run P w=.ok a w/\(Instr.checkKey em m t a).run P w=.ok () w:=by
 have hx':∀p∈l,qa1 xs (off+p.1,p.2):=λp hp=>hx _ (Qbz.2 ⟨p,hp,rfl⟩)
 obtain⟨a,a1,a2,a4,a3⟩:=xc6 (w:=w) hu hone hl hx';refine⟨a,a1,h a a2 a4 λp hp=>?_⟩
 have:=hx' p hp;unfold qa1 at this ⊢;rw[a3 p hp];exact this
theorem bd1(em:Bool):∀(d:Nat) (t:TypeId) (l:List (Nat×CK)),O5 P d t=some l->∀m,d<=m->ee4 P w em m t l
 |0,_,_,h,_,_=>by cases h
 |d+1,t,l,h,0,hm=>by omega
 |d+1,t,l,h,m+1,hm=>by
  intro v hv1 hv2 hv3;unfold O5 at h;cases hu:P.underlying t with
  |none=>simp[hu] at h
  |some u =>
  cases u with
  |int k =>
   simp only[hu] at h;injection h with h;subst h
   have hag:agT P t=false:=uc9 (by simp[hu]) (by simp[hu])
   obtain⟨n,e1⟩:=hv3 (0,.int k) (by simp)
   rw[hv2 hag] at e1;have e1':v=.int k n:=by simpa using e1
   subst e1';simp[Instr.checkKey,run_underlying hu]
  |bool =>
   simp only[hu] at h;injection h with h;subst h
   have hag:agT P t=false:=uc9 (by simp[hu]) (by simp[hu])
   obtain⟨n,e1⟩:=hv3 (0,.bool) (by simp)
   rw[hv2 hag] at e1;have e1':v=.bool n:=by simpa using e1
   subst e1';simp[Instr.checkKey,run_underlying hu]
  |struct fs =>
   simp only[hu] at h
   split at h
   ·cases h
   have hag:agT P t=true:=by simp[agT,hu]
   rw[hv1 hag];generalize v.cells=xs at *
   rw[Instr.checkKey];simp only[Sem.run_bind,run_underlying hu,Result.andThen_ok];rw[<- Array.forIn_toList]
   clear hu hv1 hv2 hag
   generalize fs.toList=fl at *
   induction fl generalizing l with
   |nil=>simp
   |cons f fl ih =>
    simp only[Qbw,ca0] at h
    split at h
    ·rename_i l1 l2 e1 e2;injection h with h;subst h
     split at e1
     ·cases e1
     rename_i hnm;obtain⟨l',g1,g2,g3⟩:=ya5 e1;subst g3;have hfl:=ab9 (w:=w) d f.type l' g1;obtain⟨a,p1,p2⟩:=(bd1 em d f.type l' g1 m (by omega)).step (w:=w) (.inr trivial) hfl.und hfl.one g2 (λp hp=>hv3 p (Qbn _ hp))
     simp only[List.forIn_cons,Sem.run_bind,hnm,ne_eq,not_false_eq_true,if_true,Result.andThen_ok,p1,p2,Sem.run_pure];exact ih l2 (λp hp=>hv3 p (Qcg _ hp)) e2
    ·cases h
  |array n e =>
   simp only[hu] at h
   split at h
   case isFalse=>cases h
   rename_i hi;obtain⟨ti,hi⟩:=Qbi.1 hi;have hag:agT P t=true:=by simp[agT,hu]
   rw[hv1 hag];generalize v.cells=xs at *
   rw[Instr.checkKey];simp only[Sem.run_bind,run_underlying hu,Result.andThen_ok];simp only[Std.Legacy.Range.forIn_eq_forIn_range',Std.Legacy.Range.size,Nat.sub_zero,Nat.add_one_sub_one,Nat.div_one];rw[List.range_eq_range'] at h;have hsz:∀w:World,(sizeOf e).run P w=.ok (szT P e) w:=λw=>by simp[sizeOf,typeInfo,hi,szT]
   clear hu hv1 hv2 hag
   generalize List.range' 0 n=fl at *
   induction fl generalizing l with
   |nil=>simp
   |cons f fl ih =>
    simp only[Qbw,ca0] at h
    split at h
    ·rename_i l1 l2 e1 e2;injection h with h;subst h
     obtain⟨l',g1,g2,g3⟩:=ya5 e1;subst g3;have hfl:=ab9 (w:=w) d e l' g1;obtain⟨a,p1,p2⟩:=(bd1 em d e l' g1 m (by omega)).step (w:=w) (.inr trivial) hfl.und hfl.one g2 (λp hp=>hv3 p (Qbn _ hp))
     simp only[List.forIn_cons,Sem.run_bind,hsz,Result.andThen_ok,p1,p2,Sem.run_pure];exact ih l2 (λp hp=>hv3 p (Qcg _ hp)) e2
    ·cases h
  |_=>simp[hu] at h
theorem Cd1{fl:List (Nat×CK)}(hk:∀p∈fl,(∃i,p.2=.int i)\/p.2=.bool){vs us:Array Value}(h1:∀p∈fl,qa1 vs p)(h2:∀p∈fl,qa1 us p){cs ds:List b9}(hc:∀(i:Nat) v,vs[i]?=some v->hdA (i9 cs i)=.v v)(hd:∀(i:Nat) v,us[i]?=some v->hdA (i9 ds i)=.v v) :
  fl.all (Na2 vs us)=Ib6 fl cs ds:=by
 induction fl with
 |nil=>rfl
 |cons p fl ih =>
  have e:Ib6 (p::fl) cs ds=(Ue1 p.2 (hdA (i9 cs p.1)) (hdA (i9 ds p.1))&&Ib6 fl cs ds):=rfl;rw[List.all_cons,ih (λq hq=>hk q (by simp[hq])) (λq hq=>h1 q (by simp[hq])) (λq hq=>h2 q (by simp[hq])),e]
  congr 1;have g1:=h1 p (by simp)
  have g2:=h2 p (by simp)
  obtain⟨n,kk⟩:=p;unfold qa1 at g1 g2;unfold Na2
  rcases hk (n,kk) (by simp) with⟨i,hi⟩|hi
  ·simp only at hi;subst hi
   obtain⟨m,hm⟩:=g1;obtain⟨m',hm'⟩:=g2
   simp only at hm hm' ⊢
   rw[hc n _ hm,hd n _ hm',hm,hm'];rfl
  ·simp only at hi;subst hi
   obtain⟨m,hm⟩:=g1;obtain⟨m',hm'⟩:=g2
   simp only at hm hm' ⊢
   rw[hc n _ hm,hd n _ hm',hm,hm'];rfl
theorem ee5{ks:Array Value}{r:List b9}(i:Nat)(v:Value)(h:ks[i]?=some v):hdA (i9 (ks.toList.map .v++r) i)=.v v:=by
 rw[Tb2]
 grind
theorem Xe0{ks:Array Value}(i:Nat)(v:Value)(h:ks[i]?=some v):hdA (i9 (ks.toList.map .v) i)=.v v:=by
 have:=ee5 (r:=[]) i v h
 simp_all
section
variable{K:TypeId}{fl:List (Nat×CK)}{kl:Nat}(hag:agT P K=true)(hf:O5 P 9 K=some fl)
include hag hf
theorem Xe1{ks us:Array Value}(h1:∀p∈fl,qa1 ks p)(h2:∀p∈fl,qa1 us p):(Op.equal K (.agg ks) (.agg us)).run P w=.ok (fl.all (Na2 ks us)) w :=
 (ab9 (w:=w) (9+9991) K fl (Ob9 hf 9991)).eq (.agg ks) (.agg us) (λ_=>rfl) (λ_=>rfl) (λh=>by rw[hag] at h;cases h) (λh=>by rw[hag] at h;cases h) h1 h2
theorem od7{ks:Array Value}(h1:∀p∈fl,qa1 ks p):∀(es:List MapEntry) (rows:List (List b9)) (i:Nat),es.length=rows.length->(∀(j:Nat) r e,rows[j]?=some r->es[j]?=some e->Ac3 fl kl r e) ->
  ((Instr.findAsking K (.agg ks) es i).run P w=.ok none w/\kc8 fl (ks.toList.map .v) rows=none/\∀new,Ma8 fl (ks.toList.map .v) new rows=rows++[new]) \/
  (∃j e r,(Instr.findAsking K (.agg ks) es i).run P w=.ok (some (i+j,e.val)) w/\es[j]?=some e/\rows[j]?=some r/\kc8 fl (ks.toList.map .v) rows=some r/\(∀new,Ma8 fl (ks.toList.map .v) new rows=rows.set j new)/\∃us,e.key=.agg us/\fl.all (Na2 ks us)=true)
 |[],[],i,_,_=>.inl ⟨by simp[Instr.findAsking],rfl,λnew=>rfl⟩
 |[],r::rows,i,hl,_=>by simp at hl
 |e::es,[],i,hl,_=>by simp at hl
 |e::es,r::rows,i,hl,hr=>by
  obtain⟨us,v,g1,g2,g3,g4,g5⟩:=hr 0 r e rfl rfl;have hk:=Ua6 9 K fl hf;have he:=Xe1 (w:=w) hag hf h1 g5;have hq:fl.all (Na2 ks us)=Ib6 fl (ks.toList.map .v) r:=by
   rw[g1];exact Cd1 hk h1 g5 Xe0 ee5
  have eR:kc8 fl (ks.toList.map .v) (r::rows)=Bool.rec (motive:=λ_=>Option (List b9)) (kc8 fl (ks.toList.map .v) rows) (some r) (Ib6 fl (ks.toList.map .v) r):=rfl
  have eU:∀new,Ma8 fl (ks.toList.map .v) new (r::rows)=Bool.rec (motive:=λ_=>List (List b9)) (r::Ma8 fl (ks.toList.map .v) new rows) (new::rows) (Ib6 fl (ks.toList.map .v) r):=λ_=>rfl
  cases hb:fl.all (Na2 ks us) with
  |true =>
   rw[hb] at he;rw[hb] at hq;refine .inr ⟨0,e,r,by simp[Instr.findAsking,g3,he],rfl,rfl,by rw[eR,<- hq],λnew=>by rw[eU,<- hq];rfl,us,g3,hb⟩
  |false =>
   rw[hb] at he;rw[hb] at hq
   rcases od7 h1 es rows (i+1) (by simpa using hl) (λj r' e' hj hj'=>hr (j+1) r' e' (by simpa using hj) (by simpa using hj')) with⟨k1,k2,k3⟩|⟨j,e',r',k1,k2,k3,k4,k5,k6⟩
   ·refine .inl ⟨by simp[Instr.findAsking,g3,he,k1],by rw[eR,<- hq];exact k2,λnew=>by rw[eU,<- hq];show r::Ma8 _ _ _ _=_;rw[k3 new];rfl⟩
   ·refine .inr ⟨j+1,e',r',by simp[Instr.findAsking,g3,he,k1,Qag,Nat.add_comm 1 j],by simpa using k2,by simpa using k3,by rw[eR,<- hq];exact k4,λnew=>by rw[eU,<- hq];show r::Ma8 _ _ _ _=_;rw[k5 new];rfl,k6⟩
end
end
def zb2(fl:List (Nat×CK))(kl:Nat):Bool:=(List.range kl).all λi=>fl.any λp=>Nat.beq p.1 i
def ee6(P:Program)(t:TypeId):Bool:=match P.info? t with
 |some i=>match i.zero with
  |some (.bool b)=>!b
  |_=>false
 |none=>false
theorem Tc1{fl:List (Nat×CK)}{kl i:Nat}(h:zb2 fl kl=true)(hi:i<kl):∃p∈fl,p.1=i:=by
 unfold zb2 at h
 simp_all
section
variable{WB K:Nat->Prop}{J:List Value->World->Prop}{ρ ρ0:Rho}{H H0 H':List c7}{F F0:Fz}{w w0 w':World}{W':Nat->Prop}{up:List Value}{E:Env}{a:List b9}{ac:Act}{x:b9}{o:Oper}
theorem Vd2{x x':Value}(h:XW ρ H F w (.v x) x'):x'=x:=by
 cases h with
 |w h=>exact K5 h
 |c h=>cases h with
  |n h=>exact K5 (.val (.cell h))
theorem ee7{fl:List (Nat×CK)}{kl:Nat}{ks:List b9}{v:Value}(hcov:zb2 fl kl=true)(hk:∀p∈fl,(∃i,p.2=.int i)\/p.2=.bool)(hx:XW ρ H F w (.agg ks) v)(hlen:ks.length=kl)(hok:yd0 fl ks=true) :
  ∃vs:Array Value,v=.agg vs/\ks=vs.toList.map .v/\vs.size=kl/\∀p∈fl,qa1 vs p:=by
 have hx':v8 ρ (j8 H) F w (.agg ks) v:=by
  cases hx with
  |w h=>exact h
  |c h=>cases h with
   |n h=>exact .val (.cell h)
 obtain⟨vs,rfl,hl,hr⟩:=ga4 hx';have h1:=xc8 hok;have k1:∀p∈fl,qa1 vs p:=λp hp=>(xb1 hl hr (hk p hp) (h1 p hp)).1
 refine⟨vs,rfl,List.ext_getElem (by simpa using hl) λi hi hi'=>?_,by rw[<- hl];exact hlen,k1⟩
 obtain⟨p,hp,rfl⟩:=Tc1 hcov (hlen ▸ hi);have h2:=h1 p hp;rw[Tb2,Qaa hi] at h2;simp only[Option.getD_some] at h2;have hi2:p.1<vs.size:=hl ▸ hi;have hrel:=hr p.1 _ _ (Qaa hi) (Qai hi2);have hv:∃u,ks[p.1]=.v u:=by
  rcases hk p hp with⟨q,e⟩|e<;>rw[e] at h2<;>revert h2<;>cases ks[p.1]<;>intro h2<;>first|exact⟨_,rfl⟩|cases h2
 obtain⟨u,hu⟩:=hv;rw[hu] at hrel ⊢
 have:=K5 (.val (.cell hrel))
 simp[this]
theorem ee8(m:Nat)(k:IntKind)(a:Int):Instr.sameBits m (.int k a) (.int k a)=true:=by cases m<;>simp[Instr.sameBits]
theorem Vd3(m:Nat)(a:Bool):Instr.sameBits m (.bool a) (.bool a)=true:=by cases m<;>simp[Instr.sameBits]
theorem Vd4{fl:List (Nat×CK)}{kl m:Nat}{ks us:Array Value}(hcov:zb2 fl kl=true)(hk:∀p∈fl,(∃i,p.2=.int i)\/p.2=.bool)(h1:ks.size=kl)(h2:us.size=kl)(a1:∀p∈fl,qa1 ks p)(a2:∀p∈fl,qa1 us p)(he:fl.all (Na2 ks us)=true) :
  Instr.sameBits (m+1) (.agg us) (.agg ks)=true:=by
 rw[Instr.sameBits];rw[Qbd];refine⟨by simp[h1,h2],?_⟩
 rw[Qcf];intro q hq;obtain⟨i,hi,hq⟩:=Qec.1 hq;rw[List.getElem_zip] at hq;have hi':i<kl:=by rw[List.length_zip,Array.length_toList,Array.length_toList] at hi;omega
 obtain⟨p,hp,rfl⟩:=Tc1 hcov hi';have e:=Qcf.1 he p hp;have b1:=a1 p hp;have b2:=a2 p hp;have g1:ks[p.1]?=some (ks[p.1]'(by omega)):=Qai _
 have g2:us[p.1]?=some (us[p.1]'(by omega)):=Qai _
 rw[<- hq];simp only[Array.getElem_toList];unfold qa1 at b1 b2;unfold Na2 at e
 rcases hk p hp with⟨k,hkk⟩|hkk
 ·rw[hkk] at b1 b2;obtain⟨n,b1⟩:=b1;obtain⟨n',b2⟩:=b2;rw[b1,b2] at e;have e:n=n':=by simpa using e
  subst e;rw[g1] at b1;rw[g2] at b2;rw[Qah b1,Qah b2];exact ee8 _ _ _
 ·rw[hkk] at b1 b2;obtain⟨n,b1⟩:=b1;obtain⟨n',b2⟩:=b2;rw[b1,b2] at e;have e:n=n':=by simpa using e
  subst e;rw[g1] at b1;rw[g2] at b2;rw[Qah b1,Qah b2];exact Vd3 _ _
theorem zb3{k:Nat}{es:Array MapEntry}{clk:Nat}(P:Program)(h:w.heap[k]?=some (.map es clk)):(getObj k).run P w=.ok (.map es clk) w:=by simp[getObj,Sem.run,h]
theorem zb4{k:Nat}{es:Array MapEntry}{clk:Nat}(P:Program)(o:Obj)(h:w.heap[k]?=some (.map es clk)):(setObj k o).run P w=.ok () (w.putObj k o):=by simp[setObj,Sem.run,h,World.putObj]
theorem lc6{P:Program}{t:TypeId}{fl:List (Nat×CK)}{kl:Nat}(hag:agT P t=true)(hf:O5 P 9 t=some fl){ks:Array Value}(h1:∀p∈fl,qa1 ks p)(es:List MapEntry)(rows:List (List b9))(hl:es.length=rows.length)(hr:∀(j:Nat) r e,rows[j]?=some r->es[j]?=some e->Ac3 fl kl r e) :
  ((Instr.findKey t (.agg ks) es).run P w=.ok none w/\kc8 fl (ks.toList.map .v) rows=none/\∀new,Ma8 fl (ks.toList.map .v) new rows=rows++[new]) \/
  (∃j e r,(Instr.findKey t (.agg ks) es).run P w=.ok (some (j,e.val)) w/\es[j]?=some e/\rows[j]?=some r/\kc8 fl (ks.toList.map .v) rows=some r/\(∀new,Ma8 fl (ks.toList.map .v) new rows=rows.set j new)/\∃us,e.key=.agg us/\fl.all (Na2 ks us)=true):=by
 have hu:∃d,P.underlying t=some d/\∀e es i,Instr.findNow d (.agg ks) (e::es) i=none:=by
  unfold agT at hag
  split at hag
  ·rename_i fs h;exact⟨_,h,λe es i=>rfl⟩
  ·rename_i n e h;exact⟨_,h,λe es i=>rfl⟩
  ·cases hag
 obtain⟨d,hd,hnow⟩:=hu
 have:=od7 (w:=w) (kl:=kl) hag hf h1 es rows 0 hl hr
 have e0:(Instr.findKey t (.agg ks) es).run P w=(Instr.findAsking t (.agg ks) es 0).run P w:=by
  unfold Instr.findKey;simp only[Sem.run_bind,run_underlying hd,Result.andThen_ok];cases es with
  |nil=>simp[Instr.findNow,Instr.findAsking]
  |cons e es=>rw[hnow]
 rw[e0];simpa using this
section
variable{ds:List Deferred}{n:Nat}(hC:C2 E.P WB K J ρ0 H0 F0 w0 H ds w ρ F W' up)(hJ:yb9 K J)
include hC hJ
theorem ee9{t:TypeId}{kt el:TypeId}{fl:List (Nat×CK)}(ho:o.op=.makeMap t none)(hu:E.P.underlying t=some (.map kt el))(hf:O5 E.P 9 kt=some fl)(he:(Ma9 E a H (.mmake t)).run=some (x,H')) :
  i6 E.P o ac w (kb4 E.P WB K J ρ0 H0 F0 w0 ρ H F w up ds x H'):=by
 have he':some (b9.ptr (len H) 0 0 0,Sb7 H (t+1) [])=some (x,H'):=he;injection he' with he';injection he' with e1 e2;subst e1 e2
 rw[l6];obtain⟨c1,c2,c3,c4⟩:=hC.alloc hJ (.map #[] 0);have hap:∀(id:Nat) b,H[id]?=some b->r5 b=true->b.dead=false->(ρ id).blk≠w.heap.size:=λid b hb hs hd=>Qak (hC.srel.has id b hb hs hd).2.2.2.1
 rw[od5];have hnew:(w.alloc (.map #[] 0)).heap[w.heap.size]?=some (.map #[] 0):=World.alloc_heap_new w _;refine .value (x':=.map (some w.heap.size)) (w':=w.alloc (.map #[] 0)) (by simp[execOp,ho,Instr.makeMap,run_newObj_alloc]) ?_
 obtain⟨d1,d2⟩:=c1.adopt w.heap.size 0 c3 (λh=>h.2 rfl) (λo hf=>c4 o hf) (by simp) hap (λhk=>Qed _ (hC.kept _ hk).2) { et:=t+1,es:=0,elems:=[],own:=true,dead:=false,g:=0 } (Ga4 (t:=t) ⟨rfl,rfl⟩) rfl
  (.inr ⟨t,kt,el,fl,#[],0,⟨rfl,rfl⟩,hu,hf,hnew,rfl,λi r e hr=>by simp at hr⟩)
 refine⟨_,F,_,d1,λx x' hx=>d2 _ _ (c2 _ _ hx),.c ?_⟩
 have hρn:(ρnew ρ H ⟨w.heap.size,0,0⟩ H.length).blk=w.heap.size:=by simp[ρnew]
 have:=XC.map (ρ:=ρnew ρ H ⟨w.heap.size,0,0⟩) (F:=F) (w:=w.alloc (.map #[] 0)) H.length 0 0 { et:=t+1,es:=0,elems:=[],own:=true,dead:=false,g:=0 } t (H:=H++[{ et:=t+1,es:=0,elems:=[],own:=true,dead:=false,g:=0 }]) (by simp) rfl ⟨rfl,rfl⟩
 rwa [hρn] at this
variable(hv:VR ρ H F w a (ac.tmps.toList++up))(hn:ac.tmps.size=n)(hG:GOk E F w)
include hv hn hG
omit hJ in
theorem fe0{t:TypeId}{kt el:TypeId}{fl:List (Nat×CK)}{m:Nat}{y:Operand}(ho:o.op=.lookup t (.tmp m) y false)(hm:Nat.blt m n=true)(hy:ltO n y=true)(hu:E.P.underlying t=some (.map kt el))(hag:agT E.P kt=true)(hf:O5 E.P 9 kt=some fl)(hcov:zb2 fl (szT E.P kt)=true)(hz:ee6 E.P el=true)
  (he:(Ma9 E a H (.mlook t (szT E.P kt) fl m (g9 y))).run=some (x,H')) :
  i6 E.P o ac w (kb4 E.P WB K J ρ0 H0 F0 w0 ρ H F w up ds x H'):=by
 have hmr:=Qa8 hv hn hG (.tmp m) hm;have hyr:=Qa8 hv hn hG y hy;have hev:(ac.eval (.tmp m))=ac.tmps.getD m undef:=rfl;simp only[Ma9] at he;have hcA:g9 (.tmp m)=.t m:=rfl;rw[hcA] at hmr;cases hs:Ib7 (t+1) H (c9 E a (.t m)) with
 |none=>rw[hs] at he;cases he
 |some q =>
 obtain⟨id,c,g,b⟩:=q;rw[hs] at he
 simp only at he
 obtain⟨h1,h2,h3,h4,h5⟩:=Tc0 hs hmr
 revert he hyr
 generalize c9 E a (g9 y)=ya;intro hyr he
 split at he
 case h_2=>cases he
 ·rename_i ks;obtain⟨hgd,he⟩:=DT.run_guard_some he;have he:some (b9.v (.bool (jb5 (szT E.P kt) fl ks b.elems)),H)=some (x,H'):=he;rw[Qbd,l6] at hgd;obtain⟨vs,e1,e2,e3,e4⟩:=ee7 hcov (Ua6 9 kt fl hf) hyr (Qae hgd.1) hgd.2;obtain⟨rfl,rfl⟩:x=b9.v (.bool (jb5 (szT E.P kt) fl ks b.elems))/\H=H':=by injection he with he;injection he with e1 e2;exact⟨e1.symm,e2⟩
  subst e2;obtain⟨_,_,_,_,hcont⟩:=hC.srel.has id b h2 (Ga4 h4) h3
  rcases hcont with⟨hb,_⟩|⟨t',K',El,fl',es,clk,m1,m2,m3,m4,m5,m6⟩
  ·exact (pb7 hb h4).elim
  have ht:t'=t:=Nat.succ.inj (m1.2.symm.trans h4.2);subst ht;rw[hu] at m2;injection m2 with m2;injection m2 with q1 q2;subst q1 q2
  rw[hf] at m3;injection m3 with m3;subst m3
  have hlen:es.toList.length=b.elems.length:=by rw[Array.length_toList];exact m5.symm
  have hrow:∀(j:Nat) r e,b.elems[j]?=some r->es.toList[j]?=some e->Ac3 fl (szT E.P kt) r e:=λj r e hr he=>m6 j r e hr (by simpa using he)
  have hfind:=lc6 (w:=w) (kl:=szT E.P kt) hag hf e4 es.toList b.elems hlen hrow;have hck:(Instr.checkKey es.isEmpty 10000 kt (.agg vs)).run E.P w=.ok () w:=bd1 es.isEmpty 9 kt fl hf 10000 (by decide) (.agg vs) (λ_=>rfl) (λh=>by rw[hag] at h;cases h) e4
  have hgo:(getObj (ρ id).blk).run E.P w=.ok (.map es clk) w:=zb3 E.P m4
  rcases hfind with⟨k1,k2,_⟩|⟨j,e,r,k1,k2,k3,k4,_,_⟩
  ·have hz' : (zeroValue el).run E.P w = .ok (.bool false) w := by
    unfold ee6 at hz
    split at hz
    ·rename_i i hi
     split at hz
     ·rename_i bb hbb;cases bb with
      |true=>cases hz
      |false=>simp[zeroValue,typeInfo,hi,hbb]
     ·cases hz
    ·cases hz
   refine .value (x':=.bool false) (w':=w) ?_ ⟨ρ,F,W',hC,λ_ _ h=>h,?_⟩
   ·simp[execOp,ho,Instr.lookup,run_underlying hu,h5,e1,hgo,hck,k1,hz']
   ·unfold jb5;rw[k2];exact .w (.val (.cell (.v _)))
  ·obtain⟨us,bb,g1,g2,g3,g4,g5⟩:=hrow j r e k3 k2;refine .value (x':=.bool bb) (w':=w) ?_ ⟨ρ,F,W',hC,λ_ _ h=>h,?_⟩
   ·simp[execOp,ho,Instr.lookup,run_underlying hu,h5,e1,hgo,hck,k1,g4]
   ·unfold jb5;rw[k4]
    have:toB (hdA (i9 r (szT E.P kt)))=bb:=by
     rw[Tb2,g1,<- g2];rw[Qbf (by simp)]
     simp[toB]
    show XW ρ H F w (.v (.bool (toB (hdA (i9 r (szT E.P kt)))))) _;rw[this];exact .w (.val (.cell (.v _)))
theorem ze2{t:TypeId}{kt el:TypeId}{fl:List (Nat×CK)}{m:Nat}{y z:Operand}(ho:o.op=.mapUpdate t (.tmp m) y z)(hm:Nat.blt m n=true)(hy:ltO n y=true)(hz:ltO n z=true)(hu:E.P.underlying t=some (.map kt el))(hag:agT E.P kt=true)(hf:O5 E.P 9 kt=some fl)(hcov:zb2 fl (szT E.P kt)=true)
  (he:(Ma9 E a H (.mupd t (szT E.P kt) fl m (g9 y) (g9 z))).run=some (x,H')) :
  i6 E.P o ac w (kb4 E.P WB K J ρ0 H0 F0 w0 ρ H F w up ds x H'):=by
 have hmr:=Qa8 hv hn hG (.tmp m) hm;have hyr:=Qa8 hv hn hG y hy;have hzr:=Qa8 hv hn hG z hz;simp only[Ma9] at he;have hcA:g9 (.tmp m)=.t m:=rfl;rw[hcA] at hmr;cases hs:Ib7 (t+1) H (c9 E a (.t m)) with
 |none=>rw[hs] at he;cases he
 |some q =>
 obtain⟨id,c,g,b⟩:=q;rw[hs] at he
 simp only at he
 obtain⟨h1,h2,h3,h4,h5⟩:=Tc0 hs hmr
 revert he hyr hzr
 generalize c9 E a (g9 y)=ya;generalize c9 E a (g9 z)=za;intro hyr hzr he
 split at he
 case h_2=>cases he
 rename_i ks bv;obtain⟨hgd,he⟩:=DT.run_guard_some he;have he:some (b9.v (.tuple #[]),setAt H id { b with elems:=Ma8 fl ks (app ks [.v (.bool bv)]) b.elems })=some (x,H'):=he
 rw[Qbd,l6] at hgd;have hkinds:=Ua6 9 kt fl hf;obtain⟨vs,e1,e2,e3,e4⟩:=ee7 hcov hkinds hyr (Qae hgd.1) hgd.2;have e5:=Vd2 hzr;injection he with he;injection he with q1 q2
 subst q1 q2 e2;obtain⟨hWB,hnW,hnF,hlt,hcont⟩:=hC.srel.has id b h2 (Ga4 h4) h3
 rcases hcont with⟨hb,_⟩|⟨t',K',El,fl',es,clk,m1,m2,m3,m4,m5,m6⟩
 ·exact (pb7 hb h4).elim
 have ht:t'=t:=Nat.succ.inj (m1.2.symm.trans h4.2);subst ht;rw[hu] at m2;injection m2 with m2;injection m2 with q1 q2;subst q1 q2
 rw[hf] at m3;injection m3 with m3;subst m3
 have hlen:es.toList.length=b.elems.length:=by rw[Array.length_toList];exact m5.symm
 have hrow:∀(j:Nat) r e,b.elems[j]?=some r->es.toList[j]?=some e->Ac3 fl (szT E.P kt) r e:=λj r e hr he=>m6 j r e hr (by simpa using he)
 have hfind:=lc6 (w:=w) (kl:=szT E.P kt) hag hf e4 es.toList b.elems hlen hrow;have hck:(Instr.checkKey false 10000 kt (.agg vs)).run E.P w=.ok () w:=bd1 false 9 kt fl hf 10000 (by decide) (.agg vs) (λ_=>rfl) (λh=>by rw[hag] at h;cases h) e4
 have hgo:(getObj (ρ id).blk).run E.P w=.ok (.map es clk) w:=zb3 E.P m4;have hnK:∀k,K k->k≠(ρ id).blk:=λk hk e=>hC.far id b h2 (Ga4 h4) h3 (e ▸ hk)
 have hid:=(Qab.1 h2).1;have hnewrow:∀us:MapEntry,Ac3 fl (szT E.P kt) (app (vs.toList.map .v) [.v (.bool bv)]) { us with key:=.agg vs,val:=.bool bv }:=λus=>⟨vs,bv,by rw[E0],e3,rfl,rfl,e4⟩
 have hfin : ∀ (es' : Array MapEntry) (clk' : Nat), (Ma8 fl (vs.toList.map .v) (app (vs.toList.map .v) [.v (.bool bv)]) b.elems).length = es'.size → b.elems.length ≤ es'.size → (∀ (i : Nat) r e, (Ma8 fl (vs.toList.map .v) (app (vs.toList.map .v) [.v (.bool bv)]) b.elems)[i]? = some r → es'[i]? = some e → Ac3 fl (szT E.P kt) r e) →
   kb4 E.P WB K J ρ0 H0 F0 w0 ρ H F w up ds (.v (.tuple #[])) (H.set id { b with elems:=Ma8 fl (vs.toList.map .v) (app (vs.toList.map .v) [.v (.bool bv)]) b.elems }) (.tuple #[]) (w.putObj (ρ id).blk (.map es' clk')):=λes' clk' hl1 hl2 hrows=>by
  obtain⟨c1,c2⟩:=hC.change (w':=w.putObj (ρ id).blk (.map es' clk')) (H':=H.set id { b with elems:=Ma8 fl (vs.toList.map .v) (app (vs.toList.map .v) [.v (.bool bv)]) b.elems }) (up':=up) (ρ id).blk hWB hnW hnF rfl rfl rfl (Qac _) (by simp) (λj hj=>World.putObj_heap_other hj)
   (λcc t' fr hcc=>by rw[m4] at hcc;cases hcc) (by simp)
   (λid' b' hb'=>by
    by_cases e:id=id'
    ·subst e;obtain rfl:b'=b:=Qah (hb'.symm.trans h2);exact⟨{ b' with elems:=Ma8 fl (vs.toList.map .v) (app (vs.toList.map .v) [.v (.bool bv)]) b'.elems },by simp[hid],rfl,rfl,rfl,rfl,by simp only;rw[hl1];exact hl2,λhs0=>by rw[Ga4 h4] at hs0;cases hs0⟩
    ·exact⟨b',by rw[Qaf e];exact hb',rfl,rfl,rfl,rfl,Qac _,λ_=>rfl⟩)
   (λid' b' hb' hs' hd' hne=>by
    have e:id≠id':=λe=>hne (by rw[e])
    rw[Qaf e];exact hb')
   (λhx id' b' hb' hs' hd' hblk=>by
    have e:id=id':=Qbx λhne=>by
     rw[Qaf hne] at hb';exact hC.srel.apart id id' b b' h2 hb' (Ga4 h4) hs' h3 hd' hne hblk.symm
    subst e
    have:b'={ b with elems:=Ma8 fl (vs.toList.map .v) (app (vs.toList.map .v) [.v (.bool bv)]) b.elems }:=by simpa [hid] using hb'.symm
    subst this;exact .inr ⟨t',kt,el,fl,es',clk',h4,hu,hf,World.putObj_heap_same hlt,hl1,hrows⟩)
   (hJ up w _ (λk hk=>World.putObj_heap_other (hnK k hk)) hC.jot)
   (λD _ hD e=>by rw[e,m4] at hD;cases hD)
  exact⟨ρ,F,W',c1,c2,.w (.ofv _)⟩
 rw[r6]
 rcases hfind with⟨k1,_,k3⟩|⟨j,e,r,k1,k2,k3,k4,k5,us,k6,k7⟩
 ·have hso:=zb4 E.P (.map (es.push { key:=.agg vs,val:=.bool bv,born:=clk }) (clk+1)) m4;refine .skip (w':=w.putObj (ρ id).blk (.map (es.push { key:=.agg vs,val:=.bool bv,born:=clk }) (clk+1))) ?_ (hfin _ _ ?_ ?_ ?_)
  ·simp[execOp,ho,Instr.mapUpdate,run_underlying hu,h5,e1,e5,hgo,hck,k1,hso]
  ·rw[k3];simp[m5]
  ·simp[m5]
  ·intro i r e hr he;rw[k3] at hr;by_cases hi:i<b.elems.length
   ·grind
   ·rw[Qbf (by omega)] at hr
    have hi0:i-b.elems.length=0:=by
     grind
    rw[hi0] at hr;rw[Qam,if_pos (by omega)] at he
    simp at hr he
    subst hr he;exact hnewrow { key:=.agg vs,val:=.bool bv,born:=clk }
 ·have k2':es[j]?=some e:=by simpa using k2
  obtain⟨us',bb,g1,g2,g3,g4,g5⟩:=hrow j r e k3 k2;rw[k6] at g3;injection g3 with g3;subst g3;have hsame:Instr.sameBits 10000 (.agg us) (.agg vs)=true:=Vd4 (m:=9999) hcov hkinds e3 g2 e4 g5 k7;have hso:=zb4 E.P (.map (es.modify j λe=>{ e with key:=.agg vs,val:=.bool bv }) clk) m4
  refine .skip (w':=w.putObj (ρ id).blk (.map (es.modify j λe=>{ e with key:=.agg vs,val:=.bool bv }) clk)) ?_ (hfin _ _ ?_ ?_ ?_)
  ·simp[execOp,ho,Instr.mapUpdate,run_underlying hu,h5,e1,e5,hgo,hck,k1,k2',k6,Instr.keyThatStays,hsame,hso]
  ·rw[k5];simp[m5]
  ·simp[m5]
  ·intro i r' e' hr he;rw[k5] at hr;rw[Qdg] at he;by_cases hi:j=i
   ·subst hi;rw[if_pos rfl,k2'] at he;have hj:=(Qab.1 k3).1;rw[Qcb hj] at hr
    simp at hr he
    subst hr he;exact hnewrow e
   ·rw[if_neg hi] at he;rw[Qaf hi] at hr;exact m6 i r' e' hr he
end
end
def Pu{α:Type}(s:Sem α):Prop:=∀P w r w',s.run P w=.ok r w'->w'=w
def Nv{α:Type}(s:Sem α):Prop:=∀P w r w',s.run P w≠.ok r w'
theorem Nv.pu{α:Type}{s:Sem α}(h:Nv s):Pu s:=λP w r w' e=>absurd e (h P w r w')
theorem ga5{α:Type}(x:α):Pu (Pure.pure x:Sem α):=λP w r w' e=>by
 simp only[Sem.run_pure] at e;injection e with _ e;exact e.symm
theorem vc3{α β:Type}{x:Sem α}{f:α->Sem β}{P:Program}{w w':World}{r:β}(e:(x >>= f).run P w=.ok r w'):∃a w1,x.run P w=.ok a w1/\(f a).run P w1=.ok r w':=by
 rw[Sem.run_bind] at e;cases h:x.run P w with
 |ok a w1=>rw[h] at e;exact⟨a,w1,rfl,e⟩
 |halt c w1=>rw[h] at e;cases e
theorem ga6{α β:Type}{x:Sem α}{f:α->Sem β}(hx:Pu x)(hf:∀a,Pu (f a)):Pu (x >>= f):=λP w r w' e=>by
 obtain⟨a,w1,h1,h2⟩:=vc3 e;rw[hf a P w1 r w' h2,hx P w a w1 h1]
theorem vc4{α β:Type}{x:Sem α}{f:α->Sem β}(hf:∀a,Nv (f a)):Nv (x >>= f):=λP w r w' e=>by
 obtain⟨a,w1,h1,h2⟩:=vc3 e;exact hf a P w1 r w' h2
theorem vc5{α:Type}(h:Halt):Nv (.halt h:Sem α):=λP w r w' e=>by cases e
theorem Ba4{α:Type}(s:String):Nv (stuck s:Sem α):=vc5 _
theorem Ac7{α:Type}(u:Unsupported):Nv (unsupported u:Sem α):=vc5 _
theorem pb8:Pu program:=λP w r w' e=>by
 have e:(Result.ok P w)=.ok r w':=e;injection e with _ e;exact e.symm
theorem Ld0(a:Addr)(m:Mode):Pu (load a m):=λP w r w' e=>by
 simp only[load,Sem.run] at e
 split at e
 ·injection e with _ e;exact e.symm
 ·split at e
  ·injection e with _ e;exact e.symm
  ·cases e
theorem od8(k:Nat):Pu (shape k):=λP w r w' e=>by
 simp only[shape,Sem.run] at e;injection e with _ e;exact e.symm
theorem Tc2(k:Nat):Pu (getObj k):=λP w r w' e=>by
 simp only[getObj,Sem.run] at e
 split at e
 ·cases e
 ·injection e with _ e;exact e.symm
 ·cases e
theorem Vb5(t:TypeId):Pu (underlying t):=ga6 pb8 λp=>by
 split
 ·exact ga5 _
 ·exact (Ba4 _).pu
theorem ze3(t:TypeId):Pu (typeInfo t):=ga6 pb8 λp=>by
 split
 ·exact ga5 _
 ·exact (Ba4 _).pu
theorem bd2(t:TypeId):Pu (sizeOf t):=ga6 (ze3 t) λ_=>ga5 _
theorem Xe2(t:TypeId):Pu (isAgg t):=ga6 (Vb5 t) λ_=>by split<;>exact ga5 _
theorem bd3(v:Value):Pu (Instr.sureAddr v):=by
 unfold Instr.sureAddr;split
 ·exact ga5 _
 ·exact (Ba4 _).pu
theorem Vb6(a:Addr):∀(n i:Nat) (acc:Array Value),Pu (loadCellsFrom a i n acc)
 |0,_,_=>ga5 _
 |n+1,i,acc=>ga6 (Ld0 _ _) λ_=>Vb6 a n (i+1) _
theorem bd4(a:Addr)(n:Nat):Pu (Go.loadCells a n):=Vb6 a n 0 #[]
theorem Cd2(t:TypeId)(a:Addr):Pu (loadVar t a):=ga6 (Xe2 t) λb=>by
 cases b
 ·exact Ld0 _ _
 ·refine ga6 (bd2 t) λn=>?_
  exact ga6 (bd4 _ _) λ_=>ga5 _
theorem Vd5(t:TypeId)(v:Value):Pu (Instr.loadAt t v):=ga6 (bd3 v) λa=>Cd2 t a
theorem Vd6(a:Addr):Pu (noView a):=by
 unfold noView
 repeat' (first | exact ga5 _ | exact od8 _ | exact (Ba4 _).pu | exact (Ac7 _).pu | refine ga6 ?_ (λ_=>?_) | split | exact pb8 | exact Tc2 _)
theorem Vd7(a:Addr):Pu (byteOf a):=by
 unfold byteOf
 repeat' (first | exact ga5 _ | exact od8 _ | exact Vd6 _ | exact (Ba4 _).pu | exact pb8 | refine ga6 ?_ (λ_=>?_) | split | dsimp only)
theorem Vd8(a:Addr)(c b:Nat):Pu (partAt a c b):=by
 unfold partAt
 repeat' (first | exact ga5 _ | exact Vd7 _ | refine ga6 ?_ (λ_=>?_) | split | dsimp only)
theorem Cd3(s:TypeId)(v:Value)(f:Nat):Pu (Instr.fieldAt s v f):=by
 unfold Instr.fieldAt fieldPlace
 repeat' (first | exact ga5 _ | exact Vb5 _ | exact bd3 _ | exact bd2 _ | exact Vd8 _ _ _ | exact (Ba4 _).pu | refine ga6 ?_ (λ_=>?_) | split | dsimp only)
theorem kf1(e:RuntimeError){α:Type}:Nv (runtimePanic e:Sem α):=by
 unfold runtimePanic;refine vc4 λp=>?_
 simp only
 split<;>first | exact vc5 _ | exact vc4 λ_=>vc4 λ_=>vc5 _
theorem kf2(k:IntKind)(x y:Int)(c:BoundsCode){α:Type}:Nv (boundsPanic k x y c:Sem α):=by
 unfold boundsPanic
 dsimp only
 split<;>exact vc4 λ_=>kf1 _
theorem fe1(v:Value):Pu (asIntOf v):=by
 unfold asIntOf
 repeat' (first | exact ga5 _ | exact (Ba4 _).pu | exact (Ac7 _).pu | split)
theorem Cd4(t:TypeId)(x v:Value):Pu (Instr.indexAt t x v):=by
 unfold Instr.indexAt
 repeat' (first | exact ga5 _ | exact fe1 _ | exact Vb5 _ | exact bd3 _ | exact bd2 _ | exact (kf2 _ _ _ _).pu | exact (Ba4 _).pu | exact (Ac7 _).pu | refine ga6 ?_ (λ_=>?_) | split | dsimp only)
theorem Xe3(a:Array TypeId)(t:TypeId)(x:Array Value):Pu (Builtin.len_ a t x):=by
 unfold Builtin.len_
 repeat' (first | exact ga5 _ | exact Vb5 _ | exact Tc2 _ | exact (Ba4 _).pu | refine ga6 ?_ (λ_=>?_) | split | dsimp only)
def Kb7(o:Oper):Bool:=o.guard.isNone&&match o.op with
 |.move _=>true
 |.load ..=>true
 |.fieldAddr ..=>true
 |.indexAddr ..=>true
 |.makeFunc ..=>true
 |.call c=>match c.callee with
  |.builtin .len=>true
  |_=>false
 |_=>false
theorem fe2{o:Oper}(h:Kb7 o=true){r:Operand->Value}{P:Program}{w w':World}{x:Next}(e:(execOp r o).run P w=.ok x w'):(∃v,x=.value v)/\w'=w:=by
 have key:∀{s:Sem Value},Pu s->(s >>= λv=>(Pure.pure (Next.value v):Sem Next)).run P w=.ok x w'->(∃v,x=.value v)/\w'=w:=λ{s} hs e=>by
  obtain⟨a,w1,h1,h2⟩:=vc3 e;rw[Sem.run_pure] at h2;injection h2 with h2 h3;exact⟨⟨a,h2.symm⟩,by rw[<- h3];exact hs P w a w1 h1⟩
 unfold Kb7 at h;rw[Qbd] at h;obtain⟨_,h⟩:=h;unfold execOp at e
 split at h
 ·rename_i ho;rw[ho] at e;simp only[Sem.run_pure] at e;injection e with e1 e2;exact⟨⟨_,e1.symm⟩,e2.symm⟩
 ·rename_i ho;rw[ho] at e;exact key (Vd5 _ _) e
 ·rename_i ho;rw[ho] at e;exact key (Cd3 _ _ _) e
 ·rename_i ho;rw[ho] at e;exact key (Cd4 _ _ _) e
 ·rename_i ho;rw[ho] at e;refine key (s:=Instr.makeFunc _ _ _) (ga5 _) e
 ·rename_i c ho;rw[ho] at e
  split at h
  ·rename_i hc;simp only[resolve,hc] at e;obtain⟨d,w1,h1,h2⟩:=vc3 e;rw[Sem.run_pure] at h1;injection h1 with h1 h3;subst h1 h3;exact key (Xe3 _ _ _) h2
  ·cases h
 ·cases h
def opO(ops:Array Oper)(j:Nat):Oper:=ops.getD j default
def ze4(ops:Array Oper):Bool :=
 Nat.blt 0 ops.size&&((List.range ops.size).all λj=>(w8 (opO ops j)).all λi=>Nat.blt i j) &&
 (List.range (ops.size-1)).all λj=>Kb7 (opO ops j)&&((opO ops j).dst.isSome&&(((List.range j).all λi=>(opO ops i).dst != (opO ops j).dst) &&
  (((List.range ops.size).any λk=>Nat.blt j k&&(w8 (opO ops k)).contains j) &&
  (opO ops j).op.operands.toList.all λx=>match x with
   |.tmp t=>(List.range (ops.size-1)).all λi=>(opO ops i).dst != some t||(w8 (opO ops j)).contains i
   |_=>true)))
def od9(o:Oper):Oper:={ o with dst:=none,op:=.move (.const (.bool true)),guard:=none }
def zb5(b:Bool)(o:Oper):Oper:=match b with
 |true=>od9 o
 |false=>o
def lc7(B:Nat->Bool)(m:Nat):Nat->List Oper->List Oper
 |_,[]=>[]
 |k,o::r=>zb5 (B k||Nat.ble m k) o::lc7 B m (k+1) r
def Za6(B:Nat->Bool)(m:Nat)(ops:Array Oper):Array Oper:=⟨lc7 B m 0 ops.toList⟩
def dc7(o:Oper):Bool:=match o.op with
 |.select _ _=>false
 |.defer _=>false
 |_=>true
def Ac8(ops:Array Oper)(j:Nat):Bool:=(List.range j).all λi=>(w8 (opO ops j)).contains i
def B6(ops:Array Oper):Nat->Nat
 |0=>0
 |j+1=>match Ac8 ops j with
  |true=>B6 ops j
  |false=>j+1
def fe3:Operand->Option Nat
 |.tmp t=>some t
 |_=>none
def Ac9(B:Nat->Bool)(m:Nat)(ops:Array Oper):Bool :=
 Nat.ble m ops.size&&((List.range ops.size).all λj=>(w8 (opO ops j)).all λi=>Nat.blt i j) &&
 ((List.range ops.size).all λj=>Nat.blt j m||Ac8 ops j) &&
 (List.range m).all λj =>
  (match B j with
   |true=>Kb7 (opO ops j)&&(opO ops j).dst.isSome
   |false=>dc7 (opO ops j)&&match (opO ops j).guard with
    |none=>true
    |some (g,_)=>Nat.blt g m&&!B g&&(List.range m).all λi=>!B i||(opO ops i).dst.isNone||(opO ops i).dst != (opO ops g).dst) &&
  (opO ops j).op.operands.toList.all λx=>match fe3 x with
   |some t=>(List.range m).all λi=>!B i||(opO ops i).dst != some t||(w8 (opO ops j)).contains i
   |none=>true
def Vb7(pr:List Nat):Operand->Option Nat
 |.tmp p=>if pr.contains p then some p else none
 |_=>none
def fe4(pr:List Nat)(o:Oper):Bool:=match o.dst with
 |some d=>pr.contains d
 |none=>false
def sb9(b:Bool)(x:SP):SP:=match b with
 |true=>x
 |false=>.bad
structure kf3 where
 kt:TypeId
 el:TypeId
 fl:List (Nat×CK)
def fe5(P:Program)(t:TypeId):Option kf3:=match P.underlying t with
 |some (.map kt el)=>match O5 P 9 kt with
  |some fl=>match agT P kt&&zb2 fl (szT P kt) with
   |true=>some ⟨kt,el,fl⟩
   |false=>none
  |none=>none
 |_=>none
def cSp(P:Program)(n:Nat)(pr:List Nat)(o:Oper):Option SP :=
 match o.op with
 |.alloc t=>match fe4 pr o with
  |true=>match zeT P t with
   |some z=>some (.balloc z)
   |none=>some .bad
  |false=>none
 |.box _ x=>match fe4 pr o with
  |true=>some (sb9 (ltO n x) (.bbox (g9 x)))
  |false=>none
 |.load t x=>match Vb7 pr x with
  |some p=>some (sb9 (Nat.blt p n&&(P.underlying t).isSome) (.bload (szT P t) (agT P t) p))
  |none=>none
 |.store t x y=>match Vb7 pr x with
  |some p=>some (sb9 (Nat.blt p n&&ltO n y&&!Nat.beq (szT P t) 0) (.bstore (szT P t) p (g9 y)))
  |none=>none
 |.fieldAddr s x f=>match Vb7 pr x with
  |some p=>match P.underlying s with
   |some (.struct fs)=>match fs[f]? with
    |some fd=>some (sb9 (Nat.blt p n&&!Nat.beq (szT P fd.type) 0) (.bfld fd.offset p))
    |none=>some .bad
   |_=>some .bad
  |none=>none
 |.move x=>match Vb7 pr x with
  |some p=>some (sb9 (Nat.blt p n) (.bmv p))
  |none=>none
 |.assign x=>match Vb7 pr x with
  |some p=>some (sb9 (Nat.blt p n) (.bmv p))
  |none=>none
 |.makeMap t none=>match fe5 P t with
  |some _=>some (.mmake t)
  |none=>some .bad
 |.lookup t (.tmp m) y false=>match fe5 P t with
  |some q=>some (sb9 (Nat.blt m n&&ltO n y&&ee6 P q.el) (.mlook t (szT P q.kt) q.fl m (g9 y)))
  |none=>some .bad
 |.mapUpdate t (.tmp m) y z=>match fe5 P t with
  |some q=>some (sb9 (Nat.blt m n&&ltO n y&&ltO n z) (.mupd t (szT P q.kt) q.fl m (g9 y) (g9 z)))
  |none=>some .bad
 |.call c=>match c.callee with
  |.builtin .append=>match fe4 pr o with
   |true=>match c.args.toList,c.argTypes.toList with
    |[s,x],[t,u]=>match P.underlying t with
     |some (.slice e)=>some (sb9 (Nat.blt 0 (szT P e)&&Nat.beq t u) (.old n (.apre (szT P e) (g9 s) (g9 x))))
     |_=>some .bad
    |_,_=>some .bad
   |false=>none
  |.builtin .clear=>match c.args.toList,c.argTypes.toList with
   |[x],[t]=>match P.underlying t with
    |some (.slice e)=>match zeT P e with
     |some z=>some (sb9 (Nat.blt 0 (szT P e)) (.old n (.clr (szT P e) z (g9 x))))
     |none=>some .bad
    |_=>some .bad
   |_,_=>some .bad
  |_=>none
 |_=>none
structure Rd where
 nOut:Nat
 ps:List Nat
 asq:PC
 body:PC
abbrev HL:=List (Nat×Option (Nat×Bool))
def fe6:Option (Nat×Bool)->Option (Nat×Bool)->Bool
 |none,_=>true
 |some (d,b),some (d',b')=>Nat.beq d d'&&(b==b')
 |some _,none=>false
def fe7(S:HL)(t:Nat)(g:Option (Nat×Bool)):Bool:=S.any λp=>Nat.beq p.1 t&&fe6 p.2 g
def Vb8(ops:Array Oper)(S:HL)(o:Oper):Option (List Operand):=match o.op with
 |.call c=>match c.callee with
  |.value (.tmp t)=>match S6 ops o with
   |some g=>if fe7 S t g then some c.args.toList else none
   |none=>none
  |_=>none
 |_=>none
def Bc0(ops:Array Oper)(S:HL)(o:Oper):Option (Nat×Option (Nat×Bool)):=match o.op,o.dst with
 |.move (.tmp t),some d=>match S6 ops o with
  |some g=>if fe7 S t g then some (d,g) else none
  |none=>none
 |_,_=>none
def gOk(n:Nat):Option (Nat×Bool)->Bool
 |none=>true
 |some (d,_)=>Nat.blt d n
def dOk(n:Nat):Option Nat->Bool
 |none=>true
 |some d=>Nat.blt d n
def rmL(S:HL)(dd:List Nat):HL:=S.filter λp=>!dd.contains p.1&&match p.2 with
 |none=>true
 |some (d,_)=>!dd.contains d
def rmD(S:HL):Option Nat->HL
 |none=>S
 |some d=>rmL S [d]
def E1(l:List Oper):List Nat:=l.filterMap (·.dst)
def dc8(p:Oper->Bool):List Oper->Nat
 |[]=>0
 |o::r=>match p o with
  |true=>dc8 p r+1
  |false=>0
def pd0(P:Program)(n:Nat)(pr:List Nat)(ops:Array Oper)(S:HL)(o:Oper):Bool:=(cSp P n pr o).isNone&&(Vb8 ops S o).isNone&&(Bc0 ops S o).isNone
def fe8(l r:HL):Bool:=l.all λp=>fe7 r p.1 p.2
def pc9(P:Program)(n:Nat)(pr:List Nat)(yl:Option Rd)(S0:HL)(ops:Array Oper):Nat->List Oper->HL->PC
 |0,_,_=>.bad
 |_+1,[],S=>match fe8 S0 S with
  |true=>.skip
  |false=>.bad
 |f+1,o::r,S=>match Vb8 ops S o with
  |some args=>match yl,S6 ops o with
   |some rd,some g=>match gOk n g&&dOk n o.dst&&args.all (ltO n)&&Nat.beq args.length rd.ps.length with
    |true=>.seq (.round o.dst g (args.map g9) n rd.nOut rd.ps rd.asq rd.body) (pc9 P n pr yl S0 ops f r (rmD S o.dst))
    |false=>.bad
   |_,_=>.bad
  |none=>match Bc0 ops S o with
   |some (d,g)=>match Nat.blt d n with
    |true=>.seq (.mask n [d] (.ops [⟨some d,none,[],.mv (.c .unk)⟩])) (pc9 P n pr yl S0 ops f r ((d,g)::rmL S [d]))
    |false=>.bad
   |none=>match cSp P n pr o with
    |some so=>match S6 ops o with
     |some g=>match gOk n g&&dOk n o.dst with
      |true=>.seq (.sp o.dst g so) (pc9 P n pr yl S0 ops f r (rmD S o.dst))
      |false=>.bad
     |none=>.bad
    |none=>match Ob4 P ops (o::r.take (dc8 (pd0 P n pr ops S) r)) with
     |some l=>.seq (.mask n (E1 (o::r.take (dc8 (pd0 P n pr ops S) r))) (.ops l)) (pc9 P n pr yl S0 ops f (r.drop (dc8 (pd0 P n pr ops S) r)) (rmL S (E1 (o::r.take (dc8 (pd0 P n pr ops S) r)))))
     |none=>.bad
def fe9(pr:List Nat)(ops:Array Oper):Bool:=ops.any λo=>match o.op with
 |.load _ x=>(Vb7 pr x).isSome
 |.fieldAddr _ x _=>(Vb7 pr x).isSome
 |_=>false
def ze5(pr:List Nat)(ops:Array Oper):Bool:=ops.any λo=>match o.op with
 |.store _ x _=>(Vb7 pr x).isSome
 |_=>false
def Vd9(pr:List Nat)(o:Oper):Bool:=o.guard.isNone&&match o.op with
 |.load _ x=>(Vb7 pr x).isSome
 |.fieldAddr _ x _=>(Vb7 pr x).isSome
 |_=>false
def Tc3(o:Oper):Option Nat:=match o.op with
 |.load _ (.tmp p)=>some p
 |.fieldAddr _ (.tmp p) _=>some p
 |_=>none
def ze6(n:Nat):List Oper->Bool
 |[]=>true
 |o::r=>(match Tc3 o,o.dst with
  |some p,some d=>Nat.blt d n&&!(E1 (o::r)).contains p&&!(E1 r).contains d
  |_,_=>false)&&ze6 n r
def Wd0(P:Program)(n:Nat)(pr:List Nat):List Oper->PC
 |[]=>.skip
 |o::r=>match cSp P n pr o with
  |some so=>.seq (.sp o.dst none so) (Wd0 P n pr r)
  |none=>.bad
def bAt(pr:List Nat)(ops:Array Oper)(m:Nat)(j:Nat):Bool:=Nat.blt j m&&Vd9 pr (opO ops j)
def Kb8(pr:List Nat)(ops:Array Oper)(m:Nat):List Oper:=(ops.toList.take m).filter (Vd9 pr)
def Cd5(n:Nat)(pr:List Nat)(ops:Array Oper):Bool :=
 Ac9 (bAt pr ops (B6 ops ops.size)) (B6 ops ops.size) ops&&ze6 n (Kb8 pr ops (B6 ops ops.size)) &&
 (Kb8 pr ops (B6 ops ops.size)).all λo=>match Tc3 o,o.dst with
  |some p,some d=>!(E1 (Za6 (bAt pr ops (B6 ops ops.size)) (B6 ops ops.size) ops).toList).contains p&&!(E1 (Za6 (bAt pr ops (B6 ops ops.size)) (B6 ops ops.size) ops).toList).contains d
  |_,_=>false
def Bc1:List Nat->PC
 |[]=>.skip
 |p::r=>.seq (.adopt p) (Bc1 r)
def Me4(pr:List Nat)(l:List Oper):List Nat:=l.filterMap λo=>match o.op with
 |.alloc _=>match o.dst with
  |some p=>match pr.contains p with
   |true=>some p
   |false=>none
  |none=>none
 |_=>none
def ka6(P:Program)(n:Nat)(pr:List Nat)(yl:Option Rd)(S0:HL)(kp:Nat->List Nat)(rf:Operand->Array Tmp->Code->Code->PC)(cur:Nat):Code->PC
 |.skip=>.skip
 |.region _ ops d=>match d with
  |false=>pc9 P n pr yl S0 ops (ops.size+1) ops.toList S0
  |true=>match fe9 pr ops&&ze4 ops with
   |true=>pc9 P n pr yl S0 ops (ops.size+1) ops.toList S0
   |false=>match (fe9 pr ops||ze5 pr ops)&&Cd5 n pr ops with
    | true => .seq (Wd0 P n pr (Kb8 pr ops (B6 ops ops.size)))
      (.seq (.mask n (E1 (Za6 (bAt pr ops (B6 ops ops.size)) (B6 ops ops.size) ops).toList) (ra5 P (Za6 (bAt pr ops (B6 ops ops.size)) (B6 ops ops.size) ops)))
       (.seq (Bc1 (Me4 pr (ops.toList.take (B6 ops ops.size)))) (pc9 P n pr yl S0 ops (ops.size+1) (ops.toList.drop (B6 ops ops.size)) (rmL S0 (E1 ops.toList)))))
    |false=>match fe8 S0 (rmL S0 (E1 ops.toList)) with
     |true=>.mask n (E1 ops.toList) (ra5 P ops)
     |false=>.bad
 |.seq a b=>.seq (ka6 P n pr yl S0 kp rf cur a) (ka6 P n pr yl S0 kp rf cur b)
 |.cond c x y=>match ltO n c with
  |true=>.cond (g9 c) (ka6 P n pr yl S0 kp rf cur x) (ka6 P n pr yl S0 kp rf cur y)
  |false=>.bad
 |.block id c=>.block id (ka6 P n pr yl S0 kp rf id c)
 |.loop c=>.loopM (kp cur) (ka6 P n pr yl S0 kp rf cur c)
 |.label _=>.skip
 |.exit id=>.exit id
 |.ret=>.ret
 |.rangeFunc g ps asq body=>rf g ps asq body
 |_=>.bad
structure qc0 where
 pr:List Nat
 kp:List (Nat×List Nat)
 fi:FuncId
 ki:List (Nat×List Nat)
def Wd1(l:List (Nat×List Nat))(id:Nat):List Nat:=match l.find? λp=>Nat.beq p.1 id with
 |some p=>p.2
 |none=>[]
def Vb9(_:Operand)(_:Array Tmp)(_ _:Code):PC:=.bad
def kf4(P:Program)(h:qc0)(n:Nat)(ps:Array Tmp)(asq body:Code):Rd :=
 ⟨n,ps.toList,ka6 P n h.pr none [] (Wd1 h.kp) Vb9 0 asq,ka6 P n h.pr none [] (Wd1 h.kp) Vb9 0 body⟩
def Cd6(P:Program)(h:qc0)(fnI:Func)(cI:Code)(n:Nat)(g:Operand)(ps:Array Tmp)(asq body:Code):PC :=
 match ltO n g&&Nat.beq fnI.results.size 0&&ps.toList.all (λp=>Nat.blt p n) with
 |true=>.inner h.fi (g9 g) fnI.ntmps (ka6 P fnI.ntmps [] (some (kf4 P h n ps asq body)) [(0,none)] (Wd1 h.ki) Vb9 0 cI)
 |false=>.bad
def Ba5(P:Program)(h:qc0)(fnI fn:Func):Option PFn :=
 match fn.body,fnI.body with
 |some c,some cI =>
  if fn.results.toList.all (jd9 P) then some ⟨fn.ntmps,fn.results.toList.map (wc9 P),ka6 P fn.ntmps h.pr none [] (Wd1 h.kp) (Cd6 P h fnI cI fn.ntmps) 0 c⟩ else none
 |_,_=>none
def pd1(H:List c7):Bool:=List.rec (motive:=λ_=>Bool) true (λb _ ih=>Bool.rec (motive:=λ_=>Bool) ih false (r5 b)) H
def xa3(E:Env)(fn:PFn)(args:List b9)(blks:List c7):DT (b9×List c7) :=
 .guard (Bool.and (pd1 blks) (Nat.ble (len args) fn.ntmps)) ((A1 E (len blks) fn.body ⟨app args (List.replicate (fn.ntmps-len args) (.v (.tuple #[]))),blks⟩).bind λr =>
  match r.1 with
  |.exit _=>.fail
  |_=>match Ma4 (Na0 (l9 (T6 r.2.H) r.2.a) (j8 r.2.H)) fn.res with
   |some l=>.guard (pd1 (A7 r.2.H (len blks))) (wb6 (len blks) (j8 r.2.H) (eb8 l))
   |none=>.fail)
section
variable{WB K:Nat->Prop}{J:List Value->World->Prop}{DF:List Deferred->Prop}{S:HL}{rv:Value}{ρ ρ0:Rho}{H H0 H':List c7}{F F0:Fz}{w w0 w':World}{W':Nat->Prop}{up:List Value}{E:Env}{a:List b9}{s s':St}{ac:Act}{x:b9}{o:Oper}{n:Nat}
def tb0(tmps:Array Value):Option (Nat×Bool)->Prop
 |none=>True
 |some (d,b)=>tmps[d]?=some (.bool b)
structure I3(P:Program)(WB K:Nat->Prop)(J:List Value->World->Prop)(n:Nat)(S:HL)(rv:Value)(DF:List Deferred->Prop)(ρ0:Rho)(H0:List c7)(F0:Fz)(w0:World)(s:St)(ac:Act)(w:World):Prop where
 inv:Ac5 P WB K J n ρ0 H0 F0 w0 s ac w
 held:∀p∈S,tb0 ac.tmps p.2->ac.tmps[p.1]?=some rv
 df:DF ac.defers
theorem aa1{b:Bool}{so:SP}(h:(Ma9 E a H (sb9 b so)).run=some (x,H')):b=true/\sb9 b so=so:=by
 cases b with
 |true=>exact⟨rfl,rfl⟩
 |false=>cases h
theorem Ga5{pr:List Nat}{y:Operand}{p:Nat}(h:Vb7 pr y=some p):y=.tmp p:=by
 unfold Vb7 at h
 grind
theorem dc9{P:Program}{t:TypeId}{q:kf3}(h:fe5 P t=some q):P.underlying t=some (.map q.kt q.el)/\O5 P 9 q.kt=some q.fl/\agT P q.kt=true/\zb2 q.fl (szT P q.kt)=true:=by
 unfold fe5 at h
 grind
theorem pb9{k:Nat}(h:(!Nat.beq k 0)=true):k≠0:=λe=>by subst e;cases h
theorem VR.arel(hv:VR ρ H F w a (ac.tmps.toList++up))(hn:ac.tmps.size=n):da4 ρ (j8 H) F w (l9 (T6 H) (A7 a n)) ac.tmps:=by
 have hl:=hv.1;have hsz:ac.tmps.toList.length=ac.tmps.size:=Array.length_toList;rw[Qea] at hl;rw[k9,A8];refine⟨by rw[List.length_map,List.length_take];omega,λi x x' hx hx'=>?_⟩
 rw[Qbm] at hx;have hi:i<n:=hn ▸ (Qbo.1 hx').1;rw[Qbe,if_pos hi] at hx;cases hy:a[i]? with
 |none=>rw[hy] at hx;cases hx
 |some y =>
  rw[hy] at hx;injection hx with hx;subst hx;refine Sc9 (hv.2 i y x' hy ?_)
  grind
theorem ge0{px:PO}{ds:List Deferred}(hC:C2 E.P WB K J ρ0 H0 F0 w0 H ds w ρ F W' up)(hJ:yb9 K J)
  (hop:∀H1,(evalOp E (l9 (T6 H) (A7 a n)) (j8 H) px).run=some (x,H1)->i6 E.P o ac w (C4 W' ρ (j8 H) F w x H1)) (he:(Ma9 E a H (.old n px)).run=some (x,H')):i6 E.P o ac w (kb4 E.P WB K J ρ0 H0 F0 w0 ρ H F w up ds x H'):=by
 obtain⟨⟨x1,H1⟩,h1,h2⟩:=DT.run_bind_some (show ((evalOp E (l9 (T6 H) (A7 a n)) (j8 H) px).bind λr=>.guard (vb4 H r.2) (.ret (r.1,o9 H r.2))).run=some (x,H') from he)
 obtain⟨hok,h2⟩:=DT.run_guard_some h2;have h2:some (x1,o9 H H1)=some (x,H'):=h2;injection h2 with h2;injection h2 with e1 e2;subst e1 e2
 intro next Q hp;refine hop H1 h1 next Q λx' w' ⟨ρ',F',k1,k2,k3⟩=>hp x' w' ?_
 obtain⟨c1,c2⟩:=hC.step hJ k1 hok k2;exact⟨_,F',W',c1,c2,.w (Cd0 k1 hok k3)⟩
theorem Me5{α:Type}{l:Array α}{a b:α}(h:l.toList=[a,b]):l=#[a,b]:=by
 grind
theorem Me6{α:Type}{l:Array α}{a:α}(h:l.toList=[a]):l=#[a]:=by
 grind
theorem kf5{pr:List Nat}{so:SP}{ds:List Deferred}(hC:C2 E.P WB K J ρ0 H0 F0 w0 H ds w ρ F W' up)(hJ:yb9 K J)(hv:VR ρ H F w a (ac.tmps.toList++up))(hn:ac.tmps.size=n)(hG:GOk E F w)
  (hs:cSp E.P n pr o=some so) (he:(Ma9 E a H so).run=some (x,H')):i6 E.P o ac w (kb4 E.P WB K J ρ0 H0 F0 w0 ρ H F w up ds x H'):=by
 unfold cSp at hs
 split at hs
 ·rename_i t ho
  split at hs
  ·split at hs
   ·rename_i z hz;injection hs with hs;subst hs
    exact Vd0 hC hJ ho hz he
   ·injection hs with hs;subst hs;cases he
  ·cases hs
 ·rename_i t y ho
  split at hs
  ·injection hs with hs;subst hs
   obtain⟨h1,h2⟩:=aa1 he;rw[h2] at he;exact ze0 hC hJ hv hn hG ho h1 he
  ·cases hs
 ·rename_i t y ho
  split at hs
  ·rename_i p hp;injection hs with hs;subst hs
   obtain⟨h1,h2⟩:=aa1 he;rw[h2] at he;rw[Qbd] at h1;rw[Ga5 hp] at ho;exact ee2 hC hv hn hG ho h1.1 (λe=>by rw[e] at h1;cases h1.2) he
  ·cases hs
 ·rename_i t y z ho
  split at hs
  ·rename_i p hp;injection hs with hs;subst hs
   obtain⟨h1,h2⟩:=aa1 he;rw[h2] at he;rw[Qbd,Qbd] at h1;rw[Ga5 hp] at ho;exact Vd1 hC hJ hv hn hG ho h1.1.1 h1.1.2 (pb9 h1.2) he
  ·cases hs
 ·rename_i st y f ho
  split at hs
  ·rename_i p hp
   split at hs
   ·rename_i fs hu
    split at hs
    ·rename_i fd hf;injection hs with hs;subst hs
     obtain⟨h1,h2⟩:=aa1 he;rw[h2] at he;rw[Qbd] at h1;rw[Ga5 hp] at ho;exact ze1 hC hv hn hG ho h1.1 hu hf (pb9 h1.2) he
    ·injection hs with hs;subst hs;cases he
   ·injection hs with hs;subst hs;cases he
  ·cases hs
 ·rename_i y ho
  split at hs
  ·rename_i p hp;injection hs with hs;subst hs
   obtain⟨h1,h2⟩:=aa1 he;rw[h2] at he;rw[Ga5 hp] at ho;exact ee3 hC hv hn hG (.inl ho) h1 he
  ·cases hs
 ·rename_i y ho
  split at hs
  ·rename_i p hp;injection hs with hs;subst hs
   obtain⟨h1,h2⟩:=aa1 he;rw[h2] at he;rw[Ga5 hp] at ho;exact ee3 hC hv hn hG (.inr ho) h1 he
  ·cases hs
 ·rename_i t ho
  split at hs
  ·rename_i q hq;injection hs with hs;subst hs
   obtain⟨h1,h2,_,_⟩:=dc9 hq;exact ee9 hC hJ ho h1 h2 he
  ·injection hs with hs;subst hs;cases he
 ·rename_i t m y ho
  split at hs
  ·rename_i q hq;injection hs with hs;subst hs
   obtain⟨h1,h2,h3,h4⟩:=dc9 hq;obtain⟨k1,k2⟩:=aa1 he;rw[k2] at he;rw[Qbd,Qbd] at k1;exact fe0 hC hv hn hG ho k1.1.1 k1.1.2 h1 h3 h2 h4 k1.2 he
  ·injection hs with hs;subst hs;cases he
 ·rename_i t m y z ho
  split at hs
  ·rename_i q hq;injection hs with hs;subst hs
   obtain⟨h1,h2,h3,h4⟩:=dc9 hq;obtain⟨k1,k2⟩:=aa1 he;rw[k2] at he;rw[Qbd,Qbd] at k1;exact ze2 hC hJ hv hn hG ho k1.1.1 k1.1.2 k1.2 h1 h3 h2 h4 he
  ·injection hs with hs;subst hs;cases he
 ·rename_i c ho
  split at hs
  ·rename_i hcb
   split at hs
   ·split at hs
    ·rename_i y z t u hargs htys
     split at hs
     ·rename_i e hu;injection hs with hs;subst hs
      obtain⟨k1,k2⟩:=aa1 he;rw[k2] at he;rw[Qbd,Qch] at k1;have htu:=Qae k1.2;subst htu;obtain⟨ti,hi,hi0,hi1⟩:=Tb4 (Nat.ne_of_gt k1.1);refine ge0 hC hJ (λH1 h1=>?_) he
      exact xc5 (hv.arel hn) hC.hrel hG ho hcb (Me5 hargs) (Me5 htys) hu hi (by omega) h1
     ·injection hs with hs;subst hs;cases he
    ·injection hs with hs;subst hs;cases he
   ·cases hs
  ·rename_i hcb
   split at hs
   ·rename_i y t hargs htys
    split at hs
    ·rename_i e hu
     split at hs
     ·rename_i z hz;injection hs with hs;subst hs
      obtain⟨k1,k2⟩:=aa1 he;rw[k2] at he;rw[Qch] at k1;refine ge0 hC hJ (λH1 h1=>?_) he
      exact Qc8 (hv.arel hn) hC.hrel hG ho hcb (Me6 hargs) (Me6 htys) hu hz k1 h1
     ·injection hs with hs;subst hs;cases he
    ·injection hs with hs;subst hs;cases he
   ·injection hs with hs;subst hs;cases he
  ·cases hs
 ·cases hs
theorem VR.putA(hv:VR ρ H F w a (ac.tmps.toList++up))(hn:ac.tmps.size=n){dst:Option Nat}(hd:dOk n dst=true){x':Value}(hx:XW ρ H F w x x'):VR ρ H F w (Ev.putA a dst x) ((ac.put dst x').tmps.toList++up):=by
 rw[Fb8];cases dst with
 |none=>exact hv
 |some d =>
  have hd:d<n:=by have:=hd;unfold dOk at this;rwa [Qch] at this
  have e:(ac.put (some d) x').tmps.toList++up=(ac.tmps.toList++up).set d x':=by
   rw[List.set_append_left _ _ (by rw[Array.length_toList];omega)]
   simp[Act.put]
  rw[e];refine⟨by simp only[List.length_set];exact hv.1,λi y y' hy hy'=>?_⟩
  rw[List.getElem?_set] at hy hy';by_cases hi:d=i
  ·simp_all
  ·rw[if_neg hi] at hy hy';exact hv.2 i y y' hy hy'
theorem VR.tr{vs:List Value}{ρ':Rho}{F':Fz}(hv:VR ρ H F w a vs)(ht:Tr ρ H F w ρ' H' F' w'):VR ρ' H' F' w' a vs:=⟨hv.1,λi x x' hx hx'=>ht _ _ (hv.2 i x x' hx hx')⟩
theorem VR.at(hv:VR ρ H F w a (ac.tmps.toList++up))(hn:ac.tmps.size=n){t:Nat}(ht:t<n):∃x',ac.tmps[t]?=some x'/\XW ρ H F w (c9 E a (.t t)) x':=by
 have hl:=hv.1;have hsz:ac.tmps.toList.length=ac.tmps.size:=Array.length_toList;rw[Qea] at hl;have h1:t<a.length:=by omega
 have h2:t<ac.tmps.size:=by omega
 refine⟨ac.tmps[t],by simp[h2],?_⟩
 rw[Ra2,Qaa h1];refine hv.2 t _ _ (Qaa h1) ?_
 simp_all
theorem Kb9{ops:Array Oper}{g:Option (Nat×Bool)}{d:St->DT St}(hg:S6 ops o=some g)(hgn:gOk n g=true)(hv:VR ρ H F w s.a (ac.tmps.toList++up))(hn:ac.tmps.size=n)(he:(uc4 E s o.dst g d).run=some s') :
  (Region.wanted o (yielded ops ac.tmps)=true/\(d s).run=some s')\/(Region.wanted o (yielded ops ac.tmps)=false/\s'=⟨putA s.a o.dst (.v (.tuple #[])),s.H⟩):=by
 unfold S6 at hg;unfold Region.wanted;cases hgo:o.guard with
 |none =>
  simp only[hgo] at hg ⊢;injection hg with hg;subst hg;exact .inl ⟨trivial,he⟩
 |some jw =>
  obtain⟨j,want⟩:=jw;simp only[hgo] at hg ⊢;cases hj:ops[j]? with
  |none=>simp[hj] at hg
  |some oj =>
  simp only[hj] at hg;cases hd:oj.dst with
  |none=>simp[hd] at hg
  |some dd =>
  simp only[hd] at hg;injection hg with hg;subst hg;have hdn:dd<n:=by have:=hgn;unfold gOk at this;rwa [Qch] at this
  obtain⟨u',hu1,hu2⟩:=hv.at (E:=E) hn hdn;have he':(match c9 E s.a (.t dd) with
   | .v (.bool b) => Bool.rec (motive := fun _ => DT St)
     (.ite b (.ret ⟨putA (setAt s.a dd (.v (.bool true))) o.dst (.v (.tuple #[])),s.H⟩) (d ⟨setAt s.a dd (.v (.bool false)),s.H⟩))
     (.ite b (d ⟨setAt s.a dd (.v (.bool true)),s.H⟩) (.ret ⟨putA (setAt s.a dd (.v (.bool false))) o.dst (.v (.tuple #[])),s.H⟩)) want
   |.v (.tuple _)=>.ret ⟨putA s.a o.dst (.v (.tuple #[])),s.H⟩
   |_=>.fail).run=some s':=he
  have hset:∀b,c9 E s.a (.t dd)=.v (.bool b)->setAt s.a dd (.v (.bool b))=s.a:=λb h=>md4 (E:=E) (by simp) h
  revert he' hu2 hset
  generalize c9 E s.a (.t dd)=u;intro hu2 he' hset
  split at he'
  ·rename_i b;have hb:=Vd2 hu2;subst hb;rw[pb0 hj hd hu1];have hs:=hset b rfl;cases want<;>cases b
   ·rw[hs] at he';exact .inl ⟨rfl,he'⟩
   ·refine .inr ⟨rfl,?_⟩;rw[hs] at he';exact (Qah he').symm
   ·refine .inr ⟨rfl,?_⟩;rw[hs] at he';exact (Qah he').symm
   ·rw[hs] at he';exact .inl ⟨rfl,he'⟩
  ·rename_i vs;have hb:=Vd2 hu2;subst hb;rw[fb1 hj hd hu1]
   simp_all
  ·cases he'
theorem Wb0{a a':Array Value}{dd:List Nat}(h:∀p∈S,tb0 a p.2->a[p.1]?=some rv)(hs:∀t,¬ t∈dd->a'[t]?=a[t]?):∀p∈rmL S dd,tb0 a' p.2->a'[p.1]?=some rv:=by
 intro p hp hg;simp only[rmL,List.mem_filter,Qbd] at hp;obtain⟨h1,h2,h3⟩:=hp;rw[hs p.1 (by simpa using h2)]
 refine h p h1 ?_;obtain⟨t,g⟩:=p;cases g with
 |none=>trivial
 |some q =>
  obtain⟨d,b⟩:=q;have h3:¬ d∈dd:=by simpa using h3
  exact (hs d h3).symm.trans hg
theorem Va5{dst:Option Nat}{v:Value}(h:∀p∈S,tb0 ac.tmps p.2->ac.tmps[p.1]?=some rv):∀p∈rmD S dst,tb0 (ac.put dst v).tmps p.2->(ac.put dst v).tmps[p.1]?=some rv:=by
 cases dst with
 |none=>exact h
 |some d=>exact Wb0 h λt ht=>kb3 λe=>by injection e with e;subst e;simp at ht
theorem Cd7{tmps:Array Value}{g g':Option (Nat×Bool)}(h:fe6 g g'=true)(hg:tb0 tmps g'):tb0 tmps g:=by
 cases g with
 |none=>trivial
 |some q =>
  obtain⟨d,b⟩:=q;cases g' with
  |none=>cases h
  |some q' =>
   obtain⟨d',b'⟩:=q';simp only[fe6,Qbd,beq_iff_eq] at h
   simp_all
theorem ec0{tmps:Array Value}{t:Nat}{g:Option (Nat×Bool)}(h:∀p∈S,tb0 tmps p.2->tmps[p.1]?=some rv)(hs:fe7 S t g=true)(hg:tb0 tmps g):tmps[t]?=some rv:=by
 simp only[fe7,List.any_eq_true,Qbd] at hs;obtain⟨p,h1,h2,h3⟩:=hs
 have:=h p h1 (Cd7 h3 hg)
 simp_all
theorem zb6{ops:Array Oper}{o:Oper}{g:Option (Nat×Bool)}{tmps:Array Value}(hg:S6 ops o=some g):Region.wanted o (yielded ops tmps)=true↔tb0 tmps g:=by
 unfold S6 at hg;unfold Region.wanted;cases hgo:o.guard with
 |none =>
  simp only[hgo] at hg ⊢;injection hg with hg;subst hg;exact⟨λ_=>trivial,λ_=>trivial⟩
 |some jw =>
  obtain⟨j,want⟩:=jw;simp only[hgo] at hg ⊢;cases hj:ops[j]? with
  |none=>simp[hj] at hg
  |some oj =>
  simp only[hj] at hg;cases hd:oj.dst with
  |none=>simp[hd] at hg
  |some d =>
  simp only[hd] at hg;injection hg with hg;subst hg;simp only[yielded,hj,Option.bind_some,hd,tb0]
  grind
theorem Xe4{Fe:Fence}{m i:Nat}{pr:List Nat}{so:SP}{g:Option (Nat×Bool)}{ops:Array Oper}{rest:List Nat}{Q:Exit->Act->World->Prop}(hF:FW Fe)(hG0:GOk E F0 w0)(hJ:yb9 K J)(hi:ops[i]?=some o)
  (hs:cSp E.P n pr o=some so) (hg:S6 ops o=some g) (hgn:gOk n g=true) (hdn:dOk n o.dst=true) (hI:I3 E.P WB K J n S rv DF ρ0 H0 F0 w0 s ac w) (he:(yd2 E s o.dst g so).run=some s')
  (hQ:∀ac' w',I3 E.P WB K J n (rmD S o.dst) rv DF ρ0 H0 F0 w0 s' ac' w'->wpOpsIn Fe m E.P ops Q rest ac' w'):wpOpsIn Fe m E.P ops Q (i::rest) ac w:=by
 obtain⟨⟨ρ,F,W',up,hI2⟩,hheld,hdf⟩:=hI;simp only[wpOpsIn,hi]
 rcases Kb9 hg hgn hI2.vals hI2.size he with⟨hw,he⟩|⟨hw,rfl⟩
 ·rw[if_pos hw];obtain⟨⟨x,H'⟩,h1,h2⟩:=DT.run_bind_some he;have h2:some (⟨putA s.a o.dst x,H'⟩:St)=some s':=h2;injection h2 with h2;subst h2;have hop:=kf5 (ac:={ ac with defers:=[] }) (ds:=ac.defers) hI2.core hJ hI2.vals hI2.size (hG0.adv hI2.core.adv) hs h1
  refine hop.inAny hF m _ _ λx' w' hp=>?_
  obtain⟨ρ',F',W'',c1,c2,c3⟩:=hp;exact hQ _ _ ⟨⟨ρ',F',W'',up,by rw[o5];exact c1,(hI2.vals.tr c2).putA hI2.size hdn c3,(O8 _ _).trans hI2.size⟩,Va5 hheld,by rw[o5];exact hdf⟩
 ·rw[if_neg (by simp[hw])]
  refine⟨λf _=>hF.fn f,hQ _ _ ⟨⟨ρ,F,W',up,by rw[o5];exact hI2.core,hI2.vals.putA hI2.size hdn (.w (.ofv _)),(O8 _ _).trans hI2.size⟩,Va5 hheld,by rw[o5];exact hdf⟩⟩
theorem ge1{Fe:Fence}{m i d k:Nat}{g:Option (Nat×Bool)}{ops:Array Oper}{rest:List Nat}{Q:Exit->Act->World->Prop}{xx:d8}(hF:FW Fe)(hG0:GOk E F0 w0)(hcalls:∀f,e8 E.P E.G f (E.call f))(hJ:yb9 K J)(hi:ops[i]?=some o)
  (hc:Bc0 ops S o=some (d,g)) (hdn:d<n) (hI:I3 E.P WB K J n S rv DF ρ0 H0 F0 w0 s ac w) (he:(A1 E k (.mask n [d] (.ops [⟨some d,none,[],.mv (.c .unk)⟩])) s).run=some (xx,s'))
  (hQ:xx=.normal->∀ac' w',I3 E.P WB K J n ((d,g)::rmL S [d]) rv DF ρ0 H0 F0 w0 s' ac' w'->wpOpsIn Fe m E.P ops Q rest ac' w'):wpOpsIn Fe m E.P ops Q (i::rest) ac w:=by
 obtain⟨⟨ρ,F,W',up,hI2⟩,hheld,hdf⟩:=hI;unfold Bc0 at hc
 split at hc
 case h_2=>cases hc
 rename_i t d' ho hd
 split at hc
 case h_2=>cases hc
 rename_i g' hg
 split at hc
 case isFalse=>cases hc
 rename_i hS;injection hc with hc;injection hc with e1 e2;subst e1 e2;simp only[wpOpsIn,hi];have he':((A1 E k (.ops [⟨some d',none,[],.mv (.c .unk)⟩]) ⟨l9 (T6 s.H) (A7 s.a n),j8 s.H⟩).bind λr=>.guard (vb4 s.H r.2.H) (.ret (r.1,⟨Y6 [d'] s.a r.2.a 0,o9 s.H r.2.H⟩))).run=some (xx,s'):=he
 obtain⟨⟨x1,s1⟩,h1,h2⟩:=DT.run_bind_some he';obtain⟨hok,h2⟩:=DT.run_guard_some h2;have h1:some (d8.normal,(⟨putA (l9 (T6 s.H) (A7 s.a n)) (some d') .unk,j8 s.H⟩:St))=some (x1,s1):=h1;injection h1 with h1;injection h1 with e1 e2;subst e1 e2
 have h2:some (d8.normal,(⟨Y6 [d'] s.a (putA (l9 (T6 s.H) (A7 s.a n)) (some d') .unk) 0,o9 s.H (j8 s.H)⟩:St))=some (xx,s'):=h2;injection h2 with h2;injection h2 with e1 e2;subst e1 e2
 obtain⟨c1,c2⟩:=hI2.core.step hJ .refl hok hI2.core.hrel;have hvr:∀v,VR (ρsp s.H ρ ρ) (o9 s.H (j8 s.H)) F w (Y6 [d'] s.a (putA (l9 (T6 s.H) (A7 s.a n)) (some d') .unk) 0) ((ac.put o.dst v).tmps.toList++up):=λv=>by
  refine⟨by rw[zb1];have:=hI2.vals.1;rw[Qea,Array.length_toList] at this ⊢;rw[O8];exact this,λi y y' hy hy'=>?_⟩
  rw[zb0] at hy;cases hz:s.a[i]? with
  |none=>rw[hz] at hy;cases hy
  |some z =>
   rw[hz] at hy;injection hy with hy;rw[Qbh] at hy;by_cases hid:i=d'
   ·subst hid;have hm:Ma5 i [i]=true:=(Ac6 _ _).2 (by simp)
    rw[hm] at hy;have hy:((putA (l9 (T6 s.H) (A7 s.a n)) (some i) .unk)[i]?).getD .unk=y:=hy;rw[Fb8] at hy;simp only[List.getElem?_set] at hy
    have:y=.unk:=by
     rw[<- hy];simp only[if_true]
     split<;>rfl
    subst this;exact .w (.unk _)
   ·have hm : Ma5 i [d'] = false := by
     cases h:Ma5 i [d'] with
     |false=>rfl
     |true=>exact absurd (by simpa using (Ac6 _ _).1 h) hid
    rw[hm] at hy;have hy:z=y:=hy;subst hy;refine c2 _ _ (hI2.vals.2 i z y' hz ?_);rw[hd] at hy';simpa [Act.put,List.getElem?_append,Qeb,Ne.symm hid] using hy'
 have hfin:∀v,(Region.wanted o (yielded ops ac.tmps)=true->v=rv)->(Region.wanted o (yielded ops ac.tmps)=false->v=undef)->wpOpsIn Fe m E.P ops Q rest (ac.put o.dst v) w:=λv hv1 hv2=>by
  refine hQ rfl _ _ ⟨⟨_,F,W',up,by rw[o5];exact c1,hvr v,(O8 _ _).trans hI2.size⟩,λp hp hgp=>?_,by rw[o5];exact hdf⟩
  have hlt:d'<ac.tmps.size:=Nat.lt_of_lt_of_eq hdn hI2.size.symm;have hset:(ac.put (some d') v).tmps[d']?=some v:=by
   show (ac.tmps.setIfInBounds d' v)[d']?=some v;exact Array.getElem?_setIfInBounds_self_of_lt hlt
  rcases Qbp.1 hp with rfl|hp
  ·cases hw:Region.wanted o (yielded ops ac.tmps) with
   |true=>rw[hd,<- hv1 hw];exact hset
   |false =>
    exfalso;have hng:¬ tb0 ac.tmps g':=λh=>by rw[(zb6 hg).2 h] at hw;cases hw
    cases g' with
    |none=>exact hng trivial
    |some q =>
     obtain⟨dg,b⟩:=q;have hgq:(ac.put o.dst v).tmps[dg]?=some (.bool b):=hgp;by_cases he:dg=d'
     ·subst he;rw[hd,hset,hv2 hw] at hgq;injection hgq with hgq;cases hgq
     ·rw[kb3 (λe=>he (by rw[hd] at e;injection e with e;exact e.symm))] at hgq
      exact hng hgq
  ·have:=Va5 (dst:=some d') (v:=v) hheld p hp
   rw[hd] at hgp ⊢;exact this hgp
 by_cases hw:Region.wanted o (yielded ops ac.tmps)=true
 ·rw[if_pos hw];have ht:=ec0 hheld hS ((zb6 hg).1 hw);have hop:i6 E.P o { ac with defers:=[] } w (λv w'=>v=rv/\w'=w):=by
   have hev:({ ac with defers:=[] }:Act).eval (.tmp t)=rv:=by
    show ac.tmps.getD t undef=rv
    simp_all
   exact .value (x':=rv) (w':=w) (by simp[execOp,ho,hev]) ⟨rfl,rfl⟩
  refine hop.inAny hF m _ _ λv w' hp=>?_
  simp_all
 ·rw[if_neg hw];exact⟨λf _=>hF.fn f,hfin _ (λh=>absurd h hw) λ_=>rfl⟩
end
section
variable{P:Program}{k:Nat}{WB K:Nat->Prop}{J:List Value->World->Prop}{DF:List Deferred->Prop}{S:HL}{rv:Value}{ρ ρ0:Rho}{H H0 H2:List c7}{F F0:Fz}{w w0:World}{W':Nat->Prop}{up:List Value}{E:Env}{R:List Nat}{n:Nat}
def ge2(H:List c7)(x:b9)(r:List Nat):List Nat:=match x with
 |.ptr id _ _ g=>match blkAt H id g with
  |some _=>(ma6 r id).2
  |none=>r
 |.sl id _ _ g=>match blkAt H id g with
  |some _=>(ma6 r id).2
  |none=>r
 |_=>r
theorem ge3(H:List c7)(x:b9)(r:List Nat)(hr:TOk k r):TOk k (ge2 H x r)/\TLe r (ge2 H x r):=by
 have step:∀id,TOk k (ma6 r id).2/\TLe r (ma6 r id).2:=λid=>by
  obtain⟨h1,h2,_⟩:=hr.idx (id:=id) (j:=(ma6 r id).1) (r:=(ma6 r id).2) rfl;exact⟨h1,h2⟩
 unfold ge2;split
 ·split
  ·exact step _
  ·exact⟨hr,.refl _⟩
 ·split
  ·exact step _
  ·exact⟨hr,.refl _⟩
 ·exact⟨hr,.refl _⟩
theorem pd2(H:List c7):∀(cs:List b9) (r:List Nat),TOk k r->TOk k (Id2 H cs r)/\TLe r (Id2 H cs r)
 |[],r,hr=>⟨hr,.refl _⟩
 |x::cs,r,hr=>by
  have hx:=ge3 H x r hr;obtain⟨h1,h2⟩:=pd2 H cs _ hx.1;exact⟨h1,hx.2.trans h2⟩
def ge4(H:List c7)(id:Nat)(r:List Nat):List Nat:=match nth H id with
 |some b=>match r5 b&&Nat.beq b.et 0 with
  |true=>Id2 H (j6 b.elems 0) r
  |false=>r
 |none=>r
theorem ge5(H:List c7)(id:Nat)(r:List Nat)(hr:TOk k r):TOk k (ge4 H id r)/\TLe r (ge4 H id r):=by
 unfold ge4;split
 ·split
  ·exact pd2 H _ r hr
  ·exact⟨hr,.refl _⟩
 ·exact⟨hr,.refl _⟩
theorem pd3(H:List c7):∀(ids:List Nat) (r:List Nat),TOk k r->TOk k (Pc9 H ids r)/\TLe r (Pc9 H ids r)
 |[],r,hr=>⟨hr,.refl _⟩
 |id::ids,r,hr=>by
  have hx:=ge5 H id r hr;obtain⟨h1,h2⟩:=pd3 H ids _ hx.1;exact⟨h1,hx.2.trans h2⟩
def Ld1(b:c7):c7:=Bool.rec (motive:=λ_=>c7) b { b with dead:=true } (r5 b)
theorem ec1(H:List c7):j8 H=H.map Ld1:=Va4 H
theorem qb0:∀{R:List Nat} {j:Nat} {H2:List c7},sa0 k H j R=some H2->sa0 k (j8 H) j R=some (j8 H2)
 |[],j,H2,h=>by
  simp only[sa0] at h ⊢;injection h with h;subst h;rfl
 |id::R,j,H2,h=>by
  simp only[sa0,p9] at h ⊢;cases hb:H[id]? with
  |none=>simp[hb] at h
  |some b =>
  simp only[hb] at h;cases hr:sa0 k H (j+1) R with
  |none=>simp[hr] at h
  |some l =>
  simp only[hr] at h;injection h with h;subst h;have e:(j8 H)[id]?=some (Ld1 b):=by rw[ec1,Qbm,hb];rfl
  rw[e,qb0 hr];simp only[ec1,Qbw];congr 2;unfold Ld1;cases Nat.blt j k<;>cases hs:r5 b<;>simp[r5] at hs ⊢<;>simp[hs]
theorem ze7(x:b9):TC k H R x (ae5 k H R x):=by
 unfold ae5;split
 ·rename_i id i c g;split
  ·rename_i b hb;split
   ·rename_i j hj
    have:=(Ra3 R 0 id j hj).2
    exact .ptr id i c g j b hb (by simpa using this)
   ·exact .unk _
  ·exact .unk _
 ·rename_i id off n g;split
  ·rename_i b hb;split
   ·rename_i j hj
    have:=(Ra3 R 0 id j hj).2
    exact .sl id off n g j b hb (by simpa using this)
   ·exact .unk _
  ·exact .unk _
 ·rename_i h1 h2;refine .same x ?_
  simp_all
theorem vc6{x z:b9}{x':Value}(h:TC k H R x z)(hx:J9 ρ (j8 H) F w x x'):TC k (j8 H) R x z:=by
 cases h with
 |unk=>exact .unk _
 |ptr id i c g j b hb hj =>
  obtain⟨hb1,hd1,hg1⟩:=p5 hb;obtain⟨ad,b2,e,m1,m2,m3,m4⟩:=la0 (.val (.cell hx));obtain⟨n1,n2⟩:=S8 m1 m2
  have:b2=b:=Qah (n1.symm.trans hb1)
  subst this;exact .ptr id i c g j b2 (by unfold blkAt;simp only[p9,m1,m2,hg1];simp) hj
 |sl id off n g j b hb hj =>
  obtain⟨hb1,hd1,hg1⟩:=p5 hb;obtain⟨ad,cap,b2,e,m1,m2,m3,_⟩:=wa9 (.val (.cell hx));obtain⟨n1,n2⟩:=S8 m1 m2
  have:b2=b:=Qah (n1.symm.trans hb1)
  subst this;exact .sl id off n g j b2 (by unfold blkAt;simp only[p9,m1,m2,hg1];simp) hj
 |same x h=>exact .same x h
theorem Ld2{x z:b9}{x':Value}(h:TV k H R x z)(hx:S5 ρ (j8 H) F w x x'):TV k (j8 H) R x z:=by
 cases h with
 |cell hb h =>
  cases hx with
  |cell hx=>exact .cell hb (vc6 h hx)
  |_=>cases hb
 |agg cs ds hl h =>
  obtain⟨vs,e,hl2,h2⟩:=ga4 (.val hx);refine .agg cs ds hl λi x z hx hz=>?_
  have hi:i<vs.size:=hl2 ▸ (Qab.1 hx).1;exact vc6 (h i x z hx hz) (h2 i x _ hx (Qai hi))
 |fn f cs ds hl h =>
  obtain⟨vs,e,hl2,h2⟩:=eb9 (.val hx);refine .fn f cs ds hl λi x z hx hz=>?_
  have hi:i<vs.size:=hl2 ▸ (Qab.1 hx).1;exact vc6 (h i x z hx hz) (h2 i x _ hx (Qai hi))
 |tup l=>exact .tup l
theorem ze8{x z:b9}{x':Value}(h:TW k H R x z)(hx:v8 ρ (j8 H) F w x x'):TW k (j8 H) R x z:=by
 cases h with
 |val hn h =>
  cases hx with
  |val hx=>exact .val hn (Ld2 h hx)
  |tup cs vs hl h2=>exact absurd rfl (hn cs)
 |tup cs ds hl h =>
  obtain⟨vs,e,hl2,h2⟩:=Yc7 hx;refine .tup cs ds hl λi x z hx hz=>?_
  have hi:i<vs.size:=hl2 ▸ (Qab.1 hx).1;exact Ld2 (h i x z hx hz) (h2 i x _ hx (Qai hi))
theorem Tc4{b:c7}(h:r5 b=false):Aa5 k H R b=b:=by unfold Aa5;rw[h];rfl
theorem qb1(b:c7):(Aa5 k H R b).et=b.et/\(Aa5 k H R b).es=b.es/\(Aa5 k H R b).dead=b.dead/\(Aa5 k H R b).g=b.g/\(Aa5 k H R b).elems.length=b.elems.length/\r5 (Aa5 k H R b)=r5 b:=by
 unfold Aa5;cases r5 b&&Nat.beq b.et 0
 ·simp_all
 ·refine⟨rfl,rfl,rfl,rfl,by simp[k9],rfl⟩
section
variable(hR:TOk k R)(hb:sa0 k H 0 R=some H2)
include hR hb
theorem bd5{j:Nat}{c:c7}(hc:(l9 (Aa5 k H R) H2)[j]?=some c):∃id b,R[j]?=some id/\(R[j]?).getD 0=id/\H[id]?=some b/\c=Aa5 k H R (reG k j b):=by
 rw[k9,Qbm] at hc;cases h:H2[j]? with
 |none=>rw[h] at hc;cases hc
 |some c2 =>
  rw[h] at hc;injection hc with hc;obtain⟨id,b,h1,h2,h3,h4⟩:=Tb6 hb h
  simp_all
theorem ge6{j id:Nat}{b:c7}(hj:R[j]?=some id)(hid:H[id]?=some b):(l9 (Aa5 k H R) H2)[j]?=some (Aa5 k H R (reG k j b)):=by
 obtain⟨_,hat⟩:=xb5 hb;obtain⟨b',h1,h2⟩:=hat j id hj
 have:b'=b:=Qah (h1.symm.trans hid)
 subst this;rw[Qbh] at h2;rw[k9,Qbm,h2];rfl
theorem Bc2(j:Nat)(b:c7):r5 (reG k j b)=r5 b:=by unfold r5;rw[Ua9]
theorem Tc5:Sc2 (λj=>ρ ((R[j]?).getD 0)) (j8 H2) (λj=>ρ ((R[j]?).getD 0)) (j8 (l9 (Aa5 k H R) H2)):=λj b hb' hd=>by
 obtain⟨h1,h2⟩:=S8 hb' hd;refine⟨b,N1 ?_ h2,hd,Qac _,λ_=>⟨rfl,rfl,Qac _⟩⟩
 rw[k9,Qbm,h1];simp[Tc4 h2]
theorem kf6{x z:b9}{x':Value}(h:TC k H R x z)(hx:J9 ρ (j8 H) F w x x'):J9 (λj=>ρ ((R[j]?).getD 0)) (j8 (l9 (Aa5 k H R) H2)) F w z x' :=
 (Fb7 (qb0 hb) (vc6 h hx) hx).carry (Tc5 hR hb) (λ_ _ h=>h) (λ_ _ _=>rfl)
theorem Me7{x z:b9}{x':Value}(h:TW k H R x z)(hx:v8 ρ (j8 H) F w x x'):v8 (λj=>ρ ((R[j]?).getD 0)) (j8 (l9 (Aa5 k H R) H2)) F w z x' :=
 (Zc5 (qb0 hb) (ze8 h hx) hx).carry (Tc5 hR hb) (λ_ _ h=>h) (λ_ _ _=>rfl)
theorem Cd8{x z:b9}{x':Value}(h:TC k H R x z)(hx:XC ρ H F w x x'):XW (λj=>ρ ((R[j]?).getD 0)) (l9 (Aa5 k H R) H2) F w z x'/\(XC (λj=>ρ ((R[j]?).getD 0)) (l9 (Aa5 k H R) H2) F w z x'):=by
 have main:XC (λj=>ρ ((R[j]?).getD 0)) (l9 (Aa5 k H R) H2) F w z x':=by
  cases hx with
  |n hx=>exact .n (kf6 hR hb h hx)
  |box id c g b hb1 hd he =>
   cases h with
   |unk=>exact .n (.unk _)
   |ptr _ _ _ _ j b2 hb2 hj =>
    have e:ρ id=(λj=>ρ ((R[j]?).getD 0)) j:=by simp[hj]
    rw[e];obtain⟨q1,q2,q3,q4,q5,q6⟩:=qb1 (k:=k) (H:=H) (R:=R) (reG k j b);exact .box j c _ _ (ge6 hR hb hj hb1) (by rw[q3,sa2];exact hd) ⟨by rw[q2,Ua9];exact he.1,by rw[q1,Pb2];exact he.2⟩
   |same _ hs=>exact hs.elim
  |map id c g b t hb1 hd he =>
   cases h with
   |unk=>exact .n (.unk _)
   |ptr _ _ _ _ j b2 hb2 hj =>
    have e:ρ id=(λj=>ρ ((R[j]?).getD 0)) j:=by simp[hj]
    rw[e];obtain⟨q1,q2,q3,q4,q5,q6⟩:=qb1 (k:=k) (H:=H) (R:=R) (reG k j b);exact .map j c _ _ t (ge6 hR hb hj hb1) (by rw[q3,sa2];exact hd) ⟨by rw[q2,Ua9];exact he.1,by rw[q1,Pb2];exact he.2⟩
   |same _ hs=>exact hs.elim
 exact⟨.c main,main⟩
theorem Xe5{x z:b9}{x':Value}(h:TW k H R x z)(hx:XW ρ H F w x x'):XW (λj=>ρ ((R[j]?).getD 0)) (l9 (Aa5 k H R) H2) F w z x':=by
 cases hx with
 |w hx=>exact .w (Me7 hR hb h hx)
 |c hx =>
  have hx0:=hx;cases hx with
  |n hx=>exact .w (Me7 hR hb h (.val (.cell hx)))
  |box =>
   cases h with
   |val _ h=>cases h with
    |cell _ h=>exact (Cd8 hR hb h hx0).1
  |map =>
   cases h with
   |val _ h=>cases h with
    |cell _ h=>exact (Cd8 hR hb h hx0).1
theorem ge7(h:de6 P WB W' ρ H F w):de6 P WB W' (λj=>ρ ((R[j]?).getD 0)) (l9 (Aa5 k H R) H2) F w:=by
 refine⟨λj c hc hs hd=>?_,λj j' c c' hc hc' hs hs' hd hd' hne=>?_⟩
 ·obtain⟨id,b,h1,h2,h3,h4⟩:=bd5 hR hb hc;subst h4;obtain⟨q1,q2,q3,q4,q5,q6⟩:=qb1 (k:=k) (H:=H) (R:=R) (reG k j b);rw[q6,Bc2 hR hb] at hs;rw[q3,sa2] at hd;obtain⟨k1,k2,k3,k4,k5⟩:=h.has id b h3 hs hd;simp only[h2];refine⟨k1,k2,k3,k4,?_⟩
  rcases k5 with⟨e,row,vs,t,m1,m2,m3,m4⟩|⟨t,K,El,fl,es,clk,m1,m2,m3,m4,m5,m6⟩
  ·refine .inl ⟨⟨by rw[q2,Ua9];exact e.1,by rw[q1,Pb2];exact e.2⟩,row.map (ae5 k H R),vs,t,?_,m2,by simpa using m3,λi z x' hz hx'=>?_⟩
   ·unfold Aa5
    have:(r5 (reG k j b)&&Nat.beq (reG k j b).et 0)=true:=by rw[Bc2 hR hb,hs,Pb2,e.2];rfl
    rw[this];show l9 (l9 (ae5 k H R)) (reG k j b).elems=_;rw[ya6,m1,k9];simp[k9]
   ·rw[Qbm] at hz;cases hq:row[i]? with
    |none=>rw[hq] at hz;cases hz
    |some q =>
     rw[hq] at hz;injection hz with hz;subst hz;obtain⟨g1,g2⟩:=m4 i q x' hq hx';exact⟨g1,(Cd8 hR hb (ze7 q) g2).2⟩
  ·have hnb : Aa5 k H R (reG k j b) = reG k j b := by
    unfold Aa5
    have:(r5 (reG k j b)&&Nat.beq (reG k j b).et 0)=false:=by
     rw[Pb2,m1.2,Bool.and_eq_false_iff];exact .inr rfl
    rw[this]
   rw[hnb];exact .inr ⟨t,K,El,fl,es,clk,⟨by rw[Ua9];exact m1.1,by rw[Pb2];exact m1.2⟩,m2,m3,m4,by rw[ya6];exact m5,by rw[ya6];exact m6⟩
 ·obtain⟨id,b,h1,h2,h3,h4⟩:=bd5 hR hb hc;obtain⟨id',b',h1',h2',h3',h4'⟩:=bd5 hR hb hc';subst h4 h4';obtain⟨_,_,q3,_,_,q6⟩:=qb1 (k:=k) (H:=H) (R:=R) (reG k j b);obtain⟨_,_,q3',_,_,q6'⟩:=qb1 (k:=k) (H:=H) (R:=R) (reG k j' b');rw[q6,Bc2 hR hb] at hs;rw[q6',Bc2 hR hb] at hs';rw[q3,sa2] at hd;rw[q3',sa2] at hd';simp only[h2,h2'];refine h.apart id id' b b' h3 h3' hs hs' hd hd' λe=>hne ?_
  subst e;obtain⟨a1,a2⟩:=Qab.1 h1;obtain⟨b1,b2⟩:=Qab.1 h1';exact (Qcm hR.nodup).1 (a2.trans b2.symm)
end
theorem Xe6{ds:List Deferred}(hR:TOk H0.length R)(hb:sa0 H0.length H 0 R=some H2)(h:C2 P WB K J ρ0 H0 F0 w0 H ds w ρ F W' up):C2 P WB K J ρ0 H0 F0 w0 (l9 (Aa5 H0.length H R) H2) ds w (λj=>ρ ((R[j]?).getD 0)) F W' up:=by
 have hAd:=Tb7 hR hb h.adv;have hat:∀(j:Nat) c,H2[j]?=some c->(l9 (Aa5 H0.length H R) H2)[j]?=some (Aa5 H0.length H R c):=λj c hc=>by rw[k9,Qbm,hc];rfl
 refine⟨h.sub,⟨hAd.ext,λid b hid=>?_,hAd.more,hAd.new,λid b' hb' hn=>?_⟩,?_,ge7 hR hb h.srel,h.kept,λj c hc hs hd=>?_,h.jot,h.marks⟩
 ·obtain⟨b',k1,k2,k3,k4⟩:=hAd.heap id b hid;obtain⟨q1,q2,q3,q4,q5,q6⟩:=qb1 (k:=H0.length) (H:=H) (R:=R) b'
  simp_all
 ·rw[k9,Qbm] at hb';cases hq:H2[id]? with
  |none=>rw[hq] at hb';cases hb'
  |some c =>
   rw[hq] at hb';injection hb' with hb';subst hb';obtain⟨_,_,_,q4,_,_⟩:=qb1 (k:=H0.length) (H:=H) (R:=R) c;exact hAd.fresh id c hq λb hb1=>by rw[<- q4];exact hn b hb1
 ·refine (Fb6 hR h.hrel (qb0 hb)).pull (λi=>i) (λi b hb1 hd=>?_) (λ_ _ _ _ _ _ _ _ e=>e)
  obtain⟨h1,h2⟩:=S8 hb1 hd;rw[k9,Qbm] at h1;cases hq:H2[i]? with
  |none=>rw[hq] at h1;cases h1
  |some c =>
   rw[hq] at h1;injection h1 with h1;have hsc:r5 c=false:=by
    obtain⟨_,_,_,_,_,q6⟩:=qb1 (k:=H0.length) (H:=H) (R:=R) c;rw[<- q6,h1];exact h2
   rw[Tc4 hsc] at h1;subst h1;exact⟨N1 hq hsc,rfl⟩
 ·obtain⟨id,b,h1,h2,h3,h4⟩:=bd5 hR hb hc;subst h4;obtain⟨_,_,q3,_,_,q6⟩:=qb1 (k:=H0.length) (H:=H) (R:=R) (reG H0.length j b);rw[q6,Bc2 hR hb] at hs;rw[q3,sa2] at hd;simp only[h2];exact h.far id b h3 hs hd
theorem I3.tidyM{s s':St}{ac:Act}{keep:List Nat}(h:I3 P WB K J n S rv DF ρ0 H0 F0 w0 s ac w)(he:(Ev.tidyM H0.length ⟨G4 keep s.a 0,s.H⟩).run=some s'):I3 P WB K J n S rv DF ρ0 H0 F0 w0 s' ac w:=by
 obtain⟨⟨ρ,F,W',up,hI⟩,hheld,hdf⟩:=h;unfold Ev.tidyM at he;cases ht:Sb6 H0.length s.H (G4 keep s.a 0) (List.range H0.length) with
 |mk a roots =>
 simp only[ht] at he;cases hb:sa0 H0.length s.H 0 (Pc9 s.H roots roots) with
 |none=>simp[hb] at he
 |some H2 =>
 simp only[hb] at he;have he':some (⟨a,l9 (Aa5 H0.length s.H (Pc9 s.H roots roots)) H2⟩:St)=some s':=he;injection he' with he';subst he';obtain⟨k1,_,k3,k4⟩:=yc4 (TOk.start _) ht;obtain⟨m1,m2⟩:=pd3 s.H roots roots k1;obtain⟨g1,g2⟩:=xb6 keep s.a 0;refine⟨⟨_,F,W',up,Xe6 m1 hb hI.core,⟨(k3.trans g1).trans hI.vals.1,λi x x' hx hx'=>?_⟩,hI.size⟩,hheld,hdf⟩
 have hi:i<(G4 keep s.a 0).length:=k3 ▸ (Qab.1 hx).1;have hk:=k4 i _ x (Qaa hi) hx;refine Xe5 m1 hb (hk.le m2) ?_
 rcases g2 i _ (Qaa hi) with e|e
 ·rw[e];exact .w (.unk _)
 ·exact hI.vals.2 i _ x' e hx'
end
section
variable{DS:Nat->Prop}{tm:Array Value}{ds:List Deferred}{Fe:Fence}{nn:Nat}
variable{W:Nat->Prop}{ρ0:Rho}{H0:List c7}{F0:Fz}{w0 w:World}
variable{tr:Nat}{E:Env}{ops:Array Oper}{M:List Nat}{ks:List (Nat×PI)}{s:St}{U T:Nat->St}
structure vb6(DS:Nat->Prop)(tm:Array Value)(ds:List Deferred)(W:Nat->Prop)(ρ0:Rho)(H0:List c7)(F0:Fz)(w0:World)(tr:Nat)(E:Env)(ops:Array Oper)(a0:List b9)(U T:Nat->St)(m:Nat)(listed:Array Bool)(ac:Act)(w:World):Prop where
 size:listed.size=ops.size
 closed:∀j,j<ops.size->r9 listed j->∀i∈w8 (ma3 ops j),r9 listed i
 hm:m<=ops.size
 heavy:∀j,j<ops.size->C3 tr E.P ops j=2->(r9 listed j↔j<m)
 inv:Za5 DS tm ds W ρ0 H0 F0 w0 ⟨Ea9 (T ops.size).a a0 (L9 ops listed),U9 (T m).H (F8 tr E.P ops U listed)⟩ ac w
variable(hD:DC tr E.P ops M ks)(hT:zc1 E ops ks s U T)(hin:∀j,j<ops.size->C3 tr E.P ops j=0->∀d,U0 ops j=some d->d<s.a.length)
include hD
theorem xa4{m:Nat}{listed:Array Bool}{ac:Act}(hR:vb6 DS tm ds W ρ0 H0 F0 w0 tr E ops s.a U T m listed ac w){j:Nat}(hj:j<ops.size)(hd:∀i∈w8 (ma3 ops j),r9 listed i){i:Nat}(hi:i<ops.size)(hb:p8 M i j=true):r9 listed i :=
 lc4 hD.rows (r9 listed) (λj' o ho hx i hi=>by
  have hj':=(Qbo.1 ho).1
  have:o=ma3 ops j':=Qah (ho.symm.trans (aa9 hj'))
  subst this;exact hR.closed j' hj' hx i hi) j _ (aa9 hj) hd i hi hb
include hT
theorem Bc3{m:Nat}{listed:Array Bool}{ac:Act}(hR:vb6 DS tm ds W ρ0 H0 F0 w0 tr E ops s.a U T m listed ac w){j:Nat}(hj:j<ops.size)(hnx:¬ r9 listed j)(hd:∀i∈w8 (ma3 ops j),r9 listed i) :
  Agr (T j).a (Ea9 (T ops.size).a s.a (L9 ops listed)) (Ob5 (Pb4 ops j)++ab7 (K0 tr E.P ops j)):=λt ht=>by
 have huniq:∀{i i':Nat},i<ops.size->i'<ops.size->U0 ops i=some t->U0 ops i'=some t->i=i':=λ{i i'} h1 h2 e1 e2=>((hD.slots h1 h2 e1).2).resolve_right λh=>h e2
 have hend:(∀i,j<=i->i<ops.size->U0 ops i≠some t)->(T j).a[t]?=(T ops.size).a[t]?:=λh=>by
  have:=Pb5 hD hT (t:=t) (ops.size-j) j (by omega) λi h1 h2 _=>h i h1 (by omega)
  rw[show j+(ops.size-j)=ops.size by omega] at this
  exact this.symm
 by_cases hw:∃i,i<ops.size/\U0 ops i=some t
 ·obtain⟨i,hi,hdi⟩:=hw
  rcases (hD.slots hi hj hdi).1 ht with hb|⟨_,hna,hb⟩
  ·have hxi:=xa4 hD hR hj hd hi hb;rw[Ga1]
   ·refine hend λk h1 h2 he=>?_
    have:=huniq hi h2 hdi he
    have:=kb0 hD hj hi hb
    omega
   ·rintro⟨k,h1,h2,h3⟩
    grind
  ·have hxi : ¬ r9 listed i := fun hx => by
    rcases hb with hb|hb
    ·exact hnx (xa4 hD hR hi (hR.closed i hi hx) hj hb)
    ·subst hb;exact hnx hx
   have hji:j<=i:=by
    rcases hb with hb|hb
    ·have:=kb0 hD hi hj hb;omega
    ·omega
   have h1:=Pb5 hD hT (t:=t) j 0 (by omega) λk _ h2 _ he=>by
    have:=huniq hi (by omega) hdi he
    omega
   have h2:=ad3 hD hT (t:=t) ops.size 0 (by omega) λk _ h2 hk he=>by
    have:=huniq hi (by omega) hdi he
    subst this
    have:=zc0 hk
    rw[hna] at this;cases this
   rw[Qbh] at h1 h2;rw[h1,hT.t0,h2,hT.u0]
   rcases Qan t (T ops.size).a.length with hlt|hge
   ·rw[Ub3 ⟨i,hi,hdi,hxi⟩ hlt];rw[(yb1 hD hT ops.size (Qac _)).2] at hlt
    simp_all
   ·rw[Qal (by rw[<- (yb1 hD hT ops.size (Qac _)).2];exact hge),Qal (by rw[Ga0];exact hge)]
 ·rw[Ga1]
  ·grind
  ·rintro⟨k,h1,h2,_⟩;exact hw ⟨k,h1,h2⟩
end
section
variable{DS:Nat->Prop}{tm:Array Value}{ds:List Deferred}{Fe:Fence}{nn:Nat}
variable{W:Nat->Prop}{ρ0:Rho}{H0:List c7}{F0:Fz}{w0 w:World}
variable{tr:Nat}{E:Env}{ops:Array Oper}{M:List Nat}{ks:List (Nat×PI)}{s:St}{U T:Nat->St}
variable(hD:DC tr E.P ops M ks)(hT:zc1 E ops ks s U T)(hin:∀j,j<ops.size->C3 tr E.P ops j=0->∀d,U0 ops j=some d->d<s.a.length)
variable(hpairs:qa0 E (T ops.size).a (ka9 ops.size M ks)=true)
variable(hF:FW Fe)(hDS:∀j d,j<ops.size->U0 ops j=some d->DS d)
variable(hG0:GOk E F0 w0)(hcalls:∀f,e8 E.P E.G f (E.call f))
include hD
theorem vb6.next{m m':Nat}{listed:Array Bool}{ac ac':Act}{w':World}(hR:vb6 DS tm ds W ρ0 H0 F0 w0 tr E ops s.a U T m listed ac w){i:Nat}(hi:i<ops.size)(hdi:∀j∈w8 (ma3 ops i),r9 listed j)
  (hm':m'<=ops.size) (hheavy:∀j,j<ops.size->C3 tr E.P ops j=2->(r9 (listed.setIfInBounds i true) j↔j<m'))
  {x:b9} (hx:∀d,U0 ops i=some d->d<(T ops.size).a.length->(T ops.size).a[d]?=some x)
  (hI:Za5 DS tm ds W ρ0 H0 F0 w0 ⟨putA (Ea9 (T ops.size).a s.a (L9 ops listed)) (U0 ops i) x,U9 (T m').H (F8 tr E.P ops U (listed.setIfInBounds i true))⟩ ac' w') :
  vb6 DS tm ds W ρ0 H0 F0 w0 tr E ops s.a U T m' (listed.setIfInBounds i true) ac' w':=by
 refine⟨by simpa using hR.size,λj hj hx k hk=>?_,hm',hheavy,by rw[Td8 hD hR.size hi hx];exact hI⟩
 have his:i<listed.size:=by rw[hR.size];exact hi
 rcases (G5 his).1 hx with h|h
 ·exact (G5 his).2 (.inl (hR.closed j hj h k hk))
 ·subst h;exact (G5 his).2 (.inl (hdi k hk))
omit hD in
theorem Za5.puts{ac:Act}{j:Nat}(hDS:∀j d,j<ops.size->U0 ops j=some d->DS d)(hj:j<ops.size)(hsm:∀t,¬ DS t->ac.tmps[t]?=tm[t]?)(v:Value)(t:Nat)(ht:¬ DS t):(ac.put (U0 ops j) v).tmps[t]?=tm[t]?:=(kb3 λe=>ht (hDS j t hj e)).trans (hsm t ht)
include hG0 hcalls hF hDS in
theorem ec2{ac:Act}{i:Nat}{a:List b9}{H H':List c7}{b:Bool}{x:b9}{Q:Exit->Act->World->Prop}{K:Act->World->Prop}(hi:i<ops.size)
  (hI:Za5 DS tm ds W ρ0 H0 F0 w0 ⟨a,H⟩ ac w) (hg:pc7 E a (Pb4 ops i)=some b)
  (h1:b=true->(evalOp E a H (K0 tr E.P ops i)).run=some (x,H')) (h2:b=false->x=.v (.tuple #[])/\H'=H)
  (hK:∀ac' w',Za5 DS tm ds W ρ0 H0 F0 w0 ⟨putA a (U0 ops i) x,H'⟩ ac' w'->K ac' w'):wpOpIn Fe nn E.P ops Q i K ac w:=by
 obtain⟨hd,hsz,hsm,ρ,F,hAdv,hH,hA⟩:=hI;have hw:=md9 (hD.guard i hi) hA hg;unfold wpOpIn;simp only[aa9 hi,hw];cases b with
 |true =>
  rw[if_pos rfl];refine (Rc5 (ac:={ ac with defers:=[] }) tr hA hH (hG0.adv hAdv) hcalls (h1 rfl)).inAny hF nn _ _ λx' w' hp=>?_
  obtain⟨ρ',F',a1,a2,a3⟩:=hp;exact hK _ _ ⟨(o5 _ _).trans hd,(O8 _ _).trans hsz,Za5.puts hDS hi hsm _,ρ',F',hAdv.trans a1,a2,(hA.adv a1).putA _ a3⟩
 |false =>
  rw[if_neg (by simp)]
  obtain⟨e1,e2⟩:=h2 rfl;subst e1 e2;exact⟨λf _=>hF.fn f,hK _ _ ⟨(o5 _ _).trans hd,(O8 _ _).trans hsz,Za5.puts hDS hi hsm _,ρ,F,hAdv,hH,hA.putA _ (.ofv _)⟩⟩
include hT hin hpairs hG0 hcalls hF hDS
theorem lc8{m:Nat}{listed:Array Bool}{ac:Act}(hR:vb6 DS tm ds W ρ0 H0 F0 w0 tr E ops s.a U T m listed ac w){i:Nat}(hi:i<ops.size)(hk:C3 tr E.P ops i=1)(hnx:¬ r9 listed i)(hdi:∀j∈w8 (ma3 ops i),r9 listed j)
  {Q:Exit->Act->World->Prop} {K:Act->World->Prop} (hK:∀ac' w',vb6 DS tm ds W ρ0 H0 F0 w0 tr E ops s.a U T m (listed.setIfInBounds i true) ac' w'->K ac' w'):wpOpIn Fe nn E.P ops Q i K ac w:=by
 obtain⟨b,x,g1,g2,g3,g4⟩:=vc2 hD hT hi hk;have hread:=Bc3 hD hT hR hi hnx hdi;have hne:C3 tr E.P ops i≠0:=by omega
 refine ec2 hD hF hDS hG0 hcalls (H':=U9 (T m).H (F8 tr E.P ops U listed)) hi hR.inv ((Pb3 hread.left).symm.trans g1) (λhb=>?_) (λhb=>⟨g4 hb,rfl⟩) λac' w' hI'=>hK ac' w' ?_
 ·have he:=g3 hb;rw[Tb8 _ hread.right] at he;refine (Tb9 (nd2 hk) he).2 _ λid hid=>?_
  -- the block that is looked at stands in the heap at hand
  have hlive:∃b',(U9 (T m).H (F8 tr E.P ops U listed))[id]?=some b'/\b'.dead=false:=by
   obtain⟨hd0,_,_,ρ,F,hAdv,hH,hA⟩:=hR.inv;have harg:∀(y:Arg),uc7 y=true->id∈da3 (c9 E (Ea9 (T ops.size).a s.a (L9 ops listed)) y)->∃b',(U9 (T m).H (F8 tr E.P ops U listed))[id]?=some b'/\b'.dead=false:=λy hy hm=>by
    cases y with
    |c z =>
     exfalso;have hm':id∈da3 z:=hm;cases z<;>first | (cases hm';done) | (cases hy;done)
    |g n =>
     exfalso;have hm':id∈da3 (.tptr (l9 .v (E.G n))):=hm;cases hm'
    |t n =>
     rw[Ra2] at hm;cases hn:(Ea9 (T ops.size).a s.a (L9 ops listed))[n]? with
     |none=>rw[hn] at hm;cases hm
     |some u =>
     rw[hn] at hm;simp only[Option.getD_some] at hm;have hlt:n<ac.tmps.size:=hA.1 ▸ (Qab.1 hn).1;have hW:=hA.2 n u _ hn (Qai hlt);cases u with
     |ptr id' i c g =>
      have:id=id':=by simpa [da3] using hm
      subst this;obtain⟨_,b',_,h1,h2,_⟩:=la0 hW;exact⟨b',h1,h2⟩
     |sl id' off n g =>
      have:id=id':=by simpa [da3] using hm
      subst this;obtain⟨_,_,b',_,h1,h2,_⟩:=wa9 hW;exact⟨b',h1,h2⟩
     |_=>cases hm
   have hbare:=hD.bare hi
   revert hbare hid
   generalize K0 tr E.P ops i=q;intro hid hbare;cases q with
   |load ks n agg y=>exact harg y hbare hid
   |idxS es y z=>exact harg y hbare hid
   |slice es y lo hi=>exact harg y hbare hid
   |_=>cases hid
  obtain⟨b',hb1,hb2⟩:=hlive;obtain⟨hnD,hb3⟩:=Ad5 hb1 hb2;have huse:id∈wa8 E (T ops.size).a (K0 tr E.P ops i):=by
   rw[<- ce3 hD hT hi,Ub9 hread.right];exact hid
  -- nobody between touches it
  have hbetween:∀j,j<ops.size->C3 tr E.P ops j=2->p8 M i j=false->p8 M j i=false->id∉D9 E (T ops.size).a (K0 tr E.P ops j):=λj hj hkj h1 h2 =>
   zc2 hpairs (hD.pair hj hi hk hkj h2 h1) id huse
  have hlike:F4 (T i).H (T m).H id:=by
   rcases Qan i m with him|him
   ·have := Bd2 hD hT hin (id := id) (m - i) i (by have := hR.hm; omega) fun j h1 h2 hkj => by
     have hj:j<ops.size:=by have:=hR.hm;omega
     have hxj:=(hR.heavy j hj hkj).2 (by omega)
     refine hbetween j hj hkj ?_ ?_
     ·cases hc:p8 M i j with
      |false=>rfl
      |true=>exact absurd (xa4 hD hR hj (hR.closed j hj hxj) hi hc) hnx
     ·cases hc:p8 M j i with
      |false=>rfl
      |true=>have:=kb0 hD hi hj hc;omega
    grind
   ·have := Bd2 hD hT hin (id := id) (i - m) m (by omega) fun j h1 h2 hkj => by
     have hj:j<ops.size:=by omega
     have hxj:¬ r9 listed j:=λh=>by have:=(hR.heavy j hj hkj).1 h;omega
     refine hbetween j hj hkj ?_ ?_
     ·cases hc:p8 M i j with
      |false=>rfl
      |true=>have:=kb0 hD hj hi hc;omega
     ·cases hc:p8 M j i with
      |false=>rfl
      |true=>exact absurd (xa4 hD hR hi hdi hj hc) hxj
    rw[show m+(i-m)=i by omega] at this
    intro b0 hb0;obtain⟨b2,h3,h4⟩:=this b' hb3
    have:b2=b0:=Qah (h3.symm.trans hb0)
    subst this;exact⟨b',hb3,h4.1.symm,h4.2.1.symm,h4.2.2.1.symm,h4.2.2.2.1.symm,h4.2.2.2.2.symm⟩
  refine hlike.trans λb0 hb0=>⟨b0,?_,.refl b0⟩
  grind
 ·refine vb6.next hD hR hi hdi hR.hm (λj hj hkj=>?_) (x:=x) (λd hd hlt=>?_) ?_
  ·rw[G5 (hR.size ▸ hi)];rw[<- hR.heavy j hj hkj]
   grind
  ·rw[Me0 hD hT hi hd,g2,hd];refine vc1 ?_;rw[(yb1 hD hT i (by omega)).2,<- (yb1 hD hT ops.size (Qac _)).2]
   exact hlt
  ·rw[Sc3 hR.size hi hne];exact hI'
omit hpairs in
theorem lc9{m:Nat}{listed:Array Bool}{ac:Act}(hR:vb6 DS tm ds W ρ0 H0 F0 w0 tr E ops s.a U T m listed ac w){i:Nat}(hi:i<ops.size)(hk:C3 tr E.P ops i=2)(hnx:¬ r9 listed i)(hdi:∀j∈w8 (ma3 ops i),r9 listed j)
  {Q:Exit->Act->World->Prop} {K:Act->World->Prop} (hK:∀ac' w',vb6 DS tm ds W ρ0 H0 F0 w0 tr E ops s.a U T (i+1) (listed.setIfInBounds i true) ac' w'->K ac' w'):wpOpIn Fe nn E.P ops Q i K ac w:=by
 obtain⟨b,x,g1,g2,g3,g4⟩:=ad6 hD hT hin hi hk;have hread:=Bc3 hD hT hR hi hnx hdi;have hne:C3 tr E.P ops i≠0:=by omega
 have hmi:m<=i:=by
  rcases Qan i m with h|h
  ·exact absurd ((hR.heavy i hi hk).2 h) hnx
  ·exact h
 have hno:∀j,m<=j->j<i->C3 tr E.P ops j≠2:=λj h1 h2 hkj=>by
  have hj:j<ops.size:=by omega
  have:=(hR.heavy j hj hkj).1 (xa4 hD hR hi hdi hj (hD.chain h2 hi hkj hk).1)
  omega
 have hsame:(T m).H=(T i).H:=by
  have:=Bd1 hD hT (i-m) m (by omega) λj h1 h2=>hno j h1 (by omega)
  grind
 have hfin:∀{H':List c7} {ac':Act} {w':World},H'=U9 (T (i+1)).H (F8 tr E.P ops U listed)->Za5 DS tm ds W ρ0 H0 F0 w0 ⟨putA (Ea9 (T ops.size).a s.a (L9 ops listed)) (U0 ops i) x,H'⟩ ac' w'->K ac' w':=λ{H' ac' w'} e hI'=>by
  refine hK ac' w' (vb6.next hD hR hi hdi (by omega) (λj hj hkj=>?_) (x:=x) (λd hd hlt=>?_) ?_)
  ·rw[G5 (hR.size ▸ hi)];constructor
   ·rintro (h|h)
    ·have:=(hR.heavy j hj hkj).1 h;omega
    ·omega
   ·intro h;by_cases e:j=i
    ·exact .inr e
    ·refine .inl ((hR.heavy j hj hkj).2 ?_)
     rcases Qan j m with h'|h'
     ·exact h'
     ·exact absurd hkj (hno j h' (by omega))
  ·rw[Me0 hD hT hi hd,g2,hd];refine vc1 ?_;rw[(yb1 hD hT i (by omega)).2,<- (yb1 hD hT ops.size (Qac _)).2]
   exact hlt
  ·rw[Sc3 hR.size hi hne,<- e];exact hI'
 cases b with
 |false =>
  obtain⟨h1,h2⟩:=g4 rfl;exact ec2 hD hF hDS hG0 hcalls (x:=x) (H':=U9 (T m).H (F8 tr E.P ops U listed)) hi hR.inv ((Pb3 hread.left).symm.trans g1) (λh=>by cases h) (λ_=>⟨h1,rfl⟩) λac' w' hI'=>hfin (by rw[h2,hsame]) hI'
 |true =>
  obtain⟨hid,H',h5,h6,h7⟩:=g3 rfl;rw[Tb8 _ hread.right] at h6;have hall:∀id∈hid,id<(T i).H.length:=λid hid'=>by
   obtain⟨b',k1,k2,k3,rfl⟩:=(h5 id).1 hid';exact ce4 hD hT hin hi hk k1 k2 k3
  have hsub:∀id,F8 tr E.P ops U listed id->id∈hid:=λid ⟨b',k1,k2,k3,k4⟩=>by
   refine (h5 id).2 ⟨b',k1,k2,?_,k4⟩;cases hc:p8 M b' i with
   |false=>rfl
   |true=>exact absurd (xa4 hD hR hi hdi k1 hc) k3
  have hMono:w6 (·∈hid) (U9 (T i).H (·∈hid)) (U9 (T i).H (F8 tr E.P ops U listed)) (U9 (T i).H (·∈hid)) (U9 (T i).H (F8 tr E.P ops U listed)):=by
   refine⟨by rw[Ta8,Ta8],λid hn=>?_,λid b hm hb=>?_,λ_ _=>rfl,λ_ _=>rfl,λid h=>by rw[Ta8];exact hall id h⟩
   ·rw[L8 (D:=(·∈hid)) hn,L8 λh=>hn (hsub id h)]
   ·rw[da5 (D:=(·∈hid)) hm] at hb
    grind
  obtain⟨H2',h8,h9⟩:=hMono.evalOp (Ub5 hk) h6;refine ec2 hD hF hDS hG0 hcalls (x:=x) (H':=H2') hi hR.inv ((Pb3 hread.left).symm.trans g1) (λ_=>by rw[hsame];exact h8) (λh=>by cases h) λac' w' hI'=>hfin ?_ hI'
  refine Qcd λid=>?_
  rw[h7];by_cases hm:id∈hid
  ·rw[h9.at2 id hm];have hr:=dc2 (H0:=(T i).H) (H:=H') hm (hall id hm) (h9.bound id hm);by_cases hd:F8 tr E.P ops U listed id
   ·rw[da5 hd,da5 hd,hr]
   ·rw[L8 hd,L8 hd,hr]
  ·rw[<- h9.same id hm,L8 λh=>hm (hsub id h),yc8 hm]
end
section
variable{DS:Nat->Prop}{tm:Array Value}{ds:List Deferred}{Fe:Fence}{nn:Nat}
variable{W:Nat->Prop}{ρ0:Rho}{H0:List c7}{F0:Fz}{w0 w:World}
variable{tr:Nat}{E:Env}{ops:Array Oper}{M:List Nat}{ks:List (Nat×PI)}{s:St}{U T:Nat->St}
variable(hD:DC tr E.P ops M ks)(hT:zc1 E ops ks s U T)(hin:∀j,j<ops.size->C3 tr E.P ops j=0->∀d,U0 ops j=some d->d<s.a.length)(hlen:H0.length<=s.H.length)
variable(hF:FW Fe)(hDS:∀j d,j<ops.size->U0 ops j=some d->DS d)
include hD hT hin hlen
include hF hDS in
theorem mc0(hG0:GOk E F0 w0)(hcalls:∀f,e8 E.P E.G f (E.call f)){m:Nat}{listed:Array Bool}{ac:Act}(hR:vb6 DS tm ds W ρ0 H0 F0 w0 tr E ops s.a U T m listed ac w){i:Nat}(hi:i<ops.size)(hk:C3 tr E.P ops i=0)(hnx:¬ r9 listed i)(hdi:∀j∈w8 (ma3 ops i),r9 listed j)
  {Q:Exit->Act->World->Prop} {K:Act->World->Prop} (hK:∀ac' w',vb6 DS tm ds W ρ0 H0 F0 w0 tr E ops s.a U T m (listed.setIfInBounds i true) ac' w'->K ac' w'):wpOpIn Fe nn E.P ops Q i K ac w:=by
 obtain⟨d,hgn,hd,hevA,hU⟩:=bb2 hD hT hi hk;generalize hnb:Zc8 (K0 tr E.P ops i)=NB at *
 have nbd:NB.dead=false:=hnb ▸ Td6 _;have nbg:NB.g=0:=hnb ▸ Ve1 _;obtain⟨hd0,hsz,hsm,ρ,F,hAdv,hH,hA⟩:=hR.inv
 simp only at hAdv hH hA
 generalize hHS:U9 (T m).H (F8 tr E.P ops U listed)=HS at hAdv hH hA;have hHSlen:HS.length=(T m).H.length:=by rw[<- hHS,Ta8]
 have his:i<listed.size:=by rw[hR.size];exact hi
 -- the block stands in the text's heap,asq it was made
 have hblk:(T m).H[(U i).H.length]?=some (NB):=by
  have h1:=ad7 hD hT hin hi hk m hR.hm λh h1 h2=>by
   cases hc:p8 M i h with
   |false=>rfl
   |true =>
    have hh:h<ops.size:=by have:=hR.hm;omega
    exact absurd (xa4 hD hR hh (hR.closed h hh ((hR.heavy h hh h2).2 h1)) hi hc) hnx
  rw[h1,Bd0 hD hT hi hk,hnb]
 have hidlt:(U i).H.length<HS.length:=by rw[hHSlen];exact (Qab.1 hblk).1
 have hidge:s.H.length<=(U i).H.length:=(Ad9 hD hT (by omega)).1
 have hdead:F8 tr E.P ops U listed (U i).H.length:=⟨i,hi,hk,hnx,rfl⟩;have hinj:∀b,b<ops.size->C3 tr E.P ops b=0->(U i).H.length=(U b).H.length->b=i:=λb hb hkb he=>by
  rcases Nat.lt_trichotomy b i with h|h|h
  ·have:=jf7 hD hT h (by omega) hkb;omega
  ·exact h
  ·have:=jf7 hD hT h (by omega) hk;omega
 have hdead':∀id,F8 tr E.P ops U (listed.setIfInBounds i true) id↔F8 tr E.P ops U listed id/\id≠(U i).H.length:=λid=>by
  constructor
  ·rintro⟨b,h1,h2,h3,h4⟩;refine⟨⟨b,h1,h2,λh=>h3 ((G5 his).2 (.inl h)),h4⟩,λe=>h3 ((G5 his).2 (.inr ?_))⟩
   exact hinj b h1 h2 (e.symm.trans h4)
  ·rintro⟨⟨b,h1,h2,h3,h4⟩,h5⟩;refine⟨b,h1,h2,λh=>?_,h4⟩
   rcases (G5 his).1 h with h|h
   ·exact h3 h
   ·subst h;exact h5 h4
 generalize hHS':U9 (T m).H (F8 tr E.P ops U (listed.setIfInBounds i true))=HS';have hoff:∀id,id≠(U i).H.length->HS'[id]?=HS[id]?:=λid hne=>by
  rw[<- hHS',<- hHS];by_cases h:F8 tr E.P ops U listed id
  ·rw[da5 h,da5 ((hdead' id).2 ⟨h,hne⟩)]
  ·rw[L8 h,L8 λh'=>h ((hdead' id).1 h').1]
 have hon:HS'[(U i).H.length]?=some (NB):=by
  rw[<- hHS',L8 λh'=>((hdead' _).1 h').2 rfl]
  exact hblk
 have hHSdead:∀b,HS[(U i).H.length]?=some b->b.dead=true:=λb hb=>by
  rw[<- hHS,da5 hdead] at hb;simp only[Qce] at hb;obtain⟨c,_,rfl⟩:=hb;rfl
 -- the operation
 have hev:=hevA (Ea9 (T ops.size).a s.a (L9 ops listed)) HS;unfold wpOpIn;have hw:Region.wanted (ma3 ops i) (yielded ops ac.tmps)=true:=by simp[Region.wanted,hgn]
 simp only[aa9 hi,hw];rw[if_pos trivial];refine (Rc5 (ac:={ ac with defers:=[] }) (ops:=ops) tr hA hH (hG0.adv hAdv) hcalls hev).inAny hF nn _ _ (λx' w' hp=>hK _ _ (vb6.next hD hR hi hdi hR.hm (λj hj hkj=>?_) (x:=pc8 (K0 tr E.P ops i) (U i).H.length) (λd' hd' hlt=>?_) ?_))
 ·rw[G5 his,<- hR.heavy j hj hkj]
  grind
 ·refine ad4 hD hT hi hk hd' ?_ (Qac _)
  grind
 ·obtain⟨ρ',F',a1,a2,a3⟩:=hp;rw[hHS'];have hadv:=hAdv.trans a1
  let ρ2:Rho:=λid=>if id=(U i).H.length then ρ' HS.length else ρ' id
  have hρ2:∀id,id≠(U i).H.length->ρ2 id=ρ' id:=λid h=>if_neg h
  have hρ2':ρ2 (U i).H.length=ρ' HS.length:=if_pos rfl;have hold:∀id b,HS'[id]?=some b->id≠(U i).H.length->(HS++[NB])[id]?=some b:=λid b hb hne=>by
   rw[hoff id hne] at hb;rw[Qbg (Qab.1 hb).1];exact hb
  have hN:(HS++[NB])[HS.length]?=some (NB):=by simp
  refine⟨(o5 _ _).trans hd0,(O8 _ _).trans hsz,Za5.puts hDS hi hsm _,ρ2,F',⟨hadv.ext,λid b hb=>?_,hadv.more,hadv.new,λid b' hb' hn=>?_⟩,?_,?_⟩
  ·have hidH:id<s.H.length:=by have:=(Qab.1 hb).1;omega
   have hne:id≠(U i).H.length:=by omega
   obtain⟨b',h1,h2⟩:=hadv.heap id b hb
   grind
  ·by_cases he:id=(U i).H.length
   ·subst he;rw[hρ2'];exact hadv.fresh HS.length _ hN λb hb=>by have:=(Qab.1 hb).1;omega
   ·rw[hρ2 id he];exact hadv.fresh id b' (hold id b' hb' he) hn
  ·refine a2.pull (λid=>if id=(U i).H.length then HS.length else id) (λid b hb hdd=>?_) λid id' b b' hb hdd hb' hdd' he=>?_
   ·grind
   grind
  ·have hA2 : da4 ρ2 HS' F' w' (Ea9 (T ops.size).a s.a (L9 ops listed)) ac.tmps := by
    refine hA.carry (λid b hb hdd=>?_) a1.more a1.ext.cells
    have hne:id≠(U i).H.length:=λe=>by
     subst e;rw[hHSdead b hb] at hdd;cases hdd
    obtain⟨b',h1,h2,h3,h4⟩:=a1.heap id b hb
    grind
   have hW:v8 ρ2 HS' F' w' (pc8 (K0 tr E.P ops i) (U i).H.length) x':=by
    have hV:pc8 (K0 tr E.P ops i) HS.length=.ptr HS.length 0 0 0/\pc8 (K0 tr E.P ops i) (U i).H.length=.ptr (U i).H.length 0 0 0\/pc8 (K0 tr E.P ops i) HS.length=.sl HS.length 0 0 0/\pc8 (K0 tr E.P ops i) (U i).H.length=.sl (U i).H.length 0 0 0:=by
     cases K0 tr E.P ops i<;>first | exact .inl ⟨rfl,rfl⟩ | exact .inr ⟨rfl,rfl⟩
    rcases hV with⟨v1,v2⟩|⟨v1,v2⟩
    ·rw[v1] at a3;rw[v2];obtain⟨ad,b,e,h1,h2,h3,h4⟩:=la0 a3
     have:b=NB:=Qah (h1.symm.trans hN)
     subst this;rw[e];refine .val (.cell (.ptr _ 0 0 0 ad _ hon nbd (Qee _) λhg=>?_))
     rw[hρ2'];exact h4 hg
    ·rw[v1] at a3;rw[v2];obtain⟨ad,cap,b,e,h1,h2,h3,h4,h5,h6,h7⟩:=wa9 a3
     have:b=NB:=Qah (h1.symm.trans hN)
     subst this;rw[e];refine .val (.cell (.sl _ 0 0 0 ad cap _ hon nbd (Qee _) h4 h5 h6 λhg=>?_))
     rw[hρ2'];exact h7 hg
   exact hA2.putA (U0 ops i) hW
omit hin in
theorem mc1{ac:Act}(hI:Za5 DS tm ds W ρ0 H0 F0 w0 s ac w) :
  vb6 DS tm ds W ρ0 H0 F0 w0 tr E ops s.a U T 0 (Array.replicate ops.size false) ac { w with drawn:=w.drawn+1 }:=by
 have hnx:∀j,j<ops.size->¬ r9 (Array.replicate ops.size false) j:=λj hj h=>by
  unfold r9 at h;simp[Array.getD,hj] at h
 obtain⟨hd0,hsz,hsm,ρ,F,hAdv,hH,hA⟩:=hI;have hdead:∀id,F8 tr E.P ops U (Array.replicate ops.size false) id->s.H.length<=id:=λid ⟨b,h1,_,_,h4⟩=>by
  have:=(Ad9 hD hT (j:=b) (by omega)).1
  omega
 have hlow:∀id,id<s.H.length->(U9 (T 0).H (F8 tr E.P ops U (Array.replicate ops.size false)))[id]?=s.H[id]?:=λid hid=>by
  rw[L8 λh=>by have:=hdead id h;omega,hT.t0]
  exact (Ad9 hD hT (Qac _)).2 id hid
 have hhigh:∀id b,(U9 (T 0).H (F8 tr E.P ops U (Array.replicate ops.size false)))[id]?=some b->s.H.length<=id->b.dead=true:=λid b hb hge=>by
  have hlt:id<(T 0).H.length:=by
   have:=(Qab.1 hb).1
   rwa [Ta8] at this
  rw[hT.t0] at hlt;obtain⟨j,h1,h2,h3⟩:=ce2 hD hT ops.size (Qac _) id hge hlt;rw[da5 (show F8 tr E.P ops U (Array.replicate ops.size false) id from ⟨j,h1,h2,hnx j h1,h3⟩)] at hb
  simp only[Qce] at hb;obtain⟨c,_,rfl⟩:=hb;rfl
 have hH':r4 W ρ s.H F { w with drawn:=w.drawn+1 }:=hH.same rfl
 have hAdv':Adv W ρ0 H0 F0 w0 ρ s.H F { w with drawn:=w.drawn+1 }:=hAdv.trans (.same rfl rfl rfl rfl (Nat.le_succ _))
 let ρ1:Rho:=λid=>if id<s.H.length then ρ id else ⟨w.heap.size,0,0⟩
 have hρ1:∀id,id<s.H.length->ρ1 id=ρ id:=λid h=>if_pos h
 have hlive:∀id b,(U9 (T 0).H (F8 tr E.P ops U (Array.replicate ops.size false)))[id]?=some b->b.dead=false->id<s.H.length:=λid b hb hd=>by
  rcases Qan id s.H.length with h|h
  ·exact h
  ·rw[hhigh id b hb h] at hd;cases hd
 refine⟨by simp,λj hj hx=>absurd hx (hnx j hj),Qee _,λj hj _=>⟨λh=>absurd h (hnx j hj),λh=>by omega⟩,hd0,hsz,hsm,ρ1,F,⟨hAdv'.ext,λid b hb=>?_,hAdv'.more,hAdv'.new,λid b hb hn=>?_⟩,?_,?_⟩
 ·have hid:id<s.H.length:=by have:=(Qab.1 hb).1;omega
  obtain⟨b',h1,h2⟩:=hAdv'.heap id b hb
  simp_all
 ·simp only at hb
  by_cases hid:id<s.H.length
  ·rw[hlow id hid] at hb;rw[hρ1 id hid];exact hAdv'.fresh id b hb hn
  ·show W (if id<s.H.length then ρ id else ⟨w.heap.size,0,0⟩).blk
   rw[if_neg hid];exact hH.new _ (Qac _)
 ·refine hH'.pull (λid=>id) (λid b hb hd=>?_) λ_ _ _ _ _ _ _ _ h=>h
  grind
 ·have hcarry : Sc2 ρ s.H ρ1 (U9 (T 0).H (F8 tr E.P ops U (Array.replicate ops.size false))) := fun id b hb hd => by
   have hid:=(Qab.1 hb).1;exact⟨b,(hlow id hid).trans hb,hd,Qac _,λ_=>⟨hρ1 id hid,rfl,Qac _⟩⟩
  refine⟨by rw[Ga0,(yb1 hD hT ops.size (Qac _)).2];exact hA.1,λt x x' hx hx'=>?_⟩
  simp only at hx
  by_cases ht:L9 ops (Array.replicate ops.size false) t
  ·have hlt : t < (T ops.size).a.length := by
    have:=(Qab.1 hx).1
    rwa [Ga0] at this
   rw[Ub3 ht hlt] at hx;injection hx with hx;rw[(yb1 hD hT ops.size (Qac _)).2] at hlt;rw[Qaa hlt,Option.getD_some] at hx;exact v8.carry (w:=w) (w':={ w with drawn:=w.drawn+1 }) hcarry (λ_ _ h=>h) (λ_ _ _=>rfl) (hA.2 t x x' (by rw[<- hx];exact Qaa hlt) hx')
  ·rw[Ga1 ht] at hx;have hno:∀j,j<ops.size->U0 ops j≠some t:=λj hj he=>ht ⟨j,hj,he,hnx j hj⟩
   have h1:=Pb5 hD hT (t:=t) ops.size 0 (by omega) λj _ h2 _=>hno j (by omega)
   have h2:=ad3 hD hT (t:=t) ops.size 0 (by omega) λj _ h2 _=>hno j (by omega)
   rw[Qbh] at h1 h2;rw[h1,hT.t0,h2,hT.u0] at hx;exact v8.carry (w:=w) (w':={ w with drawn:=w.drawn+1 }) hcarry (λ_ _ h=>h) (λ_ _ _=>rfl) (hA.2 t x x' hx hx')
omit hin hlen in
theorem Gb4{m:Nat}{listed:Array Bool}{ac:Act}(hR:vb6 DS tm ds W ρ0 H0 F0 w0 tr E ops s.a U T m listed ac w)(hall:∀j,j<ops.size->r9 listed j):Za5 DS tm ds W ρ0 H0 F0 w0 (T ops.size) ac w:=by
 have h1:Ea9 (T ops.size).a s.a (L9 ops listed)=(T ops.size).a:=Ad6 λt ⟨j,h1,_,h3⟩=>h3 (hall j h1)
 have h2:U9 (T m).H (F8 tr E.P ops U listed)=(T ops.size).H:=by
  rw[Ad7 λid ⟨b,h1,_,h3,_⟩=>h3 (hall b h1)]
  have:=Bd1 hD hT (ops.size-m) m (by have:=hR.hm;omega) λj h3 h4 hk=>by
   have hj:j<ops.size:=by have:=hR.hm;omega
   have:=(hR.heavy j hj hk).1 (hall j hj)
   omega
  rw[show m+(ops.size-m)=ops.size by have:=hR.hm;omega] at this
  exact this.symm
 have h3:=hR.inv;rw[h1,h2] at h3;exact h3
variable(hpairs:qa0 E (T ops.size).a (ka9 ops.size M ks)=true)(hG0:GOk E F0 w0)(hcalls:∀f,e8 E.P E.G f (E.call f))
include hpairs hG0 hcalls hF hDS
theorem Gb5{Q:Exit->Act->World->Prop}(hQ:∀ac' w',Za5 DS tm ds W ρ0 H0 F0 w0 (T ops.size) ac' w'->Q .normal ac' w'):∀(fuel m:Nat) (listed:Array Bool) (ac:Act) (w:World),vb6 DS tm ds W ρ0 H0 F0 w0 tr E ops s.a U T m listed ac w->B0 listed<=fuel->wpAnyIn Fe nn E.P .any ops Q fuel listed ac w
 |0,m,listed,ac,w,hR,hc=>by
  have hall:∀j,r9 listed j:=Ba1 (by omega)
  refine⟨?_,hQ _ _ (Gb4 hD hT hR λj _=>hall j)⟩
  rw[List.eq_nil_iff_forall_not_mem];intro i hi;exact (pb3 hi).2.1 (hall i)
 |fuel+1,m,listed,ac,w,hR,hc=>by
  refine⟨λh=>hQ _ _ (Gb4 hD hT hR (Sc4 hD hR.size h)),λi hi=>?_⟩
  obtain⟨h1,h2,h3⟩:=pb3 hi;have hdi:∀j∈w8 (ma3 ops i),r9 listed j:=λj hj=>h3 hR.size j hj (by have:=Gb0 hD.rows (aa9 h1) hj;omega)
  have hcount:B0 (listed.setIfInBounds i true)<=fuel:=by
   have his:i<listed.size:=by rw[hR.size];exact h1
   have hf:listed.toList[i]?=some false:=by
    have:listed.getD i true=false:=by unfold r9 at h2;simpa using h2
    simp_all
   have:=sa3 listed.toList i hf
   unfold B0 at hc ⊢
   grind
  rcases jb9 (tr:=tr) (P:=E.P) (ops:=ops) i with hk|hk|hk
  ·exact mc0 hD hT hin hlen hF hDS hG0 hcalls hR h1 hk h2 hdi λac' w' hR'=>Gb5 hQ fuel m _ ac' w' hR' hcount
  ·exact lc8 hD hT hin hpairs hF hDS hG0 hcalls hR h1 hk h2 hdi λac' w' hR'=>Gb5 hQ fuel m _ ac' w' hR' hcount
  ·exact lc9 hD hT hin hF hDS hG0 hcalls hR h1 hk h2 hdi λac' w' hR'=>Gb5 hQ fuel (i+1) _ ac' w' hR' hcount
end
end Go.Ev
