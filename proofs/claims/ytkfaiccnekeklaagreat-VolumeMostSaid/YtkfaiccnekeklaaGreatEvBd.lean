/- Own work. -/
import Derived.Test.YtkfaiccnekeklaaGreatEvDm3
set_option linter.all false
noncomputable section
def Qfa:=@Bool.and_eq_true
def Qfb:=@Array.getElem?_eq_some_iff
def Qfc:=@List.getElem?_append_right
def Qfd:=@List.getElem?_append_left
def Qfe:=@List.length_append
def Qff:=@Nat.eq_of_beq_eq_true
def Qfg:=@List.mem_cons
def Qfh:=@List.getElem?_eq_some_iff
def Qfi:=@List.getElem?_map
def Qfj:=@List.all_eq_true
def Qfk:=@Array.getElem?_setIfInBounds_ne
def Qfl:=@Array.toList_setIfInBounds
def Qfm:=@Array.getElem?_append_left
def Qfn:=@Classical.byContradiction
def Qfo:=@List.mem_map
def Qfp:=@List.getElem?_replicate
def Qfq:=@List.append_nil
def Qfr:=@Array.getElem?_eq_none
def Qfs:=@Nat.le_refl
def Qft:=@List.contains_iff_mem
def Qfu:=@Nat.le_of_ble_eq_true
def Qfv:=@Array.size_replicate
def Qfw:=@List.getElem?_take
def Qfx:=@Nat.lt_or_ge
namespace Go.Ev
open Go
structure Ord(ops:Array Oper)(m:Nat):Prop where
 sz:ops.size=m+1
 dep:∀j,j<=m->∀i∈Q4 (opO ops j),i<j
 pur:∀j,j<m->ec9 (opO ops j)=true
 uni:∀i j,i<m->j<m->i≠j->(opO ops i).dst≠(opO ops j).dst
 cov:∀i,i<m->∃j,i<j/\j<=m/\i∈Q4 (opO ops j)
 use:∀j,j<m->∀x∈(opO ops j).op.operands,∀t,x=.tmp t->∀i,i<m->(opO ops i).dst=some t->i∈Q4 (opO ops j)
theorem ye1{ops:Array Oper}(h:he7 ops=true):Ord ops (ops.size-1):=by
 simp only[he7,Qfa,Qfj,List.mem_range,Nat.blt_eq,List.any_eq_true] at h;obtain⟨⟨h0,h1⟩,h2⟩:=h;have hd:∀i j,i<j->j<ops.size-1->(opO ops i).dst≠(opO ops j).dst:=λi j hij hj=>by
  have:=(h2 j hj).2.2.1 i hij
  simpa using this
 refine⟨by omega,λj hj i hi=>h1 j (by omega) i hi,λj hj=>(h2 j hj).1,λi j hi hj hne=>?_,λi hi=>?_,λj hj x hx t e i hi ed=>?_⟩
 ·rcases Nat.lt_or_gt_of_ne hne with k|k
  ·exact hd i j k hj
  ·exact (hd j i k hi).symm
 ·obtain⟨k,hk,hik,hc⟩:=(h2 i hi).2.2.2.1;exact⟨k,hik,by omega,Qft.1 hc⟩
 ·have:=(h2 j hj).2.2.2.2 x (Array.mem_toList_iff.2 hx)
  subst e;simp only[Qfj,List.mem_range,Bool.or_eq_true] at this
  rcases this i hi with k|k
  ·rw[ed] at k;simp at k
  ·exact Qft.1 k
section
variable{ops:Array Oper}{m:Nat}{a0:Act}{V:Nat->Value}{L L':Nat->Prop}{ac ac':Act}
structure Pt(ops:Array Oper)(m:Nat)(a0:Act)(V:Nat->Value)(L:Nat->Prop)(ac:Act):Prop where
 dz:ac.defers=a0.defers
 sz:ac.tmps.size=a0.tmps.size
 on:∀i t,i<m->L i->(opO ops i).dst=some t->t<a0.tmps.size->ac.tmps[t]?=some (V i)
 off:∀t,(∀i,i<m->L i->(opO ops i).dst≠some t)->ac.tmps[t]?=a0.tmps[t]?
theorem Pt.agree(h:Pt ops m a0 V L ac)(h':Pt ops m a0 V L' ac'){t:Nat}(hb:∀i,i<m->(opO ops i).dst=some t->(L i↔L' i)):ac.tmps[t]?=ac'.tmps[t]?:=by
 by_cases hx:∃i,i<m/\L i/\(opO ops i).dst=some t
 ·obtain⟨i,h1,h2,h3⟩:=hx;by_cases ht:t<a0.tmps.size
  ·rw[h.on i t h1 h2 h3 ht,h'.on i t h1 ((hb i h1 h3).1 h2) h3 ht]
  ·rw[Qfr (by rw[h.sz];omega),Qfr (by rw[h'.sz];omega)]
 ·rw[h.off t λi h1 h2 h3=>hx ⟨i,h1,h2,h3⟩,h'.off t λi h1 h2 h3=>hx ⟨i,h1,(hb i h1 h3).2 h2,h3⟩]
theorem Pt.same(h:Pt ops m a0 V L ac)(h':Pt ops m a0 V L' ac')(hb:∀i,i<m->(L i↔L' i)):ac=ac':=by
 have e:ac.tmps=ac'.tmps:=Array.ext_getElem? λt=>h.agree h' λi hi _=>hb i hi
 have d:ac.defers=ac'.defers:=h.dz.trans h'.dz.symm;cases ac;cases ac'
 simp only at e d
 rw[e,d]
theorem Pt.eval(h:Pt ops m a0 V L ac)(h':Pt ops m a0 V L' ac'){x:Operand}(hb:∀t,x=.tmp t->∀i,i<m->(opO ops i).dst=some t->(L i↔L' i)):ac.eval x=ac'.eval x:=by
 cases x with
 |tmp t =>
  show ac.tmps.getD t undef=ac'.tmps.getD t undef
  have:=h.agree h' (t:=t) (hb t rfl)
  simp only[Array.getD_eq_getD_getElem?,this]
 |const v=>rfl
 |func f=>rfl
 |global g=>rfl
theorem Pt.put(hO:Ord ops m)(h:Pt ops m a0 V L ac){j:Nat}(hj:j<m):Pt ops m a0 V (λi=>L i\/i=j) (ac.put (opO ops j).dst (V j)):=by
 refine⟨(w6 _ _).trans h.dz,(by cases hd:(opO ops j).dst<;>simp[Act.put,h.sz]),λi t hi hl hd ht=>?_,λt hn=>?_⟩
 ·by_cases e:i=j
  ·subst e;rw[hd];simp[Act.put,h.sz,ht]
  ·have hne:(opO ops j).dst≠some t:=λk=>hO.uni i j hi hj e (hd.trans k.symm)
   have:(ac.put (opO ops j).dst (V j)).tmps[t]?=ac.tmps[t]?:=by
    cases hdj:(opO ops j).dst with
    |none=>rfl
    |some d=>exact Qfk λk=>hne (by rw[hdj,k])
   rw[this];exact h.on i t hi (hl.resolve_right e) hd ht
 ·have hne:=hn j hj (.inr rfl)
  have:(ac.put (opO ops j).dst (V j)).tmps[t]?=ac.tmps[t]?:=by
   cases hdj:(opO ops j).dst with
   |none=>rfl
   |some d=>exact Qfk λk=>hne (by rw[hdj,k])
  rw[this];exact h.off t λi hi hl=>hn i hi (.inl hl)
theorem Pt.iff(h:Pt ops m a0 V L ac)(hb:∀i,i<m->(L i↔L' i)):Pt ops m a0 V L' ac :=
 ⟨h.dz,h.sz,λi t hi hl=>h.on i t hi ((hb i hi).2 hl),λt hn=>h.off t λi hi hl=>hn i hi ((hb i hi).1 hl)⟩
theorem Pt.val{V':Nat->Value}(h:Pt ops m a0 V L ac)(hb:∀i,i<m->L i->V i=V' i):Pt ops m a0 V' L ac :=
 ⟨h.dz,h.sz,λi t hi hl hd ht=>by rw[<- hb i hi hl];exact h.on i t hi hl hd ht,h.off⟩
end
section
variable{ops:Array Oper}{m:Nat}{P:Program}{Fe:Fence}{n:Nat}{Q:Exit->Act->World->Prop}{a0:Act}{w:World}
theorem pd6{j:Nat}(h:j<ops.size):ops[j]?=some (opO ops j):=by simp[opO,Array.getD,h]
theorem uc7{o:Oper}(h:ec9 o=true):o.guard=none:=by
 unfold ec9 at h;rw[Qfa] at h;cases hg:o.guard with
 |none=>rfl
 |some g=>rw[hg] at h;cases h.1
theorem uc8{o:Oper}(h:ec9 o=true):(∀cs b,o.op≠.select cs b)/\∀c,o.op≠.defer c:=by
 unfold ec9 at h;rw[Qfa] at h;exact⟨λcs b e=>(by rw[e] at h;cases h.2),λc e=>(by rw[e] at h;cases h.2)⟩
theorem chain (hO : Ord ops m) (hQ : ∀ c a w, ¬ Q (.panic c) a w) (h : wpOpsIn Fe n P ops Q (List.range' 0 ops.size) a0 w) : ∀ k, k ≤ m → ∃ V, (∃ ac, Pt ops m a0 V (· < k) ac ∧ wpOpsIn Fe n P ops Q (List.range' k (ops.size - k)) ac w) ∧
  ∀j,j<k->∃ac,Pt ops m a0 V (· < j) ac/\(execOp ac.eval (opO ops j)).run P w=.ok (.value (V j)) w
 |0,_=>⟨λ_=>undef,⟨a0,⟨rfl,rfl,λi t _ hl=>absurd hl (Nat.not_lt_zero _),λt _=>rfl⟩,h⟩,λj hj=>absurd hj (Nat.not_lt_zero _)⟩
 |k+1,hk=>by
  obtain⟨V,⟨ac,hp,hw⟩,hs⟩:=chain hO hQ h k (by omega)
  have hkm:k<m:=by omega
  have hpur:=hO.pur k hkm;have hsz:=hO.sz;rw[show ops.size-k=(ops.size-(k+1))+1 by omega,List.range'_succ,wpOpsIn_cons] at hw
  unfold wpOpIn at hw;rw[pd6 (show k<ops.size by omega)] at hw
  simp only[Region.wanted,uc7 hpur,if_true] at hw;have hw:=hw.2;rw[Oper.semAt_eq _ _ _ (uc8 hpur).2] at hw;cases hr:(execOp ac.eval (opO ops k)).run P w with
  |halt c w' =>
   rw[hr] at hw;cases c<;>first | exact hw.elim | exact (hQ _ _ _ hw).elim
  |ok x w' =>
   obtain⟨⟨v,rfl⟩,rfl⟩:=Qd4 hpur hr;rw[hr] at hw;have hw:wpOpsIn Fe n P ops Q (List.range' (k+1) (ops.size-(k+1))) (ac.put (opO ops k).dst v) w':=hw;refine⟨λi=>if i=k then v else V i,⟨_,(Pt.put hO ((hp.val (V':=λi=>if i=k then v else V i)) λi _ hl=>?_) hkm).iff λi hi=>?_,?_⟩,λj hj=>?_⟩
   ·have:i<k:=hl
    rw[if_neg (by omega)]
   ·show (i<k\/i=k)↔i<k+1;omega
   ·rw[if_pos rfl];exact hw
   ·by_cases e:j=k
    ·subst e;exact⟨ac,hp.val λi _ hl=>(by rw[if_neg (Nat.ne_of_lt hl)]),by simpa using hr⟩
    ·obtain⟨acj,h1,h2⟩:=hs j (by omega)
     refine⟨acj,h1.val λi _ hl=>?_,by simpa [e] using h2⟩
     have:i<j:=hl
     rw[if_neg (by omega)]
theorem Hd1(hO:Ord ops m){listed:Array Bool}(hsz:listed.size=ops.size):∀j,j<=m->¬ P7 listed j->∃i,i∈Region.ready .any ops listed:=by
 intro j
 induction j using Nat.strongRecOn with
 |_ j ih =>
  intro hj hn;by_cases hd:∀i∈Q4 (opO ops j),P7 listed i
  ·refine⟨j,mem_ready.2 ⟨?_,opO ops j,pd6 (by have:=hO.sz;omega),λe he hb=>?_⟩⟩
   ·unfold P7 at hn;cases h:listed.getD j true with
    |false=>rfl
    |true=>exact absurd h hn
   ·have hx:=hd e.on (Ta6.2 ⟨e,he,hb,rfl⟩);have hlt:e.on<listed.size:=by
     have:=hO.dep j hj e.on (Ta6.2 ⟨e,he,hb,rfl⟩)
     have:=hO.sz
     omega
    unfold P7 at hx;simpa [Array.getD,hlt] using hx
  ·have : ∃ i ∈ Q4 (opO ops j), ¬ P7 listed i := by
    apply Qfn;intro hno;exact hd λi hi=>Qfn λk=>hno ⟨i,hi,k⟩
   obtain⟨i,hi,hx⟩:=this
   have:=hO.dep j hj i hi
   exact ih i this (by omega) hx
theorem ye2(hO:Ord ops m)(hF:FW Fe)(hQ:∀c a w,¬ Q (.panic c) a w)(h:wpOpsIn Fe n P ops Q (List.range' 0 ops.size) a0 w):wpAnyIn Fe n P .any ops Q ops.size (Array.replicate ops.size false) a0 w:=by
 have hsz:=hO.sz;obtain⟨V,⟨aE,hpE,hwE⟩,hs⟩:=chain hO hQ h m (Qfs _);rw[show ops.size-m=1 by omega] at hwE
 have hwE:wpOpIn Fe n P ops Q m (wpOpsIn Fe n P ops Q []) aE w:=by rw[<- wpOpsIn_cons];exact hwE
 have key:∀(fuel:Nat) (listed:Array Bool) (ac:Act),listed.size=ops.size->(∀j,j<ops.size->P7 listed j->∀i∈Q4 (opO ops j),P7 listed i)->¬ P7 listed m->Pt ops m a0 V (P7 listed) ac->ma2 listed<=fuel->wpAnyIn Fe n P .any ops Q fuel listed ac w:=by
  intro fuel
  induction fuel with
  |zero =>
   intro listed ac _ _ hm _ hc;exact (hm (tb1 (by omega) m)).elim
  |succ fuel ih =>
   intro listed ac hls hcl hm hp hc;refine⟨λhr=>?_,λi hi=>?_⟩
   ·obtain⟨i,hi⟩:=Hd1 hO hls m (Qfs _) hm;rw[hr] at hi;cases hi
   ·obtain⟨hi1,o,hio,hi2⟩:=mem_ready.1 hi;have hlt:i<ops.size:=(Qfb.1 hio).1;obtain rfl:o=opO ops i:=Option.some.inj (hio.symm.trans (pd6 hlt));have hdi:∀k∈Q4 (opO ops i),P7 listed k:=λk hk=>by
     obtain⟨e,he,hb,rfl⟩:=Ta6.1 hk;have h1:=hi2 e he hb;unfold P7;have hlt':e.on<listed.size:=by
      have:=hO.dep i (by omega) e.on hk
      omega
     simpa [Array.getD,hlt'] using h1
    have hnx:¬ P7 listed i:=λhx=>by unfold P7 at hx;rw[hi1] at hx;cases hx
    have hil:i<listed.size:=by omega
    have hcount:ma2 (listed.setIfInBounds i true)<=fuel:=by
     have h0:listed.toList[i]?=some false:=by
      simp only[Array.getD,hil,dif_pos] at hi1;simp[hil];simpa using hi1
     have:=bb9 listed.toList i h0
     unfold ma2 at hc ⊢;rw[Qfl];omega
    by_cases him:i=m
    ·subst him;have hall:∀d k,i-d<=k->k<i->P7 listed k:=λd=>by
      induction d with
      |zero=>intro k h1 h2;omega
      |succ d ihd =>
       intro k h1 h2;obtain⟨j,j1,j2,j3⟩:=hO.cov k h2;by_cases e:j=i
       ·subst e;exact hdi k j3
       ·exact hcl j (by omega) (ihd j (by omega) (by omega)) k j3
     have hac:ac=aE:=hp.same hpE λk hk=>⟨λ_=>hk,λ_=>hall i k (by omega) hk⟩
     rw[hac];refine wpOpIn_mono (λa' w' hq=>?_) hwE
     have hq:Q .normal a' w':=hq;have hr:Region.ready .any ops (listed.setIfInBounds i true)=[]:=by
      apply List.eq_nil_iff_forall_not_mem.2;intro k hk;obtain⟨k1,ok,k2,_⟩:=mem_ready.1 hk;have hk':k<ops.size:=(Qfb.1 k2).1
      have:P7 (listed.setIfInBounds i true) k:=(ga7 hil).2 (by
       by_cases e:k=i
       ·exact .inr e
       ·exact .inl (hall i k (by omega) (by omega)))
      unfold P7 at this;rw[k1] at this;cases this
     cases fuel with
     |zero=>exact⟨hr,hq⟩
     |succ fuel=>exact⟨λ_=>hq,λk hk=>by rw[hr] at hk;cases hk⟩
    ·have hlm:i<m:=by omega
     have hpur:=hO.pur i hlm;obtain⟨acj,p1,p2⟩:=hs i hlm;have hev:execOp ac.eval (opO ops i)=execOp acj.eval (opO ops i):=execOp_congr _ (uc8 hpur).1 λx hx=>hp.eval p1 λt e k hk hd=>by
      have hk':=hO.use i hlm x hx t e k hk hd
      have:=hO.dep i (by omega) k hk'
      exact⟨λ_=>this,λ_=>hdi k hk'⟩
     unfold wpOpIn;rw[hio];simp only[Region.wanted,uc7 hpur,if_true];refine⟨λf _=>hF.fn f,?_⟩
     rw[Oper.semAt_eq _ _ _ (uc8 hpur).2,hev,p2];show wpAnyIn Fe n P .any ops Q fuel (listed.setIfInBounds i true) (ac.put (opO ops i).dst (V i)) w;refine ih _ _ (by rw[Array.size_setIfInBounds];exact hls) (λj hj hx k hk=>?_) (λhx=>?_) ((Pt.put hO hp hlm).iff λk _=>(ga7 hil).symm) hcount
     ·rcases (ga7 hil).1 hx with hx|rfl
      ·exact (ga7 hil).2 (.inl (hcl j hj hx k hk))
      ·exact (ga7 hil).2 (.inl (hdi k hk))
     ·rcases (ga7 hil).1 hx with hx|e
      ·exact hm hx
      ·exact him e.symm
 have hnx:∀j,j<ops.size->¬ P7 (Array.replicate ops.size false) j:=λj hj hx=>by
  unfold P7 at hx;simp[Array.getD,hj] at hx
 refine key ops.size _ a0 (by simp) (λj hj hx=>absurd hx (hnx j hj)) (hnx m (by omega)) ⟨rfl,rfl,λi t hi hl=>absurd hl (hnx i (by omega)),λt _=>rfl⟩ ?_
 unfold ma2;simp
end
theorem fc0:∀H:List c8,r9 H (j8 H)=H/\rb1 H (j8 H)=true
 |[]=>⟨rfl,rfl⟩
 |b::H=>by
  obtain⟨h1,h2⟩:=fc0 H;have e:j8 (b::H)=Bool.rec (motive:=λ_=>c8) b { b with dead:=true } (y8 b)::j8 H:=rfl
  rw[e];have e1:∀c,r9 (b::H) (c::j8 H)=Bool.rec (motive:=λ_=>c8) c b (y8 b)::r9 H (j8 H):=λ_=>rfl
  have e2:∀c,rb1 (b::H) (c::j8 H)=Bool.and (Bool.rec (motive:=λ_=>Bool) (Bool.rec true false (y8 c)) true (y8 b)) (rb1 H (j8 H)):=λ_=>rfl
  rw[e1,e2,h1,h2];cases hb:y8 b with
  |true=>exact⟨rfl,rfl⟩
  |false=>exact⟨rfl,by simp[hb]⟩
section
variable{P:Program}{WB K:Nat->Prop}{J:List Value->World->Prop}{n:Nat}{S:HL}{rv:Value}{DF:List Deferred->Prop}{ρ0:Rho}{H0:List c8}{F0:Fz}{w0:World}{s:St}{ac:Act}{w:World}
theorem I3.drawn(h:I3 P WB K J n S rv DF ρ0 H0 F0 w0 s ac w)(hJ:Bb6 K J):I3 P WB K J n S rv DF ρ0 H0 F0 w0 s ac { w with drawn:=w.drawn+1 }:=by
 obtain⟨⟨ρ,F,W',up,hI⟩,h2,h3⟩:=h;obtain⟨e1,e2⟩:=fc0 s.H;obtain⟨c1,c2⟩:=hI.core.step (w':={ w with drawn:=w.drawn+1 }) hJ (.same rfl rfl rfl rfl (Nat.le_succ _)) e2 (hI.core.hrel.same rfl)
 rw[e1] at c1 c2;exact⟨⟨_,F,W',up,c1,⟨hI.vals.1,λi x x' hx hx'=>c2 x x' (hI.vals.2 i x x' hx hx')⟩,hI.size⟩,h2,h3⟩
end
section
variable{WB K:Nat->Prop}{J:List Value->World->Prop}{DF:List Deferred->Prop}{S S0:HL}{rv:Value}{ρ ρ0:Rho}{H H0 H':List c8}{F F0:Fz}{w w0 w':World}{W':Nat->Prop}{up:List Value}{E:Env}{n m:Nat}{Fe:Fence}{pr:List Nat}{yl:Option Rd}{kp:Nat->List Nat}{rf:Operand->Array Tmp->Code->Code->PC}
def YOk(E:Env)(Fe:Fence)(m n k:Nat)(rd:Rd)(I:HL->St->Act->World->Prop):Prop :=
 ∀(ops:Array Oper) (i:Nat) (o:Oper) (S:HL) (args:List Operand) (g:Option (Nat×Bool)) (s s':St) (xx:e8) (ac:Act) (w:World) (rest:List Nat) (Q:Exit->Act->World->Prop),
  ops[i]?=some o->Pb0 ops S o=some args->Q3 ops o=some g->gOk n g=true->dOk n o.dst=true->args.all (ltO n)=true->args.length=rd.ps.length->I S s ac w ->
  (J0 E k (.round o.dst g (args.map g9) n rd.nOut rd.ps rd.asq rd.body) s).run=some (xx,s')->(xx=.normal->∀ac' w',I (rmD S o.dst) s' ac' w'->wpOpsIn Fe m E.P ops Q rest ac' w')->wpOpsIn Fe m E.P ops Q (i::rest) ac w
def He4(E:Env)(Fe:Fence)(m k:Nat)(rf:Operand->Array Tmp->Code->Code->PC)(I:St->Act->World->Prop):Prop :=
 ∀(g:Operand) (ps:Array Tmp) (asq body:Code) (s s':St) (x:e8) (ac:Act) (w:World) (Q:Exit->Act->World->Prop),(J0 E k (rf g ps asq body) s).run=some (x,s')->I s ac w ->
  (∀ac' w',I s' ac' w'->Q (toX x) ac' w')->(Code.rangeFunc g ps asq body).wpIn Fe m E.P Q ac w
theorem I3.less{P:Program}{s:St}{ac:Act}(h:I3 P WB K J n S rv DF ρ0 H0 F0 w0 s ac w)(hs:Qd9 S0 S=true):I3 P WB K J n S0 rv DF ρ0 H0 F0 w0 s ac w:=by
 refine⟨h.inv,λp hp hg=>?_,h.df⟩
 unfold Qd9 at hs;rw[Qfj] at hs;exact Xb0 h.held (hs p hp) hg
theorem dd7{k:Nat}{l:List PI}{dd:List Nat}{s s':St}{x:e8}(he:(J0 E k (.mask n dd (.ops l)) s).run=some (x,s')):x=.normal:=by
 have he':((J0 E k (.ops l) ⟨s8 (Z7 s.H) (G7 s.a n),j8 s.H⟩).bind λr=>.guard (rb1 s.H r.2.H) (.ret (r.1,⟨fa7 dd s.a r.2.a 0,r9 s.H r.2.H⟩))).run=some (x,s'):=he
 obtain⟨⟨x1,s1⟩,h1,h2⟩:=DT.run_bind_some he';obtain⟨_,h2⟩:=DT.run_guard_some h2;have h2:some (x1,(⟨fa7 dd s.a s1.a 0,r9 s.H s1.H⟩:St))=some (x,s'):=h2;injection h2 with h2;injection h2 with e1 _;subst e1
 obtain⟨s2,_,h4⟩:=DT.run_bind_some (show ((K2 E l ⟨s8 (Z7 s.H) (G7 s.a n),j8 s.H⟩).bind λs=>.ret (e8.normal,s)).run=some (x1,s1) from h1)
 have h4:some (e8.normal,s2)=some (x1,s1):=h4;injection h4 with h4;injection h4 with e1 _
 exact e1.symm
theorem Pb3{k:Nat}{a b:PC}{s s':St}{x:e8}(he:(J0 E k (.seq a b) s).run=some (x,s')):∃x1 s1,(J0 E k a s).run=some (x1,s1)/\(x1=.normal->(J0 E k b s1).run=some (x,s'))/\(x1≠.normal->x1=x/\s1=s'):=by
 obtain⟨⟨x1,s1⟩,h1,h2⟩:=DT.run_bind_some (show ((J0 E k a s).bind λr=>e8.rec (motive:=λ_=>DT (e8×St)) (J0 E k b r.2) (λid=>.ret (.exit id,r.2)) (.ret (.ret,r.2)) r.1).run=some (x,s') from he)
 refine⟨x1,s1,h1,λe=>by subst e;exact h2,λe=>?_⟩
 cases x1 with
 |normal=>exact absurd rfl e
 |exit id =>
  have h2:some (e8.exit id,s1)=some (x,s'):=h2;injection h2 with h2;injection h2 with e1 e2;exact⟨e1,e2⟩
 |ret =>
  have h2:some (e8.ret,s1)=some (x,s'):=h2;injection h2 with h2;injection h2 with e1 e2;exact⟨e1,e2⟩
section
variable(hF:FW Fe)(hG0:GOk E F0 w0)(hcalls:∀f,i5 E.P E.G f (E.call f))(hJ:Bb6 K J)(hyl:∀rd,yl=some rd->YOk E Fe m n H0.length rd λS=>I3 E.P WB K J n S rv DF ρ0 H0 F0 w0)
include hF hG0 hcalls hJ hyl
theorem Sa0 {ops : Array Oper} {Q : Exit → Act → World → Prop} : ∀ (f : Nat) (r : List Oper) (S : HL) (k : Nat) (s : St) (x : e8) (s' : St) (ac : Act) (w : World), ops.toList.drop k = r → I3 E.P WB K J n S rv DF ρ0 H0 F0 w0 s ac w →
  (J0 E H0.length (Dc9 E.P n pr yl S0 ops f r S) s).run=some (x,s')->(∀ac' w',I3 E.P WB K J n S0 rv DF ρ0 H0 F0 w0 s' ac' w'->Q (toX x) ac' w')->wpOpsIn Fe m E.P ops Q (List.range' k r.length) ac w
 |0,r,S,k,s,x,s',ac,w,hr,hI,he,hQ=>by cases he
 |f+1,[],S,k,s,x,s',ac,w,hr,hI,he,hQ=>by
  simp only[Dc9] at he;cases hs:Qd9 S0 S with
  |false=>rw[hs] at he;cases he
  |true =>
   rw[hs] at he;have he:some (e8.normal,s)=some (x,s'):=he;injection he with he;injection he with e1 e2;subst e1 e2
   exact hQ ac w (hI.less hs)
 |f+1,o::r,S,k,s,x,s',ac,w,hr,hI,he,hQ=>by
  have hi:ops[k]?=some o:=by
   have:(ops.toList.drop k)[0]?=some o:=by rw[hr];rfl
   simpa using this
  have hr1:ops.toList.drop (k+1)=r:=by rw[<- List.drop_drop,hr];rfl
  have hrange:List.range' k (o::r).length=k::List.range' (k+1) r.length:=by
   rw[show (o::r).length=r.length+1 from rfl,List.range'_succ]
  simp only[Dc9] at he;cases hy:Pb0 ops S o with
  |some args =>
   rw[hy] at he
   simp only at he
   cases hyl':yl with
   |none=>rw[hyl'] at he;cases he
   |some rd =>
   cases hg:Q3 ops o with
   |none=>rw[hyl',hg] at he;cases he
   |some g =>
   rw[hyl',hg] at he
   simp only at he
   split at he
   case h_2=>cases he
   rename_i hc;simp only[Qfa] at hc;obtain⟨x1,s1,h1,h2,h3⟩:=Pb3 he;rw[hrange];refine hyl rd hyl' ops k o S args g s s1 x1 ac w _ Q hi hy hg hc.1.1.1 hc.1.1.2 hc.1.2 (Qff hc.2) hI h1 λhx ac' w' hI'=>?_
   have h4:=h2 hx;rw[<- hyl'] at h4;exact Sa0 f r _ (k+1) s1 x s' ac' w' hr1 hI' h4 hQ
  |none =>
  rw[hy] at he
  simp only at he
  cases hcp:uc3 ops S o with
  |some dg =>
   obtain⟨d,g⟩:=dg;rw[hcp] at he
   simp only at he
   split at he
   case h_2=>cases he
   rename_i hd;rw[Nat.blt_eq] at hd;obtain⟨x1,s1,h1,h2,h3⟩:=Pb3 he;rw[hrange];refine Rd1 hF hG0 hcalls hJ hi hcp hd hI h1 λhx ac' w' hI'=>?_
   exact Sa0 f r _ (k+1) s1 x s' ac' w' hr1 hI' (h2 hx) hQ
  |none =>
  rw[hcp] at he
  simp only at he
  cases hsp:cSp E.P n pr o with
  |some so =>
   rw[hsp] at he
   simp only at he
   cases hg:Q3 ops o with
   |none=>rw[hg] at he;cases he
   |some g =>
   rw[hg] at he
   simp only at he
   split at he
   case h_2=>cases he
   rename_i hc;rw[Qfa] at hc;obtain⟨x1,s1,h1,h2,h3⟩:=Pb3 he;obtain⟨s2,k1,k2⟩:=DT.run_bind_some (show ((ld0 E s o.dst g so).bind λs=>.ret (e8.normal,s)).run=some (x1,s1) from h1)
   have k2:some (e8.normal,s2)=some (x1,s1):=k2;injection k2 with k2;injection k2 with e1 e2;subst e1 e2
   rw[hrange];refine xe8 hF hG0 hJ hi hsp hg hc.1 hc.2 hI k1 λac' w' hI'=>?_
   exact Sa0 f r _ (k+1) s2 x s' ac' w' hr1 hI' (h2 rfl) hQ
  |none =>
  rw[hsp] at he
  simp only at he
  generalize hm:Wb8 (cd9 E.P n pr ops S) r=q at he;cases hl:Bb3 E.P ops (o::r.take q) with
  |none=>rw[hl] at he;cases he
  |some l =>
  rw[hl] at he
  simp only at he
  obtain⟨x1,s1,h1,h2,h3⟩:=Pb3 he;have hx1:=dd7 h1;subst hx1;have hsplit:o::r=(o::r.take q)++r.drop q:=by rw[List.cons_append,List.take_append_drop]
  have hlen:(o::r).length=(o::r.take q).length+(r.drop q).length:=by rw[<- Qfe,<- hsplit]
  have hrange2:List.range' k (o::r).length=List.range' k (o::r.take q).length++List.range' (k+(o::r.take q).length) (r.drop q).length:=by
   rw[hlen,<- List.range'_append_1]
  rw[hrange2];obtain⟨hinv,hheld,hdf⟩:=hI;refine (ge9 (x:=.normal) (s':=s1) hF hG0 hcalls hJ (r:=o::r.take q) (l:=l) (dd:=Ib5 (o::r.take q)) ⟨r.drop q,by rw[hr];exact hsplit⟩ (λo' ho' d hd=>?_) hl hinv h1 λac' w' hI' hd' hsm=>?_).2
  ·unfold Ib5;exact List.mem_filterMap.2 ⟨o',ho',hd⟩
  ·refine Sa0 f (r.drop q) _ (k+(o::r.take q).length) s1 x s' ac' w' ?_ ⟨hI',uc4 hheld hsm,by rw[hd'];exact hdf⟩ (h2 rfl) hQ
   ·rw[<- List.drop_drop,hr,hsplit,List.drop_left]
theorem fc1 {c : Code} {y : PC} {keep : List Nat} (ih : ∀ (s : St) (x : e8) (s' : St), (J0 E H0.length y s).run = some (x, s') → ∀ (ac : Act) (w : World) (Q : Exit → Act → World → Prop), I3 E.P WB K J n S0 rv DF ρ0 H0 F0 w0 s ac w →
  (∀ac' w',I3 E.P WB K J n S0 rv DF ρ0 H0 F0 w0 s' ac' w'->Q (toX x) ac' w')->c.wpIn Fe m E.P Q ac w) :
  ∀(nn:Nat) (s:St) (x:e8) (s':St),(pb9 (λs=>tidyM H0.length ⟨J6 keep s.a 0,s.H⟩) (J0 E H0.length y) nn s).run=some (x,s')->∀(ac:Act) (w:World) (Q:Exit->Act->World->Prop),I3 E.P WB K J n S0 rv DF ρ0 H0 F0 w0 s ac w ->
  (∀ac' w',I3 E.P WB K J n S0 rv DF ρ0 H0 F0 w0 s' ac' w'->Q (toX x) ac' w')->Code.roundsIn Fe m E.P c Q nn ac w
 |0,s,x,s',he,ac,w,Q,hI,hQ=>by cases he
 |nn+1,s,x,s',he,ac,w,Q,hI,hQ=>by
  have he':((tidyM H0.length ⟨J6 keep s.a 0,s.H⟩).bind λs=>(J0 E H0.length y s).bind λr =>
   e8.rec (motive:=λ_=>DT (e8×St)) (pb9 (λs=>tidyM H0.length ⟨J6 keep s.a 0,s.H⟩) (J0 E H0.length y) nn r.2) (λid=>.ret (.exit id,r.2)) (.ret (.ret,r.2)) r.1).run=some (x,s'):=he
  obtain⟨s1,h1,h2⟩:=DT.run_bind_some he';obtain⟨⟨x2,s2⟩,h3,h4⟩:=DT.run_bind_some h2;have hI1:=hI.tidyM h1;rw[roundsIn_succ];refine ih s1 x2 s2 h3 ac w _ hI1 λac' w' hI2=>?_
  cases x2 with
  |normal=>exact fc1 ih nn s2 x s' h4 ac' w' Q hI2 hQ
  |exit id =>
   have h4':some (e8.exit id,s2)=some (x,s'):=h4;injection h4' with h4';injection h4' with e1 e2;subst e1 e2
   exact hQ _ _ hI2
  |ret =>
   have h4':some (e8.ret,s2)=some (x,s'):=h4;injection h4' with h4';injection h4' with e1 e2;subst e1 e2
   exact hQ _ _ hI2
theorem pd7 (hm : E.P.follows .mixedOrders = true) {id : Nat} {ops : Array Oper} {s : St} {x : e8} {s' : St} {ac : Act} {w : World} {Q : Exit → Act → World → Prop} (ho : he7 ops = true)
  (he:(J0 E H0.length (Dc9 E.P n pr yl S0 ops (ops.size+1) ops.toList S0) s).run=some (x,s')) (hI:I3 E.P WB K J n S0 rv DF ρ0 H0 F0 w0 s ac w) (hQ:∀ac' w',I3 E.P WB K J n S0 rv DF ρ0 H0 F0 w0 s' ac' w'->Q (toX x) ac' w') :
  (Code.region id ops true).wpIn Fe m E.P Q ac w:=by
 have hseg:=Sa0 (Q:=λe a w=>(∀c,e≠.panic c)/\Q e a w) hF hG0 hcalls hJ hyl (ops.size+1) ops.toList S0 0 s x s' ac { w with drawn:=w.drawn+1 } rfl (hI.drawn hJ) he λac' w' h=>⟨λc hc=>(by cases x<;>cases hc),hQ ac' w' h⟩
 have hany:=ye2 (Q:=λe a w=>(∀c,e≠.panic c)/\Q e a w) (ye1 ho) hF (λc a w h=>h.1 c rfl) (by simpa using hseg)
 exact wpIn_mono (wpIn_region_any hm hany) λe a w h=>h.2
theorem Ib6 (hm : E.P.follows .mixedOrders = true) (hrf : He4 E Fe m H0.length rf (I3 E.P WB K J n S0 rv DF ρ0 H0 F0 w0)) : ∀ (c : Code) (cur : Nat) (s : St) (x : e8) (s' : St), (J0 E H0.length (na4 E.P n pr yl S0 kp rf cur c) s).run = some (x, s') → ∀ (ac : Act) (w : World) (Q : Exit → Act → World → Prop), I3 E.P WB K J n S0 rv DF ρ0 H0 F0 w0 s ac w →
  (∀ac' w',I3 E.P WB K J n S0 rv DF ρ0 H0 F0 w0 s' ac' w'->Q (toX x) ac' w')->c.wpIn Fe m E.P Q ac w:=by
 intro c
 induction c with
 |skip =>
  intro cur s x s' he ac w Q hI hQ;have he':some (e8.normal,s)=some (x,s'):=he;injection he' with he';injection he' with e1 e2;subst e1 e2
  exact wpIn_skip (hQ _ _ hI)
 |region id ops d =>
  intro cur s x s' he ac w Q hI hQ;cases d with
  |true =>
   simp only[na4] at he
   split at he
   ·rename_i ho;rw[Qfa] at ho;exact pd7 hF hG0 hcalls hJ hyl hm ho.2 he hI hQ
   split at he
   case h_2=>cases he
   rename_i hc;obtain⟨hinv,hheld,hdf⟩:=hI;exact Rd8 hm hF hG0 hcalls hJ hinv he λac' w' hI' hd' hsm=>hQ ac' w' (I3.less (S:=rmL S0 (Ib5 ops.toList)) ⟨hI',uc4 hheld hsm,by rw[hd'];exact hdf⟩ hc)
  |false =>
   refine wpIn_region ?_;rw[List.range_eq_range']
   have:=Sa0 (Q:=Q) hF hG0 hcalls hJ hyl (ops.size+1) ops.toList S0 0 s x s' ac w rfl hI he hQ
   simpa using this
 |seq a b iha ihb =>
  intro cur s x s' he ac w Q hI hQ;obtain⟨x1,s1,h1,h2,h3⟩:=Pb3 he;refine wpIn_seq (iha cur s x1 s1 h1 ac w _ hI λac' w' hI'=>?_)
  cases x1 with
  |normal=>exact ihb cur s1 x s' (h2 rfl) ac' w' Q hI' hQ
  |exit id =>
   obtain⟨rfl,rfl⟩:=h3 (by simp)
   exact hQ _ _ hI'
  |ret =>
   obtain⟨rfl,rfl⟩:=h3 (by simp)
   exact hQ _ _ hI'
 |cond c a b iha ihb =>
  intro cur s x s' he ac w Q hI hQ;simp only[na4] at he
  split at he
  case h_2=>cases he
  rename_i hc;have he':(match d8 E s.a (g9 c) with
   |.v (.bool t)=>DT.ite t (J0 E H0.length (na4 E.P n pr yl S0 kp rf cur a) s) (J0 E H0.length (na4 E.P n pr yl S0 kp rf cur b) s)
   |_=>DT.fail).run=some (x,s'):=he
  obtain⟨ρ,F,W',up,hI2⟩:=hI.inv;have hr:=Za5 hI2.vals hI2.size (hG0.adv hI2.core.adv) c hc
  revert he' hr
  generalize d8 E s.a (g9 c)=u;intro he' hr
  split at he'
  ·rename_i t;have ht:=Gd3 hr
   rcases DT.run_ite_some he' with⟨rfl,h⟩|⟨rfl,h⟩
   ·exact wpIn_cond_true ht (iha cur s x s' h ac w Q hI hQ)
   ·exact wpIn_cond_false ht (ihb cur s x s' h ac w Q hI hQ)
  ·cases he'
 |block id a ih =>
  intro cur s x s' he ac w Q hI hQ;obtain⟨⟨x1,s1⟩,h1,h2⟩:=DT.run_bind_some (show ((J0 E H0.length (na4 E.P n pr yl S0 kp rf id a) s).bind λr=>e8.rec (motive:=λ_=>DT (e8×St)) (.ret (.normal,r.2))
   (λid'=>Bool.rec (.ret (.exit id',r.2)) (.ret (.normal,r.2)) (Nat.beq id' id)) (.ret (.ret,r.2)) r.1).run=some (x,s') from he)
  refine wpIn_block (ih id s x1 s1 h1 ac w _ hI λac' w' hI'=>?_)
  cases x1 with
  |normal =>
   have h2':some (e8.normal,s1)=some (x,s'):=h2;injection h2' with h2';injection h2' with e1 e2;subst e1 e2
   exact hQ _ _ hI'
  |ret =>
   have h2':some (e8.ret,s1)=some (x,s'):=h2;injection h2' with h2';injection h2' with e1 e2;subst e1 e2
   exact hQ _ _ hI'
  |exit id' =>
   have h2':(Bool.rec (motive:=λ_=>DT (e8×St)) (.ret (.exit id',s1)) (.ret (.normal,s1)) (Nat.beq id' id)).run=some (x,s'):=h2
   show if id'=id then Q .normal ac' w' else Q (.exit id') ac' w'
   cases hb:Nat.beq id' id with
   |true =>
    rw[hb] at h2';have h3:some (e8.normal,s1)=some (x,s'):=h2';injection h3 with h3;injection h3 with e1 e2;subst e1 e2
    rw[if_pos (Qff hb)];exact hQ _ _ hI'
   |false =>
    rw[hb] at h2';have h3:some (e8.exit id',s1)=some (x,s'):=h2';injection h3 with h3;injection h3 with e1 e2;subst e1 e2
    rw[if_neg (Nat.ne_of_beq_eq_false hb)];exact hQ _ _ hI'
 |loop a ih =>
  intro cur s x s' he ac w Q hI hQ;exact wpIn_loop_rounds E.N (fc1 hF hG0 hcalls hJ hyl (ih cur) E.N s x s' he ac w Q hI hQ)
 |rangeFunc g ps asq body _ _ =>
  intro cur s x s' he ac w Q hI hQ;exact hrf g ps asq body s s' x ac w Q he hI hQ
 |exit id =>
  intro cur s x s' he ac w Q hI hQ;have he':some (e8.exit id,s)=some (x,s'):=he;injection he' with he';injection he' with e1 e2;subst e1 e2
  exact wpIn_exit (hQ _ _ hI)
 |ret =>
  intro cur s x s' he ac w Q hI hQ;have he':some (e8.ret,s)=some (x,s'):=he;injection he' with he';injection he' with e1 e2;subst e1 e2
  exact wpIn_ret (hQ _ _ hI)
 |label l =>
  intro cur s x s' he ac w Q hI hQ;have he':some (e8.normal,s)=some (x,s'):=he;injection he' with he';injection he' with e1 e2;subst e1 e2
  exact wpIn_label (hQ _ _ hI)
 |_ =>
  intro cur s x s' he;cases he
end
end
def ub3(st:LoopState)(pe:Option Code)(fn:FuncId)(tm:List Value)(ps:Array Tmp)(asq body:Code)(D:Nat):Obj :=
 .loop { state:=st,pending:=pe,fn,tmps:=tm.toArray,params:=ps,assign:=asq,body,defers:=D }
def Xb3:Option Code->Option Value
 |none=>some (.int .i64 (.ofNat 0))
 |some .ret=>some (.int .i64 (.ofNat 1))
 |some (.exit id)=>some (.int .i64 (.ofNat (id+2)))
 |_=>none
def KR(l:Nat)(Ds:List Nat):Nat->Prop:=λk=>k=l\/k∈Ds
def Hd2(Ds:List Nat)(w:World):Prop:=∀d∈Ds,w.heap[d]?=some (.deferred (some []))
def JI(l D:Nat)(Ds:List Nat)(fn:FuncId)(tm:List Value)(ps:Array Tmp)(asq body:Code)(up:List Value)(w:World):Prop :=
 ∃pe v,Xb3 pe=some v/\up=v::tm/\w.heap[l]?=some (ub3 (if pe.isNone then .ready else .done) pe fn tm ps asq body D)/\Hd2 Ds w
def JR(l D:Nat)(Ds:List Nat)(fn:FuncId)(tm:List Value)(ps:Array Tmp)(asq body:Code)(st:LoopState)(inn:List Value)(up:List Value)(w:World):Prop :=
 up=inn++Value.int .i64 (.ofNat 0)::tm/\w.heap[l]?=some (ub3 st none fn tm ps asq body D)/\Hd2 Ds w
def noD:List Deferred->Prop:=λds=>ds=[]
theorem ie0(l D:Nat)(Ds:List Nat)(fn:FuncId)(tm:List Value)(ps:Array Tmp)(asq body:Code):Bb6 (KR l Ds) (JI l D Ds fn tm ps asq body):=λup w w' h ⟨pe,v,h1,h2,h3,h4⟩ =>
 ⟨pe,v,h1,h2,(h l (.inl rfl)).trans h3,λd hd=>(h d (.inr hd)).trans (h4 d hd)⟩
theorem ie1(l D:Nat)(Ds:List Nat)(fn:FuncId)(tm:List Value)(ps:Array Tmp)(asq body:Code)(st:LoopState)(inn:List Value):Bb6 (KR l Ds) (JR l D Ds fn tm ps asq body st inn):=λup w w' h ⟨h1,h2,h3⟩ =>
 ⟨h1,(h l (.inl rfl)).trans h2,λd hd=>(h d (.inr hd)).trans (h3 d hd)⟩
section
variable{P:Program}{WB K:Nat->Prop}{J J':List Value->World->Prop}{DF:List Deferred->Prop}{S S0:HL}{rv:Value}{ρ ρ0:Rho}{H H0 H':List c8}{F F0:Fz}{w w0 w':World}{W':Nat->Prop}{up up':List Value}{E:Env}{n m:Nat}{Fe:Fence}{a:List b7}{ac:Act}{ds ds':List Deferred}
theorem C2.re(h:C2 P WB K J ρ0 H0 F0 w0 H ds w ρ F W' up)(hJ:J' up' w)(hM:Db2 WB W' ds' w):C2 P WB K J' ρ0 H0 F0 w0 H ds' w ρ F W' up' :=
 ⟨h.sub,h.adv,h.hrel,h.srel,h.kept,h.far,hJ,hM⟩
theorem Hd2.turn{w:World}{l:Nat}{r:Loop}{Ds:List Nat}(h:Hd2 Ds w)(hl:w.heap[l]?=some (.loop r))(o:Obj):Hd2 Ds (w.putObj l o):=λd hd=>by
 have hne:d≠l:=λe=>by
  have:=h d hd
  rw[e,hl] at this;cases this
 rw[World.putObj_heap_other hne];exact h d hd
theorem zb7:Db2 WB W' [] w:=⟨λd hd=>by simp at hd,List.nodup_nil⟩
theorem Hd3{k:Nat}{o:Obj}(hk:w.heap[k]?=some o)(ho:∀cc t fr,o≠.cells cc t fr)(b:Nat):w.cell? ⟨k,b,none⟩=none:=by
 cases o with
 |cells=>exact (ho _ _ _ rfl).elim
 |_=>simp[World.cell?,hk]
theorem C2.turn (h : C2 P WB K J ρ0 H0 F0 w0 H ds w ρ F W' up) (k : Nat) (o o' : Obj) (hk : w.heap[k]? = some o) (ho : ∀ cc t fr, o ≠ .cells cc t fr) (hm : ∀ es clk, o ≠ .map es clk) (hWB : WB k) (hnW : ¬ W' k)
  (hJ:J' up' (w.putObj k o')) (hM:Db2 WB W' ds' (w.putObj k o')):C2 P WB K J' ρ0 H0 F0 w0 H ds' (w.putObj k o') ρ F W' up'/\Tr ρ H F w ρ H F (w.putObj k o'):=by
 have hlt:=(Qfb.1 hk).1;have hnF:∀b,¬ F k b:=λb hf=>by
  have:=h.hrel.frz k b hf
  rw[Hd3 hk ho b] at this;cases this
 have hbase:C2 P WB K (λ_ _=>True) ρ0 H0 F0 w0 H [] w ρ F W' up':=h.re trivial zb7
 obtain⟨c1,c2⟩:=hbase.change (w':=w.putObj k o') (H':=H) (up':=up') k hWB hnW hnF rfl rfl rfl (Qfs _) (by simp) (λj hj=>World.putObj_heap_other hj)
  (λcc t fr hc=>by rw[hk] at hc;injection hc with hc;exact (ho _ _ _ hc).elim) rfl (λid b hb=>⟨b,hb,rfl,rfl,rfl,rfl,Qfs _,λ_=>rfl⟩) (λid b hb _ _ _=>hb)
  (λ_ id b hb hs hd e=>by
   obtain⟨_,_,_,_,hc⟩:=h.srel.has id b hb hs hd;rw[e] at hc
   rcases hc with⟨_,row,vs,t,_,m2,_⟩|⟨t,Kt,El,fl,es,clk,_,_,_,m4,_⟩
   ·rw[hk] at m2;injection m2 with m2;exact (ho _ _ _ m2).elim
   ·rw[hk] at m4;injection m4 with m4;exact (hm _ _ m4).elim)
  trivial (λD hD=>by simp at hD)
 exact⟨c1.re hJ hM,c2⟩
end
section
variable{P:Program}{WB K:Nat->Prop}{J J':List Value->World->Prop}{DF:List Deferred->Prop}{S S0:HL}{rv:Value}{ρ ρ0:Rho}{H H0 H':List c8}{F F0:Fz}{w w0 w':World}{W':Nat->Prop}{up up':List Value}{E:Env}{n m:Nat}{Fe:Fence}{a b:List b7}{ac:Act}{ds ds':List Deferred}{vs us:List Value}
theorem VR.drop(h:VR ρ H F w a (vs++us)){k:Nat}(hk:vs.length=k):VR ρ H F w (i6 a k) us:=by
 have hl:=h.1;rw[Qfe] at hl;rw[E7];refine⟨by rw[List.length_drop];omega,λi x x' hx hx'=>?_⟩
 rw[List.getElem?_drop] at hx;refine h.2 (k+i) x x' hx ?_;rw[Qfc (by omega),hk,Nat.add_sub_cancel_left]
 exact hx'
theorem VR.take(h:VR ρ H F w a (vs++us)){k:Nat}(hk:vs.length=k):VR ρ H F w (G7 a k) vs:=by
 have hl:=h.1;rw[Qfe] at hl;rw[H8];refine⟨by rw[List.length_take];omega,λi x x' hx hx'=>?_⟩
 have hi:=(Qfh.1 hx').1;rw[Qfw,if_pos (by omega)] at hx
 exact h.2 i x x' hx (by rw[Qfd hi];exact hx')
theorem VR.app(h:VR ρ H F w a vs)(h':VR ρ H F w b us):VR ρ H F w (Ev.app a b) (vs++us):=by
 rw[E1];refine⟨by rw[Qfe,Qfe,h.1,h'.1],λi x x' hx hx'=>?_⟩
 rcases Qfx i a.length with hi|hi
 ·rw[Qfd hi] at hx;rw[Qfd (h.1 ▸ hi)] at hx';exact h.2 i x x' hx hx'
 ·rw[Qfc hi] at hx;rw[Qfc (h.1 ▸ hi)] at hx';rw[h.1] at hx;exact h'.2 _ x x' hx hx'
theorem VR.cons{x:b7}{x':Value}(hx:XW ρ H F w x x')(h:VR ρ H F w a vs):VR ρ H F w (x::a) (x'::vs):=by
 refine⟨by simp[h.1],λi y y' hy hy'=>?_⟩
 cases i with
 |zero=>simp at hy hy';subst hy hy';exact hx
 |succ i=>exact h.2 i y y' (by simpa using hy) (by simpa using hy')
theorem VR.head{v:Value}(h:VR ρ H F w a (v::vs)):XW ρ H F w (hdA a) v:=by
 cases a with
 |nil=>exact .w (.unk _)
 |cons x a=>exact h.2 0 x v rfl rfl
theorem VR.set(h:VR ρ H F w a vs){x:b7}{x':Value}(hx:XW ρ H F w x x')(k:Nat):VR ρ H F w (setAt a k x) (vs.set k x'):=by
 rw[y9];refine⟨by simp[h.1],λi y y' hy hy'=>?_⟩
 rw[List.getElem?_set] at hy hy';by_cases hi:k=i
 ·subst hi;rw[if_pos rfl] at hy hy'
  split at hy
  ·split at hy'
   ·injection hy with hy;injection hy' with hy';subst hy hy';exact hx
   ·cases hy'
  ·cases hy
 ·rw[if_neg hi] at hy hy';exact h.2 i y y' hy hy'
theorem VR.setUp{v0 v:Value}{x:b7}(h:VR ρ H F w a (vs++v0::us)){k:Nat}(hk:vs.length=k)(hx:XW ρ H F w x v):VR ρ H F w (setAt a k x) (vs++v::us):=by
 have:=h.set hx k
 rwa [List.set_append_right _ _ (by omega),hk,Nat.sub_self] at this
theorem xd7 : ∀ (ps : List Nat) (vals : List b7) (avs : List Value) (base : List b7) (arr : List Value), vals.length = ps.length → avs.length = ps.length → (∀ (i : Nat) x x', vals[i]? = some x → avs[i]? = some x' → XW ρ H F w x x') → VR ρ H F w base arr →
  VR ρ H F w (ue9 ps vals base) ((ps.zip avs).foldl (λt pv=>t.set pv.1 pv.2) arr)
 |[],vals,avs,base,arr,h1,h2,h3,h4=>h4
 |p::ps,[],avs,base,arr,h1,h2,h3,h4=>by simp at h1
 |p::ps,v::vals,[],base,arr,h1,h2,h3,h4=>by simp at h2
 |p::ps,v::vals,u::avs,base,arr,h1,h2,h3,h4 =>
  xd7 ps vals avs (setAt base p v) (arr.set p u) (by simpa using h1) (by simpa using h2) (λi x x' hx hx'=>h3 (i+1) x x' (by simpa using hx) (by simpa using hx')) (h4.set (h3 0 v u rfl rfl) p)
theorem Kc8:∀(l:List (Nat×Value)) (t:Array Value),(l.foldl (λt pv=>t.setIfInBounds pv.1 pv.2) t).toList=l.foldl (λt pv=>t.set pv.1 pv.2) t.toList
 |[],t=>rfl
 |(p,v)::l,t=>by
  simp only[List.foldl_cons];rw[Kc8 l,Qfl]
theorem uc9(ps:Array Nat)(args:Array Value)(t:Array Value):((ps.zip args).foldl (λtmps (t,a)=>tmps.setIfInBounds t a) t).toList=(ps.toList.zip args.toList).foldl (λt pv=>t.set pv.1 pv.2) t.toList:=by
 rw[<- Array.foldl_toList,Array.toList_zip];exact Kc8 _ t
theorem dd8(ps:Array Nat)(args:Array Value)(t:Array Value):((ps.zip args).foldl (λtmps (t,a)=>tmps.setIfInBounds t a) t).size=t.size:=by
 rw[<- Array.length_toList,uc9,<- Array.length_toList];generalize ps.toList.zip args.toList=l;generalize t.toList=tl
 induction l generalizing tl with
 |nil=>rfl
 |cons p l ih=>rw[List.foldl_cons,ih];simp
theorem Rc5{x:b7}(h:nc7 x=true):x=.v (.int .i64 (.ofNat 0)):=by
 unfold nc7 at h
 split at h
 ·split at h
  ·rfl
  ·cases h
 ·cases h
theorem Hd4{pe:Option Code}(h:Xb3 pe=some (.int .i64 (.ofNat 0))):pe=none:=by
 unfold Xb3 at h
 split at h
 ·rfl
 ·cases h
 ·injection h with h;injection h with _ h;injection h with h;omega
 ·cases h
variable{l D:Nat}{Ds:List Nat}{fnO:FuncId}{tm:List Value}{ps:Array Tmp}{asC bodyC:Code}{rd:Rd}{k:Nat}
def pd8(E:Env)(WB:Nat->Prop)(l D:Nat)(Ds:List Nat)(fnO:FuncId)(tm:List Value)(ps:Array Tmp)(asC bodyC:Code)(nOut:Nat)(ρ0:Rho)(H0:List c8)(F0:Fz)(w0:World)(Fe:Fence)(m k:Nat)(st:LoopState)(c:Code)(pc:PC):Prop :=
 ∀(inn:List Value) (s:St) (x:e8) (s':St),(J0 E k pc s).run=some (x,s')->∀(ac:Act) (w:World) (Q:Exit->Act->World->Prop),
  I3 E.P WB (KR l Ds) (JR l D Ds fnO tm ps asC bodyC st inn) nOut [] undef noD ρ0 H0 F0 w0 s ac w ->
  (∀ac' w',I3 E.P WB (KR l Ds) (JR l D Ds fnO tm ps asC bodyC st inn) nOut [] undef noD ρ0 H0 F0 w0 s' ac' w'->Q (toX x) ac' w')->c.wpIn (Fe.inRound l) m E.P Q ac w
theorem ie2 (hF : FW Fe) (hG0 : GOk E F0 w0) (hps : rd.ps = ps.toList) (hnO : tm.length = rd.nOut) (hWl : WB l)
  (hAs:pd8 E WB l D Ds fnO tm ps asC bodyC rd.nOut ρ0 H0 F0 w0 Fe (m-1) k .ready asC rd.asq) (hBo:pd8 E WB l D Ds fnO tm ps asC bodyC rd.nOut ρ0 H0 F0 w0 Fe (m-1) k .busy bodyC rd.body) :
  YOk E Fe m n k rd λS=>I3 E.P WB (KR l Ds) (JI l D Ds fnO tm ps asC bodyC) n S (.func (.yield l) #[] #[]) noD ρ0 H0 F0 w0:=by
 intro ops i o S args g s s' xx ac w rest Q hi hy hg hgn hdn hlt hlen hI he hQ;obtain⟨⟨ρ,F,W',up,hI2⟩,hheld,hdf⟩:=hI;obtain⟨pe,v,hpe,rfl,hrec,hdd⟩:=hI2.core.jot
 obtain ⟨s1, h1, h2⟩ := DT.run_bind_some (show ((nc6 E s o.dst g fun s => match nc7 (hdA (i6 s.a n)) with
   |true=>(J0 E k rd.asq (Oc0 E s (args.map g9) n rd.nOut rd.ps)).bind λr0 =>
    e8.rec (motive:=λ_=>DT St) ((J0 E k rd.body r0.2).bind λr=>.ret (qc3 o.dst n rd.nOut r)) (λ_=>.fail) .fail r0.1
   |false=>.fail).bind λs=>.ret (e8.normal,s)).run=some (xx,s') from he)
 have h2:some (e8.normal,s1)=some (xx,s'):=h2;injection h2 with h2;injection h2 with e1 e2;subst e1 e2
 have hQ:=hQ rfl;simp only[wpOpsIn,hi]
 rcases Db3 hg hgn hI2.vals hI2.size h1 with⟨hw,hd⟩|⟨hw,rfl⟩
 case inr =>
  rw[if_neg (by simp[hw])]
  exact⟨λf _=>hF.fn f,hQ _ _ ⟨⟨ρ,F,W',_,by rw[w6];exact hI2.core,hI2.vals.putA hI2.size hdn (.w (.ofv _)),(ga8 _ _).trans hI2.size⟩,Ua2 hheld,by rw[w6];exact hdf⟩⟩
 rw[if_pos hw];have htl:ac.tmps.toList.length=n:=by rw[Array.length_toList];exact hI2.size
 have hup:VR ρ s.H F w (i6 s.a n) (v::tm):=hI2.vals.drop htl
 split at hd
 case h_2=>cases hd
 rename_i hnd;have hv0:v=.int .i64 (.ofNat 0):=by
  have:=hup.head
  rw[Rc5 hnd] at this;exact Gd3 this
 subst hv0;have hpe0:=Hd4 hpe;subst hpe0;have hrec:w.heap[l]?=some (ub3 .ready none fnO tm ps asC bodyC D):=hrec;obtain⟨⟨x0,s2⟩,h3,h4⟩:=DT.run_bind_some hd;cases x0 with
 |exit id=>cases h4
 |ret=>cases h4
 |normal =>
 obtain⟨⟨x2,s3⟩,h5,h6⟩:=DT.run_bind_some h4;have h6:some (qc3 o.dst n rd.nOut (x2,s3))=some s1:=h6;injection h6 with h6;subst h6
 -- the operation asks for a round
 unfold Pb0 at hy
 split at hy
 case h_2=>cases hy
 rename_i c ho
 split at hy
 case h_2=>cases hy
 rename_i t hcal;rw[hg] at hy
 simp only at hy
 split at hy
 case isFalse=>cases hy
 rename_i hS;injection hy with hy;have hev:ac.eval (.tmp t)=.func (.yield l) #[] #[]:=by
  have ht:=Xb0 hheld hS ((ub1 hg).1 hw);show ac.tmps.getD t undef=_;have hlt:=(Qfb.1 ht).1
  have:=(Qfb.1 ht).2
  simp[Array.getD,hlt,this]
 have hnd':∀c',o.op≠.defer c':=λc' e=>by rw[ho] at e;cases e
 have hasz:(c.args.map ac.eval).size=ps.size:=by
  rw[Array.size_map]
  have:c.args.toList.length=ps.toList.length:=by rw[hy,<- hps];exact hlen
  simpa using this
 have hyield:=run_yield (P:=E.P) (args:=c.args.map ac.eval) hrec hasz;have hsem:(o.semAt Fe.round ac.eval).run E.P w=.ok (.round l fnO ((ps.zip (c.args.map ac.eval)).foldl (λtmps (t,a)=>tmps.setIfInBounds t a) tm.toArray) asC bodyC) w:=by
  rw[Oper.semAt_eq _ _ _ hnd'];have e:(execOp ac.eval o).run E.P w=(Instr.yield l (c.args.map ac.eval)).run E.P w:=by
   have hres:resolve ac.eval c o.type=pure { target:=.fn (.yield l) #[],args:=c.args.map ac.eval }:=by
    unfold resolve;rw[hcal]
    simp only
    rw[hev];simp[Deferred.ofValue]
   have e1:execOp ac.eval o=(do let d <- resolve ac.eval c o.type;invoke d.target d.args):=by
    unfold execOp;rw[ho]
   rw[e1,hres];rfl
  rw[e];exact hyield
 refine⟨λf _=>hF.fn f,?_⟩
 rw[hsem,Oper.uponIn_round];refine⟨λhd=>hF.depS hd,roundIn_of_wpIn (hF.fn _) ?_⟩
 -- the round's frame
 have hm0:C2 E.P WB (KR l Ds) (JR l D Ds fnO tm ps asC bodyC .ready ac.tmps.toList) ρ0 H0 F0 w0 s.H [] w ρ F W' (ac.tmps.toList++Value.int .i64 (.ofNat 0)::tm):=hI2.core.re ⟨rfl,hrec,hdd⟩ zb7;have hbase:VR ρ s.H F w (G7 (i6 s.a (n+1)) rd.nOut) tm:=by
  have h0:VR ρ s.H F w s.a ((ac.tmps.toList++[Value.int .i64 (.ofNat 0)])++(tm++[])):=by simpa using hI2.vals
  exact (h0.drop (by simp[htl])).take hnO
 have hargs:∀(j:Nat) x x',(s8 (d8 E s.a) (args.map g9))[j]?=some x->(c.args.map ac.eval).toList[j]?=some x'->XW ρ s.H F w x x':=λj x x' hx hx'=>by
  rw[n4,List.map_map,Qfi] at hx;rw[Array.toList_map,hy,Qfi] at hx';cases hq:args[j]? with
  |none=>rw[hq] at hx;cases hx
  |some q =>
   rw[hq] at hx hx';injection hx with hx;injection hx' with hx'
   subst hx hx';rw[Qfj] at hlt;exact Za5 hI2.vals hI2.size (hG0.adv hI2.core.adv) q (hlt q (List.mem_of_getElem? hq))
 have hfr : I3 E.P WB (KR l Ds) (JR l D Ds fnO tm ps asC bodyC .ready ac.tmps.toList) rd.nOut [] undef noD ρ0 H0 F0 w0 (Oc0 E s (args.map g9) n rd.nOut rd.ps)
   { tmps:=(ps.zip (c.args.map ac.eval)).foldl (λtmps (t,a)=>tmps.setIfInBounds t a) tm.toArray,defers:=[] } w:=by
  refine⟨⟨ρ,F,W',_,hm0,?_,?_⟩,λt ht=>by simp at ht,rfl⟩
  ·show VR ρ s.H F w (app (ue9 rd.ps (s8 (d8 E s.a) (args.map g9)) (G7 (i6 s.a (n+1)) rd.nOut)) s.a) _;refine VR.app ?_ hI2.vals;rw[uc9,hps]
   have:=xd7 (ρ:=ρ) (H:=s.H) (F:=F) (w:=w) ps.toList (s8 (d8 E s.a) (args.map g9)) (c.args.map ac.eval).toList _ tm (by rw[n4];simp[hlen,hps]) (by rw[Array.length_toList,hasz,Array.length_toList]) hargs hbase
   simpa using this
  ·rw[dd8];simpa using hnO
 refine hAs ac.tmps.toList _ .normal s2 h3 _ w _ hfr λac1 w1 hI1=>?_
 obtain⟨⟨ρ1,F1,W1,up1,hI1⟩,_,hdf1⟩:=hI1;obtain⟨rfl,hrec1,hdd1⟩:=hI1.core.jot;refine⟨_,run_beginRound hrec1 rfl,?_⟩;have hKl:KR l Ds l:=.inl rfl;obtain⟨b1,b2⟩:=hI1.core.turn (J':=JR l D Ds fnO tm ps asC bodyC .busy ac.tmps.toList) (up':=ac.tmps.toList++Value.int .i64 (.ofNat 0)::tm) (ds':=ac1.defers) l _ (ub3 .busy none fnO tm ps asC bodyC D) hrec1 (λ_ _ _ e=>by cases e) (λ_ _ e=>by cases e) hWl (hI1.core.kept l hKl).1
  ⟨rfl,World.putObj_heap_same (hI1.core.kept l hKl).2,hdd1.turn hrec1 _⟩ (by have:ac1.defers=[]:=hdf1;rw[this];exact zb7)
 refine hBo ac.tmps.toList s2 x2 s3 h5 ac1 _ _ ⟨⟨ρ1,F1,W1,_,b1,hI1.vals.tr b2,hI1.size⟩,λt ht=>by simp at ht,hdf1⟩ λac2 w2 hI3=>?_
 obtain⟨⟨ρ2,F2,W2,up2,hI3⟩,_,hdf3⟩:=hI3;obtain⟨rfl,hrec2,hdd2⟩:=hI3.core.jot;have hdefs:ac.defers=[]:=hdf;have hkl:=(hI3.core.kept l hKl);have hdrop:VR ρ2 s3.H F2 w2 (i6 s3.a rd.nOut) (ac.tmps.toList++Value.int .i64 (.ofNat 0)::tm):=hI3.vals.drop (by rw[Array.length_toList];exact hI3.size)
 have hfin:∀(pe:Option Code) (v:Value),Xb3 pe=some v->C2 E.P WB (KR l Ds) (JI l D Ds fnO tm ps asC bodyC) ρ0 H0 F0 w0 s3.H [] (w2.putObj l (ub3 (if pe.isNone then .ready else .done) pe fnO tm ps asC bodyC D)) ρ2 F2 W2 (v::tm)/\Tr ρ2 s3.H F2 w2 ρ2 s3.H F2 (w2.putObj l (ub3 (if pe.isNone then .ready else .done) pe fnO tm ps asC bodyC D)):=λpe v hpe =>
  hI3.core.turn l _ _ hrec2 (λ_ _ _ e=>by cases e) (λ_ _ e=>by cases e) hWl hkl.1 ⟨pe,v,hpe,rfl,World.putObj_heap_same hkl.2,hdd2.turn hrec2 _⟩ zb7
 cases x2 with
 |normal =>
  refine⟨_,_,run_endRound none hrec2,hQ _ _ ?_⟩;obtain⟨c1,c2⟩:=hfin none _ rfl;exact⟨⟨ρ2,F2,W2,_,by rw[w6,hdefs];exact c1,(hdrop.tr c2).putA hI2.size hdn (.w (.val (.cell (.v _)))),(ga8 _ _).trans hI2.size⟩,Ua2 hheld,by rw[w6];exact hdf⟩
 |ret =>
  refine⟨_,_,run_endRound (some .ret) hrec2,hQ _ _ ?_⟩;obtain⟨c1,c2⟩:=hfin (some .ret) _ rfl;exact⟨⟨ρ2,F2,W2,_,by rw[w6,hdefs];exact c1,((hdrop.tr c2).setUp htl (.w (.val (.cell (.v _))))).putA hI2.size hdn (.w (.val (.cell (.v _)))),(ga8 _ _).trans hI2.size⟩,Ua2 hheld,by rw[w6];exact hdf⟩
 |exit id =>
  refine⟨_,_,run_endRound (some (.exit id)) hrec2,hQ _ _ ?_⟩;obtain⟨c1,c2⟩:=hfin (some (.exit id)) _ rfl;exact⟨⟨ρ2,F2,W2,_,by rw[w6,hdefs];exact c1,((hdrop.tr c2).setUp htl (.w (.val (.cell (.v _))))).putA hI2.size hdn (.w (.val (.cell (.v _)))),(ga8 _ _).trans hI2.size⟩,Ua2 hheld,by rw[w6];exact hdf⟩
end
section
variable{P:Program}{WB K K':Nat->Prop}{J J':List Value->World->Prop}{ρ ρ0:Rho}{H H0 H':List c8}{F F0:Fz}{w w0 w':World}{W':Nat->Prop}{up up':List Value}{E:Env}{n m:Nat}{a b:List b7}{ac:Act}{ds ds':List Deferred}{vs us:List Value}
theorem C2.reK(h:C2 P WB K J ρ0 H0 F0 w0 H ds w ρ F W' up)(hk:∀k,K' k->¬ W' k/\k<w.heap.size)(hf:∀(id:Nat) b,H[id]?=some b->y8 b=true->b.dead=false->¬ K' (ρ id).blk):C2 P WB K' J ρ0 H0 F0 w0 H ds w ρ F W' up :=
 ⟨h.sub,h.adv,h.hrel,h.srel,hk,hf,h.jot,h.marks⟩
def Za6(d:Deferred):Nat:=match d.target with
 |.collected r=>r
 |_=>0
def Kc9(D:Nat):Deferred:={ target:=.collected D,args:=#[] }
def Hd5:List Value->World->Prop:=λup _=>up=[]
def ie3:Nat->Prop:=λ_=>False
def Ne3:List Deferred->Prop:=λ_=>True
theorem Db2.at(h:Db2 WB W' ds w){D:Nat}(hD:D∈ds.map Za6):Kc9 D∈ds/\w.heap[D]?=some (.deferred (some []))/\¬ W' D/\D<w.heap.size/\WB D:=by
 obtain⟨d,hd,rfl⟩:=Qfo.1 hD;obtain⟨D,rfl,h2,h3,h4,h5⟩:=h.1 d hd;exact⟨hd,h2,h3,h4,h5⟩
abbrev ie4(P:Program)(WB:Nat->Prop)(n:Nat)(ρ0:Rho)(H0:List c8)(F0:Fz)(w0:World):St->Act->World->Prop:=I3 P WB ie3 Hd5 n [] undef Ne3 ρ0 H0 F0 w0
theorem pd9 {x : b7} {s s' : St} {xx : e8} {v : Value} {pe : Option Code} (h : (rb2 x s).run = some (xx, s')) (hx : XW ρ H F w x v) (hp : Xb3 pe = some v) :
  s'=s/\((pe=none/\xx=.normal)\/(pe=some .ret/\xx=.ret)\/∃id,pe=some (.exit id)/\xx=.exit id):=by
 unfold rb2 at h
 split at h
 case h_2=>cases h
 rename_i n;have hv:=Gd3 hx;subst hv;have hn:∀c,Xb3 pe=some (.int .i64 (.ofNat c))->(c=0/\pe=none)\/(c=1/\pe=some .ret)\/∃id,c=id+2/\pe=some (.exit id):=λc hc=>by
  unfold Xb3 at hc
  split at hc
  ·injection hc with hc;injection hc with _ hc;injection hc with hc;exact .inl ⟨hc.symm,rfl⟩
  ·injection hc with hc;injection hc with _ hc;injection hc with hc;exact .inr (.inl ⟨hc.symm,rfl⟩)
  ·rename_i id;injection hc with hc;injection hc with _ hc;injection hc with hc;exact .inr (.inr ⟨id,hc.symm,rfl⟩)
  ·cases hc
 rcases hn n hp with⟨rfl,rfl⟩|⟨rfl,rfl⟩|⟨id,rfl,rfl⟩
 ·have h:some (e8.normal,s)=some (xx,s'):=h;injection h with h;injection h with e1 e2;subst e1 e2
  exact⟨rfl,.inl ⟨rfl,rfl⟩⟩
 ·have h:some (e8.ret,s)=some (xx,s'):=h;injection h with h;injection h with e1 e2;subst e1 e2
  exact⟨rfl,.inr (.inl ⟨rfl,rfl⟩)⟩
 ·have h:some (e8.exit id,s)=some (xx,s'):=h;injection h with h;injection h with e1 e2;subst e1 e2
  exact⟨rfl,.inr (.inr ⟨id,rfl,rfl⟩)⟩
theorem dd9 {caps : List b7} {cv : Array Value} {nIn l : Nat} {s : St} {tm : List Value} (hl : caps.length = cv.size) (hc : ∀ (i : Nat) x x', caps[i]? = some x → cv[i]? = some x' → XW ρ H F w x x') (hs : VR ρ H F w s.a tm) (hle : caps.length + 1 ≤ nIn) :
  VR ρ H F w (jb6 caps nIn s).a ((#[Value.func (.yield l) #[] #[]]++cv++Array.replicate (nIn-(#[Value.func (.yield l) #[] #[]]++cv).size) undef).toList++Value.int .i64 (.ofNat 0)::tm):=by
 have e:(#[Value.func (.yield l) #[] #[]]++cv++Array.replicate (nIn-(#[Value.func (.yield l) #[] #[]]++cv).size) undef).toList++Value.int .i64 (.ofNat 0)::tm=(Value.func (.yield l) #[] #[]::cv.toList)++(List.replicate (nIn-(caps.length+1)) undef++(Value.int .i64 (.ofNat 0)::tm)):=by
  simp[hl,Nat.add_comm]
 rw[e];unfold jb6;simp only[k8];have hrep:∀j,VR ρ H F w (List.replicate j (.v (.tuple #[]))) (List.replicate j undef):=λj=>⟨by simp,λi x x' hx hx'=>by
  rw[Qfp] at hx hx'
  split at hx
  ·split at hx'
   ·injection hx with hx;injection hx' with hx';subst hx hx';exact .w (.ofv _)
   ·contradiction
  ·cases hx⟩
 have hcv:VR ρ H F w caps cv.toList:=⟨by simpa using hl,λi x x' hx hx'=>hc i x x' hx (by simpa using hx')⟩
 exact VR.app (VR.cons (.w (.unk _)) hcv) (VR.app (hrep _) (VR.cons (.w (.val (.cell (.v _)))) hs))
theorem ed0 (hmx : E.P.follows .mixedOrders = true) {h : Ec0} {fnI : Func} {cI : Code} (hG0 : GOk E F0 w0) (hcalls : ∀ f, i5 E.P E.G f (E.call f)) (hfI : E.P.funcs[h.fi]? = some fnI) (hbI : fnI.body = some cI) (hname : fnI.name ≠ "runtime.NumGoroutine") :
  He4 E Fence.wide m H0.length (pd3 E.P h fnI cI n) (ie4 E.P WB n ρ0 H0 F0 w0):=by
 intro g ps asq body s s' x ac w Q he hI hQ;obtain⟨⟨ρ,F,W',up,hI2⟩,_,_⟩:=hI;have hup:up=[]:=hI2.core.jot;subst hup;unfold pd3 at he
 split at he
 case h_2=>cases he
 rename_i hc;simp only[Qfa] at hc;obtain⟨⟨hg,hres⟩,hpsn⟩:=hc
 have he' : (match d8 E s.a (g9 g) with
   |.fn f' caps=>match Nat.beq h.fi f'&&(Nat.ble (len caps+1) fnI.ntmps&&!Nat.ble bfB h.fi) with
    | true => (J0 E H0.length (na4 E.P fnI.ntmps [] (some (He1 E.P h n ps asq body)) [(0, none)] (Hd0 h.ki) Pb1 0 cI) (jb6 caps fnI.ntmps s)).bind fun r =>
      e8.rec (motive:=λ_=>DT (e8×St)) (rb2 (hdA (i6 r.2.a fnI.ntmps)) ⟨i6 r.2.a (fnI.ntmps+1),r.2.H⟩) (λ_=>.fail) (rb2 (hdA (i6 r.2.a fnI.ntmps)) ⟨i6 r.2.a (fnI.ntmps+1),r.2.H⟩) r.1
    |false=>.fail
   |_=>.fail).run=some (x,s'):=he
 have hgr:=Za5 hI2.vals hI2.size (hG0.adv hI2.core.adv) g hg
 revert he' hgr
 generalize d8 E s.a (g9 g)=gv;intro he' hgr
 split at he'
 case h_2=>cases he'
 rename_i f' caps
 split at he'
 case h_2=>cases he'
 rename_i hck;rw[Qfa,k8] at hck;obtain⟨hf',hle⟩:=hck;rw[Qfa] at hle;obtain⟨hle,hlt⟩:=hle;have hlt:Nat.ble bfB h.fi=false:=by simpa using hlt
 have hf':=Qff hf';have hle:=Qfu hle;subst hf';obtain⟨⟨x1,s1⟩,h1,h2⟩:=DT.run_bind_some he';have hgw:A0 ρ (j8 s.H) F w (.fn h.fi caps) (ac.eval g):=by
  cases hgr with
  |w h=>exact h
  |c h=>cases h with
   |n h=>exact .val (.cell h)
 obtain⟨cv,hgv,hcl,hcr⟩:=jb9 hgw;rw[Lb7 hlt] at hgv
 -- the blocks that are laid
 obtain⟨a1,a2,a3,_⟩:=hI2.core.alloc (λ_ _ _ _ h=>h) (.deferred (some []))
 obtain⟨rec0,hrec0⟩:∃r:Loop,r={ state:=.ready,pending:=none,fn:=0,tmps:=ac.tmps,params:=ps,assign:=asq,body,defers:=w.heap.size }:=⟨_,rfl⟩;refine wpIn_rangeFunc λfn _=>?_
 obtain⟨b1,b2,b3,_⟩:=a1.alloc (λ_ _ _ _ h=>h) (.loop { state:=.ready,pending:=none,fn,tmps:=ac.tmps,params:=ps,assign:=asq,body,defers:=w.heap.size })
 have hsz1:(w.alloc (.deferred (some []))).heap.size=w.heap.size+1:=by simp
 rw[hsz1] at b1 b3;generalize hW2:(w.alloc (.deferred (some []))).alloc (.loop { state:=.ready,pending:=none,fn,tmps:=ac.tmps,params:=ps,assign:=asq,body,defers:=w.heap.size })=w2 at b1 b2;have hsz2:w2.heap.size=w.heap.size+2:=by rw[<- hW2];simp
 have hl2:w2.heap[w.heap.size+1]?=some (ub3 .ready none fn ac.tmps.toList ps asq body w.heap.size):=by
  rw[<- hW2]
  have:=World.alloc_heap_new (w.alloc (.deferred (some []))) (.loop { state:=.ready,pending:=none,fn,tmps:=ac.tmps,params:=ps,assign:=asq,body,defers:=w.heap.size })
  rw[hsz1] at this;rw[this];simp[ub3]
 have hd2:w2.heap[w.heap.size]?=some (.deferred (some [])):=by
  rw[<- hW2];have e:∀o:Obj,((w.alloc (.deferred (some []))).alloc o).heap[w.heap.size]?=(w.alloc (.deferred (some []))).heap[w.heap.size]?:=λo=>by
   simp only[World.alloc,Array.getElem?_push,Array.size_push];rw[if_neg (by omega)]
  rw[e];exact World.alloc_heap_new w _
 have hmk:=b1.marks;have hDsOk:Hd2 (w.heap.size::ac.defers.map Za6) w2:=λd hd=>by
  rcases Qfg.1 hd with rfl|hd
  ·exact hd2
  ·exact (hmk.at hd).2.1
 have hnew:C2 E.P WB (KR (w.heap.size+1) (w.heap.size::ac.defers.map Za6)) (JI (w.heap.size+1) w.heap.size (w.heap.size::ac.defers.map Za6) fn ac.tmps.toList ps asq body) ρ0 H0 F0 w0 s.H [] w2 ρ F _ (Value.int .i64 (.ofNat 0)::ac.tmps.toList) :=
  (b1.reK (K':=KR (w.heap.size+1) (w.heap.size::ac.defers.map Za6)) (λk hk=>by
   rcases hk with rfl|hk
   ·exact⟨λhw=>hw.2 rfl,by omega⟩
   ·rcases Qfg.1 hk with rfl|hk
    ·exact⟨λhw=>hw.1.2 rfl,by omega⟩
    ·exact⟨(hmk.at hk).2.2.1,(hmk.at hk).2.2.2.1⟩)
   (λid b hb hs hd hk=>by
    obtain⟨_,_,_,k4,k5⟩:=hI2.core.srel.has id b hb hs hd;obtain⟨_,_,_,_,k6⟩:=b1.srel.has id b hb hs hd
    rcases hk with hk|hk
    ·omega
    ·rcases Qfg.1 hk with hk|hk
     ·omega
     ·have hdd:=(hmk.at hk).2.1
      rcases k6 with⟨_,row,vs,t,_,m2,_⟩|⟨t,Kt,El,fl,es,clk,_,_,_,m4,_⟩
      ·rw[hdd] at m2;cases m2
      ·rw[hdd] at m4;cases m4)).re ⟨none,_,rfl,rfl,hl2,hDsOk⟩ zb7
 have htr:Tr ρ s.H F w ρ s.H F w2:=λx x' hx=>b2 _ _ (a2 _ _ hx)
 have hcb:Ta1 E.P h.fi:=⟨fnI,hfI,by simp[hbI],hname⟩
 refine⟨w.heap.size+1,[Kc9 w.heap.size],w2,{ target:=.fn (.func h.fi) cv,args:=#[.func (.yield (w.heap.size+1)) #[] #[]] },w2,h.fi,#[.func (.yield (w.heap.size+1)) #[] #[]]++cv,w2,?_,?_,λ_ _=>trivial,?_,λhd=>FW.wide.depS hd,?_⟩
 ·rw[<- hW2];exact run_enterLoop_outer _ _ _ _ _
 ·simp only[resolve,rangeCall,hgv];simp[Deferred.ofValue];rfl
 ·simp only[invoke];exact Oa9 hcb _
 refine callsIn_of_wp hfI hbI trivial ?_
 -- the iterator's frame
 have hI0 : I3 E.P WB (KR (w.heap.size + 1) (w.heap.size :: ac.defers.map Za6)) (JI (w.heap.size + 1) w.heap.size (w.heap.size :: ac.defers.map Za6) fn ac.tmps.toList ps asq body) fnI.ntmps [(0, none)] (.func (.yield (w.heap.size + 1)) #[] #[]) noD ρ0 H0 F0 w0 (jb6 caps fnI.ntmps s)
   { tmps:=#[Value.func (.yield (w.heap.size+1)) #[] #[]]++cv++Array.replicate (fnI.ntmps-(#[Value.func (.yield (w.heap.size+1)) #[] #[]]++cv).size) undef,defers:=[] } w2:=by
  refine⟨⟨ρ,F,_,_,hnew,?_,?_⟩,λt ht _=>?_,rfl⟩
  ·refine dd9 hcl (λi x x' hx hx'=>htr _ _ (.w (.val (.cell (hcr i x x' hx hx'))))) ?_ hle
   have h0:=hI2.vals.tr htr;rw[Qfq] at h0;exact h0
  ·simp only[Array.size_append,Qfv]
   have:(#[Value.func (.yield (w.heap.size+1)) #[] #[]]:Array Value).size=1:=rfl
   omega
  ·have:t=(0,none):=by simpa using ht
   subst this;rw[Array.append_assoc,Qfm (show 0<1 by omega)]
   rfl
 have hWl:WB (w.heap.size+1):=b3;have hpart:∀(st:LoopState) (c:Code),pd8 E WB (w.heap.size+1) w.heap.size (w.heap.size::ac.defers.map Za6) fn ac.tmps.toList ps asq body n ρ0 H0 F0 w0 Fence.wide (m-1-1) H0.length st c (na4 E.P n h.pr none [] (Hd0 h.kp) Pb1 0 c):=λst c inn s x s' he ac w Q hI hQ =>
  Ib6 (FW.inRound _) hG0 hcalls (ie1 _ _ _ _ _ _ _ _ _ _) (λrd hrd=>by cases hrd) hmx (λg ps asq body s s' x ac w Q he=>by cases he) c 0 s x s' he ac w Q hI hQ
 refine Ib6 (Fe:=Fence.wide) FW.wide hG0 hcalls (ie0 _ _ _ _ _ _ _ _) (λrd hrd=>?_) hmx (λg ps asq body s s' x ac w Q he=>by cases he) cI 0 _ x1 s1 h1 _ w2 _ hI0 λac3 w3 hI3=>?_
 ·injection hrd with hrd;subst hrd;exact ie2 FW.wide hG0 rfl (by rw[Array.length_toList];exact hI2.size) hWl (hpart .ready asq) (hpart .busy body)
 obtain⟨⟨ρ3,F3,W3,up3,hI3⟩,_,hdf3⟩:=hI3;obtain⟨pe,v,hpe,rfl,hrec3,hds3⟩:=hI3.core.jot;have hpX:(rb2 (hdA (i6 s1.a fnI.ntmps)) ⟨i6 s1.a (fnI.ntmps+1),s1.H⟩).run=some (x,s')/\∀id,x1≠.exit id:=by
  cases x1 with
  |normal=>exact⟨h2,λ_ e=>by cases e⟩
  |ret=>exact⟨h2,λ_ e=>by cases e⟩
  |exit id=>cases h2
 obtain⟨hpX,hne⟩:=hpX;have htl3:ac3.tmps.toList.length=fnI.ntmps:=by rw[Array.length_toList];exact hI3.size
 have hdr:VR ρ3 s1.H F3 w3 (i6 s1.a fnI.ntmps) (v::ac.tmps.toList):=hI3.vals.drop htl3;obtain⟨rfl,hcase⟩:=pd9 hpX hdr.head hpe;have hKl:KR (w.heap.size+1) (w.heap.size::ac.defers.map Za6) (w.heap.size+1):=.inl rfl;have hkl:=hI3.core.kept _ hKl;have hM4:∀o:Obj,Db2 WB W3 (Kc9 w.heap.size::ac.defers) (w3.putObj (w.heap.size+1) o):=λo=>by
  refine⟨λd hd=>?_,List.nodup_cons.2 ⟨λhd=>?_,hI2.core.marks.2⟩⟩
  ·have hD : Za6 d ∈ w.heap.size :: ac.defers.map Za6 := by
    rcases Qfg.1 hd with rfl|hd
    ·exact .head _
    ·exact .tail _ (Qfo.2 ⟨d,hd,rfl⟩)
   have hk:=hI3.core.kept _ (.inr hD:KR (w.heap.size+1) (w.heap.size::ac.defers.map Za6) (Za6 d));refine⟨Za6 d,?_,(hds3.turn hrec3 o) _ hD,hk.1,by rw[World.putObj_size];exact hk.2,?_⟩
   ·rcases Qfg.1 hd with rfl|hd
    ·rfl
    ·obtain⟨D,rfl,_⟩:=hI2.core.marks.1 d hd;rfl
   ·rcases Qfg.1 hd with rfl|hd
    ·exact a3
    ·exact (hI2.core.marks.at (Qfo.2 ⟨d,hd,rfl⟩)).2.2.2.2
  ·have:=(hI2.core.marks.at (Qfo.2 ⟨_,hd,rfl⟩)).2.2.2.1
   exact Nat.lt_irrefl _ this
 obtain⟨d1,d2⟩:=hI3.core.turn (J':=Hd5) (up':=[]) (ds':=Kc9 w.heap.size::ac.defers) (w.heap.size+1) _ (ub3 .exhausted pe fn ac.tmps.toList ps asq body w.heap.size) hrec3 (λ_ _ _ e=>by cases e) (λ_ _ e=>by cases e) hWl hkl.1 rfl (hM4 _)
 have hIe:ie4 E.P WB n ρ0 H0 F0 w0 ⟨i6 s1.a (fnI.ntmps+1),s1.H⟩ { ac with defers:=[Kc9 w.heap.size]++ac.defers } (w3.putObj (w.heap.size+1) (ub3 .exhausted pe fn ac.tmps.toList ps asq body w.heap.size)):=by
  refine⟨⟨ρ3,F3,W3,[],d1.reK (λk hk=>hk.elim) (λ_ _ _ _ _ hk=>hk.elim),?_,hI2.size⟩,λt ht=>by simp at ht,trivial⟩
  have h0:VR ρ3 s1.H F3 w3 s1.a ((ac3.tmps.toList++[v])++ac.tmps.toList):=by simpa using hI3.vals
  have:=(h0.drop (k:=fnI.ntmps+1) (by simp[htl3])).tr d2
  simpa using this
 have hend:(Instr.endLoop (w.heap.size+1)).run E.P w3=.ok pe (w3.putObj (w.heap.size+1) (ub3 .exhausted pe fn ac.tmps.toList ps asq body w.heap.size)) :=
  run_endLoop hrec3 (by cases pe<;>simp)
 have hpost:rangePost Fence.wide m E.P (w.heap.size+1) Q { ac with defers:=[Kc9 w.heap.size]++ac.defers } (.returned (.tuple #[])) w3:=by
  refine⟨pe,_,hend,?_⟩
  rcases hcase with⟨rfl,rfl⟩|⟨rfl,rfl⟩|⟨id,rfl,rfl⟩
  ·exact hQ _ _ hIe
  ·exact wpIn_ret (hQ _ _ hIe)
  ·exact wpIn_exit (hQ _ _ hIe)
 have hresults:(results fnI ac3.tmps).run E.P w3=.ok (.tuple #[]) w3:=by
  have h0:fnI.results=#[]:=Array.eq_empty_of_size_eq_zero (Qff hres);simp[results,h0]
 cases x1 with
 |normal=>exact⟨hdf3,_,hresults,hpost⟩
 |ret=>exact⟨hdf3,_,hresults,hpost⟩
 |exit id=>exact absurd rfl (hne id)
end
section
variable{P:Program}{W WB:Nat->Prop}{ρ ρ0:Rho}{H H0:List c8}{F F0:Fz}{w w0:World}{W':Nat->Prop}{E:Env}{n:Nat}{ds:List Deferred}
theorem Pb4:∀{H:List c8},dd0 H=true->∀(id:Nat) b,H[id]?=some b->y8 b=false
 |[],_,id,b,hb=>by simp at hb
 |c::H,h,id,b,hb=>by
  have h:Bool.rec (motive:=λ_=>Bool) (dd0 H) false (y8 c)=true:=h
  cases hc:y8 c with
  |true=>rw[hc] at h;cases h
  |false =>
   rw[hc] at h;cases id with
   |zero=>simp at hb;subst hb;exact hc
   |succ id=>exact Pb4 h id b (by simpa using hb)
theorem qd0(h:dd0 H=true):j8 H=H:=by
 refine List.ext_getElem? λid=>?_
 cases hb:H[id]? with
 |none=>rw[Ta8,Qfi,hb];rfl
 |some b=>exact ca6 hb (Pb4 h id b hb)
theorem v8.more(h:v8 W' ρ H F w)(hs:∀k,W' k->W k):v8 W ρ H F w :=
 ⟨λid b hb hd=>by
  obtain⟨cc,t,fr,hB⟩:=h.blk id b hb hd;exact⟨cc,t,fr,hB.obj,hB.room,hB.len,hB.rows,hB.cell,λho=>⟨(hB.own ho).1,hs _ (hB.own ho).2.1,(hB.own ho).2.2⟩,hB.kept⟩,h.apart,h.frz,λk hk=>hs k (h.new k hk)⟩
theorem Pb5 {Fe : Fence} {m : Nat} {fn : Func} {tmps : Array Value} {R : Ending → World → Prop} : ∀ (ds : List Deferred) (w : World), C2 P WB ie3 Hd5 ρ0 H0 F0 w0 H ds w ρ F W' [] →
  (∀w'',C2 P WB ie3 Hd5 ρ0 H0 F0 w0 H [] w'' ρ F W' []->Tr ρ H F w ρ H F w''->LeavesIn Fe m P fn tmps R [] .returning w'')->LeavesInM Fe m P fn tmps R ds .returning w
 |[],w,hC,hR=>hR w hC λ_ _ h=>h
 |d::ds,w,hC,hR=>by
  obtain⟨D,rfl,h2,h3,h4,h5⟩:=hC.marks.1 d (.head _);have hnd:=List.nodup_cons.1 hC.marks.2;obtain⟨c1,c2⟩:=hC.turn (J':=Hd5) (up':=[]) (ds':=ds) D _ (.deferred none) h2 (λ_ _ _ e=>by cases e) (λ_ _ e=>by cases e) h5 h3 rfl
   ⟨λd' hd'=>by
    obtain⟨D',rfl,k2,k3,k4,k5⟩:=hC.marks.1 d' (.tail _ hd');have hne:D'≠D:=λe=>hnd.1 (e ▸ hd')
    exact⟨D',rfl,by rw[World.putObj_heap_other hne];exact k2,k3,by rw[World.putObj_size];exact k4,k5⟩,hnd.2⟩
  refine⟨by simp,.inl ⟨D,_,rfl,run_takeDeferred h2,Pb5 ds _ c1 λw'' hC' ht=>hR w'' hC' λx x' hx=>ht _ _ (c2 _ _ hx)⟩⟩
theorem Hd6 (hmx : E.P.follows .mixedOrders = true) {f : FuncId} {fn fnI : Func} {pf : PFn} {h : Ec0} (hf : E.P.funcs[f]? = some fn) (hname : fn.name ≠ "runtime.NumGoroutine") (hfI : E.P.funcs[h.fi]? = some fnI) (hnameI : fnI.name ≠ "runtime.NumGoroutine")
  (hc:Ua1 E.P h fnI fn=some pf) (hcalls:∀f,i5 E.P E.G f (E.call f)):i5 E.P E.G f (lb1 E pf):=by
 intro args blks r out he W ρ F w args' hH hlen hargs hG;unfold Ua1 at hc;cases hb:fn.body with
 |none=>simp[hb] at hc
 |some c =>
 cases hbI:fnI.body with
 |none=>simp[hb,hbI] at hc
 |some cI =>
 simp only[hb,hbI] at hc
 split at hc
 case isFalse=>cases hc
 rename_i hres;injection hc with hc;subst hc;refine⟨⟨fn,hf,by simp[hb],hname⟩,?_⟩
 unfold lb1 at he;obtain⟨hns,he⟩:=DT.run_guard_some he;rw[Qfa,k8] at hns;obtain⟨hns,hle⟩:=hns;have hle:args.length<=fn.ntmps:=Qfu hle;rw[k8,E1,k8] at he;obtain⟨⟨x,s1⟩,h1,h2⟩:=DT.run_bind_some he
 simp only at h2 h1
 refine (callsIn_wide (n:=2)).1 (callsIn_of_wp_marks hf hb trivial ?_);have hmb:=qd0 hns;have hI:ie4 E.P W fn.ntmps ρ blks F w ⟨args++List.replicate (fn.ntmps-args.length) (.v (.tuple #[])),blks⟩ { tmps:=args'.toArray++Array.replicate (fn.ntmps-args'.toArray.size) undef,defers:=[] } w:=by
  refine⟨⟨ρ,F,W,[],⟨λ_ h=>h,.refl,by rw[hmb];exact hH,⟨λid b hb hs=>(by rw[Pb4 hns id b hb] at hs;cases hs),λid id' b b' hb hb' hs=>(by rw[Pb4 hns id b hb] at hs;cases hs)⟩,λk hk=>hk.elim,λ_ _ _ _ _ hk=>hk.elim,rfl,zb7⟩,⟨by simp[hlen],λi y y' hy hy'=>?_⟩,?_⟩,λt ht=>by simp at ht,trivial⟩
  ·simp only at hy hy'
   rw[Qfq] at hy';have hy':(args'.toArray++Array.replicate (fn.ntmps-args'.toArray.size) undef)[i]?=some y':=by rw[<- Array.getElem?_toList];exact hy'
   rcases Qfx i args.length with hi|hi
   ·rw[Qfd hi] at hy;rw[Qfm (by simpa [<- hlen] using hi)] at hy'
    exact .w (by rw[hmb];exact hargs i y y' hy (by simpa using hy'))
   ·rw[Qfc hi] at hy;rw[Array.getElem?_append_right (by simpa [<- hlen] using hi)] at hy'
    rw[Qfp] at hy;rw[Array.getElem?_replicate] at hy'
    split at hy
    ·split at hy'
     ·injection hy with hy;injection hy' with hy'
      subst hy hy';exact .w (.ofv _)
     ·cases hy'
    ·cases hy
  ·simp only[Array.size_append,Qfv,List.size_toArray];omega
 have hfin : ∀ (ac' : Act) (w' : World), ie4 E.P W fn.ntmps ρ blks F w s1 ac' w' → (match Ka2 (Ma0 (s8 (Z7 s1.H) s1.a) (j8 s1.H)) (fn.results.toList.map (qc5 E.P)) with
    |some l=>.guard (dd0 (G7 s1.H blks.length)) (rb3 blks.length (j8 s1.H) (bb4 l))
    |none=>.fail:DT (b7×List c8)).run=some (r,out)->LeavesInM Fence.wide 2 E.P fn ac'.tmps (λe w'=>∃r',e=.returned r'/\H9 W ρ blks F w r out r' w') ac'.defers .returning w':=λac' w' hI' hr=>by
  obtain⟨⟨ρ1,F1,W1,up,hI2⟩,_,_⟩:=hI';have hup:up=[]:=hI2.core.jot;subst hup;refine Pb5 _ _ hI2.core λw'' hC ht=>?_
  cases hm:Ka2 (Ma0 (s8 (Z7 s1.H) s1.a) (j8 s1.H)) (fn.results.toList.map (qc5 E.P)) with
  |none=>rw[hm] at hr;cases hr
  |some l =>
  rw[hm] at hr;obtain⟨hfirst,hr⟩:=DT.run_guard_some hr;have hI3:I2 E.P W ie3 Hd5 fn.ntmps ρ blks F w s1 { ac' with defers:=[] } w'' ρ1 F1 W1 []:=⟨hC,hI2.vals.tr ht,hI2.size⟩
  have hA:=hI3.arel;have hla:G7 s1.a fn.ntmps=s1.a:=by
   have:=hI2.vals.1
   rw[Qfq,Array.length_toList,hI2.size] at this;rw[H8,<- this,List.take_length]
  rw[hla] at hA;obtain⟨v,k1,k2⟩:=sc0 hC.hrel hA hres hm;have hadv:Adv W ρ blks F w ρ1 (j8 s1.H) F1 w'':=by
   refine⟨hC.adv.ext,λid b hid=>?_,hC.adv.more,hC.adv.new,λid b' hb' hn=>?_⟩
   ·obtain⟨b',g1,g2,g3,g4⟩:=hC.adv.heap id b hid;have hlt:=(Qfh.1 hid).1;have hs:y8 b'=false:=Pb4 hfirst id b' (by rw[H8,Qfw,if_pos hlt];exact g1)
    exact⟨b',ca6 g1 hs,g2,g3,g4⟩
   ·rw[Xb1,Qfi] at hb';cases hq:s1.H[id]? with
    |none=>rw[hq] at hb';cases hb'
    |some q =>
     rw[hq] at hb';injection hb' with hb';have hg:b'.g=q.g:=by
      rw[<- hb'];unfold xd4;cases y8 q<;>rfl
     exact hC.adv.fresh id q hq λb hb=>by rw[<- hg];exact hn b hb
  refine⟨v,k1,v,rfl,?_⟩;simp only[rb3] at hr;cases ht:qc2 blks.length (j8 s1.H) (List.range blks.length) (bb4 l) with
  |mk z roots =>
  simp only[ht] at hr;cases hb2:ua6 blks.length (j8 s1.H) 0 roots with
  |none=>simp[hb2] at hr
  |some H2 =>
  simp only[hb2] at hr;have hr':some (z,H2)=some (r,out):=hr;injection hr' with hr';injection hr' with e1 e2;subst e1 e2
  obtain⟨m1,_,m3⟩:=rc6 (TOk.start _) ht;exact⟨_,F1,Mb8 m1 hb2 hadv,(yb9 m1 hC.hrel hb2).more hC.sub,Pc6 hb2 m3 k2⟩
 refine Ib6 FW.wide hG hcalls (λ_ _ _ _ h=>h) (λrd hrd=>by cases hrd) hmx (ed0 hmx hG hcalls hfI hbI hnameI) c 0 _ x s1 h1 _ w _ hI λac' w' hI'=>?_
 cases x with
 |normal=>exact hfin ac' w' hI' h2
 |ret=>exact hfin ac' w' hI' h2
 |exit id=>cases h2
end
theorem i5.body2 {E : Env} {P : Program} {f : FuncId} {h : Ec0} {fn fnI : Func} {pf : PFn} (hP : E.P = P) (hm : P.follows .mixedOrders = true) (hf : P.funcs[f]? = some fn) (hn : fn.name ≠ "runtime.NumGoroutine") (hfI : P.funcs[h.fi]? = some fnI) (hnI : fnI.name ≠ "runtime.NumGoroutine")
  (hc:Ua1 P h fnI fn=some pf) (hcalls:∀g,i5 E.P E.G g (E.call g)):i5 E.P E.G f (lb1 E pf):=by
 subst hP;exact Hd6 hm hf hn hfI hnI hc hcalls
inductive PS2 where
 |pc (c:PC)
 |seq (a b:PS2)
 |cond (c:Arg) (x y:PS2)
 |block (id:Nat) (c:PS2)
 |sum (S:St->DT (e8×St))
 |inner (f:Nat) (x:Arg) (nIn:Nat) (c:PS2)
def Xb4(E:Env)(k:Nat)(c:PS2):St->DT (e8×St) :=
 PS2.rec (motive:=λ_=>St->DT (e8×St))
  (λc=>J0 E k c)
  (λ_ _ x y s=>(x s).bind λr=>e8.rec (motive:=λ_=>DT (e8×St)) (y r.2) (λid=>.ret (.exit id,r.2)) (.ret (.ret,r.2)) r.1)
  (λc _ _ x y s=>match d8 E s.a c with
   |.v (.bool b)=>.ite b (x s) (y s)
   |_=>.fail)
  (λid _ x s=>(x s).bind λr=>e8.rec (motive:=λ_=>DT (e8×St)) (.ret (.normal,r.2))
   (λid'=>Bool.rec (.ret (.exit id',r.2)) (.ret (.normal,r.2)) (Nat.beq id' id)) (.ret (.ret,r.2)) r.1)
  (λS=>S)
  (λf x nIn _ c s=>match d8 E s.a x with
   |.fn f' caps=>match Nat.beq f f'&&(Nat.ble (len caps+1) nIn&&!Nat.ble bfB f) with
    | true => (c (jb6 caps nIn s)).bind fun r =>
      e8.rec (motive:=λ_=>DT (e8×St)) (rb2 (hdA (i6 r.2.a nIn)) ⟨i6 r.2.a (nIn+1),r.2.H⟩) (λ_=>.fail) (rb2 (hdA (i6 r.2.a nIn)) ⟨i6 r.2.a (nIn+1),r.2.H⟩) r.1
    |false=>.fail
   |_=>.fail) c
inductive ba5 (E:Env) (k:Nat):PS2->PC->Prop
 |pc (c:PC):ba5 E k (.pc c) c
 |seq {a b:PS2} {a' b':PC} (h:ba5 E k a a') (h':ba5 E k b b'):ba5 E k (.seq a b) (.seq a' b')
 |cond (c:Arg) {a b:PS2} {a' b':PC} (h:ba5 E k a a') (h':ba5 E k b b'):ba5 E k (.cond c a b) (.cond c a' b')
 |block (id:Nat) {a:PS2} {a':PC} (h:ba5 E k a a'):ba5 E k (.block id a) (.block id a')
 |sum {S:St->DT (e8×St)} {c:PC} (h:∀s,S4 (S s) (J0 E k c s)):ba5 E k (.sum S) c
 |inner (f:Nat) (x:Arg) (nIn:Nat) {a:PS2} {a':PC} (h:ba5 E k a a'):ba5 E k (.inner f x nIn a) (.inner f x nIn a')
def qd1 (E : Env) (f : Nat) (x : Arg) (nIn : Nat) (c : St → DT (e8 × St)) (s : St) : DT (e8 × St) := match d8 E s.a x with
   |.fn f' caps=>match Nat.beq f f'&&(Nat.ble (len caps+1) nIn&&!Nat.ble bfB f) with
    | true => (c (jb6 caps nIn s)).bind fun r =>
      e8.rec (motive:=λ_=>DT (e8×St)) (rb2 (hdA (i6 r.2.a nIn)) ⟨i6 r.2.a (nIn+1),r.2.H⟩) (λ_=>.fail) (rb2 (hdA (i6 r.2.a nIn)) ⟨i6 r.2.a (nIn+1),r.2.H⟩) r.1
    |false=>.fail
   |_=>.fail
theorem Rc6{E:Env}{f:Nat}{x:Arg}{nIn:Nat}{c c':St->DT (e8×St)}(h:∀s,S4 (c s) (c' s))(s:St):S4 (qd1 E f x nIn c s) (qd1 E f x nIn c' s):=by
 unfold qd1;cases d8 E s.a x with
 |fn f' caps =>
  simp only
  cases Nat.beq f f'&&(Nat.ble (len caps+1) nIn&&!Nat.ble bfB f) with
  |true=>exact (h _).bind λr=>.refl _
  |false=>exact .fail _
 |_=>exact .fail _
theorem ba5.le{E:Env}{k:Nat}{a:PS2}{c:PC}(h:ba5 E k a c):∀s,S4 (Xb4 E k a s) (J0 E k c s):=by
 induction h with
 |pc c=>exact λs=>.refl _
 |seq h h' ih ih' =>
  intro s;refine (ih s).bind λr=>?_
  rcases r with⟨x,s'⟩
  cases x with
  |normal=>exact ih' s'
  |exit id=>exact .refl _
  |ret=>exact .refl _
 |cond c h h' ih ih' =>
  intro s;show S4 (match d8 E s.a c with | .v (.bool b)=>_ | _=>_) (match d8 E s.a c with | .v (.bool b)=>_ | _=>_)
  split
  ·exact .ite (ih s) (ih' s)
  ·exact .fail _
 |block id h ih=>exact λs=>(ih s).bind λr=>.refl _
 |sum h=>exact h
 |inner f x nIn h ih =>
  intro s;exact Rc6 (E:=E) (f:=f) (x:=x) (nIn:=nIn) ih s
def re4(E:Env)(fn:PFn)(body:PS2)(args:List b7)(blks:List c8):DT (b7×List c8) :=
 .guard (Bool.and (dd0 blks) (Nat.ble (len args) fn.ntmps)) ((Xb4 E (len blks) body ⟨app args (List.replicate (fn.ntmps-len args) (.v (.tuple #[]))),blks⟩).bind λr =>
  match r.1 with
  |.exit _=>.fail
  |_=>match Ka2 (Ma0 (s8 (Z7 r.2.H) r.2.a) (j8 r.2.H)) fn.res with
   |some l=>.guard (dd0 (G7 r.2.H (len blks))) (rb3 (len blks) (j8 r.2.H) (bb4 l))
   |none=>.fail)
theorem ed1{E:Env}{fn:PFn}{body:PS2}{args:List b7}{blks:List c8}(h:ba5 E (len blks) body fn.body):S4 (re4 E fn body args blks) (lb1 E fn args blks) :=
 S4.ite (S4.bind (h.le _) λ_=>.refl _) (.refl _)
@[reducible] def ed2(k:Nat)(keep:List Nat)(s:St):DT St:=tidyM k ⟨J6 keep s.a 0,s.H⟩
theorem qd2(E:Env)(k:Nat)(keep:List Nat)(c:PC)(s:St):J0 E k (.loopM keep c) s=pb9 (ed2 k keep) (J0 E k c) E.N s:=rfl
theorem ie5{E:Env}(hm:E.P.follows .mixedOrders=true)(hcalls:∀f,i5 E.P E.G f (E.call f)):md9 E:=by
 intro W ρ0 H0 F0 w0 hG0 id ops dsts asq l ps hc s x s' he ac w Q hI hQ;rw[<- hc] at he;obtain⟨hd,hr⟩:=hI;have hlen:H0.length<=s.H.length:=by
  obtain⟨ρ,F,hA,_⟩:=hr
  rcases Qfx s.H.length H0.length with h|h
  ·obtain⟨b',hb',_⟩:=hA.heap s.H.length _ (List.getElem?_eq_getElem h)
   have:=(Qfh.1 hb').1
   omega
  ·exact h
 exact wpIn_wide.1 (xd6 (nn:=0) FW.wide hm hcalls hG0 (DS:=λ_=>True) (tm:=ac.tmps) (ds:=ac.defers) (λ_ _ _ _=>trivial) hlen he ⟨rfl,rfl,λ_ h=>absurd trivial h,hr⟩ λac' w' hM=>hQ ac' w' ⟨hM.defers.trans hd,hM.rel⟩)
def got(x:Option PFn):PFn:=Option.rec (motive:=λ_=>PFn) ⟨0,[],.skip⟩ (λy=>y) x
theorem Rc7{x:Option PFn}(h:Option.isSome x=true):x=some (got x):=by cases x with
 |none=>cases h
 |some y=>rfl
def qd3(P:Program)(f:FuncId)(R:Env->Sum):Prop:=∀{E:Env},E.P=P->(∀g,i5 E.P E.G g (E.call g))->i5 E.P E.G f (R E)
theorem Ne4{P:Program}{f:FuncId}{fn:Func}{pf:PFn}(hm:P.follows .mixedOrders=true)(hf:P.funcs[f]?=some fn)(hn:decide (fn.name ≠ "runtime.NumGoroutine")=true)(hc:g8 P fn=some pf):qd3 P f λE=>Lb6 E pf :=
 λhP hcalls=>by
  subst hP;exact Nd0 hf (of_decide_eq_true hn) hc hcalls (ie5 hm hcalls)
theorem Rd9 {P : Program} {f : FuncId} {h : Ec0} {fn fnI : Func} {pf : PFn} (hm : P.follows .mixedOrders = true) (hf : P.funcs[f]? = some fn) (hn : decide (fn.name ≠ "runtime.NumGoroutine") = true) (hfI : P.funcs[h.fi]? = some fnI) (hnI : decide (fnI.name ≠ "runtime.NumGoroutine") = true)
  (hc:Ua1 P h fnI fn=some pf):qd3 P f λE=>lb1 E pf :=
 λhP hcalls=>i5.body2 hP hm hf (of_decide_eq_true hn) hfI (of_decide_eq_true hnI) hc hcalls
end Go.Ev
