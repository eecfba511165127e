/- Own work. -/
import Derived.Test.YtgphembaimondaaGreatDoorEvDm2
set_option linter.all false
noncomputable section
def Qfa:=@List.eq_nil_iff_forall_not_mem
def Qfb:=@Array.size_setIfInBounds
def Qfc:=@List.contains_iff_mem
def Qfd:=@List.mem_iff_getElem?
def Qfe:=@List.range'_succ
def Qff:=@Array.toList_setIfInBounds
def Qfg:=@Nat.le_of_not_lt
def Qfh:=@List.mem_filter
def Qfi:=@Array.getElem?_eq_none
def Qfj:=@List.take_append_drop
def Qfk:=@Array.mem_toList_iff
def Qfl:=@Array.size_replicate
def Qfm:=@Array.ext_getElem?
namespace Go.Ev
open Go
section
variable{DS:Nat->Prop}{tm:Array Value}{ds:List Deferred}{Fe:Fence}{nn:Nat}{E:Env}
theorem Ld3(hF:FW Fe)(hm:E.P.follows .mixedOrders=true)(hcalls:∀f,e8 E.P E.G f (E.call f)){W:Nat->Prop}{ρ0:Rho}{H0:List c7}{F0:Fz}{w0:World}{k:Nat}(hG0:GOk E F0 w0)
  {id:Nat} {ops:Array Oper} {s:St} {x:d8} {s':St} (hDS:∀j d,j<ops.size->U0 ops j=some d->DS d) (hlen:H0.length<=s.H.length)
  (he:(A1 E k (ra5 E.P ops) s).run=some (x,s')) {ac:Act} {w:World} {Q:Exit->Act->World->Prop} (hI:Za5 DS tm ds W ρ0 H0 F0 w0 s ac w)
  (hQ:∀ac' w',Za5 DS tm ds W ρ0 H0 F0 w0 s' ac' w'->Q (toX x) ac' w'):(Code.region id ops true).wpIn Fe nn E.P Q ac w:=by
 have hdr:∃dsts asq l ps,ra5 E.P ops=.draw dsts asq l ps:=by
  unfold ra5 at he ⊢;have hT:∀tr,(∃a b c d,Aa8 tr E.P ops=.draw a b c d)\/Aa8 tr E.P ops=.bad:=λtr=>by
   unfold Aa8
   simp only
   cases jd7 tr E.P ops (Region.before ops).toList 0 ops.toList with
   |none=>exact .inr rfl
   |some ks =>
    simp only[wc7];split
    ·exact .inl ⟨_,_,_,_,rfl⟩
    ·exact .inr rfl
  revert he
  rcases hT 0 with⟨a,b,c,d,h0⟩|h0<;>rw[h0]<;>intro he
  ·exact⟨_,_,_,_,rfl⟩
  ·revert he
   rcases hT 1 with⟨a,b,c,d,h1⟩|h1<;>rw[h1]<;>intro he
   ·exact⟨_,_,_,_,rfl⟩
   ·revert he
    rcases hT 2 with⟨a,b,c,d,h2⟩|h2<;>rw[h2]<;>intro he
    ·exact⟨_,_,_,_,rfl⟩
    ·cases he
 obtain⟨dsts,asq,l,ps,hc⟩:=hdr;rw[hc] at he;obtain⟨tr,M,ks,hD,rfl,rfl,rfl,rfl⟩:=nd1 hc
 have he' : ((D8 E ((List.range ops.size).filterMap (ab8 ks)) s).bind fun s => (D8 E ((List.range ops.size).filterMap (Kb0 ks)) s).bind fun s =>
   Bool.rec (motive:=λ_=>DT (d8×St)) .fail (Bool.rec (motive:=λ_=>DT (d8×St)) .fail (.ret (.normal,s)) (ab4 s.a ((List.range ops.size).filterMap (ab8 ks)))) (qa0 E s.a (ka9 ops.size M ks))).run=some (x,s'):=he
 obtain⟨s1,h1,h2⟩:=DT.run_bind_some he';obtain⟨s2,h3,h4⟩:=DT.run_bind_some h2;obtain⟨U,u0,u1,u2⟩:=Ba0 _ _ _ _ h1;obtain⟨T,t0,t1,t2⟩:=Ba0 _ _ _ _ h3;have hT:zc1 E ops ks s U T:=⟨u0,u2,t0.trans u1.symm,t2⟩;cases hp:qa0 E s2.a (ka9 ops.size M ks) with
 |false=>rw[hp] at h4;cases h4
 |true =>
 rw[hp] at h4
 simp only at h4
 cases hs:ab4 s2.a ((List.range ops.size).filterMap (ab8 ks)) with
 |false=>rw[hs] at h4;cases h4
 |true =>
 rw[hs] at h4;have h4':some (d8.normal,s2)=some (x,s'):=h4;injection h4' with h4';injection h4' with e1 e2;subst e1 e2
 rw[<- t1] at hp hs hQ;have hin:∀j,j<ops.size->C3 tr E.P ops j=0->∀d,U0 ops j=some d->d<s.a.length:=λj hj hk d hd=>by
  rw[<- (yb1 hD hT ops.size (Qac _)).2];refine Pb6 hs (Ib8 tr E.P ops M j) ?_ d hd;rw[Qde];exact⟨j,Qcj.2 hj,(Zc9 hD hj hk).1⟩
 refine wpIn_region_any hm (Gb5 hD hT hin hlen hF hDS hp hG0 hcalls hQ ops.size 0 _ ac _ (mc1 hD hT hlen hI) ?_);unfold B0;simp
end
section
variable{P:Program}{WB K:Nat->Prop}{J:List Value->World->Prop}{ρ0:Rho}{H0:List c7}{F0:Fz}{w w0:World}{s:St}{ac:Act}{E:Env}
theorem ge8{Fe:Fence}{n m kk id:Nat}(hm:E.P.follows .mixedOrders=true)(hF:FW Fe)(hG0:GOk E F0 w0)(hcalls:∀f,e8 E.P E.G f (E.call f))(hJ:yb9 K J){ops:Array Oper}{Q:Exit->Act->World->Prop}{x:d8}{s':St}
  (hI:Ac5 E.P WB K J n ρ0 H0 F0 w0 s ac w) (he:(A1 E kk (.mask n (ops.toList.filterMap (·.dst)) (ra5 E.P ops)) s).run=some (x,s'))
  (hQ:∀ac' w',Ac5 E.P WB K J n ρ0 H0 F0 w0 s' ac' w'->ac'.defers=ac.defers->(∀t,¬ t∈ops.toList.filterMap (·.dst)->ac'.tmps[t]?=ac.tmps[t]?)->Q (toX x) ac' w'):(Code.region id ops true).wpIn Fe m E.P Q ac w:=by
 obtain⟨ρ,F,W',up,hI⟩:=hI;have he':((A1 E kk (ra5 E.P ops) ⟨l9 (T6 s.H) (A7 s.a n),j8 s.H⟩).bind λr=>.guard (vb4 s.H r.2.H) (.ret (r.1,⟨Y6 (ops.toList.filterMap (·.dst)) s.a r.2.a 0,o9 s.H r.2.H⟩))).run=some (x,s'):=he
 obtain⟨⟨x1,s1⟩,h1,h2⟩:=DT.run_bind_some he';obtain⟨ho,h2⟩:=DT.run_guard_some h2;have h2:some (x1,(⟨Y6 (ops.toList.filterMap (·.dst)) s.a s1.a 0,o9 s.H s1.H⟩:St))=some (x,s'):=h2;injection h2 with h2;injection h2 with e1 e2;subst e1 e2
 have hG:GOk E F w:=hG0.adv hI.core.adv;refine Ld3 (DS:=(·∈ops.toList.filterMap (·.dst))) (tm:=ac.tmps) (ds:=ac.defers) (W:=W') (ρ0:=ρ) (H0:=j8 s.H) (F0:=F) (w0:=w) hF hm hcalls hG (λj d hj hd=>?_) (Qac _) h1 ⟨rfl,rfl,λ_ _=>rfl,ρ,F,.refl,hI.core.hrel,hI.arel⟩ λac' w' hM=>?_
 ·refine Qde.2 ⟨ma3 ops j,?_,hd⟩
  have:=aa9 hj
  grind
 ·obtain⟨k1,k2,k3⟩:=dc5 hJ hI ho hM;exact hQ ac' w' k1 k2 k3
end
structure Ord(ops:Array Oper)(m:Nat):Prop where
 sz:ops.size=m+1
 dep:∀j,j<=m->∀i∈w8 (opO ops j),i<j
 pur:∀j,j<m->Kb7 (opO ops j)=true
 uni:∀i j,i<m->j<m->i≠j->(opO ops i).dst≠(opO ops j).dst
 cov:∀i,i<m->∃j,i<j/\j<=m/\i∈w8 (opO ops j)
 use:∀j,j<m->∀x∈(opO ops j).op.operands,∀t,x=.tmp t->∀i,i<m->(opO ops i).dst=some t->i∈w8 (opO ops j)
theorem Xe7{ops:Array Oper}(h:ze4 ops=true):Ord ops (ops.size-1):=by
 simp only[ze4,Qbd,Qcf,Qcj,Qch,List.any_eq_true] at h;obtain⟨⟨h0,h1⟩,h2⟩:=h;have hd:∀i j,i<j->j<ops.size-1->(opO ops i).dst≠(opO ops j).dst:=λi j hij hj=>by
  have:=(h2 j hj).2.2.1 i hij
  simpa using this
 refine⟨by omega,λj hj i hi=>h1 j (by omega) i hi,λj hj=>(h2 j hj).1,λi j hi hj hne=>?_,λi hi=>?_,λj hj x hx t e i hi ed=>?_⟩
 ·rcases Nat.lt_or_gt_of_ne hne with k|k
  ·exact hd i j k hj
  ·exact (hd j i k hi).symm
 ·obtain⟨k,hk,hik,hc⟩:=(h2 i hi).2.2.2.1;exact⟨k,hik,by omega,Qfc.1 hc⟩
 ·have:=(h2 j hj).2.2.2.2 x (Qfk.2 hx)
  subst e;simp only[Qcf,Qcj,Qdf] at this
  rcases this i hi with k|k
  ·rw[ed] at k;simp at k
  ·exact Qfc.1 k
section
variable{ops:Array Oper}{m:Nat}{a0:Act}{V:Nat->Value}{L L':Nat->Prop}{ac ac':Act}
structure Pt(ops:Array Oper)(m:Nat)(a0:Act)(V:Nat->Value)(L:Nat->Prop)(ac:Act):Prop where
 dz:ac.defers=a0.defers
 sz:ac.tmps.size=a0.tmps.size
 on:∀i t,i<m->L i->(opO ops i).dst=some t->t<a0.tmps.size->ac.tmps[t]?=some (V i)
 off:∀t,(∀i,i<m->L i->(opO ops i).dst≠some t)->ac.tmps[t]?=a0.tmps[t]?
theorem Pt.agree(h:Pt ops m a0 V L ac)(h':Pt ops m a0 V L' ac'){t:Nat}(hb:∀i,i<m->(opO ops i).dst=some t->(L i↔L' i)):ac.tmps[t]?=ac'.tmps[t]?:=by
 by_cases hx:∃i,i<m/\L i/\(opO ops i).dst=some t
 ·obtain⟨i,h1,h2,h3⟩:=hx;by_cases ht:t<a0.tmps.size
  ·rw[h.on i t h1 h2 h3 ht,h'.on i t h1 ((hb i h1 h3).1 h2) h3 ht]
  ·rw[Qfi (by rw[h.sz];omega),Qfi (by rw[h'.sz];omega)]
 ·rw[h.off t λi h1 h2 h3=>hx ⟨i,h1,h2,h3⟩,h'.off t λi h1 h2 h3=>hx ⟨i,h1,(hb i h1 h3).2 h2,h3⟩]
theorem Pt.same(h:Pt ops m a0 V L ac)(h':Pt ops m a0 V L' ac')(hb:∀i,i<m->(L i↔L' i)):ac=ac':=by
 have e:ac.tmps=ac'.tmps:=Qfm λt=>h.agree h' λi hi _=>hb i hi
 have d:ac.defers=ac'.defers:=h.dz.trans h'.dz.symm;cases ac;cases ac'
 simp only at e d
 rw[e,d]
theorem Pt.eval(h:Pt ops m a0 V L ac)(h':Pt ops m a0 V L' ac'){x:Operand}(hb:∀t,x=.tmp t->∀i,i<m->(opO ops i).dst=some t->(L i↔L' i)):ac.eval x=ac'.eval x:=by
 cases x with
 |tmp t =>
  show ac.tmps.getD t undef=ac'.tmps.getD t undef
  have:=h.agree h' (t:=t) (hb t rfl)
  simp only[Qbv,this]
 |const v=>rfl
 |func f=>rfl
 |global g=>rfl
theorem Pt.put(hO:Ord ops m)(h:Pt ops m a0 V L ac){j:Nat}(hj:j<m):Pt ops m a0 V (λi=>L i\/i=j) (ac.put (opO ops j).dst (V j)):=by
 refine⟨(o5 _ _).trans h.dz,(by cases hd:(opO ops j).dst<;>simp[Act.put,h.sz]),λi t hi hl hd ht=>?_,λt hn=>?_⟩
 ·by_cases e:i=j
  ·subst e;rw[hd];simp[Act.put,h.sz,ht]
  ·have hne:(opO ops j).dst≠some t:=λk=>hO.uni i j hi hj e (hd.trans k.symm)
   have:(ac.put (opO ops j).dst (V j)).tmps[t]?=ac.tmps[t]?:=by
    cases hdj:(opO ops j).dst with
    |none=>rfl
    |some d=>exact Qeb λk=>hne (by rw[hdj,k])
   rw[this];exact h.on i t hi (hl.resolve_right e) hd ht
 ·have hne:=hn j hj (.inr rfl)
  have:(ac.put (opO ops j).dst (V j)).tmps[t]?=ac.tmps[t]?:=by
   cases hdj:(opO ops j).dst with
   |none=>rfl
   |some d=>exact Qeb λk=>hne (by rw[hdj,k])
  rw[this];exact h.off t λi hi hl=>hn i hi (.inl hl)
theorem Pt.iff(h:Pt ops m a0 V L ac)(hb:∀i,i<m->(L i↔L' i)):Pt ops m a0 V L' ac :=
 ⟨h.dz,h.sz,λi t hi hl=>h.on i t hi ((hb i hi).2 hl),λt hn=>h.off t λi hi hl=>hn i hi ((hb i hi).1 hl)⟩
theorem Pt.val{V':Nat->Value}(h:Pt ops m a0 V L ac)(hb:∀i,i<m->L i->V i=V' i):Pt ops m a0 V' L ac :=
 ⟨h.dz,h.sz,λi t hi hl hd ht=>by rw[<- hb i hi hl];exact h.on i t hi hl hd ht,h.off⟩
end
section
variable{ops:Array Oper}{m:Nat}{P:Program}{Fe:Fence}{n:Nat}{Q:Exit->Act->World->Prop}{a0:Act}{w:World}
theorem Ga6{j:Nat}(h:j<ops.size):ops[j]?=some (opO ops j):=by simp[opO,Array.getD,h]
theorem Pb8{o:Oper}(h:Kb7 o=true):o.guard=none:=by
 unfold Kb7 at h;rw[Qbd] at h;cases hg:o.guard with
 |none=>rfl
 |some g=>rw[hg] at h;cases h.1
theorem zb7{o:Oper}(h:Kb7 o=true):(∀cs b,o.op≠.select cs b)/\∀c,o.op≠.defer c:=by
 unfold Kb7 at h;rw[Qbd] at h;exact⟨λcs b e=>(by rw[e] at h;cases h.2),λc e=>(by rw[e] at h;cases h.2)⟩
theorem chain(hO:Ord ops m)(hQ:∀c a w,¬ Q (.panic c) a w)(h:wpOpsIn Fe n P ops Q (List.range' 0 ops.size) a0 w):∀k,k<=m->∃V,(∃ac,Pt ops m a0 V (· < k) ac/\wpOpsIn Fe n P ops Q (List.range' k (ops.size-k)) ac w) /\
  ∀j,j<k->∃ac,Pt ops m a0 V (· < j) ac/\(execOp ac.eval (opO ops j)).run P w=.ok (.value (V j)) w
 |0,_=>⟨λ_=>undef,⟨a0,⟨rfl,rfl,λi t _ hl=>absurd hl (Nat.not_lt_zero _),λt _=>rfl⟩,h⟩,λj hj=>absurd hj (Nat.not_lt_zero _)⟩
 |k+1,hk=>by
  obtain⟨V,⟨ac,hp,hw⟩,hs⟩:=chain hO hQ h k (by omega)
  have hkm:k<m:=by omega
  have hpur:=hO.pur k hkm;have hsz:=hO.sz;rw[show ops.size-k=(ops.size-(k+1))+1 by omega,Qfe,wpOpsIn_cons] at hw
  unfold wpOpIn at hw;rw[Ga6 (show k<ops.size by omega)] at hw
  simp only[Region.wanted,Pb8 hpur,if_true] at hw;have hw:=hw.2;rw[Oper.semAt_eq _ _ _ (zb7 hpur).2] at hw;cases hr:(execOp ac.eval (opO ops k)).run P w with
  |halt c w' =>
   rw[hr] at hw;cases c<;>first | exact hw.elim | exact (hQ _ _ _ hw).elim
  |ok x w' =>
   obtain⟨⟨v,rfl⟩,rfl⟩:=fe2 hpur hr;rw[hr] at hw;have hw:wpOpsIn Fe n P ops Q (List.range' (k+1) (ops.size-(k+1))) (ac.put (opO ops k).dst v) w':=hw;refine⟨λi=>if i=k then v else V i,⟨_,(Pt.put hO ((hp.val (V':=λi=>if i=k then v else V i)) λi _ hl=>?_) hkm).iff λi hi=>?_,?_⟩,λj hj=>?_⟩
   ·have:i<k:=hl
    rw[if_neg (by omega)]
   ·show (i<k\/i=k)↔i<k+1;omega
   ·rw[if_pos rfl];exact hw
   ·by_cases e:j=k
    ·subst e;exact⟨ac,hp.val λi _ hl=>(by rw[if_neg (Qak hl)]),by simpa using hr⟩
    ·obtain⟨acj,h1,h2⟩:=hs j (by omega)
     refine⟨acj,h1.val λi _ hl=>?_,by simpa [e] using h2⟩
     have:i<j:=hl
     rw[if_neg (by omega)]
theorem Wd2(hO:Ord ops m){listed:Array Bool}(hsz:listed.size=ops.size):∀j,j<=m->¬ r9 listed j->∃i,i∈Region.ready .any ops listed:=by
 intro j
 induction j using Nat.strongRecOn with
 |_ j ih =>
  intro hj hn;by_cases hd:∀i∈w8 (opO ops j),r9 listed i
  ·refine⟨j,mem_ready.2 ⟨?_,opO ops j,Ga6 (by have:=hO.sz;omega),λe he hb=>?_⟩⟩
   ·unfold r9 at hn;cases h:listed.getD j true with
    |false=>rfl
    |true=>exact absurd h hn
   ·have hx:=hd e.on (xa1.2 ⟨e,he,hb,rfl⟩);have hlt:e.on<listed.size:=by
     have:=hO.dep j hj e.on (xa1.2 ⟨e,he,hb,rfl⟩)
     have:=hO.sz
     omega
    unfold r9 at hx;simpa [Array.getD,hlt] using hx
  ·have : ∃ i ∈ w8 (opO ops j), ¬ r9 listed i := by
    apply Qbx;intro hno;exact hd λi hi=>Qbx λk=>hno ⟨i,hi,k⟩
   obtain⟨i,hi,hx⟩:=this
   have:=hO.dep j hj i hi
   exact ih i this (by omega) hx
theorem Xe8(hO:Ord ops m)(hF:FW Fe)(hQ:∀c a w,¬ Q (.panic c) a w)(h:wpOpsIn Fe n P ops Q (List.range' 0 ops.size) a0 w):wpAnyIn Fe n P .any ops Q ops.size (Array.replicate ops.size false) a0 w:=by
 have hsz:=hO.sz;obtain⟨V,⟨aE,hpE,hwE⟩,hs⟩:=chain hO hQ h m (Qac _);rw[show ops.size-m=1 by omega] at hwE
 have hwE:wpOpIn Fe n P ops Q m (wpOpsIn Fe n P ops Q []) aE w:=by rw[<- wpOpsIn_cons];exact hwE
 have key:∀(fuel:Nat) (listed:Array Bool) (ac:Act),listed.size=ops.size->(∀j,j<ops.size->r9 listed j->∀i∈w8 (opO ops j),r9 listed i)->¬ r9 listed m->Pt ops m a0 V (r9 listed) ac->B0 listed<=fuel->wpAnyIn Fe n P .any ops Q fuel listed ac w:=by
  intro fuel
  induction fuel with
  |zero =>
   intro listed ac _ _ hm _ hc;exact (hm (Ba1 (by omega) m)).elim
  |succ fuel ih =>
   intro listed ac hls hcl hm hp hc;refine⟨λhr=>?_,λi hi=>?_⟩
   ·obtain⟨i,hi⟩:=Wd2 hO hls m (Qac _) hm;rw[hr] at hi;cases hi
   ·obtain⟨hi1,o,hio,hi2⟩:=mem_ready.1 hi;have hlt:i<ops.size:=(Qbo.1 hio).1;obtain rfl:o=opO ops i:=Qah (hio.symm.trans (Ga6 hlt));have hdi:∀k∈w8 (opO ops i),r9 listed k:=λk hk=>by
     obtain⟨e,he,hb,rfl⟩:=xa1.1 hk;have h1:=hi2 e he hb;unfold r9;have hlt':e.on<listed.size:=by
      have:=hO.dep i (by omega) e.on hk
      omega
     simpa [Array.getD,hlt'] using h1
    have hnx:¬ r9 listed i:=λhx=>by unfold r9 at hx;rw[hi1] at hx;cases hx
    have hil:i<listed.size:=by omega
    have hcount:B0 (listed.setIfInBounds i true)<=fuel:=by
     have h0:listed.toList[i]?=some false:=by
      simp only[Array.getD,hil,dif_pos] at hi1;simp[hil];simpa using hi1
     have:=sa3 listed.toList i h0
     unfold B0 at hc ⊢;rw[Qff];omega
    by_cases him:i=m
    ·subst him;have hall:∀d k,i-d<=k->k<i->r9 listed k:=λd=>by
      induction d with
      |zero=>intro k h1 h2;omega
      |succ d ihd =>
       intro k h1 h2;obtain⟨j,j1,j2,j3⟩:=hO.cov k h2;by_cases e:j=i
       ·subst e;exact hdi k j3
       ·exact hcl j (by omega) (ihd j (by omega) (by omega)) k j3
     have hac:ac=aE:=hp.same hpE λk hk=>⟨λ_=>hk,λ_=>hall i k (by omega) hk⟩
     rw[hac];refine wpOpIn_mono (λa' w' hq=>?_) hwE
     have hq:Q .normal a' w':=hq;have hr:Region.ready .any ops (listed.setIfInBounds i true)=[]:=by
      apply Qfa.2;intro k hk;obtain⟨k1,ok,k2,_⟩:=mem_ready.1 hk;have hk':k<ops.size:=(Qbo.1 k2).1
      have:r9 (listed.setIfInBounds i true) k:=(G5 hil).2 (by
       by_cases e:k=i
       ·exact .inr e
       ·exact .inl (hall i k (by omega) (by omega)))
      unfold r9 at this;rw[k1] at this;cases this
     cases fuel with
     |zero=>exact⟨hr,hq⟩
     |succ fuel=>exact⟨λ_=>hq,λk hk=>by rw[hr] at hk;cases hk⟩
    ·have hlm:i<m:=by omega
     have hpur:=hO.pur i hlm;obtain⟨acj,p1,p2⟩:=hs i hlm;have hev:execOp ac.eval (opO ops i)=execOp acj.eval (opO ops i):=execOp_congr _ (zb7 hpur).1 λx hx=>hp.eval p1 λt e k hk hd=>by
      have hk':=hO.use i hlm x hx t e k hk hd
      have:=hO.dep i (by omega) k hk'
      exact⟨λ_=>this,λ_=>hdi k hk'⟩
     unfold wpOpIn;rw[hio];simp only[Region.wanted,Pb8 hpur,if_true];refine⟨λf _=>hF.fn f,?_⟩
     rw[Oper.semAt_eq _ _ _ (zb7 hpur).2,hev,p2];show wpAnyIn Fe n P .any ops Q fuel (listed.setIfInBounds i true) (ac.put (opO ops i).dst (V i)) w;refine ih _ _ (by rw[Qfb];exact hls) (λj hj hx k hk=>?_) (λhx=>?_) ((Pt.put hO hp hlm).iff λk _=>(G5 hil).symm) hcount
     ·rcases (G5 hil).1 hx with hx|rfl
      ·exact (G5 hil).2 (.inl (hcl j hj hx k hk))
      ·exact (G5 hil).2 (.inl (hdi k hk))
     ·rcases (G5 hil).1 hx with hx|e
      ·exact hm hx
      ·exact him e.symm
 have hnx:∀j,j<ops.size->¬ r9 (Array.replicate ops.size false) j:=λj hj hx=>by
  unfold r9 at hx;simp[Array.getD,hj] at hx
 refine key ops.size _ a0 (by simp) (λj hj hx=>absurd hx (hnx j hj)) (hnx m (by omega)) ⟨rfl,rfl,λi t hi hl=>absurd hl (hnx i (by omega)),λt _=>rfl⟩ ?_
 unfold B0;simp
end
theorem mc2:∀H:List c7,o9 H (j8 H)=H/\vb4 H (j8 H)=true
 |[]=>⟨rfl,rfl⟩
 |b::H=>by
  obtain⟨h1,h2⟩:=mc2 H;have e:j8 (b::H)=Bool.rec (motive:=λ_=>c7) b { b with dead:=true } (r5 b)::j8 H:=rfl
  rw[e];have e1:∀c,o9 (b::H) (c::j8 H)=Bool.rec (motive:=λ_=>c7) c b (r5 b)::o9 H (j8 H):=λ_=>rfl
  have e2:∀c,vb4 (b::H) (c::j8 H)=Bool.and (Bool.rec (motive:=λ_=>Bool) (Bool.rec true false (r5 c)) true (r5 b)) (vb4 H (j8 H)):=λ_=>rfl
  rw[e1,e2,h1,h2];cases hb:r5 b with
  |true=>exact⟨rfl,rfl⟩
  |false=>exact⟨rfl,by simp[hb]⟩
section
variable{P:Program}{WB K:Nat->Prop}{J:List Value->World->Prop}{n:Nat}{S:HL}{rv:Value}{DF:List Deferred->Prop}{ρ0:Rho}{H0:List c7}{F0:Fz}{w0:World}{s:St}{ac:Act}{w:World}
theorem I3.drawn(h:I3 P WB K J n S rv DF ρ0 H0 F0 w0 s ac w)(hJ:yb9 K J):I3 P WB K J n S rv DF ρ0 H0 F0 w0 s ac { w with drawn:=w.drawn+1 }:=by
 obtain⟨⟨ρ,F,W',up,hI⟩,h2,h3⟩:=h;obtain⟨e1,e2⟩:=mc2 s.H;obtain⟨c1,c2⟩:=hI.core.step (w':={ w with drawn:=w.drawn+1 }) hJ (.same rfl rfl rfl rfl (Nat.le_succ _)) e2 (hI.core.hrel.same rfl)
 rw[e1] at c1 c2;exact⟨⟨_,F,W',up,c1,⟨hI.vals.1,λi x x' hx hx'=>c2 x x' (hI.vals.2 i x x' hx hx')⟩,hI.size⟩,h2,h3⟩
end
def Pb9(Φ:Act->World->Prop)(F:Fence)(n:Nat)(P:Program)(md:Region.Mode)(ops:Array Oper)(Q:Exit->Act->World->Prop):Nat->Array Bool->Act->World->Prop
 |0,listed,a,w=>Φ a w/\Region.ready md ops listed=[]/\Q .normal a w
 |fuel+1,listed,a,w=>Φ a w/\(Region.ready md ops listed=[]->Q .normal a w) /\
  ∀i∈Region.ready md ops listed,wpOpIn F n P ops Q i (Pb9 Φ F n P md ops Q fuel (listed.setIfInBounds i true)) a w
section
variable{DS:Nat->Prop}{tm:Array Value}{ds:List Deferred}{Fe:Fence}{nn:Nat}
variable{W:Nat->Prop}{ρ0:Rho}{H0:List c7}{F0:Fz}{w0 w:World}
variable{tr:Nat}{E:Env}{ops:Array Oper}{M:List Nat}{ks:List (Nat×PI)}{s:St}{U T:Nat->St}
variable(hD:DC tr E.P ops M ks)(hT:zc1 E ops ks s U T)(hin:∀j,j<ops.size->C3 tr E.P ops j=0->∀d,U0 ops j=some d->d<s.a.length)(hlen:H0.length<=s.H.length)
variable(hF:FW Fe)(hDS:∀j d,j<ops.size->U0 ops j=some d->DS d)
variable(hpairs:qa0 E (T ops.size).a (ka9 ops.size M ks)=true)(hG0:GOk E F0 w0)(hcalls:∀f,e8 E.P E.G f (E.call f))
include hD hT hin hlen hpairs hG0 hcalls hF hDS
theorem Gb6{Φ:Act->World->Prop}(hΦ:∀ac w,ac.tmps.size=tm.size->(∀t,¬ DS t->ac.tmps[t]?=tm[t]?)->Ext W F0 w0 w->Φ ac w){Q:Exit->Act->World->Prop}(hQ:∀ac' w',Za5 DS tm ds W ρ0 H0 F0 w0 (T ops.size) ac' w'->Q .normal ac' w'):∀(fuel m:Nat) (listed:Array Bool) (ac:Act) (w:World),vb6 DS tm ds W ρ0 H0 F0 w0 tr E ops s.a U T m listed ac w->B0 listed<=fuel->Pb9 Φ Fe nn E.P .any ops Q fuel listed ac w
 |0,m,listed,ac,w,hR,hc=>by
  have hall:∀j,r9 listed j:=Ba1 (by omega)
  obtain⟨ρ,F,hA,_⟩:=hR.inv.rel;refine⟨hΦ ac w hR.inv.size hR.inv.same hA.ext,?_,hQ _ _ (Gb4 hD hT hR λj _=>hall j)⟩
  rw[Qfa];intro i hi;exact (pb3 hi).2.1 (hall i)
 |fuel+1,m,listed,ac,w,hR,hc=>by
  obtain⟨ρ,F,hA,_⟩:=hR.inv.rel;refine⟨hΦ ac w hR.inv.size hR.inv.same hA.ext,λh=>hQ _ _ (Gb4 hD hT hR (Sc4 hD hR.size h)),λi hi=>?_⟩
  obtain⟨h1,h2,h3⟩:=pb3 hi;have hdi:∀j∈w8 (ma3 ops i),r9 listed j:=λj hj=>h3 hR.size j hj (by have:=Gb0 hD.rows (aa9 h1) hj;omega)
  have hcount:B0 (listed.setIfInBounds i true)<=fuel:=by
   have his:i<listed.size:=by rw[hR.size];exact h1
   have hf:listed.toList[i]?=some false:=by
    have:listed.getD i true=false:=by unfold r9 at h2;simpa using h2
    simp_all
   have:=sa3 listed.toList i hf
   unfold B0 at hc ⊢
   grind
  rcases jb9 (tr:=tr) (P:=E.P) (ops:=ops) i with hk|hk|hk
  ·exact mc0 hD hT hin hlen hF hDS hG0 hcalls hR h1 hk h2 hdi λac' w' hR'=>Gb6 hΦ hQ fuel m _ ac' w' hR' hcount
  ·exact lc8 hD hT hin hpairs hF hDS hG0 hcalls hR h1 hk h2 hdi λac' w' hR'=>Gb6 hΦ hQ fuel m _ ac' w' hR' hcount
  ·exact lc9 hD hT hin hF hDS hG0 hcalls hR h1 hk h2 hdi λac' w' hR'=>Gb6 hΦ hQ fuel (i+1) _ ac' w' hR' hcount
end
section
variable{DS:Nat->Prop}{tm:Array Value}{ds:List Deferred}{Fe:Fence}{nn:Nat}{E:Env}
theorem ze9(hF:FW Fe)(hcalls:∀f,e8 E.P E.G f (E.call f)){W:Nat->Prop}{ρ0:Rho}{H0:List c7}{F0:Fz}{w0:World}{k:Nat}(hG0:GOk E F0 w0)
  {ops:Array Oper} {s:St} {x:d8} {s':St} (hDS:∀j d,j<ops.size->U0 ops j=some d->DS d) (hlen:H0.length<=s.H.length)
  (he:(A1 E k (ra5 E.P ops) s).run=some (x,s')) {ac:Act} {w:World} {Q:Exit->Act->World->Prop} (hI:Za5 DS tm ds W ρ0 H0 F0 w0 s ac w)
  {Φ:Act->World->Prop} (hΦ:∀ac w,ac.tmps.size=tm.size->(∀t,¬ DS t->ac.tmps[t]?=tm[t]?)->Ext W F0 w0 w->Φ ac w)
  (hQ:∀ac' w',Za5 DS tm ds W ρ0 H0 F0 w0 s' ac' w'->Q .normal ac' w'):x=.normal/\Pb9 Φ Fe nn E.P .any ops Q ops.size (Array.replicate ops.size false) ac { w with drawn:=w.drawn+1 }:=by
 have hdr:∃dsts asq l ps,ra5 E.P ops=.draw dsts asq l ps:=by
  unfold ra5 at he ⊢;have hT:∀tr,(∃a b c d,Aa8 tr E.P ops=.draw a b c d)\/Aa8 tr E.P ops=.bad:=λtr=>by
   unfold Aa8
   simp only
   cases jd7 tr E.P ops (Region.before ops).toList 0 ops.toList with
   |none=>exact .inr rfl
   |some ks =>
    simp only[wc7];split
    ·exact .inl ⟨_,_,_,_,rfl⟩
    ·exact .inr rfl
  revert he
  rcases hT 0 with⟨a,b,c,d,h0⟩|h0<;>rw[h0]<;>intro he
  ·exact⟨_,_,_,_,rfl⟩
  ·revert he
   rcases hT 1 with⟨a,b,c,d,h1⟩|h1<;>rw[h1]<;>intro he
   ·exact⟨_,_,_,_,rfl⟩
   ·revert he
    rcases hT 2 with⟨a,b,c,d,h2⟩|h2<;>rw[h2]<;>intro he
    ·exact⟨_,_,_,_,rfl⟩
    ·cases he
 obtain⟨dsts,asq,l,ps,hc⟩:=hdr;rw[hc] at he;obtain⟨tr,M,ks,hD,rfl,rfl,rfl,rfl⟩:=nd1 hc
 have he' : ((D8 E ((List.range ops.size).filterMap (ab8 ks)) s).bind fun s => (D8 E ((List.range ops.size).filterMap (Kb0 ks)) s).bind fun s =>
   Bool.rec (motive:=λ_=>DT (d8×St)) .fail (Bool.rec (motive:=λ_=>DT (d8×St)) .fail (.ret (.normal,s)) (ab4 s.a ((List.range ops.size).filterMap (ab8 ks)))) (qa0 E s.a (ka9 ops.size M ks))).run=some (x,s'):=he
 obtain⟨s1,h1,h2⟩:=DT.run_bind_some he';obtain⟨s2,h3,h4⟩:=DT.run_bind_some h2;obtain⟨U,u0,u1,u2⟩:=Ba0 _ _ _ _ h1;obtain⟨T,t0,t1,t2⟩:=Ba0 _ _ _ _ h3;have hT:zc1 E ops ks s U T:=⟨u0,u2,t0.trans u1.symm,t2⟩;cases hp:qa0 E s2.a (ka9 ops.size M ks) with
 |false=>rw[hp] at h4;cases h4
 |true =>
 rw[hp] at h4
 simp only at h4
 cases hs:ab4 s2.a ((List.range ops.size).filterMap (ab8 ks)) with
 |false=>rw[hs] at h4;cases h4
 |true =>
 rw[hs] at h4;have h4':some (d8.normal,s2)=some (x,s'):=h4;injection h4' with h4';injection h4' with e1 e2;subst e1 e2
 rw[<- t1] at hp hs hQ;have hin:∀j,j<ops.size->C3 tr E.P ops j=0->∀d,U0 ops j=some d->d<s.a.length:=λj hj hk d hd=>by
  rw[<- (yb1 hD hT ops.size (Qac _)).2];refine Pb6 hs (Ib8 tr E.P ops M j) ?_ d hd;rw[Qde];exact⟨j,Qcj.2 hj,(Zc9 hD hj hk).1⟩
 refine⟨rfl,Gb6 hD hT hin hlen hF hDS hp hG0 hcalls hΦ hQ ops.size 0 _ ac _ (mc1 hD hT hlen hI) ?_⟩;unfold B0;simp
end
section
variable{P:Program}{WB K:Nat->Prop}{J:List Value->World->Prop}{ρ ρ0:Rho}{H0:List c7}{F F0:Fz}{w w0:World}{W':Nat->Prop}{up:List Value}{s:St}{ac:Act}{E:Env}
theorem Tc6{Fe:Fence}{n m kk:Nat}(hF:FW Fe)(hG0:GOk E F0 w0)(hcalls:∀f,e8 E.P E.G f (E.call f))(hJ:yb9 K J){ops:Array Oper}{dd:List Nat}(hdd:dd=ops.toList.filterMap (·.dst)){Q:Exit->Act->World->Prop}{x:d8}{s':St}
  (hI:I2 E.P WB K J n ρ0 H0 F0 w0 s ac w ρ F W' up) (he:(A1 E kk (.mask n dd (ra5 E.P ops)) s).run=some (x,s'))
  {Φ:Act->World->Prop} (hΦ:∀ac' w',ac'.tmps.size=ac.tmps.size->(∀t,¬ t∈dd->ac'.tmps[t]?=ac.tmps[t]?)->Ext W' F w w'->Φ ac' w')
  (hQ:∀ac' w',Ac5 E.P WB K J n ρ0 H0 F0 w0 s' ac' w'->ac'.defers=ac.defers->(∀t,¬ t∈dd->ac'.tmps[t]?=ac.tmps[t]?)->Q .normal ac' w'):x=.normal/\Pb9 Φ Fe m E.P .any ops Q ops.size (Array.replicate ops.size false) ac { w with drawn:=w.drawn+1 }:=by
 subst hdd;have he':((A1 E kk (ra5 E.P ops) ⟨l9 (T6 s.H) (A7 s.a n),j8 s.H⟩).bind λr=>.guard (vb4 s.H r.2.H) (.ret (r.1,⟨Y6 (ops.toList.filterMap (·.dst)) s.a r.2.a 0,o9 s.H r.2.H⟩))).run=some (x,s'):=he
 obtain⟨⟨x1,s1⟩,h1,h2⟩:=DT.run_bind_some he';obtain⟨ho,h2⟩:=DT.run_guard_some h2;have h2:some (x1,(⟨Y6 (ops.toList.filterMap (·.dst)) s.a s1.a 0,o9 s.H s1.H⟩:St))=some (x,s'):=h2;injection h2 with h2;injection h2 with e1 e2;subst e1 e2
 have hG:GOk E F w:=hG0.adv hI.core.adv;refine ze9 (DS:=(·∈ops.toList.filterMap (·.dst))) (tm:=ac.tmps) (ds:=ac.defers) (W:=W') (ρ0:=ρ) (H0:=j8 s.H) (F0:=F) (w0:=w) hF hcalls hG (λj d hj hd=>?_) (Qac _) h1 ⟨rfl,rfl,λ_ _=>rfl,ρ,F,.refl,hI.core.hrel,hI.arel⟩ hΦ λac' w' hM=>?_
 ·refine Qde.2 ⟨ma3 ops j,?_,hd⟩
  have:=aa9 hj
  grind
 ·obtain⟨k1,k2,k3⟩:=dc5 hJ hI ho hM;exact hQ ac' w' k1 k2 k3
end
theorem Tc7(B:Nat->Bool)(m:Nat):∀(l:List Oper) (k:Nat),(lc7 B m k l).length=l.length
 |[],_=>rfl
 |_::r,k=>congrArg Nat.succ (Tc7 B m r (k+1))
theorem Tc8(B:Nat->Bool)(m:Nat):∀(l:List Oper) (k i:Nat),(lc7 B m k l)[i]?=(l[i]?).map λo=>zb5 (B (k+i)||Nat.ble m (k+i)) o
 |[],_,_=>by simp[lc7]
 |o::r,k,0=>by simp[lc7]
 |o::r,k,i+1=>by
  simp only[lc7,List.getElem?_cons_succ];rw[Tc8 B m r (k+1) i,show k+1+i=k+(i+1) by omega]
theorem ec3(B:Nat->Bool)(m:Nat)(ops:Array Oper):(Za6 B m ops).size=ops.size:=by
 show (lc7 B m 0 ops.toList).length=_;rw[Tc7];simp
theorem kb6(B:Nat->Bool)(m:Nat)(ops:Array Oper)(i:Nat):(Za6 B m ops)[i]?=(ops[i]?).map λo=>zb5 (B i||Nat.ble m i) o:=by
 have:=Tc8 B m ops.toList 0 i
 rw[Qbh] at this;simpa [Za6] using this
theorem ge9{o:Oper}(h:dc7 o=true):(∀cs b,o.op≠.select cs b)/\∀c,o.op≠.defer c :=
 ⟨λcs b e=>(by simp[dc7,e] at h),λc e=>(by simp[dc7,e] at h)⟩
structure Hst(ops:Array Oper)(m:Nat)(B:Nat->Bool):Prop where
 lt:m<=ops.size
 dep:∀j,j<ops.size->∀i∈w8 (opO ops j),i<j
 tail:∀j,m<=j->j<ops.size->∀i,i<j->i∈w8 (opO ops j)
 pure:∀j,j<m->B j=true->Kb7 (opO ops j)=true
 plain:∀j,j<m->B j=false->dc7 (opO ops j)=true
 guard:∀j,j<m->B j=false->∀g b,(opO ops j).guard=some (g,b)->g<m/\B g=false/\∀t,(opO ops g).dst=some t->∀i,i<m->B i=true->(opO ops i).dst≠some t
 use:∀j,j<m->∀x∈(opO ops j).op.operands,∀t,x=.tmp t->∀i,i<m->B i=true->(opO ops i).dst=some t->i∈w8 (opO ops j)
section
variable{ops:Array Oper}{m:Nat}{B:Nat->Bool}{P:Program}{Fe:Fence}{n:Nat}{Q Q':Exit->Act->World->Prop}{Φ:Act->World->Prop}
theorem he3{o:Oper}{a a':Act}{w:World}{K K':Act->World->Prop}(hp:dc7 o=true)(he:∀x∈o.op.operands,a.eval x=a'.eval x)
  (hK:∀d v w2,K' ({ a' with defers:=d++a'.defers }.put o.dst v) w2->K ({ a with defers:=d++a.defers }.put o.dst v) w2) (hQ:∀c a w,¬ Q' (.panic c) a w) (hL:¬ LetsOut Q') (h:o.wpIn Fe n P a' w K' Q'):o.wpIn Fe n P a w K Q:=by
 obtain⟨hs,hd⟩:=ge9 hp;unfold Oper.wpIn at h ⊢;refine⟨λf hf=>h.1 f (by rw[<- about_congr o w he];exact hf),?_⟩
 have h2:=h.2;rw[Oper.semAt_eq _ _ _ hd] at h2 ⊢;rw[execOp_congr o hs he]
 revert h2
 generalize (execOp a'.eval o).run P w=r;intro h2;cases r with
 |ok q w' =>
  cases q with
  |value v=>exact hK [] _ _ h2
  |skip=>exact hK [] _ _ h2
  |defer d=>exact hK [d] _ _ h2
  | enter f args => exact ⟨h2.1, h2.2.mono fun e w'' he => by
    cases e with
    |returned v=>exact hK [] _ _ he
    |panicked ch=>exact absurd he (hQ _ _ _)
    |outgrown=>exact absurd he hL⟩
  |row row args=>exact⟨h2.1,h2.2.mono λv w'' he=>hK [] _ _ he⟩
  | round l f tmps asq body => exact ⟨h2.1, h2.2.mono fun e w'' he => by
    cases e with
    |returned v=>exact hK [] _ _ he
    |panicked ch=>exact absurd he (hQ _ _ _)
    |outgrown=>exact absurd he hL⟩
  |_=>exact h2.elim
 |halt x w' =>
  cases x with
  |panic v=>exact absurd h2 (hQ _ _ _)
  |_=>exact h2.elim
structure Rl(ops:Array Oper)(m:Nat)(B:Nat->Bool)(listed:Array Bool)(a a':Act):Prop where
 dz:a.defers=a'.defers
 sz:a.tmps.size=a'.tmps.size
 on:∀t,(∀i,i<m->B i=true->(opO ops i).dst=some t->r9 listed i)->a.tmps[t]?=a'.tmps[t]?
theorem Rl.eval{listed:Array Bool}{a a':Act}(h:Rl ops m B listed a a'){x:Operand}(hx:∀t,x=.tmp t->∀i,i<m->B i=true->(opO ops i).dst=some t->r9 listed i):a.eval x=a'.eval x:=by
 cases x with
 |tmp t =>
  show a.tmps.getD t undef=a'.tmps.getD t undef
  have:=h.on t (hx t rfl)
  simp_all
 |const v=>rfl
 |func f=>rfl
 |global g=>rfl
theorem bd6(a:Act)(dst:Option Tmp)(v:Value)(t:Nat):(a.put dst v).tmps[t]?=if dst=some t/\t<a.tmps.size then some v else a.tmps[t]?:=by
 cases dst with
 |none=>simp[Act.put]
 |some d =>
  by_cases e:d=t
  ·subst e;by_cases hd:d<a.tmps.size
   ·simp[Act.put,hd]
   ·simp[Act.put,hd]
  ·simp[Act.put,e,Qeb e]
theorem Rl.same{listed:Array Bool}{a a':Act}(h:Rl ops m B listed a a')(hall:∀i,i<m->r9 listed i):a=a':=by
 have e:a.tmps=a'.tmps:=Qfm λt=>h.on t λi hi _ _=>hall i hi
 have d:=h.dz;cases a;cases a'
 simp only at e d
 rw[e,d]
theorem Ld4{i:Nat}{o:Oper}{K:Act->World->Prop}{a:Act}{w:World}(ho:ops[i]?=some (od9 o))(h:wpOpIn Fe n P ops Q i K a w):K a w:=by
 unfold wpOpIn at h;rw[ho] at h;simp only[Region.wanted,od9,if_true] at h;have h2:=h.2;rw[Oper.semAt_eq _ _ _ (λc e=>by cases e)] at h2
 have e:(execOp a.eval { o with dst:=none,op:=Op.move (.const (.bool true)),guard:=none }).run P w=.ok (.value (.bool true)) w:=by simp[execOp,Act.eval]
 rw[e] at h2;exact h2
end
section
variable{ops:Array Oper}{m:Nat}{B:Nat->Bool}{P:Program}{Fe:Fence}{n:Nat}{Q Q':Exit->Act->World->Prop}{Φ:Act->World->Prop}
theorem Ae0{listed:Array Bool}{i:Nat}(h:i∈Region.ready .any ops listed):i∈Region.ready .any (Za6 B m ops) listed:=by
 obtain⟨h1,o,h2,h3⟩:=mem_ready.1 h;refine mem_ready.2 ⟨h1,zb5 (B i||Nat.ble m i) o,by rw[kb6,h2];rfl,?_⟩
 cases B i||Nat.ble m i<;>exact h3
theorem Ka2{listed:Array Bool}(hsz:listed.size=ops.size){i:Nat}(h:i∈Region.ready .any ops listed):i<ops.size/\¬ r9 listed i/\∀k∈w8 (opO ops i),k<ops.size->r9 listed k:=by
 obtain⟨h1,o,h2,h3⟩:=mem_ready.1 h;have hlt:i<ops.size:=(Qbo.1 h2).1;obtain rfl:o=opO ops i:=Qah (h2.symm.trans (Ga6 hlt));refine⟨hlt,λhx=>(by unfold r9 at hx;rw[h1] at hx;cases hx),λk hk hk2=>?_⟩
 obtain⟨e,he,hb,rfl⟩:=xa1.1 hk
 have:=h3 e he hb
 unfold r9
 simp_all
theorem pd4{listed:Array Bool}(hsz:listed.size=ops.size){i:Nat}(hi:i<ops.size)(hn:¬ r9 listed i)(hd:∀k∈w8 (opO ops i),k<ops.size/\r9 listed k):i∈Region.ready .any ops listed:=by
 refine mem_ready.2 ⟨?_,opO ops i,Ga6 hi,λe he hb=>?_⟩
 ·unfold r9 at hn
  simp_all
 ·obtain⟨h1,h2⟩:=hd e.on (xa1.2 ⟨e,he,hb,rfl⟩);unfold r9 at h2
  simp_all
theorem bd7{listed:Array Bool}{j N:Nat}(hsz:listed.size=N)(h:∀x,j<=x->x<N->¬ r9 listed x):N-j<=B0 listed:=by
 unfold B0;rw[<- Qfj j listed.toList,List.filter_append,Qea];have e:(listed.toList.drop j).filter (λb=>!b)=listed.toList.drop j:=by
  rw[List.filter_eq_self];intro b hb;obtain⟨k,hk,rfl⟩:=Qec.1 hb;rw[Qbr,Array.length_toList] at hk
  have:=h (j+k) (by omega) (by omega)
  unfold r9 at this;have hl:j+k<listed.size:=by omega
  simp_all
 grind
theorem Bc4{a:Act}{w:World}:∀(fuel:Nat) (listed:Array Bool),listed.size=ops.size->(∀j,j<m->r9 listed j)->Pb9 Φ Fe n P .any (Za6 B m ops) Q' fuel listed a w->Q' .normal a w
 |0,listed,hsz,hall,h=>h.2.2
 |fuel+1,listed,hsz,hall,h=>by
  cases hr:Region.ready .any (Za6 B m ops) listed with
  |nil=>exact h.2.1 hr
  |cons i r =>
   have hi:i∈Region.ready .any (Za6 B m ops) listed:=by rw[hr];simp
   obtain⟨k1,k2,k3⟩:=Ka2 (by rw[ec3];exact hsz) hi
   rw[ec3] at k1;have him:m<=i:=Qfg λhh=>k2 (hall i hh)
   have ho:(Za6 B m ops)[i]?=some (od9 (opO ops i)):=by
    rw[kb6,Ga6 k1]
    have:(B i||Nat.ble m i)=true:=by rw[Nat.ble_eq_true_of_le him];simp
    simp only[Option.map_some,this,zb5]
   refine Bc4 fuel (listed.setIfInBounds i true) (by rw[Qfb];exact hsz) (λj hj=>?_) (Ld4 ho (h.2.2 i hi))
   exact (G5 (by rw[hsz];exact k1)).2 (.inl (hall j hj))
theorem Ld5(hH:Hst ops m B):∀(k fuel j:Nat) (listed:Array Bool) (a:Act) (w:World),j+k=ops.size->m<=j->listed.size=ops.size->(∀i,i<j->r9 listed i)->(∀i,j<=i->i<ops.size->¬ r9 listed i)->k<=fuel ->
  wpOpsIn Fe n P ops Q (List.range' j k) a w->wpAnyIn Fe n P .any ops Q fuel listed a w
 |0,fuel,j,listed,a,w,hj,hm,hsz,h1,h2,hf,h=>by
  have hr:Region.ready .any ops listed=[]:=by
   apply Qfa.2;intro i hi;obtain⟨k1,k2,_⟩:=Ka2 hsz hi;exact k2 (h1 i (by omega))
  cases fuel with
  |zero=>exact⟨hr,h⟩
  |succ f=>exact⟨λ_=>h,λi hi=>(by rw[hr] at hi;cases hi)⟩
 |k+1,0,j,listed,a,w,hj,hm,hsz,h1,h2,hf,h=>by omega
 |k+1,fuel+1,j,listed,a,w,hj,hm,hsz,h1,h2,hf,h=>by
  have hjl:j<ops.size:=by omega
  have hmem:j∈Region.ready .any ops listed:=pd4 hsz hjl (h2 j (Qac _) hjl) λi hi=>by
   have:=hH.dep j hjl i hi
   exact⟨by omega,h1 i this⟩
  refine⟨λhr=>(by rw[hr] at hmem;cases hmem),λi hi=>?_⟩
  obtain⟨k1,k2,k3⟩:=Ka2 hsz hi;have hij:j<=i:=Qfg λhh=>k2 (h1 i hh)
  have e:i=j:=by
   rcases Qan j i with hh|hh
   ·exact absurd (k3 j (hH.tail i (by omega) k1 j hh) hjl) (h2 j (Qac _) hjl)
   ·omega
  subst e;rw[Qfe,wpOpsIn_cons] at h;refine wpOpIn_mono (λa' w' h'=>?_) h
  refine Ld5 hH k fuel (i+1) _ a' w' (by omega) (by omega) (by rw[Qfb];exact hsz) (λx hx=>?_) (λx hx hxl hc=>?_) (by omega) h'
  ·refine (G5 (by omega)).2 ?_
   grind
  ·rcases (G5 (by omega)).1 hc with hc|hc
   ·grind
   ·omega
theorem Cd9(hH:Hst ops m B)(hF:FW Fe)(hB:∀i,i<m->B i=true->∀a w,Φ a w->∀d,(opO ops i).dst=some d->(execOp a.eval (opO ops i)).run P w=.ok (.value (a.tmps.getD d undef)) w)
  (hdst:∀i,i<m->B i=true->∃d,(opO ops i).dst=some d) (hQ1:∀c a w,¬ Q' (.panic c) a w) (hQ2:¬ LetsOut Q') (hQ:∀a w,Q' .normal a w->wpOpsIn Fe n P ops Q (List.range' m (ops.size-m)) a w) :
  ∀(fuel:Nat) (listed:Array Bool) (a a':Act) (w:World),listed.size=ops.size->(∀j,j<ops.size->r9 listed j->∀i∈w8 (opO ops j),r9 listed i)->(∀j,m<=j->j<ops.size->¬ r9 listed j)->Rl ops m B listed a a'->B0 listed<=fuel ->
  Pb9 Φ Fe n P .any (Za6 B m ops) Q' fuel listed a' w->wpAnyIn Fe n P .any ops Q fuel listed a w
 |0,listed,a,a',w,hsz,hcl,hnt,hR,hc,h=>by
  have hall:=Ba1 (listed:=listed) (by omega)
  have hm:ops.size-m=0:=by
   simp_all
  obtain rfl:a=a':=hR.same λi _=>hall i
  have hq:=hQ _ _ h.2.2;rw[hm] at hq;refine⟨?_,hq⟩;apply Qfa.2;intro i hi;exact (Ka2 hsz hi).2.1 (hall i)
 |fuel+1,listed,a,a',w,hsz,hcl,hnt,hR,hc,h=>by
  have hex:∀j,j<ops.size->¬ r9 listed j->∃i,i∈Region.ready .any ops listed:=by
   intro j
   induction j using Nat.strongRecOn with
   |_ j ih =>
    intro hj hn;by_cases hd:∀i∈w8 (opO ops j),r9 listed i
    ·exact⟨j,pd4 hsz hj hn λi hi=>⟨by have:=hH.dep j hj i hi;omega,hd i hi⟩⟩
    ·have : ∃ i ∈ w8 (opO ops j), ¬ r9 listed i := by
      simp_all
     obtain⟨i,hi,hx⟩:=this
     have:=hH.dep j hj i hi
     grind
  refine⟨λhr=>?_,λi hi=>?_⟩
  ·have hall : ∀ j, j < ops.size → r9 listed j := fun j hj => Qbx fun hn => by
    obtain⟨i,hi⟩:=hex j hj hn;rw[hr] at hi;cases hi
   have hm:ops.size-m=0:=by
    simp_all
   have hle:=hH.lt;obtain rfl:a=a':=hR.same λi hi=>hall i (by omega)
   have hq:=hQ _ _ (Bc4 (fuel+1) listed hsz (λj hj=>hall j (by omega)) h)
   rw[hm] at hq;exact hq
  obtain⟨hlt,hnx,hdx⟩:=Ka2 hsz hi;have hdi:∀k∈w8 (opO ops i),r9 listed k:=λk hk=>hdx k hk (by have:=hH.dep i hlt k hk;omega)
  have hil:i<listed.size:=by omega
  have hcount:B0 (listed.setIfInBounds i true)+1<=fuel+1:=by
   have h0:listed.toList[i]?=some false:=by
    have:listed.getD i true=false:=by unfold r9 at hnx;simpa using hnx
    simp_all
   have:=sa3 listed.toList i h0
   unfold B0 at hc ⊢
   simp_all
  have hsz':(listed.setIfInBounds i true).size=ops.size:=by rw[Qfb];exact hsz
  have hcl':∀j,j<ops.size->r9 (listed.setIfInBounds i true) j->∀k∈w8 (opO ops j),r9 (listed.setIfInBounds i true) k:=λj hj hx k hk=>by
   rcases (G5 hil).1 hx with hx|rfl
   ·exact (G5 hil).2 (.inl (hcl j hj hx k hk))
   ·exact (G5 hil).2 (.inl (hdi k hk))
  rcases Qan i m with him|him
  case inr =>
   have hall:∀k,k<i->r9 listed k:=λk hk=>hdi k (hH.tail i him hlt k hk)
   have e:i=m:=by
    rcases Qan m i with hh|hh
    ·exact absurd (hall m hh) (hnt m (Qac _) (by omega))
    ·omega
   subst e;obtain rfl:a=a':=hR.same hall;have hq:=hQ _ _ (Bc4 (fuel+1) listed hsz hall h);have hk:ops.size-i=(ops.size-(i+1))+1:=by omega
   rw[hk,Qfe,wpOpsIn_cons] at hq;refine wpOpIn_mono (λa2 w2 h2=>?_) hq
   refine Ld5 hH (ops.size-(i+1)) fuel (i+1) _ a2 w2 (by omega) (by omega) hsz' (λx hx=>?_) (λx hx hxl hc2=>?_) ?_ h2
   ·refine (G5 hil).2 ?_
    rcases Qan x i with hh|hh
    ·exact .inl (hall x hh)
    ·exact .inr (by omega)
   ·rcases (G5 hil).1 hc2 with hc2|hc2
    ·exact hnt x (by omega) hxl hc2
    ·omega
   ·have hge : ops.size - (i + 1) ≤ B0 (listed.setIfInBounds i true) := by
     refine bd7 hsz' λx hx hxl hc2=>?_
     rcases (G5 hil).1 hc2 with hc2|hc2
     ·exact hnt x (by omega) hxl hc2
     ·omega
    omega
  have hnt':∀j,m<=j->j<ops.size->¬ r9 (listed.setIfInBounds i true) j:=λj hj hjl hx=>by
   rcases (G5 hil).1 hx with hx|hx
   ·exact hnt j hj hjl hx
   ·omega
  have hsim:=h.2.2 i (Ae0 hi);cases hb:B i with
  |true =>
   obtain⟨d,hd⟩:=hdst i him hb;have hpur:=hH.pure i him hb;have ho:(Za6 B m ops)[i]?=some (od9 (opO ops i)):=by
    rw[kb6,Ga6 hlt];simp only[Option.map_some,hb,Bool.true_or,zb5]
   have hs:=Ld4 ho hsim;have hev:execOp a.eval (opO ops i)=execOp a'.eval (opO ops i):=execOp_congr _ (zb7 hpur).1 λx hx=>hR.eval λt e k hk hbk hdk=>hdi k (hH.use i him x hx t e k hk hbk hdk)
   have hrun:=hB i him hb a' w h.1 d hd;unfold wpOpIn;rw[Ga6 hlt];simp only[Region.wanted,Pb8 hpur,if_true];refine⟨λf _=>hF.fn f,?_⟩
   rw[Oper.semAt_eq _ _ _ (zb7 hpur).2,hev,hrun];show wpAnyIn Fe n P .any ops Q fuel (listed.setIfInBounds i true) (a.put (opO ops i).dst (a'.tmps.getD d undef)) w;refine Cd9 hH hF hB hdst hQ1 hQ2 hQ fuel _ _ a' w hsz' hcl' hnt' ⟨(o5 _ _).trans hR.dz,(O8 _ _).trans hR.sz,λt ht=>?_⟩ (by omega) hs
   rw[hd,bd6];by_cases e:some d=some t/\t<a.tmps.size
   ·rw[if_pos e];obtain⟨e1,e2⟩:=e;injection e1 with e1;subst e1
    have:d<a'.tmps.size:=by rw[<- hR.sz];exact e2
    simp[Array.getD,this]
   ·rw[if_neg e];by_cases e3:d=t
    ·subst e3
     have:¬ d<a.tmps.size:=λhh=>e ⟨rfl,hh⟩
     have h1:a.tmps.size<=d:=Qfg this;have h2:a'.tmps.size<=d:=by rw[<- hR.sz];exact h1
     grind
    ·refine hR.on t λk hk hbk hdk=>?_
     rcases (G5 hil).1 (ht k hk hbk hdk) with hx|rfl
     ·exact hx
     grind
  |false =>
   have hpl:=hH.plain i him hb;have ho:(Za6 B m ops)[i]?=some (opO ops i):=by
    rw[kb6,Ga6 hlt]
    have:(B i||Nat.ble m i)=false:=by
     rw[hb];cases hh:Nat.ble m i with
     |false=>rfl
     |true=>have:=Qbb hh;omega
    simp only[Option.map_some,this,zb5]
   have hwant:Region.wanted (opO ops i) (yielded ops a.tmps)=Region.wanted (opO ops i) (yielded (Za6 B m ops) a'.tmps):=by
    unfold Region.wanted;cases hg:(opO ops i).guard with
    |none=>rfl
    |some gw =>
     obtain⟨g,want⟩:=gw;obtain⟨g1,g2,g3⟩:=hH.guard i him hb g want hg
     have:yielded ops a.tmps g=yielded (Za6 B m ops) a'.tmps g:=by
      unfold yielded;have e1:(Za6 B m ops)[g]?=ops[g]?:=by
       rw[kb6]
       have:(B g||Nat.ble m g)=false:=by
        rw[g2];cases hh:Nat.ble m g with
        |false=>rfl
        |true=>have:=Qbb hh;omega
       cases ops[g]? with
       |none=>rfl
       |some o=>simp only[Option.map_some,this,zb5]
      rw[e1];cases ht:(ops[g]?).bind (·.dst) with
      |none=>rfl
      |some t =>
       have hgl:g<ops.size:=by have:=hH.lt;omega
       rw[Ga6 hgl] at ht;simp only[Option.bind_some] at ht ⊢;rw[hR.on t λk hk hbk hdk=>absurd hdk (g3 t ht k hk hbk)]
     simp only[this]
   have hev:∀x∈(opO ops i).op.operands,a.eval x=a'.eval x:=λx hx=>hR.eval λt e k hk hbk hdk=>hdi k (hH.use i him x hx t e k hk hbk hdk)
   have hput:∀(d:List Deferred) v,Rl ops m B (listed.setIfInBounds i true) ({ a with defers:=d++a.defers }.put (opO ops i).dst v) ({ a' with defers:=d++a'.defers }.put (opO ops i).dst v):=λd v=>by
    refine⟨by rw[o5,o5];show d++a.defers=d++a'.defers;rw[hR.dz],by rw[O8,O8];exact hR.sz,λt ht=>?_⟩
    rw[bd6,bd6];show (if (opO ops i).dst=some t/\t<a.tmps.size then some v else a.tmps[t]?)=if (opO ops i).dst=some t/\t<a'.tmps.size then some v else a'.tmps[t]?
    rw[hR.sz];split
    ·rfl
    ·refine hR.on t λk hk hbk hdk=>?_
     rcases (G5 hil).1 (ht k hk hbk hdk) with hx|rfl
     ·exact hx
     ·rw[hb] at hbk;cases hbk
   have hput0:∀v,Rl ops m B (listed.setIfInBounds i true) (a.put (opO ops i).dst v) (a'.put (opO ops i).dst v):=λv=>hput [] v
   have hnext:∀a2 a2' w2,Rl ops m B (listed.setIfInBounds i true) a2 a2'->Pb9 Φ Fe n P .any (Za6 B m ops) Q' fuel (listed.setIfInBounds i true) a2' w2->wpAnyIn Fe n P .any ops Q fuel (listed.setIfInBounds i true) a2 w2:=λa2 a2' w2 hr h2=>Cd9 hH hF hB hdst hQ1 hQ2 hQ fuel _ a2 a2' w2 hsz' hcl' hnt' hr (by omega) h2
   unfold wpOpIn at hsim ⊢;rw[ho] at hsim;rw[Ga6 hlt];simp only[hwant] at hsim ⊢;split
   ·rename_i hw;rw[if_pos hw] at hsim;exact he3 hpl hev (λd v w2 h2=>hnext _ _ _ (hput d v) h2) hQ1 hQ2 hsim
   ·rename_i hw;rw[if_neg hw] at hsim;exact⟨λf _=>hF.fn f,hnext _ _ _ (hput0 _) hsim.2⟩
end
section
variable{WB K:Nat->Prop}{J:List Value->World->Prop}{ρ ρ0:Rho}{H H0 H':List c7}{F F0:Fz}{w w0 w':World}{W':Nat->Prop}{up:List Value}{E:Env}{a:List b9}{ac:Act}{x:b9}{o:Oper}
variable{ds:List Deferred}{n:Nat}(hC:C2 E.P WB K J ρ0 H0 F0 w0 H ds w ρ F W' up)(hv:VR ρ H F w a (ac.tmps.toList++up))(hn:ac.tmps.size=n)(hG:GOk E F w)
def Dd0(E:Env)(W':Nat->Prop)(F:Fz)(w:World)(ac:Act)(o:Oper)(p:Nat)(v:Value):Prop :=
 ∀(a2:Act) (w2:World),a2.eval (.tmp p)=ac.eval (.tmp p)->Ext W' F w w2->(execOp a2.eval o).run E.P w2=.ok (.value v) w2
include hC hv hn hG
theorem he4{t:TypeId}{p:Nat}(ho:o.op=.load t (.tmp p))(hp:Nat.blt p n=true)(hu:E.P.underlying t≠none)(he:(Ma9 E a H (.bload (szT E.P t) (agT E.P t) p)).run=some (x,H')) :
  H'=H/\∃v,XW ρ H F w x v/\Dd0 E W' F w ac o p v:=by
 have hyr:=Qa8 hv hn hG (.tmp p) hp;simp only[Ma9] at he;cases hs:Ib7 0 H (c9 E a (.t p)) with
 |none=>rw[hs] at he;cases he
 |some q =>
 obtain⟨id,c,g,b⟩:=q;rw[hs] at he
 simp only at he
 obtain⟨h1,h2,h3,h4,h5⟩:=kb5 hs hyr;cases hle:Nat.ble (c+szT E.P t) (len (j6 b.elems 0)) with
 |false=>rw[hle] at he;cases he
 |true =>
 rw[hle] at he;obtain⟨z,hz1,hz2⟩:=Aa6 he;obtain⟨e0,rfl⟩:x=z/\H=H':=by injection hz2 with e1 e2;exact⟨e1,e2.symm⟩
 rw[e0]
 clear e0 hz2
 obtain⟨_,hnW,_,hlt,hcont⟩:=hC.srel.has id b h2 (Ba3 h4) h3
 rcases hcont with⟨_,row,vs,tt,m1,m2,m3,m4⟩|⟨t',K',El,fl,es,clk,m1,_⟩
 case inr=>exact (pb7 h4 m1).elim
 have hrow:j6 b.elems 0=row:=by rw[m1];rfl
 rw[hrow] at hle hz1;rw[l6] at hle;have hle:=Qbb hle;have hti:∃i,E.P.info? t=some i/\i.size=szT E.P t:=by
  cases hd:E.P.underlying t with
  |none=>exact absurd hd hu
  |some d=>exact Ka1 hd
 obtain⟨ti,hi1,hi2⟩:=hti;generalize hsz:szT E.P t=k at *
 have hheap:∀w2,Ext W' F w w2->w2.heap[(ρ id).blk]?=some (.cells vs tt (0,0)):=λw2 hx=>(hx.block _ hlt hnW).trans m2
 have hcell:∀w2,Ext W' F w w2->∀j,j<k->w2.cell? ⟨(ρ id).blk,c+j,none⟩=some (vs.getD (c+j) undef):=λw2 hx j hj=>by
  have hlt:c+j<vs.size:=by omega
  simp[World.cell?,hheap w2 hx,hlt]
 have hrel:∀j,j<k->∀y,row[c+j]?=some y->XC ρ H F w y (vs.getD (c+j) undef):=λj hj y hy=>by
  have hlt:c+j<vs.size:=by omega
  exact (m4 (c+j) y _ hy (by simp[hlt])).2
 have hvals:∀w2,Ext W' F w w2->∀(j:Nat) v,((List.range k).map λj=>vs.getD (c+j) undef)[j]?=some v->w2.cell? (Addr.add ⟨(ρ id).blk,c,none⟩ j)=some v:=λw2 hx j v hj=>by
  obtain⟨hj1,hj2⟩:=sa1 hj;rw[I5 rfl];rw[<- hj2];exact hcell w2 hx j hj1
 have hev:ac.eval (.tmp p)=.pointer (some ⟨(ρ id).blk,c,none⟩):=h5;refine⟨rfl,?_⟩;cases hag:agT E.P t with
 |true =>
  rw[hag] at hz1;have hz1:some (b9.agg (l9 (T6 H) (A7 (i9 row c) k)))=some z:=hz1;injection hz1 with hz1;subst hz1;refine⟨.agg ((List.range k).map λj=>vs.getD (c+j) undef).toArray,.w (.val (.agg _ _ ?_ λi y y' hy hy'=>?_)),λa2 w2 he2 hx=>?_⟩
  ·rw[k9,A8,v7];simp;omega
  ·rw[k9,A8,v7,Qbm] at hy;have hy':((List.range k).map λj=>vs.getD (c+j) undef)[i]?=some y':=by simpa using hy'
   obtain⟨hj1,hj2⟩:=sa1 hy';rw[Qbe,if_pos hj1,Qbj] at hy;cases hq:row[c+i]? with
   |none=>rw[hq] at hy;cases hy
   |some q =>
    rw[hq] at hy;injection hy with hy;subst hy;rw[<- hj2];exact Kd9 (hrel i hj1 q hq)
  ·have hlc : (Go.loadCells ⟨(ρ id).blk, c, none⟩ k).run E.P w2 = .ok ((List.range k).map fun j => vs.getD (c + j) undef).toArray w2 := by
    have:=run_loadCells_list (P:=E.P) w2 ⟨(ρ id).blk,c,none⟩ ((List.range k).map λj=>vs.getD (c+j) undef) (hvals w2 hx)
    simpa using this
   simp[execOp,ho,he2.trans hev,Instr.loadAt,Instr.sureAddr,loadVar,Fa8 hag,sizeOf,typeInfo,hi1,hi2,hlc]
 |false =>
  rw[hag] at hz1;have hz1:(match A7 (i9 row c) k with | [x]=>some x | _=>none:Option b9)=some z:=hz1
  rw[A8,v7] at hz1;have hk1:k=1/\row[c]?=some z:=by
   have hl:((row.drop c).take k).length=k:=by simp;omega
   split at hz1
   ·rename_i y hy;injection hz1 with hz1;subst hz1;rw[hy] at hl;have hk:k=1:=by simpa using hl.symm
    refine⟨hk,?_⟩;have h0:((row.drop c).take k)[0]?=some y:=by rw[hy];rfl
    rw[Qbe,if_pos (by omega),Qbj] at h0
    simpa using h0
   ·cases hz1
  obtain⟨hk,hz⟩:=hk1;subst hk;refine⟨vs.getD c undef,.c ?_,λa2 w2 he2 hx=>?_⟩
  ·have:=hrel 0 (by omega) z (by rw[Nat.add_zero];exact hz)
   rwa [Nat.add_zero] at this
  ·have hc0:=hcell w2 hx 0 (by omega)
   rw[Nat.add_zero] at hc0;simp[execOp,ho,he2.trans hev,Instr.loadAt,Instr.sureAddr,loadVar,xa0 hag hu,hc0]
theorem Ae1{s:TypeId}{p f:Nat}{fs:Array Field}{fd:Field}(ho:o.op=.fieldAddr s (.tmp p) f)(hp:Nat.blt p n=true)(hs':E.P.underlying s=some (.struct fs))(hf:fs[f]?=some fd)(hz:szT E.P fd.type≠0)
  (he:(Ma9 E a H (.bfld fd.offset p)).run=some (x,H')):H'=H/\∃v,XW ρ H F w x v/\Dd0 E W' F w ac o p v:=by
 have hyr:=Qa8 hv hn hG (.tmp p) hp;simp only[Ma9] at he;cases hs:Ib7 0 H (c9 E a (.t p)) with
 |none=>rw[hs] at he;cases he
 |some q =>
 obtain⟨id,c,g,b⟩:=q;rw[hs] at he;have he':some (b9.ptr id 0 (c+fd.offset) g,H)=some (x,H'):=he;obtain⟨rfl,rfl⟩:x=b9.ptr id 0 (c+fd.offset) g/\H=H':=by injection he' with he';injection he' with e1 e2;exact⟨e1.symm,e2⟩
 obtain⟨h1,h2,h3,h4,h5⟩:=kb5 hs hyr;obtain⟨ti,hi,hi0,hi1⟩:=Tb4 hz;have hev:ac.eval (.tmp p)=.pointer (some ⟨(ρ id).blk,c,none⟩):=h5;refine⟨rfl,.pointer (some (Addr.add ⟨(ρ id).blk,c,none⟩ fd.offset)),.c ?_,λa2 w2 he2 hx=>?_⟩
 ·rw[I5 rfl];exact .box id (c+fd.offset) g b h2 h3 h4
 ·simp[execOp,ho,he2.trans hev,Instr.fieldAt,Instr.sureAddr,run_underlying hs',hf,fieldPlace,sizeOf,typeInfo,hi,hi1]
theorem kf7{pr:List Nat}{so:SP}(hb:Vd9 pr o=true)(hs:cSp E.P n pr o=some so)(he:(Ma9 E a H so).run=some (x,H')) :
  ∃p,Tc3 o=some p/\H'=H/\∃v,XW ρ H F w x v/\Dd0 E W' F w ac o p v:=by
 unfold Vd9 at hb;rw[Qbd] at hb;obtain⟨_,hb⟩:=hb;unfold cSp at hs
 split at hb
 ·rename_i t y ho;rw[ho] at hs
  simp only at hs
  cases hp:Vb7 pr y with
  |none=>rw[hp] at hb;cases hb
  |some p =>
  rw[hp] at hs
  simp only at hs
  injection hs with hs;subst hs
  obtain⟨h1,h2⟩:=aa1 he;rw[h2] at he;have hy:=Ga5 hp;subst hy;rw[Qbd] at h1;have hu:E.P.underlying t≠none:=λe=>by rw[e] at h1;cases h1.2
  exact⟨p,by unfold Tc3;rw[ho],he4 hC hv hn hG ho h1.1 hu he⟩
 ·rename_i s y f ho;rw[ho] at hs
  simp only at hs
  cases hp:Vb7 pr y with
  |none=>rw[hp] at hb;cases hb
  |some p =>
  rw[hp] at hs
  simp only at hs
  have hy:=Ga5 hp;subst hy
  split at hs
  ·rename_i fs hs'
   split at hs
   ·rename_i fd hf;injection hs with hs;subst hs
    obtain⟨h1,h2⟩:=aa1 he;rw[h2] at he;rw[Qbd] at h1;exact⟨p,by unfold Tc3;rw[ho],Ae1 hC hv hn hG ho h1.1 hs' hf (pb9 h1.2) he⟩
   ·injection hs with hs;subst hs;cases he
  ·injection hs with hs;subst hs;cases he
 ·cases hb
end
theorem Dd1{ops:Array Oper}{m:Nat}{B:Nat->Bool}(h:Ac9 B m ops=true):Hst ops m B:=by
 simp only[Ac9,Qbd,Qcf,Qcj,Qch] at h;obtain⟨⟨⟨h1,h2⟩,h3⟩,h4⟩:=h;refine⟨Qbb h1,λj hj i hi=>h2 j hj i hi,λj hm hj i hi=>?_,λj hj hb=>?_,λj hj hb=>?_,λj hj hb g b hg=>?_,λj hj x hx t e i hi hbi hd=>?_⟩
 ·have:=h3 j hj
  simp only[Qdf,Qch,Ac8,Qcf,Qcj] at this
  grind
 ·grind
 ·grind
 ·have:=(h4 j hj).1
  rw[hb,hg] at this;simp only[Qbd,Qch,Qdb,Qcf,Qcj,Qdf] at this
  grind
 ·have:=(h4 j hj).2 x (Qfk.2 hx)
  subst e;simp only[fe3,Qcf,Qcj,Qdf,Qdb] at this
  grind
theorem Wd3{ops:Array Oper}{m:Nat}{B:Nat->Bool}(h:Ac9 B m ops=true):∀i,i<m->B i=true->∃d,(opO ops i).dst=some d:=λi hi hb=>by
 simp only[Ac9,Qbd,Qcf,Qcj,Qch] at h
 have:=(h.2 i hi).1
 rw[hb] at this;simp only[Qbd] at this;cases hd:(opO ops i).dst with
 |none=>rw[hd] at this;cases this.2
 |some d=>exact⟨d,rfl⟩
section
variable{WB K:Nat->Prop}{J:List Value->World->Prop}{ρ ρ0:Rho}{H0:List c7}{F F0:Fz}{w w0:World}{W':Nat->Prop}{up:List Value}{E:Env}{n:Nat}{pr:List Nat}
theorem kf8(hG0:GOk E F0 w0){kk:Nat}:∀(r:List Oper) (s:St) (ac:Act) (x:d8) (s':St),r.all (Vd9 pr)=true->ze6 n r=true->I2 E.P WB K J n ρ0 H0 F0 w0 s ac w ρ F W' up->(A1 E kk (Wd0 E.P n pr r) s).run=some (x,s') ->
  x=.normal/\∃ac1,I2 E.P WB K J n ρ0 H0 F0 w0 s' ac1 w ρ F W' up/\ac1.defers=ac.defers/\(∀t,t∉E1 r->ac1.tmps[t]?=ac.tmps[t]?) /\
   ∀o∈r,∃p d,Tc3 o=some p/\o.dst=some d/\∀(a2:Act) (w2:World),a2.tmps[p]?=ac1.tmps[p]?->a2.tmps[d]?=ac1.tmps[d]?->Ext W' F w w2->(execOp a2.eval o).run E.P w2=.ok (.value (a2.tmps.getD d undef)) w2
 |[],s,ac,x,s',_,_,hI,he=>by
  have he:some (d8.normal,s)=some (x,s'):=he
  grind
 |o::r,s,ac,x,s',hb,hc,hI,he=>by
  rw[List.all_cons,Qbd] at hb;simp only[ze6,Qbd] at hc;obtain⟨hc1,hc2⟩:=hc;simp only[Wd0] at he;cases hs:cSp E.P n pr o with
  |none=>rw[hs] at he;cases he
  |some so =>
  rw[hs] at he;obtain⟨⟨x1,s1⟩,h1,h2⟩:=DT.run_bind_some (show ((A1 E kk (.sp o.dst none so) s).bind λr2=>d8.rec (motive:=λ_=>DT (d8×St)) (A1 E kk (Wd0 E.P n pr r) r2.2) (λid=>.ret (.exit id,r2.2)) (.ret (.ret,r2.2)) r2.1).run=some (x,s') from he)
  obtain⟨s2,k1,k2⟩:=DT.run_bind_some (show (((Ma9 E s.a s.H so).bind λr=>.ret ⟨putA s.a o.dst r.1,r.2⟩).bind λs=>.ret (d8.normal,s)).run=some (x1,s1) from h1)
  have k2:some (d8.normal,s2)=some (x1,s1):=k2;injection k2 with k2;injection k2 with e1 e2;subst e1 e2
  obtain⟨⟨xv,H'⟩,q1,q2⟩:=DT.run_bind_some k1;have q2:some (⟨putA s.a o.dst xv,H'⟩:St)=some s2:=q2;injection q2 with q2;subst q2;obtain⟨p,hp,rfl,v,hxv,hst⟩:=kf7 hI.core hI.vals hI.size (hG0.adv hI.core.adv) hb.1 hs q1;rw[hp] at hc1;cases hd:o.dst with
  |none=>rw[hd] at hc1;simp at hc1
  |some d =>
  rw[hd] at hc1;simp only[Qbd,Qch,Qdb] at hc1;obtain⟨⟨hdn,hpn⟩,hdr⟩:=hc1;have hpn':p∉E1 (o::r):=λh=>by rw[Qfc.2 h] at hpn;cases hpn
  have hdr':d∉E1 r:=λh=>by rw[Qfc.2 h] at hdr;cases hdr
  have hds:E1 (o::r)=d::E1 r:=by unfold E1;rw[List.filterMap_cons,hd]
  rw[hds] at hpn';have hpd:p≠d:=λe=>hpn' (by rw[e];simp)
  have hpr:p∉E1 r:=λh=>hpn' (by simp[h])
  have hI1:I2 E.P WB K J n ρ0 H0 F0 w0 ⟨putA s.a o.dst xv,s.H⟩ (ac.put o.dst v) w ρ F W' up :=
   ⟨by rw[o5];exact hI.core,hI.vals.putA hI.size (by rw[hd];unfold dOk;rw[Qch];exact hdn) hxv,(O8 _ _).trans hI.size⟩
  obtain⟨hx,ac1,j1,j2,j3,j4⟩:=kf8 hG0 r _ _ x s' hb.2 hc2 hI1 h2;refine⟨hx,ac1,j1,j2.trans (o5 _ _),λt ht=>?_,λo' ho'=>?_⟩
  ·rw[hds] at ht;rw[j3 t λh=>ht (by simp[h]),kb3]
   grind
  ·rcases Qbp.1 ho' with rfl|ho'
   ·refine⟨p,d,hp,hd,λa2 w2 e1 e2 hx=>?_⟩
    have ep:a2.eval (.tmp p)=ac.eval (.tmp p):=by
     show a2.tmps.getD p undef=ac.tmps.getD p undef
     have:a2.tmps[p]?=ac.tmps[p]?:=by
      rw[e1,j3 p hpr,kb3]
      grind
     simp only[Qbv,this]
    have ev:a2.tmps.getD d undef=v:=by
     have:a2.tmps[d]?=some v:=by
      rw[e2,j3 d hdr',hd,bd6,if_pos ⟨rfl,by rw[hI.size];exact hdn⟩]
     simp only[Qbv,this,Option.getD_some]
    rw[ev];exact hst a2 w2 ep hx
   ·exact j4 o' ho'
end
section
variable{WB K:Nat->Prop}{J:List Value->World->Prop}{ρ ρ0:Rho}{H H0:List c7}{F F0:Fz}{w w0:World}{W':Nat->Prop}{up:List Value}{P:Program}{n:Nat}
theorem Bc5{id:Nat}:∀{H:List c7},jd5 id H=true->∀(i:Nat) b,H[i]?=some b->r5 b=true->∀row∈b.elems,∀x∈row,wb5 id x=true
 |[],_,i,b,hb=>by simp at hb
 |c::H,h,i,b,hb=>by
  have e:jd5 id (c::H)=Bool.rec (motive:=λ_=>Bool) (jd5 id H) (Bool.rec false (jd5 id H) (Rd7 (ia0 (wb5 id)) c.elems)) (r5 c):=rfl
  rw[e] at h;have hR:∀{l:List (List b9)},Rd7 (ia0 (wb5 id)) l=true->∀row∈l,∀x∈row,wb5 id x=true:=by
   intro l
   induction l with
   |nil=>intro _ row hr;cases hr
   |cons r l ih =>
    intro hl row hr;have e2:Rd7 (ia0 (wb5 id)) (r::l)=Bool.rec false (Rd7 (ia0 (wb5 id)) l) (ia0 (wb5 id) r):=rfl;rw[e2] at hl;cases hq:ia0 (wb5 id) r with
    |false=>rw[hq] at hl;cases hl
    |true =>
     rw[hq] at hl
     rcases Qbp.1 hr with rfl|hr
     ·exact xb0 hq
     ·exact ih hl row hr
  cases hc:r5 c with
  |false =>
   rw[hc] at h;cases i with
   |zero =>
    simp_all
   |succ i=>exact Bc5 h i b (by simpa using hb)
  |true =>
   rw[hc] at h;cases hq:Rd7 (ia0 (wb5 id)) c.elems with
   |false=>rw[hq] at h;cases h
   |true =>
    rw[hq] at h;cases i with
    |zero =>
     grind
    |succ i=>exact Bc5 h i b (by simpa using hb)
section
variable{id:Nat}{b e:c7}(hb:H[id]?=some b)(hs:r5 b=false)(he:r5 e=true)
include hb hs he
theorem Dd2{id1:Nat}{b1:c7}(h:(j8 (H.set id e))[id1]?=some b1)(hd:b1.dead=false):id1≠id/\(j8 H)[id1]?=some b1:=by
 obtain⟨h1,h2⟩:=S8 h hd;have hid:=(Qab.1 hb).1;by_cases x:id=id1
 ·simp_all
 ·rw[Qaf x] at h1;exact⟨λy=>x y.symm,N1 h1 h2⟩
theorem Bc6{id1:Nat}{b1:c7}(hn:id1≠id)(h:(j8 H)[id1]?=some b1)(hd:b1.dead=false):(j8 (H.set id e))[id1]?=some b1:=by
 obtain⟨h1,h2⟩:=S8 h hd;exact N1 (by rw[Qaf λy=>hn y.symm];exact h1) h2
theorem Bc7{x:b9}{x':Value}(h:J9 ρ (j8 H) F w x x'):J9 ρ (j8 (H.set id e)) F w (jb6 id x) x':=by
 cases h with
 |mem h =>
  cases h with
  |v _ h1=>exact .mem (.v _ h1)
  |fn f caps vs _ e1 hl hb1 h=>exact .mem (.fn f caps vs _ e1 hl hb1 h)
  |tree es n get a cap cs h1 h2 h3 h4 h5 h6=>exact .mem (.tree es n get a cap cs h1 h2 h3 h4 h5 h6)
  |nil es get=>exact .mem (.nil es get)
  |tptr cs a vs h1 h2 h3 h4=>exact .mem (.tptr cs a vs h1 h2 h3 h4)
 |v _=>exact .v _
 |ptr id1 i c g a b1 hb1 hd hg h =>
  have e1:jb6 id (.ptr id1 i c g)=Bool.rec (motive:=λ_=>b9) (.ptr id1 i c g) .unk (Nat.beq id1 id):=rfl
  rw[e1];cases hq:Nat.beq id1 id with
  |true=>exact .unk _
  |false=>exact .ptr id1 i c g a b1 (Bc6 hb hs he (Qbae hq) hb1 hd) hd hg h
 |sl id1 off n g a cap b1 hb1 hd hg hn hs1 hm h =>
  have e1:jb6 id (.sl id1 off n g)=Bool.rec (motive:=λ_=>b9) (.sl id1 off n g) .unk (Nat.beq id1 id):=rfl
  rw[e1];cases hq:Nat.beq id1 id with
  |true=>exact .unk _
  |false=>exact .sl id1 off n g a cap b1 (Bc6 hb hs he (Qbae hq) hb1 hd) hd hg hn hs1 hm h
 |tptr cs a vs h1 h2 h3 h4=>exact .tptr cs a vs h1 h2 h3 h4
 |unk x'=>exact .unk _
theorem ec4{x:b9}(h:wb5 id x=true):jb6 id x=x:=by
 cases x with
 |ptr id1 i c g =>
  have e1:jb6 id (.ptr id1 i c g)=Bool.rec (motive:=λ_=>b9) (.ptr id1 i c g) .unk (Nat.beq id1 id):=rfl
  rw[e1];have h:(!Nat.beq id1 id)=true:=h
  simp_all
 |sl id1 i c g =>
  have e1:jb6 id (.sl id1 i c g)=Bool.rec (motive:=λ_=>b9) (.sl id1 i c g) .unk (Nat.beq id1 id):=rfl
  rw[e1];have h:(!Nat.beq id1 id)=true:=h
  simp_all
 |_=>rfl
theorem Me8{id1:Nat}{b1:c7}(h:H[id1]?=some b1)(h1:r5 b1=true):id≠id1:=λx=>by
 simp_all
theorem pd5{x:b9}{x':Value}(h:XC ρ H F w x x'):XC ρ (H.set id e) F w (jb6 id x) x':=by
 cases h with
 |n h=>exact .n (Bc7 hb hs he h)
 |box id1 c g b1 hb1 hd he1 =>
  have hne:=Me8 hb hs he hb1 (Ba3 he1);have e1:jb6 id (.ptr id1 0 c g)=.ptr id1 0 c g:=ec4 hb hs he (by
   show (!Nat.beq id1 id)=true;cases hq:Nat.beq id1 id with
   |true=>exact absurd (Qae hq).symm hne
   |false=>rfl)
  rw[e1];exact .box id1 c g b1 (by rw[Qaf hne];exact hb1) hd he1
 |map id1 c g b1 t hb1 hd he1 =>
  have hne:=Me8 hb hs he hb1 (Ga4 he1);have e1:jb6 id (.ptr id1 0 c g)=.ptr id1 0 c g:=ec4 hb hs he (by
   show (!Nat.beq id1 id)=true;cases hq:Nat.beq id1 id with
   |true=>exact absurd (Qae hq).symm hne
   |false=>rfl)
  rw[e1];exact .map id1 c g b1 t (by rw[Qaf hne];exact hb1) hd he1
theorem he5{x:b9}{x':Value}(h:XW ρ H F w x x'):XW ρ (H.set id e) F w (wc6 id x) x':=by
 have hcells:∀{cs:List b9} {vs:Array Value},(∀(i:Nat) x x',cs[i]?=some x->vs[i]?=some x'->J9 ρ (j8 H) F w x x')->∀(i:Nat) x x',(l9 (jb6 id) cs)[i]?=some x->vs[i]?=some x'->J9 ρ (j8 (H.set id e)) F w x x':=λ{cs vs} h i x x' hx hx'=>by
  rw[k9,Qbm] at hx;cases hy:cs[i]? with
  |none=>rw[hy] at hx;cases hx
  |some y =>
   rw[hy] at hx;injection hx with hx;subst hx;exact Bc7 hb hs he (h i y x' hy hx')
 have hfn:∀{f:FuncId} {cs:List b9} {v:Value},v8 ρ (j8 H) F w (.fn f cs) v->XW ρ (H.set id e) F w (wc6 id (.fn f cs)) v:=λ{f cs v} h=>by
  obtain⟨vs,rfl,hl,h⟩:=eb9 h;exact .w (.val (.fn f _ vs (by rw[k9];simpa using hl) (hcells h)))
 have hbare:∀{x:b9} {x':Value},J9 ρ (j8 H) F w x x'->XW ρ (H.set id e) F w (wc6 id x) x':=λ{x x'} h=>by
  cases x with
  |fn f cs=>exact hfn (.val (.cell h))
  |agg=>cases h with
   |mem h=>cases h
  |tup=>exact .w (.unk _)
  |_=>exact .w (.val (.cell (Bc7 hb hs he h)))
 cases h with
 |w h =>
  cases h with
  |tup=>exact .w (.unk _)
  |val h =>
   cases h with
   |cell h=>exact hbare h
   |agg cs vs hl h=>exact .w (.val (.agg _ vs (by rw[k9];simpa using hl) (hcells h)))
   |fn f cs vs hl h=>exact hfn (.val (.fn f cs vs hl h))
 |c h =>
  cases x with
  |fn f cs=>cases h with
   |n h=>exact hbare h
  |agg=>cases h with
   |n h=>exact hbare h
  |tup=>exact .w (.unk _)
  |_=>exact .c (pd5 hb hs he h)
end
theorem he6{p:Nat}{s s':St}{x:d8}{ac:Act}(hI:Ac5 P WB K J n ρ0 H0 F0 w0 s ac w)(hrun:(Yc0 H0.length p s).run=some (x,s')):x=.normal/\Ac5 P WB K J n ρ0 H0 F0 w0 s' ac w:=by
 obtain⟨ρ,F,W',up,hI⟩:=hI;unfold Yc0 at hrun;cases hp:nth s.a p with
 |none=>rw[hp] at hrun;cases hrun
 |some v =>
 cases v with
 |ptr id i c g =>
  rw[hp] at hrun
  simp only at hrun
  cases hbk:blkAt s.H id g with
  |none=>rw[hbk] at hrun;cases hrun
  |some b =>
  rw[hbk] at hrun
  simp only at hrun
  obtain⟨hb,hdead,hg⟩:=p5 hbk
  split at hrun
  case h_2=>cases hrun
  rename_i row helems
  split at hrun
  case h_2=>cases hrun
  rename_i hck;have hrun:some (d8.normal,(⟨setAt (l9 (wc6 id) s.a) p (.ptr id 0 0 (b.g+1)),setAt s.H id { b with et:=0,es:=0,g:=b.g+1 }⟩:St))=some (x,s'):=hrun
  injection hrun with hrun;injection hrun with e1 e2;subst e1 e2
  refine⟨rfl,?_⟩;simp only[Qbd,Qdb] at hck;obtain⟨hk,hi,hc,hown,hsp,hbox,hno⟩:=hck;have hk:=Qbb hk;have hi:=Qae hi;have hc:=Qae hc;subst hi hc;have hmk:(j8 s.H)[id]?=some b:=N1 hb hsp;obtain⟨cc,t,fr,hB⟩:=hI.core.hrel.blk id b hmk hdead;obtain⟨hfr,hW,hoff,hsz,hnF,_⟩:=hB.own hown;subst hfr;have hlt:=hB.lt;have hid:=(Qab.1 hb).1;rw[r6,r6,k9];generalize hee:({ b with et:=0,es:=0,g:=b.g+1 }:c7)=e
  have hes:r5 e=true:=by subst hee;rfl
  have hed:e.dead=false:=by subst hee;exact hdead
  have hebox:Sc8 e:=by subst hee;exact⟨rfl,rfl⟩
  have heel:e.elems=[row]:=by subst hee;exact helems
  have hrl:row.length=b.es:=hB.rows 0 row (by rw[helems];rfl)
  have hlive:=λ{id1:Nat} {b1:c7}=>Dd2 (id1:=id1) (b1:=b1) hb hsp hes
  have hother:∀id1,id1≠id->(s.H.set id e)[id1]?=s.H[id1]?:=λid1 hn=>Qaf λy=>hn y.symm
  have hself:(s.H.set id e)[id]?=some e:=by simp[hid]
  refine⟨ρ,F,λk=>W' k/\k≠(ρ id).blk,up,⟨⟨λk hk=>hI.core.sub k hk.1,?_,?_,?_,λk hk=>⟨λh=>(hI.core.kept k hk).1 h.1,(hI.core.kept k hk).2⟩,λid1 b1 h1 hs1 hd1 hK=>?_,hI.core.jot,?_⟩,⟨?_,λj y y' hy hy'=>?_⟩,hI.size⟩⟩
  ·have hA:=hI.core.adv;refine⟨hA.ext,λid0 b0 h0=>?_,hA.more,hA.new,λid1 b' h1 hn=>?_⟩
   ·have h0l:=(Qab.1 h0).1;obtain⟨b',k1,k2⟩:=hA.heap id0 b0 h0
    grind
   ·have h1:(s.H.set id e)[id1]?=some b':=h1;by_cases y:id1=id
    ·subst y;exact hI.core.sub _ hW
    ·rw[hother id1 y] at h1;exact hA.fresh id1 b' h1 hn
  ·have hR:=hI.core.hrel;refine⟨λid1 b1 h1 hd1=>?_,λid1 id2 b1 b2 h1 h2 hd1 hd2 ho hne=>?_,hR.frz,λk hk=>⟨hR.new k hk,λy=>by subst y;exact absurd hlt (Nat.not_lt.2 hk)⟩⟩
   ·obtain⟨k1,k2⟩:=hlive h1 hd1;obtain⟨cc1,t1,fr1,hB1⟩:=hR.blk id1 b1 k2 hd1;exact⟨cc1,t1,fr1,hB1.obj,hB1.room,hB1.len,hB1.rows,hB1.cell,λho=>by
     obtain⟨g1,g2,g3⟩:=hB1.own ho;exact⟨g1,⟨g2,hR.apart id1 id b1 b k2 hmk hd1 hdead ho k1⟩,g3⟩,hB1.kept⟩
   ·exact hR.apart id1 id2 b1 b2 (hlive h1 hd1).2 (hlive h2 hd2).2 hd1 hd2 ho hne
  ·have hS:=hI.core.srel;refine⟨λid1 b1 h1 hs1 hd1=>?_,λid1 id2 b1 b2 h1 h2 hs1 hs2 hd1 hd2 hne=>?_⟩
   ·by_cases y:id1=id
    ·subst y
     have:b1=e:=Qah (h1.symm.trans hself)
     subst this;refine⟨hI.core.sub _ hW,λh=>h.2 rfl,hnF,hlt,.inl ⟨hebox,row,cc,t,heel,hB.obj,?_,λc x x' hx hx'=>?_⟩⟩
     ·have:=hB.len
      simp_all
     ·obtain⟨x2,m1,m2⟩:=hB.cell 0 row c x (by rw[helems];rfl) hx
      rw[hoff] at m1;have m1:cc[c]?=some x2:=by simpa using m1
      obtain rfl:x'=x2:=Qah (hx'.symm.trans m1);exact⟨m2.one,.n (.mem m2)⟩
    ·have h1':s.H[id1]?=some b1:=by rw[<- hother id1 y];exact h1
     obtain⟨k1,k2,k3,k4,k5⟩:=hS.has id1 b1 h1' hs1 hd1;refine⟨k1,λh=>k2 h.1,k3,k4,?_⟩
     rcases k5 with⟨q1,row1,vs,tt,m1,m2,m3,m4⟩|k5
     ·refine .inl ⟨q1,row1,vs,tt,m1,m2,m3,λc x x' hx hx'=>⟨(m4 c x x' hx hx').1,?_⟩⟩
      have hn:=Bc5 hno id1 b1 h1' hs1 row1 (by rw[m1];simp) x (Qca hx)
      have:=pd5 hb hsp hes (m4 c x x' hx hx').2
      rwa [ec4 hb hsp hes hn] at this
     ·exact .inr k5
   ·by_cases y:id1=id
    ·subst y;have h2':s.H[id2]?=some b2:=by rw[<- hother id2 (λy=>hne y.symm)];exact h2
     intro hq;exact (hS.has id2 b2 h2' hs2 hd2).2.1 (hq ▸ hW)
    ·have h1':s.H[id1]?=some b1:=by rw[<- hother id1 y];exact h1
     by_cases z:id2=id
     ·subst z;intro hq;exact (hS.has id1 b1 h1' hs1 hd1).2.1 (hq ▸ hW)
     ·exact hS.apart id1 id2 b1 b2 h1' (by rw[<- hother id2 z];exact h2) hs1 hs2 hd1 hd2 hne
  ·by_cases y:id1=id
   ·subst y;exact (hI.core.kept _ hK).1 hW
   ·exact hI.core.far id1 b1 (by rw[<- hother id1 y];exact h1) hs1 hd1 hK
  ·obtain⟨m1,m2⟩:=hI.core.marks;exact⟨λd hd=>by
    obtain⟨D,q1,q2,q3,q4,q5⟩:=m1 d hd;exact⟨D,q1,q2,λh=>q3 h.1,q4,q5⟩,m2⟩
  ·show ((s.a.map (wc6 id)).set p _).length=_;simpa using hI.vals.1
  ·have hy:((s.a.map (wc6 id)).set p (.ptr id 0 0 (b.g+1)))[j]?=some y:=hy;rw[p9] at hp;by_cases q:p=j
   ·subst q;have hpl:=(Qab.1 hp).1
    have:y=.ptr id 0 0 (b.g+1):=by simpa [hpl] using hy.symm
    subst this;have hx:=hI.vals.2 p _ y' hp hy';have hval:y'=.pointer (some ⟨(ρ id).blk,0,none⟩):=by
     have hcr:∀{v},J9 ρ (j8 s.H) F w (.ptr id 0 0 g) v->v=.pointer (some ⟨(ρ id).blk,0,none⟩):=λ{v} h=>by
      obtain⟨ad,b2,e3,m1,m2,m3,m4⟩:=la0 (.val (.cell h))
      have:b2=b:=Qah (m1.symm.trans hmk)
      subst this;rw[e3,m4 hg,hoff];simp
     cases hx with
     |w h=>cases h with
      |val h=>cases h with
       |cell h=>exact hcr h
     |c h=>cases h with
      |n h=>exact hcr h
      |box _ _ _ b2 hb2 _ he2 =>
       have:b2=b:=Qah (hb2.symm.trans hb)
       subst this;exact absurd ((Ba3 he2).symm.trans hsp) (by decide)
      |map _ _ _ b2 _ hb2 _ he2 =>
       have:b2=b:=Qah (hb2.symm.trans hb)
       subst this;exact absurd ((Ga4 he2).symm.trans hsp) (by decide)
    rw[hval];exact .c (.box id 0 (b.g+1) e hself hed hebox)
   ·rw[Qaf q,Qbm] at hy;cases hz:s.a[j]? with
    |none=>rw[hz] at hy;cases hy
    |some z =>
     rw[hz] at hy;injection hy with hy;subst hy;exact he5 hb hsp hes (hI.vals.2 j z y' hz hy')
 |_=>rw[hp] at hrun;cases hrun
theorem Tc9{E:Env}{ac:Act}:∀(l:List Nat) (s:St) (x:d8) (s':St),Ac5 P WB K J n ρ0 H0 F0 w0 s ac w->(A1 E H0.length (Bc1 l) s).run=some (x,s')->x=.normal/\Ac5 P WB K J n ρ0 H0 F0 w0 s' ac w
 |[],s,x,s',hI,he=>by
  have he:some (d8.normal,s)=some (x,s'):=he
  simp_all
 |p::r,s,x,s',hI,he=>by
  obtain⟨⟨x1,s1⟩,h1,h2⟩:=DT.run_bind_some (show ((Yc0 H0.length p s).bind λr2=>d8.rec (motive:=λ_=>DT (d8×St)) (A1 E H0.length (Bc1 r) r2.2) (λid=>.ret (.exit id,r2.2)) (.ret (.ret,r2.2)) r2.1).run=some (x,s') from he)
  obtain⟨rfl,hI1⟩:=he6 hI h1;exact Tc9 r s1 x s' hI1 h2
end
section
variable{WB K:Nat->Prop}{J:List Value->World->Prop}{DF:List Deferred->Prop}{S S0:HL}{rv:Value}{ρ ρ0:Rho}{H H0 H':List c7}{F F0:Fz}{w w0 w':World}{W':Nat->Prop}{up:List Value}{E:Env}{n m:Nat}{Fe:Fence}{pr:List Nat}{yl:Option Rd}{kp:Nat->List Nat}{rf:Operand->Array Tmp->Code->Code->PC}
def YOk(E:Env)(Fe:Fence)(m n k:Nat)(rd:Rd)(I:HL->St->Act->World->Prop):Prop :=
 ∀(ops:Array Oper) (i:Nat) (o:Oper) (S:HL) (args:List Operand) (g:Option (Nat×Bool)) (s s':St) (xx:d8) (ac:Act) (w:World) (rest:List Nat) (Q:Exit->Act->World->Prop),
  ops[i]?=some o->Vb8 ops S o=some args->S6 ops o=some g->gOk n g=true->dOk n o.dst=true->args.all (ltO n)=true->args.length=rd.ps.length->I S s ac w ->
  (A1 E k (.round o.dst g (args.map g9) n rd.nOut rd.ps rd.asq rd.body) s).run=some (xx,s')->(xx=.normal->∀ac' w',I (rmD S o.dst) s' ac' w'->wpOpsIn Fe m E.P ops Q rest ac' w')->wpOpsIn Fe m E.P ops Q (i::rest) ac w
def kf9(E:Env)(Fe:Fence)(m k:Nat)(rf:Operand->Array Tmp->Code->Code->PC)(I:St->Act->World->Prop):Prop :=
 ∀(g:Operand) (ps:Array Tmp) (asq body:Code) (s s':St) (x:d8) (ac:Act) (w:World) (Q:Exit->Act->World->Prop),(A1 E k (rf g ps asq body) s).run=some (x,s')->I s ac w ->
  (∀ac' w',I s' ac' w'->Q (toX x) ac' w')->(Code.rangeFunc g ps asq body).wpIn Fe m E.P Q ac w
theorem I3.less{P:Program}{s:St}{ac:Act}(h:I3 P WB K J n S rv DF ρ0 H0 F0 w0 s ac w)(hs:fe8 S0 S=true):I3 P WB K J n S0 rv DF ρ0 H0 F0 w0 s ac w:=by
 refine⟨h.inv,λp hp hg=>?_,h.df⟩
 unfold fe8 at hs;rw[Qcf] at hs;exact ec0 h.held (hs p hp) hg
theorem pd6{k:Nat}{l:List PI}{dd:List Nat}{s s':St}{x:d8}(he:(A1 E k (.mask n dd (.ops l)) s).run=some (x,s')):x=.normal:=by
 have he':((A1 E k (.ops l) ⟨l9 (T6 s.H) (A7 s.a n),j8 s.H⟩).bind λr=>.guard (vb4 s.H r.2.H) (.ret (r.1,⟨Y6 dd s.a r.2.a 0,o9 s.H r.2.H⟩))).run=some (x,s'):=he
 obtain⟨⟨x1,s1⟩,h1,h2⟩:=DT.run_bind_some he';obtain⟨_,h2⟩:=DT.run_guard_some h2;have h2:some (x1,(⟨Y6 dd s.a s1.a 0,o9 s.H s1.H⟩:St))=some (x,s'):=h2;injection h2 with h2;injection h2 with e1 _;subst e1
 obtain⟨s2,_,h4⟩:=DT.run_bind_some (show ((D8 E l ⟨l9 (T6 s.H) (A7 s.a n),j8 s.H⟩).bind λs=>.ret (d8.normal,s)).run=some (x1,s1) from h1)
 simp_all
theorem bb5{k:Nat}{a b:PC}{s s':St}{x:d8}(he:(A1 E k (.seq a b) s).run=some (x,s')):∃x1 s1,(A1 E k a s).run=some (x1,s1)/\(x1=.normal->(A1 E k b s1).run=some (x,s'))/\(x1≠.normal->x1=x/\s1=s'):=by
 obtain⟨⟨x1,s1⟩,h1,h2⟩:=DT.run_bind_some (show ((A1 E k a s).bind λr=>d8.rec (motive:=λ_=>DT (d8×St)) (A1 E k b r.2) (λid=>.ret (.exit id,r.2)) (.ret (.ret,r.2)) r.1).run=some (x,s') from he)
 refine⟨x1,s1,h1,λe=>by subst e;exact h2,λe=>?_⟩
 cases x1 with
 |normal=>exact absurd rfl e
 |exit id =>
  simp_all
 |ret =>
  simp_all
section
variable(hF:FW Fe)(hG0:GOk E F0 w0)(hcalls:∀f,e8 E.P E.G f (E.call f))(hJ:yb9 K J)(hyl:∀rd,yl=some rd->YOk E Fe m n H0.length rd λS=>I3 E.P WB K J n S rv DF ρ0 H0 F0 w0)
include hF hG0 hcalls hJ hyl
theorem Ga7{ops:Array Oper}{Q:Exit->Act->World->Prop}:∀(f:Nat) (r:List Oper) (S:HL) (k:Nat) (s:St) (x:d8) (s':St) (ac:Act) (w:World),ops.toList.drop k=r->I3 E.P WB K J n S rv DF ρ0 H0 F0 w0 s ac w ->
  (A1 E H0.length (pc9 E.P n pr yl S0 ops f r S) s).run=some (x,s')->(∀ac' w',I3 E.P WB K J n S0 rv DF ρ0 H0 F0 w0 s' ac' w'->Q (toX x) ac' w')->wpOpsIn Fe m E.P ops Q (List.range' k r.length) ac w
 |0,r,S,k,s,x,s',ac,w,hr,hI,he,hQ=>by cases he
 |f+1,[],S,k,s,x,s',ac,w,hr,hI,he,hQ=>by
  simp only[pc9] at he;cases hs:fe8 S0 S with
  |false=>rw[hs] at he;cases he
  |true =>
   rw[hs] at he;have he:some (d8.normal,s)=some (x,s'):=he;injection he with he;injection he with e1 e2;subst e1 e2
   exact hQ ac w (hI.less hs)
 |f+1,o::r,S,k,s,x,s',ac,w,hr,hI,he,hQ=>by
  have hi:ops[k]?=some o:=by
   have:(ops.toList.drop k)[0]?=some o:=by rw[hr];rfl
   simpa using this
  have hr1:ops.toList.drop (k+1)=r:=by rw[<- List.drop_drop,hr];rfl
  have hrange:List.range' k (o::r).length=k::List.range' (k+1) r.length:=by
   rw[show (o::r).length=r.length+1 from rfl,Qfe]
  simp only[pc9] at he;cases hy:Vb8 ops S o with
  |some args =>
   rw[hy] at he
   simp only at he
   cases hyl':yl with
   |none=>rw[hyl'] at he;cases he
   |some rd =>
   cases hg:S6 ops o with
   |none=>rw[hyl',hg] at he;cases he
   |some g =>
   rw[hyl',hg] at he
   simp only at he
   split at he
   case h_2=>cases he
   rename_i hc;simp only[Qbd] at hc;obtain⟨x1,s1,h1,h2,h3⟩:=bb5 he;rw[hrange];refine hyl rd hyl' ops k o S args g s s1 x1 ac w _ Q hi hy hg hc.1.1.1 hc.1.1.2 hc.1.2 (Qae hc.2) hI h1 λhx ac' w' hI'=>?_
   have h4:=h2 hx;rw[<- hyl'] at h4;exact Ga7 f r _ (k+1) s1 x s' ac' w' hr1 hI' h4 hQ
  |none =>
  rw[hy] at he
  simp only at he
  cases hcp:Bc0 ops S o with
  |some dg =>
   obtain⟨d,g⟩:=dg;rw[hcp] at he
   simp only at he
   split at he
   case h_2=>cases he
   rename_i hd;rw[Qch] at hd;obtain⟨x1,s1,h1,h2,h3⟩:=bb5 he;rw[hrange];refine ge1 hF hG0 hcalls hJ hi hcp hd hI h1 λhx ac' w' hI'=>?_
   exact Ga7 f r _ (k+1) s1 x s' ac' w' hr1 hI' (h2 hx) hQ
  |none =>
  rw[hcp] at he
  simp only at he
  cases hsp:cSp E.P n pr o with
  |some so =>
   rw[hsp] at he
   simp only at he
   cases hg:S6 ops o with
   |none=>rw[hg] at he;cases he
   |some g =>
   rw[hg] at he
   simp only at he
   split at he
   case h_2=>cases he
   rename_i hc;rw[Qbd] at hc;obtain⟨x1,s1,h1,h2,h3⟩:=bb5 he;obtain⟨s2,k1,k2⟩:=DT.run_bind_some (show ((yd2 E s o.dst g so).bind λs=>.ret (d8.normal,s)).run=some (x1,s1) from h1)
   have k2:some (d8.normal,s2)=some (x1,s1):=k2;injection k2 with k2;injection k2 with e1 e2;subst e1 e2
   rw[hrange];refine Xe4 hF hG0 hJ hi hsp hg hc.1 hc.2 hI k1 λac' w' hI'=>?_
   exact Ga7 f r _ (k+1) s2 x s' ac' w' hr1 hI' (h2 rfl) hQ
  |none =>
  rw[hsp] at he
  simp only at he
  generalize hm:dc8 (pd0 E.P n pr ops S) r=q at he;cases hl:Ob4 E.P ops (o::r.take q) with
  |none=>rw[hl] at he;cases he
  |some l =>
  rw[hl] at he
  simp only at he
  obtain⟨x1,s1,h1,h2,h3⟩:=bb5 he;have hx1:=pd6 h1;subst hx1;have hsplit:o::r=(o::r.take q)++r.drop q:=by rw[List.cons_append,Qfj]
  have hlen:(o::r).length=(o::r.take q).length+(r.drop q).length:=by rw[<- Qea,<- hsplit]
  have hrange2:List.range' k (o::r).length=List.range' k (o::r.take q).length++List.range' (k+(o::r.take q).length) (r.drop q).length:=by
   grind
  rw[hrange2];obtain⟨hinv,hheld,hdf⟩:=hI;refine (ye9 (x:=.normal) (s':=s1) hF hG0 hcalls hJ (r:=o::r.take q) (l:=l) (dd:=E1 (o::r.take q)) ⟨r.drop q,by rw[hr];exact hsplit⟩ (λo' ho' d hd=>?_) hl hinv h1 λac' w' hI' hd' hsm=>?_).2
  ·unfold E1
   grind
  ·refine Ga7 f (r.drop q) _ (k+(o::r.take q).length) s1 x s' ac' w' ?_ ⟨hI',Wb0 hheld hsm,by rw[hd'];exact hdf⟩ (h2 rfl) hQ
   ·rw[<- List.drop_drop,hr,hsplit,List.drop_left]
theorem mc3{c:Code}{y:PC}{keep:List Nat} (ih:∀(s:St) (x:d8) (s':St),(A1 E H0.length y s).run=some (x,s')->∀(ac:Act) (w:World) (Q:Exit->Act->World->Prop),I3 E.P WB K J n S0 rv DF ρ0 H0 F0 w0 s ac w ->
  (∀ac' w',I3 E.P WB K J n S0 rv DF ρ0 H0 F0 w0 s' ac' w'->Q (toX x) ac' w')->c.wpIn Fe m E.P Q ac w) :
  ∀(nn:Nat) (s:St) (x:d8) (s':St),(vb3 (λs=>tidyM H0.length ⟨G4 keep s.a 0,s.H⟩) (A1 E H0.length y) nn s).run=some (x,s')->∀(ac:Act) (w:World) (Q:Exit->Act->World->Prop),I3 E.P WB K J n S0 rv DF ρ0 H0 F0 w0 s ac w ->
  (∀ac' w',I3 E.P WB K J n S0 rv DF ρ0 H0 F0 w0 s' ac' w'->Q (toX x) ac' w')->Code.roundsIn Fe m E.P c Q nn ac w
 |0,s,x,s',he,ac,w,Q,hI,hQ=>by cases he
 |nn+1,s,x,s',he,ac,w,Q,hI,hQ=>by
  have he':((tidyM H0.length ⟨G4 keep s.a 0,s.H⟩).bind λs=>(A1 E H0.length y s).bind λr =>
   d8.rec (motive:=λ_=>DT (d8×St)) (vb3 (λs=>tidyM H0.length ⟨G4 keep s.a 0,s.H⟩) (A1 E H0.length y) nn r.2) (λid=>.ret (.exit id,r.2)) (.ret (.ret,r.2)) r.1).run=some (x,s'):=he
  obtain⟨s1,h1,h2⟩:=DT.run_bind_some he';obtain⟨⟨x2,s2⟩,h3,h4⟩:=DT.run_bind_some h2;have hI1:=hI.tidyM h1;rw[roundsIn_succ];refine ih s1 x2 s2 h3 ac w _ hI1 λac' w' hI2=>?_
  cases x2 with
  |normal=>exact mc3 ih nn s2 x s' h4 ac' w' Q hI2 hQ
  |exit id =>
   have h4':some (d8.exit id,s2)=some (x,s'):=h4;injection h4' with h4';injection h4' with e1 e2;subst e1 e2
   exact hQ _ _ hI2
  |ret =>
   have h4':some (d8.ret,s2)=some (x,s'):=h4;injection h4' with h4';injection h4' with e1 e2;subst e1 e2
   exact hQ _ _ hI2
theorem Dd3(hm:E.P.follows .mixedOrders=true){id:Nat}{ops:Array Oper}{s:St}{x:d8}{s':St}{ac:Act}{w:World}{Q:Exit->Act->World->Prop}(ho:ze4 ops=true)
  (he:(A1 E H0.length (pc9 E.P n pr yl S0 ops (ops.size+1) ops.toList S0) s).run=some (x,s')) (hI:I3 E.P WB K J n S0 rv DF ρ0 H0 F0 w0 s ac w) (hQ:∀ac' w',I3 E.P WB K J n S0 rv DF ρ0 H0 F0 w0 s' ac' w'->Q (toX x) ac' w') :
  (Code.region id ops true).wpIn Fe m E.P Q ac w:=by
 have hseg:=Ga7 (Q:=λe a w=>(∀c,e≠.panic c)/\Q e a w) hF hG0 hcalls hJ hyl (ops.size+1) ops.toList S0 0 s x s' ac { w with drawn:=w.drawn+1 } rfl (hI.drawn hJ) he λac' w' h=>⟨λc hc=>(by cases x<;>cases hc),hQ ac' w' h⟩
 have hany:=Xe8 (Q:=λe a w=>(∀c,e≠.panic c)/\Q e a w) (Xe7 ho) hF (λc a w h=>h.1 c rfl) (by simpa using hseg)
 exact wpIn_mono (wpIn_region_any hm hany) λe a w h=>h.2
theorem bd8(hm:E.P.follows .mixedOrders=true){id:Nat}{ops:Array Oper}{s:St}{x:d8}{s':St}{ac:Act}{w:World}{Q:Exit->Act->World->Prop}(ho:Cd5 n pr ops=true)
  (he : (A1 E H0.length (.seq (Wd0 E.P n pr (Kb8 pr ops (B6 ops ops.size)))
      (.seq (.mask n (E1 (Za6 (bAt pr ops (B6 ops ops.size)) (B6 ops ops.size) ops).toList) (ra5 E.P (Za6 (bAt pr ops (B6 ops ops.size)) (B6 ops ops.size) ops)))
       (.seq (Bc1 (Me4 pr (ops.toList.take (B6 ops ops.size)))) (pc9 E.P n pr yl S0 ops (ops.size+1) (ops.toList.drop (B6 ops ops.size)) (rmL S0 (E1 ops.toList)))))) s).run=some (x,s'))
  (hI:I3 E.P WB K J n S0 rv DF ρ0 H0 F0 w0 s ac w) (hQ:∀ac' w',I3 E.P WB K J n S0 rv DF ρ0 H0 F0 w0 s' ac' w'->Q (toX x) ac' w') :
  (Code.region id ops true).wpIn Fe m E.P Q ac w:=by
 generalize htl:B6 ops ops.size=tl at he ho;generalize hB:bAt pr ops tl=B at he;generalize hops:Za6 B tl ops=ops' at he;unfold Cd5 at ho;rw[htl,hB,hops] at ho;simp only[Qbd] at ho;obtain⟨⟨hc,hchk⟩,hall⟩:=ho;have hH:=Dd1 hc;obtain⟨x1,s1,h1,h2,_⟩:=bb5 he;obtain⟨ρ,F,W',up,hI2⟩:=hI.inv;have hbx:(Kb8 pr ops tl).all (Vd9 pr)=true:=by
  unfold Kb8
  simp_all
 obtain⟨rfl,ac1,i1,i2,i3,i4⟩:=kf8 hG0 _ s ac x1 s1 hbx hchk hI2 h1;obtain⟨x2,s2,h3,h4,h5⟩:=bb5 (h2 rfl);have hsz':ops'.size=ops.size:=by rw[<- hops,ec3]
 have hget:∀i,i<tl->B i=true->opO ops i∈Kb8 pr ops tl:=λi hi hb=>by
  rw[<- hB] at hb;unfold bAt at hb;rw[Qbd] at hb;have hlt:i<ops.size:=by have:=hH.lt;omega
  refine Qfh.2 ⟨?_,hb.2⟩;refine Qfd.2 ⟨i,?_⟩;rw[Qbe,if_pos hi]
  have:=Ga6 hlt
  simpa using this
 have hsame:∀t,t∉E1 ops.toList->t∉E1 ops'.toList/\t∉E1 (Kb8 pr ops tl):=λt ht=>by
  refine⟨λh=>ht ?_,λh=>ht ?_⟩
  ·unfold E1 at h ⊢;obtain⟨o,ho,hd⟩:=Qde.1 h;obtain⟨k,hk⟩:=Qfd.1 ho;have hk':ops'[k]?=some o:=by simpa using hk
   rw[<- hops,kb6] at hk';cases hq:ops[k]? with
   |none=>rw[hq] at hk';cases hk'
   |some q =>
    rw[hq] at hk';simp only[Option.map_some] at hk';injection hk' with hk';cases hbk:(B k||Nat.ble tl k) with
    |true =>
     rw[hbk] at hk';rw[<- hk'] at hd;cases hd
    |false =>
     rw[hbk] at hk';have hk':q=o:=hk';subst hk';exact Qde.2 ⟨q,Qfd.2 ⟨k,by simpa using hq⟩,hd⟩
  ·unfold E1 Kb8 at h;obtain⟨o,ho,hd⟩:=Qde.1 h;unfold E1;exact Qde.2 ⟨o,List.mem_of_mem_take (Qfh.1 ho).1,hd⟩
 have hx2:x2=.normal:=(Tc6 (Fe:=Fe) (m:=m) (dd:=E1 ops'.toList) (Q:=λ_ _ _=>True) (Φ:=λ_ _=>True) hF hG0 hcalls hJ (by rfl) i1 h3 (λ_ _ _ _ _=>trivial) λ_ _ _ _ _=>trivial).1
 subst hx2;obtain⟨x3,s3,h6,h7,_⟩:=bb5 (h4 rfl);have hF1:=Tc6 (Fe:=Fe) (m:=m) (dd:=E1 ops'.toList) (Q:=λe a w=>e=.normal/\wpOpsIn Fe m E.P ops (λe a w=>Q e a w) (List.range' tl (ops.size-tl)) a w)
  (Φ:=λa w2=>(∀t,¬ t∈E1 ops'.toList->a.tmps[t]?=ac1.tmps[t]?)/\Ext W' F w w2) hF hG0 hcalls hJ (by rfl) i1 h3 (λa w2 _ k2 k3=>⟨k2,k3⟩) (λac' w' hI' hd' hsm=>⟨rfl,?_⟩)
 ·have hF1:=hF1.2;have hsim:=Cd9 (Q:=Q) (Q':=λe a w=>e=.normal/\wpOpsIn Fe m E.P ops (λe a w=>Q e a w) (List.range' tl (ops.size-tl)) a w) (Φ:=λa w2=>(∀t,¬ t∈E1 ops'.toList->a.tmps[t]?=ac1.tmps[t]?)/\Ext W' F w w2) hH hF (λi hi hb a w2 hΦ d hd=>?_) (Wd3 hc) (λc a w h=>by cases h.1) (λ⟨a,w,h⟩=>by cases h.1) (λa w h=>h.2) ops.size (Array.replicate ops.size false) ac ac1 { w with drawn:=w.drawn+1 } (by simp)
   (λj hj hx=>?_) (λj _ hj hx=>?_) ⟨i2.symm,by rw[i1.size,hI2.size],λt ht=>?_⟩ ?_ (by rw[hsz'] at hF1;rw[hops];exact hF1)
  ·exact wpIn_region_any hm hsim
  ·grind
  ·unfold r9 at hx
   simp_all
  ·unfold r9 at hx
   simp_all
  ·refine (i3 t λh=>?_).symm
   unfold E1 at h;obtain⟨o,ho,hd⟩:=Qde.1 h;unfold Kb8 at ho;obtain⟨ho1,ho2⟩:=Qfh.1 ho;obtain⟨k,hk⟩:=Qfd.1 ho1;rw[Qbe] at hk
   split at hk
   case isFalse=>cases hk
   rename_i hkt;have hk':ops[k]?=some o:=by simpa using hk
   have hkl:=(Qbo.1 hk').1;obtain rfl:o=opO ops k:=Qah (hk'.symm.trans (Ga6 hkl));have hb:B k=true:=by
    rw[<- hB];unfold bAt;rw[Qbd];exact⟨by rw[Qch];exact hkt,ho2⟩
   have:=ht k hkt hb hd
   unfold r9 at this;simp[Array.getD,hkl] at this
  ·unfold B0;simp
 ·obtain⟨rfl,hI'⟩:=Tc9 _ s2 x3 s3 hI' h6
  have:=Ga7 (Q:=Q) hF hG0 hcalls hJ hyl (ops.size+1) (ops.toList.drop tl) (rmL S0 (E1 ops.toList)) tl s3 x s' ac' w' rfl ⟨hI',?_,by rw[hd',i2];exact hI.df⟩ (h7 rfl) hQ
  ·simpa using this
  ·refine Wb0 hI.held λt ht=>?_
   obtain⟨k1,k2⟩:=hsame t ht;rw[hsm t k1,i3 t k2]
theorem Qb0(hm:E.P.follows .mixedOrders=true)(hrf:kf9 E Fe m H0.length rf (I3 E.P WB K J n S0 rv DF ρ0 H0 F0 w0)):∀(c:Code) (cur:Nat) (s:St) (x:d8) (s':St),(A1 E H0.length (ka6 E.P n pr yl S0 kp rf cur c) s).run=some (x,s')->∀(ac:Act) (w:World) (Q:Exit->Act->World->Prop),I3 E.P WB K J n S0 rv DF ρ0 H0 F0 w0 s ac w ->
  (∀ac' w',I3 E.P WB K J n S0 rv DF ρ0 H0 F0 w0 s' ac' w'->Q (toX x) ac' w')->c.wpIn Fe m E.P Q ac w:=by
 intro c
 induction c with
 |skip =>
  intro cur s x s' he ac w Q hI hQ;have he':some (d8.normal,s)=some (x,s'):=he;injection he' with he';injection he' with e1 e2;subst e1 e2
  exact wpIn_skip (hQ _ _ hI)
 |region id ops d =>
  intro cur s x s' he ac w Q hI hQ;cases d with
  |true =>
   simp only[ka6] at he
   split at he
   ·rename_i ho;rw[Qbd] at ho;exact Dd3 hF hG0 hcalls hJ hyl hm ho.2 he hI hQ
   split at he
   ·rename_i ho;rw[Qbd] at ho;exact bd8 hF hG0 hcalls hJ hyl hm ho.2 he hI hQ
   split at he
   case h_2=>cases he
   rename_i hc;obtain⟨hinv,hheld,hdf⟩:=hI;exact ge8 hm hF hG0 hcalls hJ hinv he λac' w' hI' hd' hsm=>hQ ac' w' (I3.less (S:=rmL S0 (E1 ops.toList)) ⟨hI',Wb0 hheld hsm,by rw[hd'];exact hdf⟩ hc)
  |false =>
   refine wpIn_region ?_;rw[List.range_eq_range']
   have:=Ga7 (Q:=Q) hF hG0 hcalls hJ hyl (ops.size+1) ops.toList S0 0 s x s' ac w rfl hI he hQ
   simpa using this
 |seq a b iha ihb =>
  intro cur s x s' he ac w Q hI hQ;obtain⟨x1,s1,h1,h2,h3⟩:=bb5 he;refine wpIn_seq (iha cur s x1 s1 h1 ac w _ hI λac' w' hI'=>?_)
  cases x1 with
  |normal=>exact ihb cur s1 x s' (h2 rfl) ac' w' Q hI' hQ
  |exit id =>
   obtain⟨rfl,rfl⟩:=h3 (by simp)
   exact hQ _ _ hI'
  |ret =>
   obtain⟨rfl,rfl⟩:=h3 (by simp)
   exact hQ _ _ hI'
 |cond c a b iha ihb =>
  intro cur s x s' he ac w Q hI hQ;simp only[ka6] at he
  split at he
  case h_2=>cases he
  rename_i hc;have he':(match c9 E s.a (g9 c) with
   |.v (.bool t)=>DT.ite t (A1 E H0.length (ka6 E.P n pr yl S0 kp rf cur a) s) (A1 E H0.length (ka6 E.P n pr yl S0 kp rf cur b) s)
   |_=>DT.fail).run=some (x,s'):=he
  obtain⟨ρ,F,W',up,hI2⟩:=hI.inv;have hr:=Qa8 hI2.vals hI2.size (hG0.adv hI2.core.adv) c hc
  revert he' hr
  generalize c9 E s.a (g9 c)=u;intro he' hr
  split at he'
  ·rename_i t;have ht:=Vd2 hr
   rcases DT.run_ite_some he' with⟨rfl,h⟩|⟨rfl,h⟩
   ·exact wpIn_cond_true ht (iha cur s x s' h ac w Q hI hQ)
   ·exact wpIn_cond_false ht (ihb cur s x s' h ac w Q hI hQ)
  ·cases he'
 |block id a ih =>
  intro cur s x s' he ac w Q hI hQ;obtain⟨⟨x1,s1⟩,h1,h2⟩:=DT.run_bind_some (show ((A1 E H0.length (ka6 E.P n pr yl S0 kp rf id a) s).bind λr=>d8.rec (motive:=λ_=>DT (d8×St)) (.ret (.normal,r.2))
   (λid'=>Bool.rec (.ret (.exit id',r.2)) (.ret (.normal,r.2)) (Nat.beq id' id)) (.ret (.ret,r.2)) r.1).run=some (x,s') from he)
  refine wpIn_block (ih id s x1 s1 h1 ac w _ hI λac' w' hI'=>?_)
  cases x1 with
  |normal =>
   have h2':some (d8.normal,s1)=some (x,s'):=h2;injection h2' with h2';injection h2' with e1 e2;subst e1 e2
   exact hQ _ _ hI'
  |ret =>
   have h2':some (d8.ret,s1)=some (x,s'):=h2;injection h2' with h2';injection h2' with e1 e2;subst e1 e2
   exact hQ _ _ hI'
  |exit id' =>
   have h2':(Bool.rec (motive:=λ_=>DT (d8×St)) (.ret (.exit id',s1)) (.ret (.normal,s1)) (Nat.beq id' id)).run=some (x,s'):=h2
   show if id'=id then Q .normal ac' w' else Q (.exit id') ac' w'
   cases hb:Nat.beq id' id with
   |true =>
    rw[hb] at h2';have h3:some (d8.normal,s1)=some (x,s'):=h2';injection h3 with h3;injection h3 with e1 e2;subst e1 e2
    rw[if_pos (Qae hb)];exact hQ _ _ hI'
   |false =>
    rw[hb] at h2';have h3:some (d8.exit id',s1)=some (x,s'):=h2';injection h3 with h3;injection h3 with e1 e2;subst e1 e2
    rw[if_neg (Qbae hb)];exact hQ _ _ hI'
 |loop a ih =>
  intro cur s x s' he ac w Q hI hQ;exact wpIn_loop_rounds E.N (mc3 hF hG0 hcalls hJ hyl (ih cur) E.N s x s' he ac w Q hI hQ)
 |rangeFunc g ps asq body _ _ =>
  intro cur s x s' he ac w Q hI hQ;exact hrf g ps asq body s s' x ac w Q he hI hQ
 |exit id =>
  intro cur s x s' he ac w Q hI hQ;have he':some (d8.exit id,s)=some (x,s'):=he;injection he' with he';injection he' with e1 e2;subst e1 e2
  exact wpIn_exit (hQ _ _ hI)
 |ret =>
  intro cur s x s' he ac w Q hI hQ;have he':some (d8.ret,s)=some (x,s'):=he;injection he' with he';injection he' with e1 e2;subst e1 e2
  exact wpIn_ret (hQ _ _ hI)
 |label l =>
  intro cur s x s' he ac w Q hI hQ;have he':some (d8.normal,s)=some (x,s'):=he;injection he' with he';injection he' with e1 e2;subst e1 e2
  exact wpIn_label (hQ _ _ hI)
 |_ =>
  intro cur s x s' he;cases he
end
end
def zb8(st:LoopState)(pe:Option Code)(fn:FuncId)(tm:List Value)(ps:Array Tmp)(asq body:Code)(D:Nat):Obj :=
 .loop { state:=st,pending:=pe,fn,tmps:=tm.toArray,params:=ps,assign:=asq,body,defers:=D }
def ec5:Option Code->Option Value
 |none=>some (.int .i64 (.ofNat 0))
 |some .ret=>some (.int .i64 (.ofNat 1))
 |some (.exit id)=>some (.int .i64 (.ofNat (id+2)))
 |_=>none
def KR(l:Nat)(Ds:List Nat):Nat->Prop:=λk=>k=l\/k∈Ds
def Wd4(Ds:List Nat)(w:World):Prop:=∀d∈Ds,w.heap[d]?=some (.deferred (some []))
def JI(l D:Nat)(Ds:List Nat)(fn:FuncId)(tm:List Value)(ps:Array Tmp)(asq body:Code)(up:List Value)(w:World):Prop :=
 ∃pe v,ec5 pe=some v/\up=v::tm/\w.heap[l]?=some (zb8 (if pe.isNone then .ready else .done) pe fn tm ps asq body D)/\Wd4 Ds w
def JR(l D:Nat)(Ds:List Nat)(fn:FuncId)(tm:List Value)(ps:Array Tmp)(asq body:Code)(st:LoopState)(inn:List Value)(up:List Value)(w:World):Prop :=
 up=inn++Value.int .i64 (.ofNat 0)::tm/\w.heap[l]?=some (zb8 st none fn tm ps asq body D)/\Wd4 Ds w
def noD:List Deferred->Prop:=λds=>ds=[]
theorem Ae2(l D:Nat)(Ds:List Nat)(fn:FuncId)(tm:List Value)(ps:Array Tmp)(asq body:Code):yb9 (KR l Ds) (JI l D Ds fn tm ps asq body):=λup w w' h ⟨pe,v,h1,h2,h3,h4⟩ =>
 ⟨pe,v,h1,h2,(h l (.inl rfl)).trans h3,λd hd=>(h d (.inr hd)).trans (h4 d hd)⟩
theorem Ae3(l D:Nat)(Ds:List Nat)(fn:FuncId)(tm:List Value)(ps:Array Tmp)(asq body:Code)(st:LoopState)(inn:List Value):yb9 (KR l Ds) (JR l D Ds fn tm ps asq body st inn):=λup w w' h ⟨h1,h2,h3⟩ =>
 ⟨h1,(h l (.inl rfl)).trans h2,λd hd=>(h d (.inr hd)).trans (h3 d hd)⟩
section
variable{P:Program}{WB K:Nat->Prop}{J J':List Value->World->Prop}{DF:List Deferred->Prop}{S S0:HL}{rv:Value}{ρ ρ0:Rho}{H H0 H':List c7}{F F0:Fz}{w w0 w':World}{W':Nat->Prop}{up up':List Value}{E:Env}{n m:Nat}{Fe:Fence}{a:List b9}{ac:Act}{ds ds':List Deferred}
theorem C2.re(h:C2 P WB K J ρ0 H0 F0 w0 H ds w ρ F W' up)(hJ:J' up' w)(hM:Kb6 WB W' ds' w):C2 P WB K J' ρ0 H0 F0 w0 H ds' w ρ F W' up' :=
 ⟨h.sub,h.adv,h.hrel,h.srel,h.kept,h.far,hJ,hM⟩
theorem Wd4.turn{w:World}{l:Nat}{r:Loop}{Ds:List Nat}(h:Wd4 Ds w)(hl:w.heap[l]?=some (.loop r))(o:Obj):Wd4 Ds (w.putObj l o):=λd hd=>by
 have hne:d≠l:=λe=>by
  have:=h d hd
  rw[e,hl] at this;cases this
 rw[World.putObj_heap_other hne];exact h d hd
theorem Gb7:Kb6 WB W' [] w:=⟨λd hd=>by simp at hd,List.nodup_nil⟩
theorem Wd5{k:Nat}{o:Obj}(hk:w.heap[k]?=some o)(ho:∀cc t fr,o≠.cells cc t fr)(b:Nat):w.cell? ⟨k,b,none⟩=none:=by
 cases o with
 |cells=>exact (ho _ _ _ rfl).elim
 |_=>simp[World.cell?,hk]
theorem C2.turn(h:C2 P WB K J ρ0 H0 F0 w0 H ds w ρ F W' up)(k:Nat)(o o':Obj)(hk:w.heap[k]?=some o)(ho:∀cc t fr,o≠.cells cc t fr)(hm:∀es clk,o≠.map es clk)(hWB:WB k)(hnW:¬ W' k)
  (hJ:J' up' (w.putObj k o')) (hM:Kb6 WB W' ds' (w.putObj k o')):C2 P WB K J' ρ0 H0 F0 w0 H ds' (w.putObj k o') ρ F W' up'/\Tr ρ H F w ρ H F (w.putObj k o'):=by
 have hlt:=(Qbo.1 hk).1;have hnF:∀b,¬ F k b:=λb hf=>by
  have:=h.hrel.frz k b hf
  rw[Wd5 hk ho b] at this;cases this
 have hbase:C2 P WB K (λ_ _=>True) ρ0 H0 F0 w0 H [] w ρ F W' up':=h.re trivial Gb7
 obtain⟨c1,c2⟩:=hbase.change (w':=w.putObj k o') (H':=H) (up':=up') k hWB hnW hnF rfl rfl rfl (Qac _) (by simp) (λj hj=>World.putObj_heap_other hj)
  (λcc t fr hc=>by rw[hk] at hc;injection hc with hc;exact (ho _ _ _ hc).elim) rfl (λid b hb=>⟨b,hb,rfl,rfl,rfl,rfl,Qac _,λ_=>rfl⟩) (λid b hb _ _ _=>hb)
  (λ_ id b hb hs hd e=>by
   obtain⟨_,_,_,_,hc⟩:=h.srel.has id b hb hs hd;rw[e] at hc
   rcases hc with⟨_,row,vs,t,_,m2,_⟩|⟨t,Kt,El,fl,es,clk,_,_,_,m4,_⟩
   ·rw[hk] at m2;injection m2 with m2;exact (ho _ _ _ m2).elim
   ·rw[hk] at m4;injection m4 with m4;exact (hm _ _ m4).elim)
  trivial (λD hD=>by simp at hD)
 exact⟨c1.re hJ hM,c2⟩
end
section
variable{P:Program}{WB K:Nat->Prop}{J J':List Value->World->Prop}{DF:List Deferred->Prop}{S S0:HL}{rv:Value}{ρ ρ0:Rho}{H H0 H':List c7}{F F0:Fz}{w w0 w':World}{W':Nat->Prop}{up up':List Value}{E:Env}{n m:Nat}{Fe:Fence}{a b:List b9}{ac:Act}{ds ds':List Deferred}{vs us:List Value}
theorem VR.drop(h:VR ρ H F w a (vs++us)){k:Nat}(hk:vs.length=k):VR ρ H F w (i9 a k) us:=by
 have hl:=h.1;rw[Qea] at hl;rw[v7];refine⟨by rw[Qbr];omega,λi x x' hx hx'=>?_⟩
 rw[Qbj] at hx;refine h.2 (k+i) x x' hx ?_
 grind
theorem VR.take(h:VR ρ H F w a (vs++us)){k:Nat}(hk:vs.length=k):VR ρ H F w (A7 a k) vs:=by
 have hl:=h.1;rw[Qea] at hl;rw[A8];refine⟨by rw[List.length_take];omega,λi x x' hx hx'=>?_⟩
 have hi:=(Qab.1 hx').1;rw[Qbe,if_pos (by omega)] at hx
 exact h.2 i x x' hx (by rw[Qbg hi];exact hx')
theorem VR.app(h:VR ρ H F w a vs)(h':VR ρ H F w b us):VR ρ H F w (Ev.app a b) (vs++us):=by
 rw[E0];refine⟨by rw[Qea,Qea,h.1,h'.1],λi x x' hx hx'=>?_⟩
 rcases Qan i a.length with hi|hi
 ·rw[Qbg hi] at hx;rw[Qbg (h.1 ▸ hi)] at hx';exact h.2 i x x' hx hx'
 ·rw[Qbf hi] at hx;rw[Qbf (h.1 ▸ hi)] at hx';rw[h.1] at hx;exact h'.2 _ x x' hx hx'
theorem VR.cons{x:b9}{x':Value}(hx:XW ρ H F w x x')(h:VR ρ H F w a vs):VR ρ H F w (x::a) (x'::vs):=by
 refine⟨by simp[h.1],λi y y' hy hy'=>?_⟩
 cases i with
 |zero=>simp at hy hy';subst hy hy';exact hx
 |succ i=>exact h.2 i y y' (by simpa using hy) (by simpa using hy')
theorem VR.head{v:Value}(h:VR ρ H F w a (v::vs)):XW ρ H F w (hdA a) v:=by
 cases a with
 |nil=>exact .w (.unk _)
 |cons x a=>exact h.2 0 x v rfl rfl
theorem VR.set(h:VR ρ H F w a vs){x:b9}{x':Value}(hx:XW ρ H F w x x')(k:Nat):VR ρ H F w (setAt a k x) (vs.set k x'):=by
 rw[r6];refine⟨by simp[h.1],λi y y' hy hy'=>?_⟩
 rw[List.getElem?_set] at hy hy';by_cases hi:k=i
 ·simp_all
 ·rw[if_neg hi] at hy hy';exact h.2 i y y' hy hy'
theorem VR.setUp{v0 v:Value}{x:b9}(h:VR ρ H F w a (vs++v0::us)){k:Nat}(hk:vs.length=k)(hx:XW ρ H F w x v):VR ρ H F w (setAt a k x) (vs++v::us):=by
 have:=h.set hx k
 simp_all
theorem Ld6:∀(ps:List Nat) (vals:List b9) (avs:List Value) (base:List b9) (arr:List Value),vals.length=ps.length->avs.length=ps.length->(∀(i:Nat) x x',vals[i]?=some x->avs[i]?=some x'->XW ρ H F w x x')->VR ρ H F w base arr ->
  VR ρ H F w (Ue2 ps vals base) ((ps.zip avs).foldl (λt pv=>t.set pv.1 pv.2) arr)
 |[],vals,avs,base,arr,h1,h2,h3,h4=>h4
 |p::ps,[],avs,base,arr,h1,h2,h3,h4=>by simp at h1
 |p::ps,v::vals,[],base,arr,h1,h2,h3,h4=>by simp at h2
 |p::ps,v::vals,u::avs,base,arr,h1,h2,h3,h4 =>
  Ld6 ps vals avs (setAt base p v) (arr.set p u) (by simpa using h1) (by simpa using h2) (λi x x' hx hx'=>h3 (i+1) x x' (by simpa using hx) (by simpa using hx')) (h4.set (h3 0 v u rfl rfl) p)
theorem Uc0:∀(l:List (Nat×Value)) (t:Array Value),(l.foldl (λt pv=>t.setIfInBounds pv.1 pv.2) t).toList=l.foldl (λt pv=>t.set pv.1 pv.2) t.toList
 |[],t=>rfl
 |(p,v)::l,t=>by
  simp only[List.foldl_cons];rw[Uc0 l,Qff]
theorem Bc8(ps:Array Nat)(args:Array Value)(t:Array Value):((ps.zip args).foldl (λtmps (t,a)=>tmps.setIfInBounds t a) t).toList=(ps.toList.zip args.toList).foldl (λt pv=>t.set pv.1 pv.2) t.toList:=by
 rw[<- Array.foldl_toList,Array.toList_zip];exact Uc0 _ t
theorem pd7(ps:Array Nat)(args:Array Value)(t:Array Value):((ps.zip args).foldl (λtmps (t,a)=>tmps.setIfInBounds t a) t).size=t.size:=by
 rw[<- Array.length_toList,Bc8,<- Array.length_toList];generalize ps.toList.zip args.toList=l;generalize t.toList=tl
 induction l generalizing tl with
 |nil=>rfl
 |cons p l ih=>rw[List.foldl_cons,ih];simp
theorem bd9{x:b9}(h:uc5 x=true):x=.v (.int .i64 (.ofNat 0)):=by
 unfold uc5 at h
 split at h
 ·split at h
  ·rfl
  ·cases h
 ·cases h
theorem Wd6{pe:Option Code}(h:ec5 pe=some (.int .i64 (.ofNat 0))):pe=none:=by
 unfold ec5 at h
 grind
variable{l D:Nat}{Ds:List Nat}{fnO:FuncId}{tm:List Value}{ps:Array Tmp}{asC bodyC:Code}{rd:Rd}{k:Nat}
def Dd4(E:Env)(WB:Nat->Prop)(l D:Nat)(Ds:List Nat)(fnO:FuncId)(tm:List Value)(ps:Array Tmp)(asC bodyC:Code)(nOut:Nat)(ρ0:Rho)(H0:List c7)(F0:Fz)(w0:World)(Fe:Fence)(m k:Nat)(st:LoopState)(c:Code)(pc:PC):Prop :=
 ∀(inn:List Value) (s:St) (x:d8) (s':St),(A1 E k pc s).run=some (x,s')->∀(ac:Act) (w:World) (Q:Exit->Act->World->Prop),
  I3 E.P WB (KR l Ds) (JR l D Ds fnO tm ps asC bodyC st inn) nOut [] undef noD ρ0 H0 F0 w0 s ac w ->
  (∀ac' w',I3 E.P WB (KR l Ds) (JR l D Ds fnO tm ps asC bodyC st inn) nOut [] undef noD ρ0 H0 F0 w0 s' ac' w'->Q (toX x) ac' w')->c.wpIn (Fe.inRound l) m E.P Q ac w
theorem Ae4(hF:FW Fe)(hG0:GOk E F0 w0)(hps:rd.ps=ps.toList)(hnO:tm.length=rd.nOut)(hWl:WB l)
  (hAs:Dd4 E WB l D Ds fnO tm ps asC bodyC rd.nOut ρ0 H0 F0 w0 Fe (m-1) k .ready asC rd.asq) (hBo:Dd4 E WB l D Ds fnO tm ps asC bodyC rd.nOut ρ0 H0 F0 w0 Fe (m-1) k .busy bodyC rd.body) :
  YOk E Fe m n k rd λS=>I3 E.P WB (KR l Ds) (JI l D Ds fnO tm ps asC bodyC) n S (.func (.yield l) #[] #[]) noD ρ0 H0 F0 w0:=by
 intro ops i o S args g s s' xx ac w rest Q hi hy hg hgn hdn hlt hlen hI he hQ;obtain⟨⟨ρ,F,W',up,hI2⟩,hheld,hdf⟩:=hI;obtain⟨pe,v,hpe,rfl,hrec,hdd⟩:=hI2.core.jot
 obtain ⟨s1, h1, h2⟩ := DT.run_bind_some (show ((uc4 E s o.dst g fun s => match uc5 (hdA (i9 s.a n)) with
   |true=>(A1 E k rd.asq (Xc9 E s (args.map g9) n rd.nOut rd.ps)).bind λr0 =>
    d8.rec (motive:=λ_=>DT St) ((A1 E k rd.body r0.2).bind λr=>.ret (wc5 o.dst n rd.nOut r)) (λ_=>.fail) .fail r0.1
   |false=>.fail).bind λs=>.ret (d8.normal,s)).run=some (xx,s') from he)
 have h2:some (d8.normal,s1)=some (xx,s'):=h2;injection h2 with h2;injection h2 with e1 e2;subst e1 e2
 have hQ:=hQ rfl;simp only[wpOpsIn,hi]
 rcases Kb9 hg hgn hI2.vals hI2.size h1 with⟨hw,hd⟩|⟨hw,rfl⟩
 case inr =>
  rw[if_neg (by simp[hw])]
  exact⟨λf _=>hF.fn f,hQ _ _ ⟨⟨ρ,F,W',_,by rw[o5];exact hI2.core,hI2.vals.putA hI2.size hdn (.w (.ofv _)),(O8 _ _).trans hI2.size⟩,Va5 hheld,by rw[o5];exact hdf⟩⟩
 rw[if_pos hw];have htl:ac.tmps.toList.length=n:=by rw[Array.length_toList];exact hI2.size
 have hup:VR ρ s.H F w (i9 s.a n) (v::tm):=hI2.vals.drop htl
 split at hd
 case h_2=>cases hd
 rename_i hnd;have hv0:v=.int .i64 (.ofNat 0):=by
  have:=hup.head
  rw[bd9 hnd] at this;exact Vd2 this
 subst hv0;have hpe0:=Wd6 hpe;subst hpe0;have hrec:w.heap[l]?=some (zb8 .ready none fnO tm ps asC bodyC D):=hrec;obtain⟨⟨x0,s2⟩,h3,h4⟩:=DT.run_bind_some hd;cases x0 with
 |exit id=>cases h4
 |ret=>cases h4
 |normal =>
 obtain⟨⟨x2,s3⟩,h5,h6⟩:=DT.run_bind_some h4;have h6:some (wc5 o.dst n rd.nOut (x2,s3))=some s1:=h6;injection h6 with h6;subst h6
 -- the operation asks for a round
 unfold Vb8 at hy
 split at hy
 case h_2=>cases hy
 rename_i c ho
 split at hy
 case h_2=>cases hy
 rename_i t hcal;rw[hg] at hy
 simp only at hy
 split at hy
 case isFalse=>cases hy
 rename_i hS;injection hy with hy;have hev:ac.eval (.tmp t)=.func (.yield l) #[] #[]:=by
  have ht:=ec0 hheld hS ((zb6 hg).1 hw);show ac.tmps.getD t undef=_
  simp_all
 have hnd':∀c',o.op≠.defer c':=λc' e=>by rw[ho] at e;cases e
 have hasz:(c.args.map ac.eval).size=ps.size:=by
  grind
 have hyield:=run_yield (P:=E.P) (args:=c.args.map ac.eval) hrec hasz;have hsem:(o.semAt Fe.round ac.eval).run E.P w=.ok (.round l fnO ((ps.zip (c.args.map ac.eval)).foldl (λtmps (t,a)=>tmps.setIfInBounds t a) tm.toArray) asC bodyC) w:=by
  rw[Oper.semAt_eq _ _ _ hnd'];have e:(execOp ac.eval o).run E.P w=(Instr.yield l (c.args.map ac.eval)).run E.P w:=by
   have hres:resolve ac.eval c o.type=pure { target:=.fn (.yield l) #[],args:=c.args.map ac.eval }:=by
    unfold resolve;rw[hcal]
    simp only
    rw[hev];simp[Deferred.ofValue]
   have e1:execOp ac.eval o=(do let d <- resolve ac.eval c o.type;invoke d.target d.args):=by
    unfold execOp;rw[ho]
   rw[e1,hres];rfl
  rw[e];exact hyield
 refine⟨λf _=>hF.fn f,?_⟩
 rw[hsem,Oper.uponIn_round];refine⟨λhd=>hF.depS hd,roundIn_of_wpIn (hF.fn _) ?_⟩
 -- the round's frame
 have hm0:C2 E.P WB (KR l Ds) (JR l D Ds fnO tm ps asC bodyC .ready ac.tmps.toList) ρ0 H0 F0 w0 s.H [] w ρ F W' (ac.tmps.toList++Value.int .i64 (.ofNat 0)::tm):=hI2.core.re ⟨rfl,hrec,hdd⟩ Gb7;have hbase:VR ρ s.H F w (A7 (i9 s.a (n+1)) rd.nOut) tm:=by
  have h0:VR ρ s.H F w s.a ((ac.tmps.toList++[Value.int .i64 (.ofNat 0)])++(tm++[])):=by simpa using hI2.vals
  exact (h0.drop (by simp[htl])).take hnO
 have hargs:∀(j:Nat) x x',(l9 (c9 E s.a) (args.map g9))[j]?=some x->(c.args.map ac.eval).toList[j]?=some x'->XW ρ s.H F w x x':=λj x x' hx hx'=>by
  rw[k9,List.map_map,Qbm] at hx;rw[Array.toList_map,hy,Qbm] at hx';cases hq:args[j]? with
  |none=>rw[hq] at hx;cases hx
  |some q =>
   rw[hq] at hx hx';injection hx with hx;injection hx' with hx'
   subst hx hx';rw[Qcf] at hlt;exact Qa8 hI2.vals hI2.size (hG0.adv hI2.core.adv) q (hlt q (Qca hq))
 have hfr : I3 E.P WB (KR l Ds) (JR l D Ds fnO tm ps asC bodyC .ready ac.tmps.toList) rd.nOut [] undef noD ρ0 H0 F0 w0 (Xc9 E s (args.map g9) n rd.nOut rd.ps)
   { tmps:=(ps.zip (c.args.map ac.eval)).foldl (λtmps (t,a)=>tmps.setIfInBounds t a) tm.toArray,defers:=[] } w:=by
  refine⟨⟨ρ,F,W',_,hm0,?_,?_⟩,λt ht=>by simp at ht,rfl⟩
  ·show VR ρ s.H F w (app (Ue2 rd.ps (l9 (c9 E s.a) (args.map g9)) (A7 (i9 s.a (n+1)) rd.nOut)) s.a) _;refine VR.app ?_ hI2.vals;rw[Bc8,hps]
   have:=Ld6 (ρ:=ρ) (H:=s.H) (F:=F) (w:=w) ps.toList (l9 (c9 E s.a) (args.map g9)) (c.args.map ac.eval).toList _ tm (by rw[k9];simp[hlen,hps]) (by rw[Array.length_toList,hasz,Array.length_toList]) hargs hbase
   simpa using this
  ·rw[pd7];simpa using hnO
 refine hAs ac.tmps.toList _ .normal s2 h3 _ w _ hfr λac1 w1 hI1=>?_
 obtain⟨⟨ρ1,F1,W1,up1,hI1⟩,_,hdf1⟩:=hI1;obtain⟨rfl,hrec1,hdd1⟩:=hI1.core.jot;refine⟨_,run_beginRound hrec1 rfl,?_⟩;have hKl:KR l Ds l:=.inl rfl;obtain⟨b1,b2⟩:=hI1.core.turn (J':=JR l D Ds fnO tm ps asC bodyC .busy ac.tmps.toList) (up':=ac.tmps.toList++Value.int .i64 (.ofNat 0)::tm) (ds':=ac1.defers) l _ (zb8 .busy none fnO tm ps asC bodyC D) hrec1 (λ_ _ _ e=>by cases e) (λ_ _ e=>by cases e) hWl (hI1.core.kept l hKl).1
  ⟨rfl,World.putObj_heap_same (hI1.core.kept l hKl).2,hdd1.turn hrec1 _⟩ (by have:ac1.defers=[]:=hdf1;rw[this];exact Gb7)
 refine hBo ac.tmps.toList s2 x2 s3 h5 ac1 _ _ ⟨⟨ρ1,F1,W1,_,b1,hI1.vals.tr b2,hI1.size⟩,λt ht=>by simp at ht,hdf1⟩ λac2 w2 hI3=>?_
 obtain⟨⟨ρ2,F2,W2,up2,hI3⟩,_,hdf3⟩:=hI3;obtain⟨rfl,hrec2,hdd2⟩:=hI3.core.jot;have hdefs:ac.defers=[]:=hdf;have hkl:=(hI3.core.kept l hKl);have hdrop:VR ρ2 s3.H F2 w2 (i9 s3.a rd.nOut) (ac.tmps.toList++Value.int .i64 (.ofNat 0)::tm):=hI3.vals.drop (by rw[Array.length_toList];exact hI3.size)
 have hfin:∀(pe:Option Code) (v:Value),ec5 pe=some v->C2 E.P WB (KR l Ds) (JI l D Ds fnO tm ps asC bodyC) ρ0 H0 F0 w0 s3.H [] (w2.putObj l (zb8 (if pe.isNone then .ready else .done) pe fnO tm ps asC bodyC D)) ρ2 F2 W2 (v::tm)/\Tr ρ2 s3.H F2 w2 ρ2 s3.H F2 (w2.putObj l (zb8 (if pe.isNone then .ready else .done) pe fnO tm ps asC bodyC D)):=λpe v hpe =>
  hI3.core.turn l _ _ hrec2 (λ_ _ _ e=>by cases e) (λ_ _ e=>by cases e) hWl hkl.1 ⟨pe,v,hpe,rfl,World.putObj_heap_same hkl.2,hdd2.turn hrec2 _⟩ Gb7
 cases x2 with
 |normal =>
  refine⟨_,_,run_endRound none hrec2,hQ _ _ ?_⟩;obtain⟨c1,c2⟩:=hfin none _ rfl;exact⟨⟨ρ2,F2,W2,_,by rw[o5,hdefs];exact c1,(hdrop.tr c2).putA hI2.size hdn (.w (.val (.cell (.v _)))),(O8 _ _).trans hI2.size⟩,Va5 hheld,by rw[o5];exact hdf⟩
 |ret =>
  refine⟨_,_,run_endRound (some .ret) hrec2,hQ _ _ ?_⟩;obtain⟨c1,c2⟩:=hfin (some .ret) _ rfl;exact⟨⟨ρ2,F2,W2,_,by rw[o5,hdefs];exact c1,((hdrop.tr c2).setUp htl (.w (.val (.cell (.v _))))).putA hI2.size hdn (.w (.val (.cell (.v _)))),(O8 _ _).trans hI2.size⟩,Va5 hheld,by rw[o5];exact hdf⟩
 |exit id =>
  refine⟨_,_,run_endRound (some (.exit id)) hrec2,hQ _ _ ?_⟩;obtain⟨c1,c2⟩:=hfin (some (.exit id)) _ rfl;exact⟨⟨ρ2,F2,W2,_,by rw[o5,hdefs];exact c1,((hdrop.tr c2).setUp htl (.w (.val (.cell (.v _))))).putA hI2.size hdn (.w (.val (.cell (.v _)))),(O8 _ _).trans hI2.size⟩,Va5 hheld,by rw[o5];exact hdf⟩
end
section
variable{P:Program}{WB K K':Nat->Prop}{J J':List Value->World->Prop}{ρ ρ0:Rho}{H H0 H':List c7}{F F0:Fz}{w w0 w':World}{W':Nat->Prop}{up up':List Value}{E:Env}{n m:Nat}{a b:List b9}{ac:Act}{ds ds':List Deferred}{vs us:List Value}
theorem C2.reK(h:C2 P WB K J ρ0 H0 F0 w0 H ds w ρ F W' up)(hk:∀k,K' k->¬ W' k/\k<w.heap.size)(hf:∀(id:Nat) b,H[id]?=some b->r5 b=true->b.dead=false->¬ K' (ρ id).blk):C2 P WB K' J ρ0 H0 F0 w0 H ds w ρ F W' up :=
 ⟨h.sub,h.adv,h.hrel,h.srel,hk,hf,h.jot,h.marks⟩
def bb6(d:Deferred):Nat:=match d.target with
 |.collected r=>r
 |_=>0
def Uc1(D:Nat):Deferred:={ target:=.collected D,args:=#[] }
def Wd7:List Value->World->Prop:=λup _=>up=[]
def Ae5:Nat->Prop:=λ_=>False
def Cf6:List Deferred->Prop:=λ_=>True
theorem Kb6.at(h:Kb6 WB W' ds w){D:Nat}(hD:D∈ds.map bb6):Uc1 D∈ds/\w.heap[D]?=some (.deferred (some []))/\¬ W' D/\D<w.heap.size/\WB D:=by
 obtain⟨d,hd,rfl⟩:=Qbz.1 hD;obtain⟨D,rfl,h2,h3,h4,h5⟩:=h.1 d hd;exact⟨hd,h2,h3,h4,h5⟩
abbrev Ae6(P:Program)(WB:Nat->Prop)(n:Nat)(ρ0:Rho)(H0:List c7)(F0:Fz)(w0:World):St->Act->World->Prop:=I3 P WB Ae5 Wd7 n [] undef Cf6 ρ0 H0 F0 w0
theorem Dd5{x:b9}{s s':St}{xx:d8}{v:Value}{pe:Option Code}(h:(wb4 x s).run=some (xx,s'))(hx:XW ρ H F w x v)(hp:ec5 pe=some v) :
  s'=s/\((pe=none/\xx=.normal)\/(pe=some .ret/\xx=.ret)\/∃id,pe=some (.exit id)/\xx=.exit id):=by
 unfold wb4 at h
 split at h
 case h_2=>cases h
 rename_i n;have hv:=Vd2 hx;subst hv;have hn:∀c,ec5 pe=some (.int .i64 (.ofNat c))->(c=0/\pe=none)\/(c=1/\pe=some .ret)\/∃id,c=id+2/\pe=some (.exit id):=λc hc=>by
  unfold ec5 at hc
  split at hc
  ·injection hc with hc;injection hc with _ hc;injection hc with hc;exact .inl ⟨hc.symm,rfl⟩
  ·injection hc with hc;injection hc with _ hc;injection hc with hc;exact .inr (.inl ⟨hc.symm,rfl⟩)
  ·rename_i id;injection hc with hc;injection hc with _ hc;injection hc with hc;exact .inr (.inr ⟨id,hc.symm,rfl⟩)
  ·cases hc
 rcases hn n hp with⟨rfl,rfl⟩|⟨rfl,rfl⟩|⟨id,rfl,rfl⟩
 ·simp_all
 ·simp_all
 simp_all
theorem pd8{caps:List b9}{cv:Array Value}{nIn l:Nat}{s:St}{tm:List Value}(hl:caps.length=cv.size)(hc:∀(i:Nat) x x',caps[i]?=some x->cv[i]?=some x'->XW ρ H F w x x')(hs:VR ρ H F w s.a tm)(hle:caps.length+1<=nIn) :
  VR ρ H F w (ob5 caps nIn s).a ((#[Value.func (.yield l) #[] #[]]++cv++Array.replicate (nIn-(#[Value.func (.yield l) #[] #[]]++cv).size) undef).toList++Value.int .i64 (.ofNat 0)::tm):=by
 have e:(#[Value.func (.yield l) #[] #[]]++cv++Array.replicate (nIn-(#[Value.func (.yield l) #[] #[]]++cv).size) undef).toList++Value.int .i64 (.ofNat 0)::tm=(Value.func (.yield l) #[] #[]::cv.toList)++(List.replicate (nIn-(caps.length+1)) undef++(Value.int .i64 (.ofNat 0)::tm)):=by
  simp[hl,Nat.add_comm]
 rw[e];unfold ob5;simp only[l6];have hrep:∀j,VR ρ H F w (List.replicate j (.v (.tuple #[]))) (List.replicate j undef):=λj=>⟨by simp,λi x x' hx hx'=>by
  rw[Qbac] at hx hx'
  split at hx
  ·split at hx'
   ·injection hx with hx;injection hx' with hx';subst hx hx';exact .w (.ofv _)
   ·contradiction
  ·cases hx⟩
 have hcv:VR ρ H F w caps cv.toList:=⟨by simpa using hl,λi x x' hx hx'=>hc i x x' hx (by simpa using hx')⟩
 exact VR.app (VR.cons (.w (.unk _)) hcv) (VR.app (hrep _) (VR.cons (.w (.val (.cell (.v _)))) hs))
theorem pd9(hmx:E.P.follows .mixedOrders=true){h:qc0}{fnI:Func}{cI:Code}(hG0:GOk E F0 w0)(hcalls:∀f,e8 E.P E.G f (E.call f))(hfI:E.P.funcs[h.fi]?=some fnI)(hbI:fnI.body=some cI)(hname:fnI.name ≠ "runtime.NumGoroutine") :
  kf9 E Fence.wide m H0.length (Cd6 E.P h fnI cI n) (Ae6 E.P WB n ρ0 H0 F0 w0):=by
 intro g ps asq body s s' x ac w Q he hI hQ;obtain⟨⟨ρ,F,W',up,hI2⟩,_,_⟩:=hI;have hup:up=[]:=hI2.core.jot;subst hup;unfold Cd6 at he
 split at he
 case h_2=>cases he
 rename_i hc;simp only[Qbd] at hc;obtain⟨⟨hg,hres⟩,hpsn⟩:=hc
 have he' : (match c9 E s.a (g9 g) with
   |.fn f' caps=>match Nat.beq h.fi f'&&(Nat.ble (len caps+1) fnI.ntmps&&!Nat.ble bfB h.fi) with
    | true => (A1 E H0.length (ka6 E.P fnI.ntmps [] (some (kf4 E.P h n ps asq body)) [(0, none)] (Wd1 h.ki) Vb9 0 cI) (ob5 caps fnI.ntmps s)).bind fun r =>
      d8.rec (motive:=λ_=>DT (d8×St)) (wb4 (hdA (i9 r.2.a fnI.ntmps)) ⟨i9 r.2.a (fnI.ntmps+1),r.2.H⟩) (λ_=>.fail) (wb4 (hdA (i9 r.2.a fnI.ntmps)) ⟨i9 r.2.a (fnI.ntmps+1),r.2.H⟩) r.1
    |false=>.fail
   |_=>.fail).run=some (x,s'):=he
 have hgr:=Qa8 hI2.vals hI2.size (hG0.adv hI2.core.adv) g hg
 revert he' hgr
 generalize c9 E s.a (g9 g)=gv;intro he' hgr
 split at he'
 case h_2=>cases he'
 rename_i f' caps
 split at he'
 case h_2=>cases he'
 rename_i hck;rw[Qbd,l6] at hck;obtain⟨hf',hle⟩:=hck;rw[Qbd] at hle;obtain⟨hle,hlt⟩:=hle;have hlt:Nat.ble bfB h.fi=false:=by simpa using hlt
 have hf':=Qae hf';have hle:=Qbb hle;subst hf';obtain⟨⟨x1,s1⟩,h1,h2⟩:=DT.run_bind_some he';have hgw:v8 ρ (j8 s.H) F w (.fn h.fi caps) (ac.eval g):=by
  cases hgr with
  |w h=>exact h
  |c h=>cases h with
   |n h=>exact .val (.cell h)
 obtain⟨cv,hgv,hcl,hcr⟩:=eb9 hgw;rw[wb7 hlt] at hgv
 -- the blocks that are laid
 obtain⟨a1,a2,a3,_⟩:=hI2.core.alloc (λ_ _ _ _ h=>h) (.deferred (some []))
 obtain⟨rec0,hrec0⟩:∃r:Loop,r={ state:=.ready,pending:=none,fn:=0,tmps:=ac.tmps,params:=ps,assign:=asq,body,defers:=w.heap.size }:=⟨_,rfl⟩;refine wpIn_rangeFunc λfn _=>?_
 obtain⟨b1,b2,b3,_⟩:=a1.alloc (λ_ _ _ _ h=>h) (.loop { state:=.ready,pending:=none,fn,tmps:=ac.tmps,params:=ps,assign:=asq,body,defers:=w.heap.size })
 have hsz1:(w.alloc (.deferred (some []))).heap.size=w.heap.size+1:=by simp
 rw[hsz1] at b1 b3;generalize hW2:(w.alloc (.deferred (some []))).alloc (.loop { state:=.ready,pending:=none,fn,tmps:=ac.tmps,params:=ps,assign:=asq,body,defers:=w.heap.size })=w2 at b1 b2;have hsz2:w2.heap.size=w.heap.size+2:=by rw[<- hW2];simp
 have hl2:w2.heap[w.heap.size+1]?=some (zb8 .ready none fn ac.tmps.toList ps asq body w.heap.size):=by
  rw[<- hW2]
  have:=World.alloc_heap_new (w.alloc (.deferred (some []))) (.loop { state:=.ready,pending:=none,fn,tmps:=ac.tmps,params:=ps,assign:=asq,body,defers:=w.heap.size })
  rw[hsz1] at this;rw[this];simp[zb8]
 have hd2:w2.heap[w.heap.size]?=some (.deferred (some [])):=by
  rw[<- hW2];have e:∀o:Obj,((w.alloc (.deferred (some []))).alloc o).heap[w.heap.size]?=(w.alloc (.deferred (some []))).heap[w.heap.size]?:=λo=>by
   simp only[World.alloc,Qam,Array.size_push];rw[if_neg (by omega)]
  rw[e];exact World.alloc_heap_new w _
 have hmk:=b1.marks;have hDsOk:Wd4 (w.heap.size::ac.defers.map bb6) w2:=λd hd=>by
  rcases Qbp.1 hd with rfl|hd
  ·exact hd2
  ·exact (hmk.at hd).2.1
 have hnew:C2 E.P WB (KR (w.heap.size+1) (w.heap.size::ac.defers.map bb6)) (JI (w.heap.size+1) w.heap.size (w.heap.size::ac.defers.map bb6) fn ac.tmps.toList ps asq body) ρ0 H0 F0 w0 s.H [] w2 ρ F _ (Value.int .i64 (.ofNat 0)::ac.tmps.toList) :=
  (b1.reK (K':=KR (w.heap.size+1) (w.heap.size::ac.defers.map bb6)) (λk hk=>by
   rcases hk with rfl|hk
   ·exact⟨λhw=>hw.2 rfl,by omega⟩
   ·rcases Qbp.1 hk with rfl|hk
    ·exact⟨λhw=>hw.1.2 rfl,by omega⟩
    ·exact⟨(hmk.at hk).2.2.1,(hmk.at hk).2.2.2.1⟩)
   (λid b hb hs hd hk=>by
    obtain⟨_,_,_,k4,k5⟩:=hI2.core.srel.has id b hb hs hd;obtain⟨_,_,_,_,k6⟩:=b1.srel.has id b hb hs hd
    rcases hk with hk|hk
    ·omega
    ·rcases Qbp.1 hk with hk|hk
     ·omega
     ·have hdd:=(hmk.at hk).2.1
      rcases k6 with⟨_,row,vs,t,_,m2,_⟩|⟨t,Kt,El,fl,es,clk,_,_,_,m4,_⟩
      ·rw[hdd] at m2;cases m2
      ·rw[hdd] at m4;cases m4)).re ⟨none,_,rfl,rfl,hl2,hDsOk⟩ Gb7
 have htr:Tr ρ s.H F w ρ s.H F w2:=λx x' hx=>b2 _ _ (a2 _ _ hx)
 have hcb:Ua7 E.P h.fi:=⟨fnI,hfI,by simp[hbI],hname⟩
 refine⟨w.heap.size+1,[Uc1 w.heap.size],w2,{ target:=.fn (.func h.fi) cv,args:=#[.func (.yield (w.heap.size+1)) #[] #[]] },w2,h.fi,#[.func (.yield (w.heap.size+1)) #[] #[]]++cv,w2,?_,?_,λ_ _=>trivial,?_,λhd=>FW.wide.depS hd,?_⟩
 ·rw[<- hW2];exact run_enterLoop_outer _ _ _ _ _
 ·simp only[resolve,rangeCall,hgv];simp[Deferred.ofValue];rfl
 ·simp only[invoke];exact Aa9 hcb _
 refine callsIn_of_wp hfI hbI trivial ?_
 -- the iterator's frame
 have hI0 : I3 E.P WB (KR (w.heap.size + 1) (w.heap.size :: ac.defers.map bb6)) (JI (w.heap.size + 1) w.heap.size (w.heap.size :: ac.defers.map bb6) fn ac.tmps.toList ps asq body) fnI.ntmps [(0, none)] (.func (.yield (w.heap.size + 1)) #[] #[]) noD ρ0 H0 F0 w0 (ob5 caps fnI.ntmps s)
   { tmps:=#[Value.func (.yield (w.heap.size+1)) #[] #[]]++cv++Array.replicate (fnI.ntmps-(#[Value.func (.yield (w.heap.size+1)) #[] #[]]++cv).size) undef,defers:=[] } w2:=by
  refine⟨⟨ρ,F,_,_,hnew,?_,?_⟩,λt ht _=>?_,rfl⟩
  ·refine pd8 hcl (λi x x' hx hx'=>htr _ _ (.w (.val (.cell (hcr i x x' hx hx'))))) ?_ hle
   have h0:=hI2.vals.tr htr;rw[Qbad] at h0;exact h0
  ·simp only[Array.size_append,Qfl]
   have:(#[Value.func (.yield (w.heap.size+1)) #[] #[]]:Array Value).size=1:=rfl
   omega
  ·have:t=(0,none):=by simpa using ht
   subst this;rw[Array.append_assoc,Qdc (show 0<1 by omega)]
   rfl
 have hWl:WB (w.heap.size+1):=b3;have hpart:∀(st:LoopState) (c:Code),Dd4 E WB (w.heap.size+1) w.heap.size (w.heap.size::ac.defers.map bb6) fn ac.tmps.toList ps asq body n ρ0 H0 F0 w0 Fence.wide (m-1-1) H0.length st c (ka6 E.P n h.pr none [] (Wd1 h.kp) Vb9 0 c):=λst c inn s x s' he ac w Q hI hQ =>
  Qb0 (FW.inRound _) hG0 hcalls (Ae3 _ _ _ _ _ _ _ _ _ _) (λrd hrd=>by cases hrd) hmx (λg ps asq body s s' x ac w Q he=>by cases he) c 0 s x s' he ac w Q hI hQ
 refine Qb0 (Fe:=Fence.wide) FW.wide hG0 hcalls (Ae2 _ _ _ _ _ _ _ _) (λrd hrd=>?_) hmx (λg ps asq body s s' x ac w Q he=>by cases he) cI 0 _ x1 s1 h1 _ w2 _ hI0 λac3 w3 hI3=>?_
 ·injection hrd with hrd;subst hrd;exact Ae4 FW.wide hG0 rfl (by rw[Array.length_toList];exact hI2.size) hWl (hpart .ready asq) (hpart .busy body)
 obtain⟨⟨ρ3,F3,W3,up3,hI3⟩,_,hdf3⟩:=hI3;obtain⟨pe,v,hpe,rfl,hrec3,hds3⟩:=hI3.core.jot;have hpX:(wb4 (hdA (i9 s1.a fnI.ntmps)) ⟨i9 s1.a (fnI.ntmps+1),s1.H⟩).run=some (x,s')/\∀id,x1≠.exit id:=by
  cases x1 with
  |normal=>exact⟨h2,λ_ e=>by cases e⟩
  |ret=>exact⟨h2,λ_ e=>by cases e⟩
  |exit id=>cases h2
 obtain⟨hpX,hne⟩:=hpX;have htl3:ac3.tmps.toList.length=fnI.ntmps:=by rw[Array.length_toList];exact hI3.size
 have hdr:VR ρ3 s1.H F3 w3 (i9 s1.a fnI.ntmps) (v::ac.tmps.toList):=hI3.vals.drop htl3;obtain⟨rfl,hcase⟩:=Dd5 hpX hdr.head hpe;have hKl:KR (w.heap.size+1) (w.heap.size::ac.defers.map bb6) (w.heap.size+1):=.inl rfl;have hkl:=hI3.core.kept _ hKl;have hM4:∀o:Obj,Kb6 WB W3 (Uc1 w.heap.size::ac.defers) (w3.putObj (w.heap.size+1) o):=λo=>by
  refine⟨λd hd=>?_,List.nodup_cons.2 ⟨λhd=>?_,hI2.core.marks.2⟩⟩
  ·have hD : bb6 d ∈ w.heap.size :: ac.defers.map bb6 := by
    rcases Qbp.1 hd with rfl|hd
    ·exact .head _
    ·exact .tail _ (Qbz.2 ⟨d,hd,rfl⟩)
   have hk:=hI3.core.kept _ (.inr hD:KR (w.heap.size+1) (w.heap.size::ac.defers.map bb6) (bb6 d));refine⟨bb6 d,?_,(hds3.turn hrec3 o) _ hD,hk.1,by rw[World.putObj_size];exact hk.2,?_⟩
   ·rcases Qbp.1 hd with rfl|hd
    ·rfl
    ·obtain⟨D,rfl,_⟩:=hI2.core.marks.1 d hd;rfl
   ·rcases Qbp.1 hd with rfl|hd
    ·exact a3
    ·exact (hI2.core.marks.at (Qbz.2 ⟨d,hd,rfl⟩)).2.2.2.2
  ·have:=(hI2.core.marks.at (Qbz.2 ⟨_,hd,rfl⟩)).2.2.2.1
   exact Qed _ this
 obtain⟨d1,d2⟩:=hI3.core.turn (J':=Wd7) (up':=[]) (ds':=Uc1 w.heap.size::ac.defers) (w.heap.size+1) _ (zb8 .exhausted pe fn ac.tmps.toList ps asq body w.heap.size) hrec3 (λ_ _ _ e=>by cases e) (λ_ _ e=>by cases e) hWl hkl.1 rfl (hM4 _)
 have hIe:Ae6 E.P WB n ρ0 H0 F0 w0 ⟨i9 s1.a (fnI.ntmps+1),s1.H⟩ { ac with defers:=[Uc1 w.heap.size]++ac.defers } (w3.putObj (w.heap.size+1) (zb8 .exhausted pe fn ac.tmps.toList ps asq body w.heap.size)):=by
  refine⟨⟨ρ3,F3,W3,[],d1.reK (λk hk=>hk.elim) (λ_ _ _ _ _ hk=>hk.elim),?_,hI2.size⟩,λt ht=>by simp at ht,trivial⟩
  have h0:VR ρ3 s1.H F3 w3 s1.a ((ac3.tmps.toList++[v])++ac.tmps.toList):=by simpa using hI3.vals
  have:=(h0.drop (k:=fnI.ntmps+1) (by simp[htl3])).tr d2
  simpa using this
 have hend:(Instr.endLoop (w.heap.size+1)).run E.P w3=.ok pe (w3.putObj (w.heap.size+1) (zb8 .exhausted pe fn ac.tmps.toList ps asq body w.heap.size)) :=
  run_endLoop hrec3 (by cases pe<;>simp)
 have hpost:rangePost Fence.wide m E.P (w.heap.size+1) Q { ac with defers:=[Uc1 w.heap.size]++ac.defers } (.returned (.tuple #[])) w3:=by
  refine⟨pe,_,hend,?_⟩
  rcases hcase with⟨rfl,rfl⟩|⟨rfl,rfl⟩|⟨id,rfl,rfl⟩
  ·exact hQ _ _ hIe
  ·exact wpIn_ret (hQ _ _ hIe)
  ·exact wpIn_exit (hQ _ _ hIe)
 have hresults:(results fnI ac3.tmps).run E.P w3=.ok (.tuple #[]) w3:=by
  have h0:fnI.results=#[]:=Array.eq_empty_of_size_eq_zero (Qae hres);simp[results,h0]
 cases x1 with
 |normal=>exact⟨hdf3,_,hresults,hpost⟩
 |ret=>exact⟨hdf3,_,hresults,hpost⟩
 |exit id=>exact absurd rfl (hne id)
end
section
variable{P:Program}{W WB:Nat->Prop}{ρ ρ0:Rho}{H H0:List c7}{F F0:Fz}{w w0:World}{W':Nat->Prop}{E:Env}{n:Nat}{ds:List Deferred}
theorem Wb1:∀{H:List c7},pd1 H=true->∀(id:Nat) b,H[id]?=some b->r5 b=false
 |[],_,id,b,hb=>by simp at hb
 |c::H,h,id,b,hb=>by
  have h:Bool.rec (motive:=λ_=>Bool) (pd1 H) false (r5 c)=true:=h
  cases hc:r5 c with
  |true=>rw[hc] at h;cases h
  |false =>
   rw[hc] at h;cases id with
   |zero=>simp at hb;subst hb;exact hc
   |succ id=>exact Wb1 h id b (by simpa using hb)
theorem Dd6(h:pd1 H=true):j8 H=H:=by
 refine Qcd λid=>?_
 cases hb:H[id]? with
 |none=>rw[Va4,Qbm,hb];rfl
 |some b=>exact N1 hb (Wb1 h id b hb)
theorem r4.more(h:r4 W' ρ H F w)(hs:∀k,W' k->W k):r4 W ρ H F w :=
 ⟨λid b hb hd=>by
  obtain⟨cc,t,fr,hB⟩:=h.blk id b hb hd;exact⟨cc,t,fr,hB.obj,hB.room,hB.len,hB.rows,hB.cell,λho=>⟨(hB.own ho).1,hs _ (hB.own ho).2.1,(hB.own ho).2.2⟩,hB.kept⟩,h.apart,h.frz,λk hk=>hs k (h.new k hk)⟩
theorem Wb2{Fe:Fence}{m:Nat}{fn:Func}{tmps:Array Value}{R:Ending->World->Prop}:∀(ds:List Deferred) (w:World),C2 P WB Ae5 Wd7 ρ0 H0 F0 w0 H ds w ρ F W' [] ->
  (∀w'',C2 P WB Ae5 Wd7 ρ0 H0 F0 w0 H [] w'' ρ F W' []->Tr ρ H F w ρ H F w''->LeavesIn Fe m P fn tmps R [] .returning w'')->LeavesInM Fe m P fn tmps R ds .returning w
 |[],w,hC,hR=>hR w hC λ_ _ h=>h
 |d::ds,w,hC,hR=>by
  obtain⟨D,rfl,h2,h3,h4,h5⟩:=hC.marks.1 d (.head _);have hnd:=List.nodup_cons.1 hC.marks.2;obtain⟨c1,c2⟩:=hC.turn (J':=Wd7) (up':=[]) (ds':=ds) D _ (.deferred none) h2 (λ_ _ _ e=>by cases e) (λ_ _ e=>by cases e) h5 h3 rfl
   ⟨λd' hd'=>by
    obtain⟨D',rfl,k2,k3,k4,k5⟩:=hC.marks.1 d' (.tail _ hd');have hne:D'≠D:=λe=>hnd.1 (e ▸ hd')
    exact⟨D',rfl,by rw[World.putObj_heap_other hne];exact k2,k3,by rw[World.putObj_size];exact k4,k5⟩,hnd.2⟩
  refine⟨by simp,.inl ⟨D,_,rfl,run_takeDeferred h2,Wb2 ds _ c1 λw'' hC' ht=>hR w'' hC' λx x' hx=>ht _ _ (c2 _ _ hx)⟩⟩
theorem Wd8(hmx:E.P.follows .mixedOrders=true){f:FuncId}{fn fnI:Func}{pf:PFn}{h:qc0}(hf:E.P.funcs[f]?=some fn)(hname:fn.name ≠ "runtime.NumGoroutine")(hfI:E.P.funcs[h.fi]?=some fnI)(hnameI:fnI.name ≠ "runtime.NumGoroutine")
  (hc:Ba5 E.P h fnI fn=some pf) (hcalls:∀f,e8 E.P E.G f (E.call f)):e8 E.P E.G f (xa3 E pf):=by
 intro args blks r out he W ρ F w args' hH hlen hargs hG;unfold Ba5 at hc;cases hb:fn.body with
 |none=>simp[hb] at hc
 |some c =>
 cases hbI:fnI.body with
 |none=>simp[hb,hbI] at hc
 |some cI =>
 simp only[hb,hbI] at hc
 split at hc
 case isFalse=>cases hc
 rename_i hres;injection hc with hc;subst hc;refine⟨⟨fn,hf,by simp[hb],hname⟩,?_⟩
 unfold xa3 at he;obtain⟨hns,he⟩:=DT.run_guard_some he;rw[Qbd,l6] at hns;obtain⟨hns,hle⟩:=hns;have hle:args.length<=fn.ntmps:=Qbb hle;rw[l6,E0,l6] at he;obtain⟨⟨x,s1⟩,h1,h2⟩:=DT.run_bind_some he
 simp only at h2 h1
 refine (callsIn_wide (n:=2)).1 (callsIn_of_wp_marks hf hb trivial ?_);have hmb:=Dd6 hns;have hI:Ae6 E.P W fn.ntmps ρ blks F w ⟨args++List.replicate (fn.ntmps-args.length) (.v (.tuple #[])),blks⟩ { tmps:=args'.toArray++Array.replicate (fn.ntmps-args'.toArray.size) undef,defers:=[] } w:=by
  refine⟨⟨ρ,F,W,[],⟨λ_ h=>h,.refl,by rw[hmb];exact hH,⟨λid b hb hs=>(by rw[Wb1 hns id b hb] at hs;cases hs),λid id' b b' hb hb' hs=>(by rw[Wb1 hns id b hb] at hs;cases hs)⟩,λk hk=>hk.elim,λ_ _ _ _ _ hk=>hk.elim,rfl,Gb7⟩,⟨by simp[hlen],λi y y' hy hy'=>?_⟩,?_⟩,λt ht=>by simp at ht,trivial⟩
  ·simp only at hy hy'
   rw[Qbad] at hy';have hy':(args'.toArray++Array.replicate (fn.ntmps-args'.toArray.size) undef)[i]?=some y':=by rw[<- Qbs];exact hy'
   rcases Qan i args.length with hi|hi
   ·rw[Qbg hi] at hy;rw[Qdc (by simpa [<- hlen] using hi)] at hy'
    exact .w (by rw[hmb];exact hargs i y y' hy (by simpa using hy'))
   ·rw[Qbf hi] at hy;rw[Array.getElem?_append_right (by simpa [<- hlen] using hi)] at hy'
    rw[Qbac] at hy;rw[Array.getElem?_replicate] at hy'
    split at hy
    ·split at hy'
     ·injection hy with hy;injection hy' with hy'
      subst hy hy';exact .w (.ofv _)
     ·cases hy'
    ·cases hy
  ·simp only[Array.size_append,Qfl,List.size_toArray];omega
 have hfin : ∀ (ac' : Act) (w' : World), Ae6 E.P W fn.ntmps ρ blks F w s1 ac' w' → (match Ma4 (Na0 (l9 (T6 s1.H) s1.a) (j8 s1.H)) (fn.results.toList.map (wc9 E.P)) with
    |some l=>.guard (pd1 (A7 s1.H blks.length)) (wb6 blks.length (j8 s1.H) (eb8 l))
    |none=>.fail:DT (b9×List c7)).run=some (r,out)->LeavesInM Fence.wide 2 E.P fn ac'.tmps (λe w'=>∃r',e=.returned r'/\C4 W ρ blks F w r out r' w') ac'.defers .returning w':=λac' w' hI' hr=>by
  obtain⟨⟨ρ1,F1,W1,up,hI2⟩,_,_⟩:=hI';have hup:up=[]:=hI2.core.jot;subst hup;refine Wb2 _ _ hI2.core λw'' hC ht=>?_
  cases hm:Ma4 (Na0 (l9 (T6 s1.H) s1.a) (j8 s1.H)) (fn.results.toList.map (wc9 E.P)) with
  |none=>rw[hm] at hr;cases hr
  |some l =>
  rw[hm] at hr;obtain⟨hfirst,hr⟩:=DT.run_guard_some hr;have hI3:I2 E.P W Ae5 Wd7 fn.ntmps ρ blks F w s1 { ac' with defers:=[] } w'' ρ1 F1 W1 []:=⟨hC,hI2.vals.tr ht,hI2.size⟩
  have hA:=hI3.arel;have hla:A7 s1.a fn.ntmps=s1.a:=by
   have:=hI2.vals.1
   rw[Qbad,Array.length_toList,hI2.size] at this;rw[A8,<- this,List.take_length]
  rw[hla] at hA;obtain⟨v,k1,k2⟩:=yc6 hC.hrel hA hres hm;have hadv:Adv W ρ blks F w ρ1 (j8 s1.H) F1 w'':=by
   refine⟨hC.adv.ext,λid b hid=>?_,hC.adv.more,hC.adv.new,λid b' hb' hn=>?_⟩
   ·obtain⟨b',g1,g2,g3,g4⟩:=hC.adv.heap id b hid;have hlt:=(Qab.1 hid).1;have hs:r5 b'=false:=Wb1 hfirst id b' (by rw[A8,Qbe,if_pos hlt];exact g1)
    exact⟨b',N1 g1 hs,g2,g3,g4⟩
   ·rw[ec1,Qbm] at hb';cases hq:s1.H[id]? with
    |none=>rw[hq] at hb';cases hb'
    |some q =>
     rw[hq] at hb';injection hb' with hb';have hg:b'.g=q.g:=by
      rw[<- hb'];unfold Ld1;cases r5 q<;>rfl
     exact hC.adv.fresh id q hq λb hb=>by rw[<- hg];exact hn b hb
  refine⟨v,k1,v,rfl,?_⟩;simp only[wb6] at hr;cases ht:wc4 blks.length (j8 s1.H) (List.range blks.length) (eb8 l) with
  |mk z roots =>
  simp only[ht] at hr;cases hb2:sa0 blks.length (j8 s1.H) 0 roots with
  |none=>simp[hb2] at hr
  |some H2 =>
  simp only[hb2] at hr;have hr':some (z,H2)=some (r,out):=hr;injection hr' with hr';injection hr' with e1 e2;subst e1 e2
  obtain⟨m1,_,m3⟩:=yc3 (TOk.start _) ht;exact⟨_,F1,Tb7 m1 hb2 hadv,(Fb6 m1 hC.hrel hb2).more hC.sub,Zc5 hb2 m3 k2⟩
 refine Qb0 FW.wide hG hcalls (λ_ _ _ _ h=>h) (λrd hrd=>by cases hrd) hmx (pd9 hmx hG hcalls hfI hbI hnameI) c 0 _ x s1 h1 _ w _ hI λac' w' hI'=>?_
 cases x with
 |normal=>exact hfin ac' w' hI' h2
 |ret=>exact hfin ac' w' hI' h2
 |exit id=>cases h2
end
theorem e8.body2{E:Env}{P:Program}{f:FuncId}{h:qc0}{fn fnI:Func}{pf:PFn}(hP:E.P=P)(hm:P.follows .mixedOrders=true)(hf:P.funcs[f]?=some fn)(hn:fn.name ≠ "runtime.NumGoroutine")(hfI:P.funcs[h.fi]?=some fnI)(hnI:fnI.name ≠ "runtime.NumGoroutine")
  (hc:Ba5 P h fnI fn=some pf) (hcalls:∀g,e8 E.P E.G g (E.call g)):e8 E.P E.G f (xa3 E pf):=by
 subst hP;exact Wd8 hm hf hn hfI hnI hc hcalls
inductive PS2 where
 |pc (c:PC)
 |seq (a b:PS2)
 |cond (c:Arg) (x y:PS2)
 |block (id:Nat) (c:PS2)
 |sum (S:St->DT (d8×St))
 |inner (f:Nat) (x:Arg) (nIn:Nat) (c:PS2)
def ec6(E:Env)(k:Nat)(c:PS2):St->DT (d8×St) :=
 PS2.rec (motive:=λ_=>St->DT (d8×St))
  (λc=>A1 E k c)
  (λ_ _ x y s=>(x s).bind λr=>d8.rec (motive:=λ_=>DT (d8×St)) (y r.2) (λid=>.ret (.exit id,r.2)) (.ret (.ret,r.2)) r.1)
  (λc _ _ x y s=>match c9 E s.a c with
   |.v (.bool b)=>.ite b (x s) (y s)
   |_=>.fail)
  (λid _ x s=>(x s).bind λr=>d8.rec (motive:=λ_=>DT (d8×St)) (.ret (.normal,r.2))
   (λid'=>Bool.rec (.ret (.exit id',r.2)) (.ret (.normal,r.2)) (Nat.beq id' id)) (.ret (.ret,r.2)) r.1)
  (λS=>S)
  (λf x nIn _ c s=>match c9 E s.a x with
   |.fn f' caps=>match Nat.beq f f'&&(Nat.ble (len caps+1) nIn&&!Nat.ble bfB f) with
    | true => (c (ob5 caps nIn s)).bind fun r =>
      d8.rec (motive:=λ_=>DT (d8×St)) (wb4 (hdA (i9 r.2.a nIn)) ⟨i9 r.2.a (nIn+1),r.2.H⟩) (λ_=>.fail) (wb4 (hdA (i9 r.2.a nIn)) ⟨i9 r.2.a (nIn+1),r.2.H⟩) r.1
    |false=>.fail
   |_=>.fail) c
inductive Y7 (E:Env) (k:Nat):PS2->PC->Prop
 |pc (c:PC):Y7 E k (.pc c) c
 |seq {a b:PS2} {a' b':PC} (h:Y7 E k a a') (h':Y7 E k b b'):Y7 E k (.seq a b) (.seq a' b')
 |cond (c:Arg) {a b:PS2} {a' b':PC} (h:Y7 E k a a') (h':Y7 E k b b'):Y7 E k (.cond c a b) (.cond c a' b')
 |block (id:Nat) {a:PS2} {a':PC} (h:Y7 E k a a'):Y7 E k (.block id a) (.block id a')
 |sum {S:St->DT (d8×St)} {c:PC} (h:∀s,M1 (S s) (A1 E k c s)):Y7 E k (.sum S) c
 |inner (f:Nat) (x:Arg) (nIn:Nat) {a:PS2} {a':PC} (h:Y7 E k a a'):Y7 E k (.inner f x nIn a) (.inner f x nIn a')
def Dd7 (E : Env) (f : Nat) (x : Arg) (nIn : Nat) (c : St → DT (d8 × St)) (s : St) : DT (d8 × St) := match c9 E s.a x with
   |.fn f' caps=>match Nat.beq f f'&&(Nat.ble (len caps+1) nIn&&!Nat.ble bfB f) with
    | true => (c (ob5 caps nIn s)).bind fun r =>
      d8.rec (motive:=λ_=>DT (d8×St)) (wb4 (hdA (i9 r.2.a nIn)) ⟨i9 r.2.a (nIn+1),r.2.H⟩) (λ_=>.fail) (wb4 (hdA (i9 r.2.a nIn)) ⟨i9 r.2.a (nIn+1),r.2.H⟩) r.1
    |false=>.fail
   |_=>.fail
theorem cd0{E:Env}{f:Nat}{x:Arg}{nIn:Nat}{c c':St->DT (d8×St)}(h:∀s,M1 (c s) (c' s))(s:St):M1 (Dd7 E f x nIn c s) (Dd7 E f x nIn c' s):=by
 unfold Dd7;cases c9 E s.a x with
 |fn f' caps =>
  simp only
  cases Nat.beq f f'&&(Nat.ble (len caps+1) nIn&&!Nat.ble bfB f) with
  |true=>exact (h _).bind λr=>.refl _
  |false=>exact .fail _
 |_=>exact .fail _
theorem Y7.le{E:Env}{k:Nat}{a:PS2}{c:PC}(h:Y7 E k a c):∀s,M1 (ec6 E k a s) (A1 E k c s):=by
 induction h with
 |pc c=>exact λs=>.refl _
 |seq h h' ih ih' =>
  intro s;refine (ih s).bind λr=>?_
  rcases r with⟨x,s'⟩
  cases x with
  |normal=>exact ih' s'
  |exit id=>exact .refl _
  |ret=>exact .refl _
 |cond c h h' ih ih' =>
  intro s;show M1 (match c9 E s.a c with | .v (.bool b)=>_ | _=>_) (match c9 E s.a c with | .v (.bool b)=>_ | _=>_)
  split
  ·exact .ite (ih s) (ih' s)
  ·exact .fail _
 |block id h ih=>exact λs=>(ih s).bind λr=>.refl _
 |sum h=>exact h
 |inner f x nIn h ih =>
  intro s;exact cd0 (E:=E) (f:=f) (x:=x) (nIn:=nIn) ih s
def he7(E:Env)(fn:PFn)(body:PS2)(args:List b9)(blks:List c7):DT (b9×List c7) :=
 .guard (Bool.and (pd1 blks) (Nat.ble (len args) fn.ntmps)) ((ec6 E (len blks) body ⟨app args (List.replicate (fn.ntmps-len args) (.v (.tuple #[]))),blks⟩).bind λr =>
  match r.1 with
  |.exit _=>.fail
  |_=>match Ma4 (Na0 (l9 (T6 r.2.H) r.2.a) (j8 r.2.H)) fn.res with
   |some l=>.guard (pd1 (A7 r.2.H (len blks))) (wb6 (len blks) (j8 r.2.H) (eb8 l))
   |none=>.fail)
theorem qd0{E:Env}{fn:PFn}{body:PS2}{args:List b9}{blks:List c7}(h:Y7 E (len blks) body fn.body):M1 (he7 E fn body args blks) (xa3 E fn args blks) :=
 M1.ite (M1.bind (h.le _) λ_=>.refl _) (.refl _)
@[reducible] def qd1(k:Nat)(keep:List Nat)(s:St):DT St:=tidyM k ⟨G4 keep s.a 0,s.H⟩
theorem Dd8(E:Env)(k:Nat)(keep:List Nat)(c:PC)(s:St):A1 E k (.loopM keep c) s=vb3 (qd1 k keep) (A1 E k c) E.N s:=rfl
theorem Ae7{E:Env}(hm:E.P.follows .mixedOrders=true)(hcalls:∀f,e8 E.P E.G f (E.call f)):Ad2 E:=by
 intro W ρ0 H0 F0 w0 hG0 id ops dsts asq l ps hc s x s' he ac w Q hI hQ;rw[<- hc] at he;obtain⟨hd,hr⟩:=hI;have hlen:H0.length<=s.H.length:=by
  obtain⟨ρ,F,hA,_⟩:=hr
  rcases Qan s.H.length H0.length with h|h
  ·obtain⟨b',hb',_⟩:=hA.heap s.H.length _ (Qaa h)
   simp_all
  ·exact h
 exact wpIn_wide.1 (Ld3 (nn:=0) FW.wide hm hcalls hG0 (DS:=λ_=>True) (tm:=ac.tmps) (ds:=ac.defers) (λ_ _ _ _=>trivial) hlen he ⟨rfl,rfl,λ_ h=>absurd trivial h,hr⟩ λac' w' hM=>hQ ac' w' ⟨hM.defers.trans hd,hM.rel⟩)
def got(x:Option PFn):PFn:=Option.rec (motive:=λ_=>PFn) ⟨0,[],.skip⟩ (λy=>y) x
theorem ec7{x:Option PFn}(h:Option.isSome x=true):x=some (got x):=by cases x with
 |none=>cases h
 |some y=>rfl
def cd1(P:Program)(f:FuncId)(R:Env->Sum):Prop:=∀{E:Env},E.P=P->(∀g,e8 E.P E.G g (E.call g))->e8 E.P E.G f (R E)
theorem Cf7{P:Program}{f:FuncId}{fn:Func}{pf:PFn}(hm:P.follows .mixedOrders=true)(hf:P.funcs[f]?=some fn)(hn:decide (fn.name ≠ "runtime.NumGoroutine")=true)(hc:Eb9 P fn=some pf):cd1 P f λE=>m9 E pf :=
 λhP hcalls=>by
  subst hP;exact be7 hf (of_decide_eq_true hn) hc hcalls (Ae7 hm hcalls)
theorem qd2{P:Program}{f:FuncId}{h:qc0}{fn fnI:Func}{pf:PFn}(hm:P.follows .mixedOrders=true)(hf:P.funcs[f]?=some fn)(hn:decide (fn.name ≠ "runtime.NumGoroutine")=true)(hfI:P.funcs[h.fi]?=some fnI)(hnI:decide (fnI.name ≠ "runtime.NumGoroutine")=true)
  (hc:Ba5 P h fnI fn=some pf):cd1 P f λE=>xa3 E pf :=
 λhP hcalls=>e8.body2 hP hm hf (of_decide_eq_true hn) hfI (of_decide_eq_true hnI) hc hcalls
end Go.Ev
