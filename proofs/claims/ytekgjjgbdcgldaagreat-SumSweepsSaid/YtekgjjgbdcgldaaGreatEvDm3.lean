/- Own work: a part of the proof. -/
import Derived.Test.YtekgjjgbdcgldaaGreatEvSp2
import Derived.MapKept
import GoSem.Instr.MapUpdate
import Derived.Test.YtekgjjgbdcgldaaGreatEvCall2
import Derived.OrdersIn
set_option linter.unusedVariables false
set_option linter.unusedSimpArgs false
set_option linter.unnecessarySimpa false
set_option linter.unusedSectionVars false
namespace Go.Ev
open Go
def Fb7 (WB W':Nat→Prop) (ds:List Deferred) (w:World):Prop:=(∀ d∈ds,∃ D,d={ target:=.collected D,args:=#[] }∧w.heap[D]?=some (.deferred (some []))∧¬ W' D∧D < w.heap.size∧WB D)∧ds.Nodup
def VR (ρ:Rho) (H:List b9) (F:Fz) (w:World) (a:List b7) (vs:List Value):Prop:=a.length=vs.length∧∀ (i:Nat) x x',a[i]?=some x→vs[i]?=some x'→XW ρ H F w x x'
structure C2 (P:Program) (WB:Nat→Prop) (K:Nat→Prop) (J:List Value→World→Prop) (ρ0:Rho) (H0:List b9) (F0:Fz) (w0:World) (H:List b9) (ds:List Deferred) (w:World) (ρ:Rho) (F:Fz) (W':Nat→Prop) (up:List Value):Prop where
 sub:∀ k,W' k→WB k
 adv:Adv WB ρ0 H0 F0 w0 ρ H F w
 hrel:v8 W' ρ (n4 H) F w
 srel:Vd7 P WB W' ρ H F w
 kept:∀ k,K k→¬ W' k∧k < w.heap.size
 far:∀ (id:Nat) b,H[id]?=some b→B9 b=true→b.dead=false→¬ K (ρ id).blk
 jot:J up w
 marks:Fb7 WB W' ds w
structure I2 (P:Program) (WB:Nat→Prop) (K:Nat→Prop) (J:List Value→World→Prop) (n:Nat) (ρ0:Rho) (H0:List b9) (F0:Fz) (w0:World) (s:St) (ac:Act) (w:World) (ρ:Rho) (F:Fz) (W':Nat→Prop) (up:List Value):Prop where
 core:C2 P WB K J ρ0 H0 F0 w0 s.H ac.defers w ρ F W' up
 vals:VR ρ s.H F w s.a (ac.tmps.toList++up)
 size:ac.tmps.size=n
def Ld7 (P:Program) (WB:Nat→Prop) (K:Nat→Prop) (J:List Value→World→Prop) (n:Nat) (ρ0:Rho) (H0:List b9) (F0:Fz) (w0:World) (s:St) (ac:Act) (w:World):Prop :=
 ∃ ρ F W' up,I2 P WB K J n ρ0 H0 F0 w0 s ac w ρ F W' up
def Tr (ρ:Rho) (H:List b9) (F:Fz) (w:World) (ρ':Rho) (H':List b9) (F':Fz) (w':World):Prop:=∀ x x',XW ρ H F w x x'→XW ρ' H' F' w' x x'
def Kb3 (K:Nat→Prop) (J:List Value→World→Prop):Prop:=∀ up w w',(∀ k,K k→w'.heap[k]?=w.heap[k]?)→J up w→J up w'
section
variable {P:Program} {WB K:Nat→Prop} {J:List Value→World→Prop} {ρ ρ0 ρ':Rho} {H H0 H1:List b9} {F F0 F':Fz} {w w0 w':World} {W':Nat→Prop} {up:List Value} {s:St} {ac ac':Act} {E:Env}
theorem Fb7.step {ds:List Deferred} (h:Fb7 WB W' ds w) (he:Ext W' F w w'):Fb7 WB W' ds w':=⟨fun d hd=>by
 obtain⟨D,h1,h2,h3,h4,h5⟩:=h.1 d hd
 exact⟨D,h1,(he.block D h4 h3).trans h2,h3,Nat.lt_of_lt_of_le h4 he.size,h5⟩,h.2⟩
theorem C2.step {ds : List Deferred} (h : C2 P WB K J ρ0 H0 F0 w0 H ds w ρ F W' up) (hJ : Kb3 K J) (hA : Adv W' ρ (n4 H) F w ρ' H1 F' w') (ho : Nb1 H H1 = true) (hH1 : v8 W' ρ' H1 F' w') :
  C2 P WB K J ρ0 H0 F0 w0 (w6 H H1) ds w' (ρsp H ρ ρ') F' W' up∧Tr ρ H F w (ρsp H ρ ρ') (w6 H H1) F' w' :=
 ⟨⟨h.sub,h.adv.trans (Wd1 hA ho h.sub),Ld5 hA ho hH1,Ld6 hA ho h.srel,fun k hk=>⟨(h.kept k hk).1,Nat.lt_of_lt_of_le (h.kept k hk).2 hA.ext.size⟩,
  Wd0 hA ho h.far,hJ up w w' (fun k hk=>hA.ext.block k (h.kept k hk).2 (h.kept k hk).1) h.jot,h.marks.step hA.ext⟩,fun _ _ hx=>pe2 hA ho hx⟩
structure mb4 (DS:Nat→Prop) (tm:Array Value) (ds:List Deferred) (W:Nat→Prop) (ρ0:Rho) (H0:List b9) (F0:Fz) (w0:World) (s:St) (ac:Act) (w:World):Prop where
 defers:ac.defers=ds
 size:ac.tmps.size=tm.size
 same:∀ t,¬ DS t→ac.tmps[t]?=tm[t]?
 rel:∃ ρ F,Adv W ρ0 H0 F0 w0 ρ s.H F w∧v8 W ρ s.H F w∧ja9 ρ s.H F w s.a ac.tmps
theorem ja0 {ac:Act} (dst:Option Nat) (v:Value):(ac.put dst v).tmps.size=ac.tmps.size:=by cases dst<;>simp[Act.put]
theorem Qb0 {ac:Act} {dst:Option Nat} {v:Value} {t:Nat} (h:dst≠some t):(ac.put dst v).tmps[t]?=ac.tmps[t]?:=by
 cases dst with
 | none=>rfl
 | some d=>exact Array.getElem?_setIfInBounds_ne fun e=>h (by rw[e])
section
variable {W:Nat→Prop} {DS:Nat→Prop} {tm:Array Value} {ds:List Deferred} {Fe:Fence} {n:Nat}
variable (hF:FW Fe) (hG0:GOk E F0 w0) (hcalls:∀ f,g8 E.P E.G f (E.call f))
include hF hG0 hcalls
theorem piM {ops : Array Oper} {o : Oper} {g : Option (Nat × Bool)} {s s' : St} {ac : Act} {i : Nat} {rest : List Nat} {Q : Exit → Act → World → Prop} (hi : ops[i]? = some o) (hg : R5 ops o = some g) (hDS : ∀ d, o.dst = some d → DS d)
  (hI:mb4 DS tm ds W ρ0 H0 F0 w0 s ac w) (he:(Ba2 E s ⟨o.dst,g,[],lb0 E.P ops o⟩).run=some s') (hK:∀ ac' w',mb4 DS tm ds W ρ0 H0 F0 w0 s' ac' w'→wpOpsIn Fe n E.P ops Q rest ac' w'):wpOpsIn Fe n E.P ops Q (i::rest) ac w:=by
 obtain⟨hd,hsz,hsm,ρ,F,hAdv,hH,hA⟩:=hI
 simp only[wpOpsIn,hi]
 have hsame:∀ v t,¬ DS t→(ac.put o.dst v).tmps[t]?=tm[t]?:=fun v t ht=>(Qb0 fun e=>ht (hDS t e)).trans (hsm t ht)
 rcases gc9 hg hA he with⟨hw,he⟩ | ⟨hw,he⟩
 ·rw[if_pos hw]
  unfold jc6 at he
  obtain⟨⟨x,H'⟩,h1,h2⟩:=DT.run_bind_some he
  have h1':(evalOp E s.a s.H (lb0 E.P ops o)).run=some (x,H'):=h1
  have hop:=Xb8 (ac:={ ac with defers:=[] }) hA hH (hG0.adv hAdv) hcalls h1'
  refine hop.inAny hF n _ _ fun x' w' hp=>?_
  obtain⟨ρ',F',a1,a2,a3⟩:=hp
  have h2':some (⟨putA s.a o.dst x,H'⟩:St)=some s':=h2
  injection h2' with h2'
  subst h2'
  exact hK _ _ ⟨(r6 _ _).trans hd,(ja0 _ _).trans hsz,hsame x',ρ',F',hAdv.trans a1,a2,(hA.adv a1).putA o.dst a3⟩
 ·rw[if_neg (by simp[hw])]
  subst he
  exact⟨fun f _=>hF.fn f,hK _ _ ⟨(r6 _ _).trans hd,(ja0 _ _).trans hsz,hsame _,ρ,F,hAdv,hH,hA.putA o.dst (.ofv _)⟩⟩
theorem Ne3 {ops : Array Oper} {Q : Exit → Act → World → Prop} {rest : List Nat} : ∀ (r : List Oper) (k : Nat) (l : List PI) (s s' : St) (ac : Act) (w : World), (∃ t, ops.toList.drop k = r ++ t) → (∀ o ∈ r, ∀ d, o.dst = some d → DS d) → Db5 E.P ops r = some l → mb4 DS tm ds W ρ0 H0 F0 w0 s ac w → (H9 E l s).run = some s' →
  (∀ ac' w',mb4 DS tm ds W ρ0 H0 F0 w0 s' ac' w'→wpOpsIn Fe n E.P ops Q rest ac' w')→wpOpsIn Fe n E.P ops Q (List.range' k r.length++rest) ac w
 | [],k,l,s,s',ac,w,hr,hDS,hl,hI,he,hQ=>by
  simp only[Db5] at hl
  injection hl with hl
  subst hl
  have he':some s=some s':=he
  injection he' with he'
  subst he'
  exact hQ ac w hI
 | o::r,k,l,s,s',ac,w,hr,hDS,hl,hI,he,hQ=>by
  obtain⟨t,hr⟩:=hr
  obtain⟨g,l',h1,h2,rfl⟩:=Pc3 hl
  have he':((Ba2 E s ⟨o.dst,g,[],lb0 E.P ops o⟩).bind (H9 E l')).run=some s':=he
  obtain⟨s1,h3,h4⟩:=DT.run_bind_some he'
  have hi:ops[k]?=some o:=by
   have:(ops.toList.drop k)[0]?=some o:=by rw[hr];rfl
   simpa using this
  rw[show (o::r).length=r.length+1 from rfl,List.range'_succ,List.cons_append]
  refine piM hF hG0 hcalls hi h1 (fun d hd=>hDS o (.head _) d hd) hI h3 fun ac' w' hI'=>?_
  refine Ne3 r (k+1) l' s1 s' ac' w' ⟨t,?_⟩ (fun o ho=>hDS o (.tail _ ho)) h2 hI' h4 hQ
  rw[← List.drop_drop,hr]
  rfl
end
theorem ub8 (ds : List Nat) : ∀ (a l : List b7) (k i : Nat), (ia1 ds a l k)[i]? = match a[i]? with
  | some x=>some (Bool.rec (motive:=fun _=>b7) x ((l[i]?).getD .unk) (La0 (k+i) ds))
  | none=>none
 | [],l,k,i=>by simp[ia1]
 | x::a,l,k,i=>by
  have e:ia1 ds (x::a) l k=Bool.rec (motive:=fun _=>b7) x (hdA l) (La0 k ds)::ia1 ds a (tlA l) (k+1):=rfl
  rw[e]
  cases i with
  | zero=>cases l<;>rfl
  | succ i =>
   simp only[List.getElem?_cons_succ]
   rw[ub8 ds a (tlA l) (k+1) i,show k+1+i=k+(i+1) by omega]
   cases l with
   | nil=>simp[tlA]
   | cons y l=>simp[tlA]
theorem ub9 (ds:List Nat):∀ (a l:List b7) (k:Nat),(ia1 ds a l k).length=a.length
 | [],_,_=>rfl
 | x::a,l,k=>congrArg Nat.succ (ub9 ds a (tlA l) (k+1))
theorem xc4 (k:Nat) (l:List Nat):La0 k l=true↔k∈l:=by
 induction l with
 | nil=>simp[La0]
 | cons x l ih =>
  have e:La0 k (x::l)=Bool.rec (La0 k l) true (Nat.beq x k):=rfl
  rw[e,List.mem_cons]
  cases h:Nat.beq x k with
  | true=>have:=Nat.eq_of_beq_eq_true h;simp[this]
  | false =>
   have:=Nat.ne_of_beq_eq_false h
   show La0 k l=true↔_
   rw[ih]
   exact⟨.inr,fun h=>h.resolve_left fun e=>this e.symm⟩
theorem Qc2 {x:b7} {x':Value} (h:XW ρ H F w x x'):z7 ρ (n4 H) F w (ba8 H x) x':=by
 cases h with
 | w h =>
  unfold ba8
  split
  ·rename_i id i c g
   split
   ·rename_i b hb
    cases B9 b with
    | true=>exact .unk _
    | false=>exact h
   ·exact .unk _
  ·exact h
 | c h =>
  cases h with
  | n h =>
   unfold ba8
   split
   ·split
    ·rename_i b hb
     cases B9 b with
     | true=>exact .unk _
     | false=>exact .val (.cell h)
    ·exact .unk _
   ·exact .val (.cell h)
  | box id c g b hb hd he =>
   unfold ba8
   simp only[y6,hb,Ua8 he]
   exact .unk _
  | map id c g b t hb hd he =>
   unfold ba8
   simp only[y6,hb,Ua9 he]
   exact .unk _
theorem I2.arel {n:Nat} (h:I2 P WB K J n ρ0 H0 F0 w0 s ac w ρ F W' up):ja9 ρ (n4 s.H) F w (r5 (ba8 s.H) (A3 s.a n)) ac.tmps:=by
 have hl:=h.vals.1
 have hn:=h.size
 rw[List.length_append,Array.length_toList] at hl
 rw[o1,I5]
 refine⟨by simp;omega,fun i x x' hx hx'=>?_⟩
 rw[List.getElem?_map] at hx
 have hi:i < n:=hn ▸ (Array.getElem?_eq_some_iff.1 hx').1
 rw[List.getElem?_take,if_pos hi] at hx
 cases hy:s.a[i]? with
 | none=>rw[hy] at hx;cases hx
 | some y =>
  rw[hy] at hx
  injection hx with hx
  subst hx
  refine Qc2 (h.vals.2 i y x' hy ?_)
  rw[List.getElem?_append_left (by rw[Array.length_toList];omega)]
  simpa using hx'
theorem Qc3 {n : Nat} (hJ : Kb3 K J) {dd : List Nat} {s s2 : St} {ac' : Act} (hI : I2 P WB K J n ρ0 H0 F0 w0 s ac w ρ F W' up) (ho : Nb1 s.H s2.H = true)
  (hM:mb4 (·∈dd) ac.tmps ac.defers W' ρ (n4 s.H) F w s2 ac' w'):Ld7 P WB K J n ρ0 H0 F0 w0 ⟨ia1 dd s.a s2.a 0,w6 s.H s2.H⟩ ac' w'∧ac'.defers=ac.defers∧(∀ t,¬ t∈dd→ac'.tmps[t]?=ac.tmps[t]?):=by
 obtain⟨hd,hsz,hsm,ρ',F',hA,hH,hAr⟩:=hM
 obtain⟨c1,c2⟩:=hI.core.step hJ hA ho hH
 refine⟨⟨_,F',W',up,hd ▸ c1,⟨by rw[ub9];have:=hI.vals.1;rw[List.length_append,Array.length_toList] at this ⊢;omega,fun i y y' hy hy'=>?_⟩,hsz.trans hI.size⟩,hd,hsm⟩
 have hn:=hI.size
 simp only at hy
 rw[ub8] at hy
 cases hz:s.a[i]? with
 | none=>rw[hz] at hy;cases hy
 | some z =>
  rw[hz] at hy
  injection hy with hy
  rw[Nat.zero_add] at hy
  rcases Nat.lt_or_ge i n with hi | hi
  ·rw[List.getElem?_append_left (by rw[Array.length_toList];omega)] at hy'
   have hy':ac'.tmps[i]?=some y':=by simpa using hy'
   cases hm:La0 i dd with
   | true =>
    rw[hm] at hy
    have hy:(s2.a[i]?).getD .unk=y:=hy
    cases hq:s2.a[i]? with
    | none=>rw[hq] at hy;subst hy;exact .w (.unk _)
    | some q =>
     rw[hq] at hy
     have hy:q=y:=hy
     subst hy
     exact .w (xd2 hA ho (hAr.2 i q y' hq hy'))
   | false =>
    rw[hm] at hy
    have hy:z=y:=hy
    subst hy
    have hnm:¬ i∈dd:=fun h=>by rw[(xc4 i dd).2 h] at hm;cases hm
    rw[hsm i hnm] at hy'
    refine c2 _ _ (hI.vals.2 i z y' hz ?_)
    rw[List.getElem?_append_left (by rw[Array.length_toList];omega)]
    simpa using hy'
  ·have hlen : s2.a.length = n := by
    have:=hAr.1
    omega
   have hnone:s2.a[i]?=none:=List.getElem?_eq_none (by omega)
   rw[List.getElem?_append_right (by rw[Array.length_toList];omega)] at hy'
   have hy0:(ac.tmps.toList++up)[i]?=some y':=by
    rw[List.getElem?_append_right (by rw[Array.length_toList];omega)]
    rw[Array.length_toList] at hy' ⊢
    rw[hsz] at hy'
    exact hy'
   rw[hnone] at hy
   cases hm:La0 i dd with
   | true=>rw[hm] at hy;have hy:b7.unk=y:=hy;subst hy;exact .w (.unk _)
   | false=>rw[hm] at hy;have hy:z=y:=hy;subst hy;exact c2 _ _ (hI.vals.2 i z y' hz hy0)
theorem pe3 {Fe : Fence} {n m k kk : Nat} (hF : FW Fe) (hG0 : GOk E F0 w0) (hcalls : ∀ f, g8 E.P E.G f (E.call f)) (hJ : Kb3 K J) {ops : Array Oper} {Q : Exit → Act → World → Prop} {rest : List Nat} {r : List Oper} {l : List PI} {dd : List Nat} {x : e7} {s s' : St}
  (hr:∃ t,ops.toList.drop k=r++t) (hDS:∀ o∈r,∀ d,o.dst=some d→d∈dd) (hl:Db5 E.P ops r=some l) (hI:Ld7 E.P WB K J n ρ0 H0 F0 w0 s ac w) (he:(J9 E kk (.mask n dd (.ops l)) s).run=some (x,s'))
  (hQ:∀ ac' w',Ld7 E.P WB K J n ρ0 H0 F0 w0 s' ac' w'→ac'.defers=ac.defers→(∀ t,¬ t∈dd→ac'.tmps[t]?=ac.tmps[t]?)→wpOpsIn Fe m E.P ops Q rest ac' w'):x=.normal∧wpOpsIn Fe m E.P ops Q (List.range' k r.length++rest) ac w:=by
 obtain⟨ρ,F,W',up,hI⟩:=hI
 have he':((J9 E kk (.ops l) ⟨r5 (ba8 s.H) (A3 s.a n),n4 s.H⟩).bind fun r=>.guard (Nb1 s.H r.2.H) (.ret (r.1,⟨ia1 dd s.a r.2.a 0,w6 s.H r.2.H⟩))).run=some (x,s'):=he
 obtain⟨⟨x1,s1⟩,h1,h2⟩:=DT.run_bind_some he'
 obtain⟨ho,h2⟩:=DT.run_guard_some h2
 have h2:some (x1,(⟨ia1 dd s.a s1.a 0,w6 s.H s1.H⟩:St))=some (x,s'):=h2
 injection h2 with h2;injection h2 with e1 e2;subst e1 e2
 have h1':((H9 E l ⟨r5 (ba8 s.H) (A3 s.a n),n4 s.H⟩).bind fun s=>.ret (e7.normal,s)).run=some (x1,s1):=h1
 obtain⟨s2,h3,h4⟩:=DT.run_bind_some h1'
 have h4:some (e7.normal,s2)=some (x1,s1):=h4
 injection h4 with h4;injection h4 with e1 e2;subst e1 e2
 refine⟨rfl,?_⟩
 have hG:GOk E F w:=hG0.adv hI.core.adv
 refine Ne3 (DS:=(·∈dd)) (tm:=ac.tmps) (ds:=ac.defers) (W:=W') (ρ0:=ρ) (H0:=n4 s.H) (F0:=F) (w0:=w) hF hG hcalls r k l _ s2 ac w hr hDS hl ⟨rfl,rfl,fun _ _=>rfl,ρ,F,.refl,hI.core.hrel,hI.arel⟩ h3 fun ac' w' hM=>?_
 obtain⟨k1,k2,k3⟩:=Qc3 hJ hI ho hM
 exact hQ ac' w' k1 k2 k3
end
end Go.Ev
namespace Go.Ev
open Go
section
variable {P:Program} {WB K:Nat→Prop} {J:List Value→World→Prop} {ρ ρ0 ρ':Rho} {H H0 H':List b9} {F F0 F':Fz} {w w0 w':World} {W':Nat→Prop} {up up':List Value} {ds:List Deferred}
theorem mb5 {a:Addr} (h:w'.heap[a.block]?=w.heap[a.block]?):w'.cell? a=w.cell? a:=by simp[World.cell?,h]
theorem Yb2 {id:Nat} {b:b9} (hE:∀ (id:Nat) b,H[id]?=some b→∃ b',H'[id]?=some b'∧b'.et=b.et∧b'.dead=b.dead∧b'.g=b.g∧b'.es=b.es∧b.elems.length≤b'.elems.length∧(B9 b=false→b'=b)) (hl:H'.length=H.length) (hb:(n4 H')[id]?=some b) (hd:b.dead=false):(n4 H)[id]?=some b:=by
 obtain⟨h1,h2⟩:=ga9 hb hd
 have hlt:id < H.length:=hl ▸ (List.getElem?_eq_some_iff.1 h1).1
 obtain⟨b',k1,k2,_,_,k5,_,k6⟩:=hE id _ (List.getElem?_eq_getElem hlt)
 obtain rfl:b'=b:=Option.some.inj (k1.symm.trans h1)
 have hs:B9 H[id]=false:=by
  unfold B9 at h2 ⊢
  rw[← k5];exact h2
 have:=k6 hs
 subst this
 exact ea2 (List.getElem?_eq_getElem hlt) hs
theorem C2.alloc (h : C2 P WB K J ρ0 H0 F0 w0 H ds w ρ F W' up) (hJ : Kb3 K J) (o : Obj) :
  C2 P WB K J ρ0 H0 F0 w0 H ds (w.alloc o) ρ F (fun k=>W' k∧k≠w.heap.size) up∧Tr ρ H F w ρ H F (w.alloc o)∧WB w.heap.size∧(∀ b,F w.heap.size b→False):=by
 have hold:∀ k,k < w.heap.size→(w.alloc o).heap[k]?=w.heap[k]?:=fun k hk=>by
  simp only[World.alloc,Array.getElem?_push];rw[if_neg (Nat.ne_of_lt hk)]
 have hsz:(w.alloc o).heap.size=w.heap.size+1:=by simp
 have hF:∀ b o',F b o'→b < w.heap.size:=fun b o' hf=>kb9 (h.hrel.frz b o' hf)
 have hcells:∀ b o',F b o'→(w.alloc o).cell? ⟨b,o',none⟩=w.cell? ⟨b,o',none⟩:=fun b o' hf=>mb5 (a:=⟨b,o',none⟩) (hold b (hF b o' hf))
 have hxc:∀ x x',XC ρ H F w x x'→XC ρ H F (w.alloc o) x x':=fun x x' hx=>by
  cases hx with
  | n hx=>exact .n (hx.carry (fun id b hb hd=>⟨b,hb,hd,Nat.le_refl _,fun _=>⟨rfl,rfl,Nat.le_refl _⟩⟩) (fun _ _ h=>h) hcells)
  | box id c g b hb hd he=>exact .box id c g b hb hd he
  | map id c g b t hb hd he=>exact .map id c g b t hb hd he
 refine⟨⟨fun k hk=>h.sub k hk.1,h.adv.trans ⟨⟨rfl,rfl,rfl,by omega,fun k hk _=>hold k hk,hcells,Nat.le_refl _⟩,.refl,fun _ _ h=>h,fun _ _ h=>.inl h,fun id b hb hn=>absurd rfl (hn b hb)⟩,?_,?_,fun k hk=>?_,h.far,?_,?_⟩,fun x x' hx=>?_,h.sub _ (h.hrel.new _ (Nat.le_refl _)),fun b hf=>Nat.lt_irrefl _ (hF _ _ hf)⟩
 ·refine⟨fun id b hb hd=>?_,h.hrel.apart,fun b o' hf=>by rw[hcells b o' hf];exact h.hrel.frz b o' hf,fun k hk=>⟨h.hrel.new k (by omega),by omega⟩⟩
  obtain⟨cc,t,fr,hB⟩:=h.hrel.blk id b hb hd
  have hk:=hB.keep (w':=w.alloc o) (hold _ hB.lt) hcells
  exact⟨cc,t,fr,hk.obj,hk.room,hk.len,hk.rows,hk.cell,fun ho=>by
   obtain⟨g1,g2,g3⟩:=hk.own ho
   exact⟨g1,⟨g2,Nat.ne_of_lt hB.lt⟩,g3⟩,hk.kept⟩
 ·refine⟨fun id b hb hs hd=>?_,h.srel.apart⟩
  obtain⟨k1,k2,k3,k4,k5⟩:=h.srel.has id b hb hs hd
  refine⟨k1,fun hk=>k2 hk.1,k3,by omega,?_⟩
  rcases k5 with⟨e,row,vs,t,m1,m2,m3,m4⟩ | ⟨t,K,El,fl,es,clk,m1,m2,m3,m4,m5⟩
  ·exact .inl ⟨e,row,vs,t,m1,(hold _ k4).trans m2,m3,fun c x x' hx hx'=>⟨(m4 c x x' hx hx').1,hxc _ _ (m4 c x x' hx hx').2⟩⟩
  ·exact .inr ⟨t,K,El,fl,es,clk,m1,m2,m3,(hold _ k4).trans m4,m5⟩
 ·exact⟨fun hw=>(h.kept k hk).1 hw.1,by have:=(h.kept k hk).2;omega⟩
 ·exact hJ up w _ (fun k hk=>hold k (h.kept k hk).2) h.jot
 ·refine⟨fun d hd=>?_,h.marks.2⟩
  obtain⟨D,h1,h2,h3,h4,h5⟩:=h.marks.1 d hd
  exact⟨D,h1,(hold D h4).trans h2,fun hw=>h3 hw.1,by omega,h5⟩
 ·cases hx with
  | w hx=>exact .w (hx.carry (fun id b hb hd=>⟨b,hb,hd,Nat.le_refl _,fun _=>⟨rfl,rfl,Nat.le_refl _⟩⟩) (fun _ _ h=>h) hcells)
  | c hx=>exact .c (hxc _ _ hx)
theorem C2.adopt (h : C2 P WB K J ρ0 H0 F0 w0 H ds w ρ F W' up) (k sz : Nat) (hk : WB k) (hkW : ¬ W' k) (hkF : ∀ o, ¬ F k o) (hks : k < w.heap.size) (hap : ∀ (id : Nat) b, H[id]? = some b → B9 b = true → b.dead = false → (ρ id).blk ≠ k)
  (hkK:¬ K k) (b:b9) (hb:B9 b=true) (hbd:b.dead=false) (hc:Fe4 (ρnew ρ H ⟨k,0,sz⟩) (H++[b]) F w b k∨Fe5 P w b k) :
  C2 P WB K J ρ0 H0 F0 w0 (H++[b]) ds w (ρnew ρ H ⟨k,0,sz⟩) F W' up∧Tr ρ H F w (ρnew ρ H ⟨k,0,sz⟩) (H++[b]) F w:=by
 have hρ:∀ id,id < H.length→ρnew ρ H ⟨k,0,sz⟩ id=ρ id:=fun id hid=>by simp[ρnew,Nat.ne_of_lt hid]
 have hρn:ρnew ρ H ⟨k,0,sz⟩ H.length=⟨k,0,sz⟩:=by simp[ρnew]
 have hlook:∀ (id:Nat) c,(H++[b])[id]?=some c→(id < H.length∧H[id]?=some c)∨(id=H.length∧c=b):=fun id c hc=>by
  rcases Nat.lt_or_ge id H.length with hh | hh
  ·rw[List.getElem?_append_left hh] at hc;exact .inl ⟨hh,hc⟩
  ·rw[List.getElem?_append_right hh] at hc
   have h0:id - H.length=0:=by
    rcases Nat.eq_zero_or_pos (id - H.length) with h0 | h0
    ·exact h0
    ·rw[List.getElem?_eq_none (by simp;omega)] at hc;cases hc
   rw[h0] at hc
   exact .inr ⟨by omega,by simpa using hc.symm⟩
 have hleft:∀ {id:Nat} {c:b9},H[id]?=some c→(H++[b])[id]?=some c∧id < H.length:=fun {id c} hc=>by
  have hlt:=(List.getElem?_eq_some_iff.1 hc).1
  exact⟨by rw[List.getElem?_append_left hlt];exact hc,hlt⟩
 have hlive:∀ (id:Nat) c,(n4 (H++[b]))[id]?=some c→c.dead=false→(n4 H)[id]?=some c∧id < H.length:=fun id c hc hd=>by
  obtain⟨h1,h2⟩:=ga9 hc hd
  rcases hlook id c h1 with⟨hh,h3⟩ | ⟨_,rfl⟩
  ·exact⟨ea2 h3 h2,hh⟩
  ·rw[hb] at h2;cases h2
 have hcar:wc0 ρ (n4 H) (ρnew ρ H ⟨k,0,sz⟩) (n4 (H++[b])):=fun id c hc hd=>by
  obtain⟨h1,h2⟩:=ga9 hc hd
  exact⟨c,ea2 (hleft h1).1 h2,hd,Nat.le_refl _,fun _=>⟨hρ id (hleft h1).2,rfl,Nat.le_refl _⟩⟩
 have hxc:∀ x x',XC ρ H F w x x'→XC (ρnew ρ H ⟨k,0,sz⟩) (H++[b]) F w x x':=fun x x' hx=>by
  cases hx with
  | n hx=>exact .n (hx.carry hcar (fun _ _ h=>h) (fun _ _ _=>rfl))
  | box id c g b' hb' hd he=>rw[← hρ id (hleft hb').2];exact .box id c g b' (hleft hb').1 hd he
  | map id c g b' t hb' hd he=>rw[← hρ id (hleft hb').2];exact .map id c g b' t (hleft hb').1 hd he
 refine⟨⟨h.sub,h.adv.trans ⟨.refl,fun id c hc=>⟨c,(hleft hc).1,rfl,Nat.le_refl _,fun _=>⟨hρ id (hleft hc).2,rfl,Nat.le_refl _⟩⟩,fun _ _ h=>h,fun _ _ h=>.inl h,fun id c hc hn=>?_⟩,?_,?_,h.kept,fun id c hc hs hd=>?_,h.jot,h.marks⟩,fun x x' hx=>?_⟩
 ·rcases hlook id c hc with⟨_,h1⟩ | ⟨rfl,rfl⟩
  ·exact absurd rfl (hn c h1)
  ·rw[hρn];exact hk
 ·exact h.hrel.pull (fun i=>i) (fun i c hc hd=>⟨(hlive i c hc hd).1,hρ i (hlive i c hc hd).2⟩) (fun _ _ _ _ _ _ _ _ e=>e)
 ·refine⟨fun id c hc' hs hd=>?_,fun id id' c c' hc1 hc1' hs hs' hd hd' hne=>?_⟩
  ·rcases hlook id c hc' with⟨hlt,h1⟩ | ⟨rfl,rfl⟩
   ·obtain⟨k1,k2,k3,k4,k5⟩:=h.srel.has id c h1 hs hd
    rw[hρ id hlt]
    refine⟨k1,k2,k3,k4,?_⟩
    rcases k5 with⟨e,row,vs,t,m1,m2,m3,m4⟩ | k5
    ·exact .inl ⟨e,row,vs,t,m1,m2,m3,fun c x x' hx hx'=>⟨(m4 c x x' hx hx').1,hxc _ _ (m4 c x x' hx hx').2⟩⟩
    ·exact .inr k5
   ·rw[hρn]
    exact⟨hk,hkW,hkF,hks,hc⟩
  ·rcases hlook id c hc1 with⟨hlt,h1⟩ | ⟨rfl,rfl⟩<;>rcases hlook id' c' hc1' with⟨hlt',h1'⟩ | ⟨rfl,rfl⟩
   ·rw[hρ id hlt,hρ id' hlt'];exact h.srel.apart id id' c c' h1 h1' hs hs' hd hd' hne
   ·rw[hρ id hlt,hρn];exact hap id c h1 hs hd
   ·rw[hρ id' hlt',hρn];exact (hap id' c' h1' hs' hd').symm
   ·exact absurd rfl hne
 ·rcases hlook id c hc with⟨hlt,h1⟩ | ⟨rfl,rfl⟩
  ·rw[hρ id hlt];exact h.far id c h1 hs hd
  ·rw[hρn];exact hkK
 ·cases hx with
  | w hx=>exact .w (hx.carry hcar (fun _ _ h=>h) (fun _ _ _=>rfl))
  | c hx=>exact .c (hxc _ _ hx)
theorem C2.change (h : C2 P WB K J ρ0 H0 F0 w0 H ds w ρ F W' up) (k : Nat) (hk : WB k) (hkW : ¬ W' k) (hkF : ∀ o, ¬ F k o)
  (hos:w'.os=w.os) (htape:w'.tape=w.tape) (hout:w'.output=w.output) (hdrawn:w.drawn≤w'.drawn) (hsize:w'.heap.size=w.heap.size) (hold:∀ j,j≠k→w'.heap[j]?=w.heap[j]?)
  (hcc:∀ cc t fr,w.heap[k]?=some (.cells cc t fr)→∃ cc',w'.heap[k]?=some (.cells cc' t fr)∧cc'.size=cc.size)
  (hl:H'.length=H.length) (hE:∀ (id:Nat) b,H[id]?=some b→∃ b',H'[id]?=some b'∧b'.et=b.et∧b'.dead=b.dead∧b'.g=b.g∧b'.es=b.es∧b.elems.length≤b'.elems.length∧(B9 b=false→b'=b))
  (hsame:∀ (id:Nat) b,H[id]?=some b→B9 b=true→b.dead=false→(ρ id).blk≠k→H'[id]?=some b)
  (hnew:(∀ x x',XC ρ H F w x x'→XC ρ H' F w' x x')→∀ (id:Nat) b,H'[id]?=some b→B9 b=true→b.dead=false→(ρ id).blk=k→Fe4 ρ H' F w' b k∨Fe5 P w' b k)
  (hJ:J up' w') (hM:∀ D,({ target:=.collected D,args:=#[] }:Deferred)∈ds→w.heap[D]?=some (.deferred (some []))→D=k→w'.heap[D]?=some (.deferred (some []))) :
  C2 P WB K J ρ0 H0 F0 w0 H' ds w' ρ F W' up'∧Tr ρ H F w ρ H' F w':=by
 have hne:∀ b o,F b o→b≠k:=fun b o hf e=>hkF o (e ▸ hf)
 have hcells:∀ b o,F b o→w'.cell? ⟨b,o,none⟩=w.cell? ⟨b,o,none⟩:=fun b o hf=>mb5 (a:=⟨b,o,none⟩) (hold b (hne b o hf))
 have hback:∀ (id:Nat) b',H'[id]?=some b'→∃ b,H[id]?=some b∧b'.et=b.et∧b'.dead=b.dead∧B9 b=B9 b':=fun id b' hb'=>by
  have hlt:id < H.length:=hl ▸ (List.getElem?_eq_some_iff.1 hb').1
  obtain⟨b2,k1,k2,k3,k4,k5,_⟩:=hE id _ (List.getElem?_eq_getElem hlt)
  obtain rfl:b2=b':=Option.some.inj (k1.symm.trans hb')
  exact⟨_,List.getElem?_eq_getElem hlt,k2,k3,by unfold B9;rw[k5]⟩
 have hcar:wc0 ρ (n4 H) ρ (n4 H'):=fun id b hb hd=>by
  obtain⟨h1,h2⟩:=ga9 hb hd
  obtain⟨b',k1,_,_,_,_,_,k6⟩:=hE id b h1
  have:=k6 h2
  subst this
  exact⟨b',ea2 k1 h2,hd,Nat.le_refl _,fun _=>⟨rfl,rfl,Nat.le_refl _⟩⟩
 have hxc:∀ x x',XC ρ H F w x x'→XC ρ H' F w' x x':=fun x x' hx=>by
  cases hx with
  | n hx=>exact .n (hx.carry hcar (fun _ _ h=>h) hcells)
  | box id c g b hb hd he =>
   obtain⟨b',k1,k2,k3,k4,k5,_⟩:=hE id b hb
   exact .box id c g b' k1 (k3.trans hd) ⟨k5.trans he.1,k2.trans he.2⟩
  | map id c g b t hb hd he =>
   obtain⟨b',k1,k2,k3,k4,k5,_⟩:=hE id b hb
   exact .map id c g b' t k1 (k3.trans hd) ⟨k5.trans he.1,k2.trans he.2⟩
 refine⟨⟨h.sub,h.adv.trans ⟨⟨hos,htape,hout,by omega,fun j _ hj=>hold j fun e=>hj (e ▸ hk),hcells,hdrawn⟩,fun id b hb=>?_,fun _ _ h=>h,fun _ _ h=>.inl h,fun id b' hb' hn=>?_⟩,?_,?_,fun j hj=>⟨(h.kept j hj).1,by rw[hsize];exact (h.kept j hj).2⟩,fun id b hb hs hd=>?_,hJ,⟨fun d hd=>?_,h.marks.2⟩⟩,fun x x' hx=>?_⟩
 ·obtain⟨b',k1,k2,k3,k4,k5,k6,_⟩:=hE id b hb
  exact⟨b',k1,k3,Nat.le_of_eq k4.symm,fun _=>⟨rfl,k5,k6⟩⟩
 ·have hlt:id < H.length:=hl ▸ (List.getElem?_eq_some_iff.1 hb').1
  obtain⟨b2,k1,_,_,k4,_⟩:=hE id _ (List.getElem?_eq_getElem hlt)
  obtain rfl:b2=b':=Option.some.inj (k1.symm.trans hb')
  exact absurd k4 (hn _ (List.getElem?_eq_getElem hlt))
 ·refine⟨fun id b hb hd=>?_,fun id id' b b' hb hb' hd hd' ho hne'=>h.hrel.apart id id' b b' (Yb2 hE hl hb hd) (Yb2 hE hl hb' hd') hd hd' ho hne',fun b o hf=>by rw[hcells b o hf];exact h.hrel.frz b o hf,fun j hj=>h.hrel.new j (by rw[← hsize];exact hj)⟩
  obtain⟨cc,t,fr,hB⟩:=h.hrel.blk id b (Yb2 hE hl hb hd) hd
  by_cases e:(ρ id).blk=k
  ·obtain⟨cc',h1,h2⟩:=hcc cc t fr (e ▸ hB.obj)
   have hno:b.own=false:=by
    cases ho:b.own with
    | false=>rfl
    | true=>exact absurd (e ▸ (hB.own ho).2.1) hkW
   have hz:b.elems.length*b.es=0:=by
    rcases Nat.eq_zero_or_pos (b.elems.length*b.es) with h0 | h0
    ·exact h0
    ·exact absurd (e ▸ hB.kept hno 0 h0) (hkF _)
   refine⟨cc',t,fr,e ▸ h1,by rw[h2];exact hB.room,hB.len,hB.rows,fun i r c x hr hx=>?_,(fun ho=>by rw[hno] at ho;cases ho),hB.kept⟩
   have hi:=(List.getElem?_eq_some_iff.1 hr).1
   have hc:=(List.getElem?_eq_some_iff.1 hx).1
   rw[hB.rows i r hr] at hc
   have:=Nat.mul_pos (show 0 < b.elems.length by omega) (show 0 < b.es by omega)
   omega
  ·exact⟨cc,t,fr,hB.keep (hold _ e) hcells⟩
 ·refine⟨fun id b hb hs hd=>?_,fun id id' b b' hb hb' hs hs' hd hd' hne'=>?_⟩
  ·obtain⟨b0,h1,h2,h3,h4⟩:=hback id b hb
   obtain⟨k1,k2,k3,k4,k5⟩:=h.srel.has id b0 h1 (by rw[h4];exact hs) (by rw[← h3];exact hd)
   refine⟨k1,k2,k3,by rw[hsize];exact k4,?_⟩
   by_cases e:(ρ id).blk=k
   ·rw[e];exact hnew hxc id b hb hs hd e
   ·have hb0:b0=b:=Option.some.inj ((hsame id b0 h1 (by rw[h4];exact hs) (by rw[← h3];exact hd) e).symm.trans hb)
    subst hb0
    rcases k5 with⟨e',row,vs,t,m1,m2,m3,m4⟩ | ⟨t,K,El,fl,es,clk,m1,m2,m3,m4,m5⟩
    ·exact .inl ⟨e',row,vs,t,m1,(hold _ e).trans m2,m3,fun c x x' hx hx'=>⟨(m4 c x x' hx hx').1,hxc _ _ (m4 c x x' hx hx').2⟩⟩
    ·exact .inr ⟨t,K,El,fl,es,clk,m1,m2,m3,(hold _ e).trans m4,m5⟩
  ·obtain⟨b0,h1,h2,h3,h4⟩:=hback id b hb
   obtain⟨b0',h1',h2',h3',h4'⟩:=hback id' b' hb'
   exact h.srel.apart id id' b0 b0' h1 h1' (by rw[h4];exact hs) (by rw[h4'];exact hs') (by rw[← h3];exact hd) (by rw[← h3'];exact hd') hne'
 ·obtain⟨b0,h1,h2,h3,h4⟩:=hback id b hb
  exact h.far id b0 h1 (by rw[h4];exact hs) (by rw[← h3];exact hd)
 ·obtain⟨D,h1,h2,h3,h4,h5⟩:=h.marks.1 d hd
  refine⟨D,h1,?_,h3,by rw[hsize];exact h4,h5⟩
  by_cases e:D=k
  ·exact hM D (h1 ▸ hd) h2 e
  ·exact (hold D e).trans h2
 ·cases hx with
  | w hx=>exact .w (hx.carry hcar (fun _ _ h=>h) hcells)
  | c hx=>exact .c (hxc _ _ hx)
end
end Go.Ev
namespace Go.Ev
open Go
section
variable {WB K:Nat→Prop} {J:List Value→World→Prop} {ρ ρ0:Rho} {H H0 H':List b9} {F F0:Fz} {w w0 w':World} {W':Nat→Prop} {up:List Value} {E:Env} {a:List b7} {ac:Act} {x:b7} {o:Oper}
def hb6 (P:Program) (WB K:Nat→Prop) (J:List Value→World→Prop) (ρ0:Rho) (H0:List b9) (F0:Fz) (w0:World) (ρ:Rho) (H:List b9) (F:Fz) (w:World) (up:List Value) (ds:List Deferred) (x:b7) (H':List b9) (x':Value) (w':World):Prop :=
 ∃ ρ' F' W'',C2 P WB K J ρ0 H0 F0 w0 H' ds w' ρ' F' W'' up∧Tr ρ H F w ρ' H' F' w'∧XW ρ' H' F' w' x x'
def ltO (n:Nat):Operand→Bool
 | .tmp t=>Nat.blt t n
 | _=>true
theorem bb6 {n:Nat} (hv:VR ρ H F w a (ac.tmps.toList++up)) (hn:ac.tmps.size=n) (hG:GOk E F w) (y:Operand) (hy:ltO n y=true):XW ρ H F w (c8 E a (g9 y)) (ac.eval y):=by
 cases y with
 | tmp t =>
  show XW ρ H F w (c8 E a (.t t)) (ac.tmps.getD t undef)
  have hlt:t < n:=by have:=hy;unfold ltO at this;rwa [Nat.blt_eq] at this
  rw[Ia9]
  have hl:=hv.1
  rw[List.length_append] at hl
  have hsz:ac.tmps.toList.length=ac.tmps.size:=Array.length_toList
  have hlt':t < ac.tmps.size:=hn ▸ hlt
  have ha:t < a.length:=by rw[hl,hsz];exact Nat.lt_of_lt_of_le hlt' (Nat.le_add_right _ _)
  have h1:a[t]?=some a[t]:=List.getElem?_eq_getElem ha
  have h2:(ac.tmps.toList++up)[t]?=some ac.tmps[t]:=by
   rw[List.getElem?_append_left (by rw[hsz];exact hlt')]
   simp[hlt']
  have:=hv.2 t _ _ h1 h2
  simpa [h1,Array.getD,hlt'] using this
 | const v=>exact .w (z7.ofVal v)
 | func f=>exact .w (.val (.cell (.mem (.fn f))))
 | global g =>
  have:ja9 (fun _=>⟨0,0,0⟩) [] F w [] #[]:=⟨rfl,fun i x x' hx=>by simp at hx⟩
  have h:=j6 (ρ:=ρ) (H:=n4 H) (a:=[]) (ac:=⟨#[],[]⟩) ⟨rfl,fun i x x' hx=>by simp at hx⟩ hG (.global g)
  exact .w h
theorem Bb8 {t:Nat} {b:b9} (h:kd0 b) (h':kd1 t b):False:=by
 have h1:b.et=0:=h.2
 have h2:b.et=t+1:=h'.2
 rw[h1] at h2
 cases h2
theorem Yb3 {id c g:Nat} {b:b9} {v:Value} (hs:Nb2 0 H x=some (id,c,g,b)) (hx:XW ρ H F w x v):x=.ptr id 0 c g∧H[id]?=some b∧b.dead=false∧kd0 b∧v=.pointer (some ⟨(ρ id).blk,c,none⟩):=by
 revert hs hx
 cases x with
 | ptr id' i' c' g' =>
  intro hs hx
  simp only[Nb2,y6] at hs
  cases hb:H[id']? with
  | none=>simp[hb] at hs
  | some b' =>
  simp only[hb] at hs
  cases hd:b'.dead with
  | true=>simp[hd] at hs
  | false =>
  simp only[hd] at hs
  cases he:(B9 b'&&Nat.beq b'.et 0) with
  | false=>simp[he] at hs
  | true =>
  simp only[he] at hs
  cases hg:Nat.beq b'.g g' with
  | false=>simp[hg] at hs
  | true =>
  simp only[hg] at hs
  cases hi:Nat.beq i' 0 with
  | false=>simp[hi] at hs
  | true =>
  simp only[hi] at hs
  injection hs with hs
  injection hs with e1 hs;injection hs with e2 hs;injection hs with e3 e4
  subst e1 e2 e3 e4
  rw[Bool.and_eq_true] at he
  have he:=And.intro (Nat.eq_of_beq_eq_true he.1) (Nat.eq_of_beq_eq_true he.2)
  have hi:=Nat.eq_of_beq_eq_true hi
  subst hi
  refine⟨rfl,hb,hd,he,?_⟩
  have hdead:∀ q,(n4 H)[id']?=some q→q.dead=true:=fun q hq=>by
   rw[xc0 hb (Ua8 he)] at hq
   injection hq with hq
   rw[← hq]
  have hno:∀ {v},X8 ρ (n4 H) F w (.ptr id' 0 c' g') v→False:=fun {v} h=>by
   cases h with
   | mem h=>cases h
   | ptr _ _ _ _ ad q hq hd'=>rw[hdead q hq] at hd';cases hd'
  cases hx with
  | w h=>cases h with
   | val h=>cases h with
    | cell h=>exact (hno h).elim
  | c h =>
   cases h with
   | n h=>exact (hno h).elim
   | box=>rfl
   | map _ _ _ b2 t hb2 _ he2 =>
    have:b2=b':=Option.some.inj (hb2.symm.trans hb)
    subst this
    exact (Bb8 he he2).elim
 | _=>intro hs;cases hs
theorem Qc4 {t id c g:Nat} {b:b9} {v:Value} (hs:Nb2 (t+1) H x=some (id,c,g,b)) (hx:XW ρ H F w x v):x=.ptr id 0 c g∧H[id]?=some b∧b.dead=false∧kd1 t b∧v=.map (some (ρ id).blk):=by
 revert hs hx
 cases x with
 | ptr id' i' c' g' =>
  intro hs hx
  simp only[Nb2,y6] at hs
  cases hb:H[id']? with
  | none=>simp[hb] at hs
  | some b' =>
  simp only[hb] at hs
  cases hd:b'.dead with
  | true=>simp[hd] at hs
  | false =>
  simp only[hd] at hs
  cases he:(B9 b'&&Nat.beq b'.et (t+1)) with
  | false=>simp[he] at hs
  | true =>
  simp only[he] at hs
  cases hg:Nat.beq b'.g g' with
  | false=>simp[hg] at hs
  | true =>
  simp only[hg] at hs
  cases hi:Nat.beq i' 0 with
  | false=>simp[hi] at hs
  | true =>
  simp only[hi] at hs
  injection hs with hs
  injection hs with e1 hs;injection hs with e2 hs;injection hs with e3 e4
  subst e1 e2 e3 e4
  rw[Bool.and_eq_true] at he
  have he:=And.intro (Nat.eq_of_beq_eq_true he.1) (Nat.eq_of_beq_eq_true he.2)
  have hi:=Nat.eq_of_beq_eq_true hi
  subst hi
  refine⟨rfl,hb,hd,he,?_⟩
  have hdead:∀ q,(n4 H)[id']?=some q→q.dead=true:=fun q hq=>by
   rw[xc0 hb (Ua9 he)] at hq
   injection hq with hq
   rw[← hq]
  have hno:∀ {v},X8 ρ (n4 H) F w (.ptr id' 0 c' g') v→False:=fun {v} h=>by
   cases h with
   | mem h=>cases h
   | ptr _ _ _ _ ad q hq hd'=>rw[hdead q hq] at hd';cases hd'
  cases hx with
  | w h=>cases h with
   | val h=>cases h with
    | cell h=>exact (hno h).elim
  | c h =>
   cases h with
   | n h=>exact (hno h).elim
   | map=>rfl
   | box _ _ _ b2 hb2 _ he2 =>
    have:b2=b':=Option.some.inj (hb2.symm.trans hb)
    subst this
    exact (Bb8 he2 he).elim
 | _=>intro hs;cases hs
theorem kd2 (H:List b9) (et:Nat) (elems:List (List b7)):Nb3 H et elems=H++[{ et,es:=0,elems,own:=true,dead:=false,g:=0 }]:=by simp[Nb3,E6]
theorem kd3 {y : b7} {y' : Value} (hy : XW ρ H F w y y') (hp : Ga1 y = true) (hb : Mb8 Id8 (B7 y) = true) :
  (B7 y).length=y'.cells.toList.length∧∀ (i:Nat) z z',(B7 y)[i]?=some z→y'.cells.toList[i]?=some z'→z'.oneCell'=true∧XC ρ H F w z z':=by
 have hone:∀ {i:Nat} {z:b7} {z':Value},(B7 y)[i]?=some z→XC ρ H F w z z'→z'.oneCell'=true∧XC ρ H F w z z':=fun {i z z'} hz hx=>⟨hx.one (Wc7 hb z (List.mem_of_getElem? hz)),hx⟩
 cases hy with
 | w h =>
  obtain⟨h1,h2⟩:=Ab5 h hp
  exact⟨h1,fun i z z' hz hz'=>hone hz (.n (h2 i z z' hz hz'))⟩
 | c h =>
  have h0:=h
  cases h with
  | n h =>
   obtain⟨h1,h2⟩:=Ab5 (.val (.cell h)) hp
   exact⟨h1,fun i z z' hz hz'=>hone hz (.n (h2 i z z' hz hz'))⟩
  | box id c g b h1 h2 h3 =>
   refine⟨rfl,fun i z z' hz hz'=>?_⟩
   cases i with
   | zero=>simp[B7,Value.cells] at hz hz';subst hz hz';exact⟨rfl,h0⟩
   | succ i=>simp[B7] at hz
  | map id c g b t h1 h2 h3 =>
   refine⟨rfl,fun i z z' hz hz'=>?_⟩
   cases i with
   | zero=>simp[B7,Value.cells] at hz hz';subst hz hz';exact⟨rfl,h0⟩
   | succ i=>simp[B7] at hz
section
variable {ds:List Deferred} (hC:C2 E.P WB K J ρ0 H0 F0 w0 H ds w ρ F W' up) (hJ:Kb3 K J)
include hC hJ
theorem Wd2 (row : List b7) (vs : Array Value) (t : TypeId) (hl : row.length = vs.size) (hc : ∀ (c : Nat) x x', row[c]? = some x → vs[c]? = some x' → x'.oneCell' = true ∧ XC ρ H F w x x') :
  hb6 E.P WB K J ρ0 H0 F0 w0 ρ H F w up ds (.ptr H.length 0 0 0) (Nb3 H 0 [row]) (.pointer (some ⟨w.heap.size,0,none⟩)) (w.alloc (.cells vs t)):=by
 obtain⟨c1,c2,c3,c4⟩:=hC.alloc hJ (.cells vs t)
 have hap:∀ (id:Nat) b,H[id]?=some b→B9 b=true→b.dead=false→(ρ id).blk≠w.heap.size:=fun id b hb hs hd=>Nat.ne_of_lt (hC.srel.has id b hb hs hd).2.2.2.1
 rw[kd2]
 have hnew:(w.alloc (.cells vs t)).heap[w.heap.size]?=some (.cells vs t (0,0)):=by simp only[World.alloc,Array.getElem?_push];simp
 have hfirst:∀ {x x'},XC ρ H F (w.alloc (.cells vs t)) x x'→XC (ρnew ρ H ⟨w.heap.size,0,0⟩) (H++[{ et:=0,es:=0,elems:=[row],own:=true,dead:=false,g:=0 }]) F (w.alloc (.cells vs t)) x x':=fun {x x'} hx=>by
  have hlt:∀ {id:Nat} {b:b9},H[id]?=some b→id < H.length:=fun h=>(List.getElem?_eq_some_iff.1 h).1
  have hρ:∀ id,id < H.length→ρnew ρ H ⟨w.heap.size,0,0⟩ id=ρ id:=fun id hid=>by simp[ρnew,Nat.ne_of_lt hid]
  cases hx with
  | n hx =>
   refine .n (hx.carry (fun id b hb hd=>?_) (fun _ _ h=>h) (fun _ _ _=>rfl))
   obtain⟨k1,k2⟩:=ga9 hb hd
   exact⟨b,ea2 (by rw[List.getElem?_append_left (hlt k1)];exact k1) k2,hd,Nat.le_refl _,fun _=>⟨hρ id (hlt k1),rfl,Nat.le_refl _⟩⟩
  | box id c g b hb hd he =>
   rw[← hρ id (hlt hb)]
   exact .box id c g b (by rw[List.getElem?_append_left (hlt hb)];exact hb) hd he
  | map id c g b t hb hd he =>
   rw[← hρ id (hlt hb)]
   exact .map id c g b t (by rw[List.getElem?_append_left (hlt hb)];exact hb) hd he
 obtain⟨d1,d2⟩:=c1.adopt w.heap.size 0 c3 (fun h=>h.2 rfl) (fun o hf=>c4 o hf) (by simp) hap (fun hk=>Nat.lt_irrefl _ (hC.kept _ hk).2) { et:=0,es:=0,elems:=[row],own:=true,dead:=false,g:=0 } (Ua8 ⟨rfl,rfl⟩) rfl
  (.inl ⟨⟨rfl,rfl⟩,row,vs,t,rfl,hnew,hl,fun c x x' hx hx'=>by
   obtain⟨k1,k2⟩:=hc c x x' hx hx'
   have k3:=c2 x x' (.c k2)
   refine⟨k1,hfirst ?_⟩
   cases k3 with
   | c h=>exact h
   | w h =>
    cases k2 with
    | n k2 =>
     cases h with
     | val h =>
      cases h with
      | cell h=>exact .n h
      | agg=>cases k1
      | fn f caps vs' hl' h' =>
       exact .n (k2.carry (fun id b hb hd=>⟨b,hb,hd,Nat.le_refl _,fun _=>⟨rfl,rfl,Nat.le_refl _⟩⟩) (fun _ _ h=>h) fun b o hf=>mb5 (a:=⟨b,o,none⟩) (by
        have:=kb9 (hC.hrel.frz b o hf)
        simp only[World.alloc,Array.getElem?_push];rw[if_neg (Nat.ne_of_lt this)]))
     | tup=>cases k1
    | box id c g b hb hd he=>exact .box id c g b hb hd he
    | map id c g b t hb hd he=>exact .map id c g b t hb hd he⟩)
 refine⟨_,F,_,d1,fun x x' hx=>d2 _ _ (c2 _ _ hx),.c ?_⟩
 have hρn:(ρnew ρ H ⟨w.heap.size,0,0⟩ H.length).blk=w.heap.size:=by simp[ρnew]
 have:=XC.box (ρ:=ρnew ρ H ⟨w.heap.size,0,0⟩) (F:=F) (w:=w.alloc (.cells vs t)) H.length 0 0 { et:=0,es:=0,elems:=[row],own:=true,dead:=false,g:=0 } (H:=H++[{ et:=0,es:=0,elems:=[row],own:=true,dead:=false,g:=0 }]) (by simp) rfl ⟨rfl,rfl⟩
 rwa [hρn] at this
theorem Ld8 {t : TypeId} {z : List b7} (ho : o.op = .alloc t) (hz : zeT E.P t = some z) (he : (kb7 E a H (.balloc z)).run = some (x, H')) :
  i5 E.P o ac w (hb6 E.P WB K J ρ0 H0 F0 w0 ρ H F w up ds x H'):=by
 have he':some (b7.ptr (len H) 0 0 0,Nb3 H 0 [z])=some (x,H'):=he
 injection he' with he';injection he' with e1 e2;subst e1 e2
 rw[j8]
 obtain⟨ti,zv,hi,hzz,rfl,hone⟩:=Ta7 hz
 refine .value (x':=.pointer (some ⟨w.heap.size,0,none⟩)) (w':=w.alloc (.cells zv.cells t)) (by simp[execOp,ho,Instr.alloc,zeroValue,typeInfo,hi,hzz,newVar,newRow]) ?_
 refine Wd2 hC hJ _ zv.cells t (by simp) fun c y y' hy hy'=>?_
 rw[List.getElem?_map] at hy
 have hy'':zv.cells.toList[c]?=some y':=by simpa using hy'
 rw[hy''] at hy
 simp at hy
 subst hy
 exact⟨hone y' (List.mem_of_getElem? hy''),.n (.v _)⟩
theorem pe4 {n : Nat} {t : TypeId} {y : Operand} (hv : VR ρ H F w a (ac.tmps.toList ++ up)) (hn : ac.tmps.size = n) (hG : GOk E F w) (ho : o.op = .box t y) (hy : ltO n y = true) (he : (kb7 E a H (.bbox (g9 y))).run = some (x, H')) :
  i5 E.P o ac w (hb6 E.P WB K J ρ0 H0 F0 w0 ρ H F w up ds x H'):=by
 have hyr:=bb6 hv hn hG y hy
 simp only[kb7] at he
 cases hc:(Ga1 (c8 E a (g9 y))&&Mb8 Id8 (B7 (c8 E a (g9 y)))) with
 | false=>rw[hc] at he;cases he
 | true =>
 rw[hc] at he
 have he':some (b7.ptr (len H) 0 0 0,Nb3 H 0 [B7 (c8 E a (g9 y))])=some (x,H'):=he
 injection he' with he';injection he' with e1 e2;subst e1 e2
 rw[Bool.and_eq_true] at hc
 rw[j8]
 obtain⟨h1,h2⟩:=kd3 hyr hc.1 hc.2
 refine .value (x':=.pointer (some ⟨w.heap.size,0,none⟩)) (w':=w.alloc (.cells (ac.eval y).cells t)) (by simp[execOp,ho,Instr.box,newVar,newRow]) ?_
 exact Wd2 hC hJ _ (ac.eval y).cells t (by simpa using h1) fun c y y' hy hy'=>h2 c y y' hy (by simpa using hy')
end
end
end Go.Ev
namespace Go.Ev
open Go
section
variable {WB K:Nat→Prop} {J:List Value→World→Prop} {ρ ρ0:Rho} {H H0 H':List b9} {F F0:Fz} {w w0 w':World} {W':Nat→Prop} {up:List Value} {E:Env} {a:List b7} {ac:Act} {x:b7} {o:Oper}
variable {ds:List Deferred} {n:Nat} (hC:C2 E.P WB K J ρ0 H0 F0 w0 H ds w ρ F W' up) (hJ:Kb3 K J) (hv:VR ρ H F w a (ac.tmps.toList++up)) (hn:ac.tmps.size=n) (hG:GOk E F w)
theorem pe5 {x:b7} {x':Value} (h:XC ρ H F w x x'):X8 ρ (n4 H) F w (ba8 H x) x':=by
 cases h with
 | n h =>
  unfold ba8
  split
  ·split
   ·rename_i b hb
    cases B9 b with
    | true=>exact .unk _
    | false=>exact h
   ·exact .unk _
  ·exact h
 | box id c g b hb hd he =>
  unfold ba8
  simp only[y6,hb,Ua8 he]
  exact .unk _
 | map id c g b t hb hd he =>
  unfold ba8
  simp only[y6,hb,Ua9 he]
  exact .unk _
include hC hJ hv hn hG
omit hJ in
theorem Wd3 {t : TypeId} {p : Nat} (ho : o.op = .load t (.tmp p)) (hp : Nat.blt p n = true) (hu : E.P.underlying t ≠ none) (he : (kb7 E a H (.bload (szT E.P t) (agT E.P t) p)).run = some (x, H')) :
  i5 E.P o ac w (hb6 E.P WB K J ρ0 H0 F0 w0 ρ H F w up ds x H'):=by
 have hyr:=bb6 hv hn hG (.tmp p) hp
 simp only[kb7] at he
 cases hs:Nb2 0 H (c8 E a (.t p)) with
 | none=>rw[hs] at he;cases he
 | some q =>
 obtain⟨id,c,g,b⟩:=q
 rw[hs] at he
 simp only at he
 obtain⟨h1,h2,h3,h4,h5⟩:=Yb3 hs hyr
 cases hle:Nat.ble (c+szT E.P t) (len (i6 b.elems 0)) with
 | false=>rw[hle] at he;cases he
 | true =>
 rw[hle] at he
 obtain⟨z,hz1,hz2⟩:=Ia8 he
 obtain⟨e0,rfl⟩:x=z∧H=H':=by injection hz2 with e1 e2;exact⟨e1,e2.symm⟩
 rw[e0]
 clear e0 hz2
 obtain⟨_,_,_,_,hcont⟩:=hC.srel.has id b h2 (Ua8 h4) h3
 rcases hcont with⟨_,row,vs,tt,m1,m2,m3,m4⟩ | ⟨t',K',El,fl,es,clk,m1,_⟩
 case inr=>exact (Bb8 h4 m1).elim
 have hrow:i6 b.elems 0=row:=by rw[m1];rfl
 rw[hrow] at hle hz1
 rw[j8] at hle
 have hle:=Nat.le_of_ble_eq_true hle
 have hti:∃ i,E.P.info? t=some i∧i.size=szT E.P t:=by
  cases hd:E.P.underlying t with
  | none=>exact absurd hd hu
  | some d=>exact Ta5 hd
 obtain⟨ti,hi1,hi2⟩:=hti
 generalize hsz:szT E.P t=k at *
 have hcell:∀ j,j < k→w.cell? ⟨(ρ id).blk,c+j,none⟩=some (vs.getD (c+j) undef):=fun j hj=>by
  have hlt:c+j < vs.size:=by omega
  simp[World.cell?,m2,hlt]
 have hrel:∀ j,j < k→∀ y,row[c+j]?=some y→XC ρ H F w y (vs.getD (c+j) undef):=fun j hj y hy=>by
  have hlt:c+j < vs.size:=by omega
  exact (m4 (c+j) y _ hy (by simp[hlt])).2
 have hvals:∀ (j:Nat) v,((List.range k).map fun j=>vs.getD (c+j) undef)[j]?=some v→w.cell? (Addr.add ⟨(ρ id).blk,c,none⟩ j)=some v:=fun j v hj=>by
  obtain⟨hj1,hj2⟩:=Ba6 hj
  rw[U1 rfl]
  rw[← hj2]
  exact hcell j hj1
 have hev:ac.eval (.tmp p)=.pointer (some ⟨(ρ id).blk,c,none⟩):=h5
 cases hag:agT E.P t with
 | true =>
  rw[hag] at hz1
  have hz1:some (b7.agg (r5 (ba8 H) (A3 (f9 row c) k)))=some z:=hz1
  injection hz1 with hz1
  subst hz1
  have hlc:(Go.loadCells ⟨(ρ id).blk,c,none⟩ k).run E.P w=.ok ((List.range k).map fun j=>vs.getD (c+j) undef).toArray w:=by
   have:=run_loadCells_list (P:=E.P) w ⟨(ρ id).blk,c,none⟩ ((List.range k).map fun j=>vs.getD (c+j) undef) hvals
   simpa using this
  refine .value (x':=.agg ((List.range k).map fun j=>vs.getD (c+j) undef).toArray) (w':=w) ?_ ⟨ρ,F,W',hC,fun _ _ h=>h,.w (.val (.agg _ _ ?_ fun i y y' hy hy'=>?_))⟩
  ·simp[execOp,ho,hev,Instr.loadAt,Instr.sureAddr,loadVar,Sa8 hag,sizeOf,typeInfo,hi1,hi2,hlc]
  ·rw[o1,I5,F7];simp;omega
  ·rw[o1,I5,F7,List.getElem?_map] at hy
   have hy':((List.range k).map fun j=>vs.getD (c+j) undef)[i]?=some y':=by simpa using hy'
   obtain⟨hj1,hj2⟩:=Ba6 hy'
   rw[List.getElem?_take,if_pos hj1,List.getElem?_drop] at hy
   cases hq:row[c+i]? with
   | none=>rw[hq] at hy;cases hy
   | some q =>
    rw[hq] at hy
    injection hy with hy
    subst hy
    rw[← hj2]
    exact pe5 (hrel i hj1 q hq)
 | false =>
  rw[hag] at hz1
  have hz1:(match A3 (f9 row c) k with | [x]=>some x | _=>none:Option b7)=some z:=hz1
  rw[I5,F7] at hz1
  have hk1:k=1∧row[c]?=some z:=by
   have hl:((row.drop c).take k).length=k:=by simp;omega
   split at hz1
   ·rename_i y hy
    injection hz1 with hz1
    subst hz1
    rw[hy] at hl
    have hk:k=1:=by simpa using hl.symm
    refine⟨hk,?_⟩
    have h0:((row.drop c).take k)[0]?=some y:=by rw[hy];rfl
    rw[List.getElem?_take,if_pos (by omega),List.getElem?_drop] at h0
    simpa using h0
   ·cases hz1
  obtain⟨hk,hz⟩:=hk1
  subst hk
  have hc0:=hcell 0 (by omega)
  rw[Nat.add_zero] at hc0
  refine .value (x':=vs.getD c undef) (w':=w) ?_ ⟨ρ,F,W',hC,fun _ _ h=>h,.c ?_⟩
  ·simp[execOp,ho,hev,Instr.loadAt,Instr.sureAddr,loadVar,Ga3 hag hu,hc0]
  ·have:=hrel 0 (by omega) z (by rw[Nat.add_zero];exact hz)
   rwa [Nat.add_zero] at this
omit hJ in
theorem pe6 {s : TypeId} {p f : Nat} {fs : Array Field} {fd : Field} (ho : o.op = .fieldAddr s (.tmp p) f) (hp : Nat.blt p n = true) (hs' : E.P.underlying s = some (.struct fs)) (hf : fs[f]? = some fd) (hz : szT E.P fd.type ≠ 0)
  (he:(kb7 E a H (.bfld fd.offset p)).run=some (x,H')):i5 E.P o ac w (hb6 E.P WB K J ρ0 H0 F0 w0 ρ H F w up ds x H'):=by
 have hyr:=bb6 hv hn hG (.tmp p) hp
 simp only[kb7] at he
 cases hs:Nb2 0 H (c8 E a (.t p)) with
 | none=>rw[hs] at he;cases he
 | some q =>
 obtain⟨id,c,g,b⟩:=q
 rw[hs] at he
 have he':some (b7.ptr id 0 (c+fd.offset) g,H)=some (x,H'):=he
 obtain⟨rfl,rfl⟩:x=b7.ptr id 0 (c+fd.offset) g∧H=H':=by injection he' with he';injection he' with e1 e2;exact⟨e1.symm,e2⟩
 obtain⟨h1,h2,h3,h4,h5⟩:=Yb3 hs hyr
 obtain⟨ti,hi,hi0,hi1⟩:=qc2 hz
 have hev:ac.eval (.tmp p)=.pointer (some ⟨(ρ id).blk,c,none⟩):=h5
 refine .value (x':=.pointer (some (Addr.add ⟨(ρ id).blk,c,none⟩ fd.offset))) (w':=w) (by simp[execOp,ho,hev,Instr.fieldAt,Instr.sureAddr,run_underlying hs',hf,fieldPlace,sizeOf,typeInfo,hi,hi1]) ⟨ρ,F,W',hC,fun _ _ h=>h,.c ?_⟩
 rw[U1 rfl]
 exact .box id (c+fd.offset) g b h2 h3 h4
omit hJ in
theorem Wd4 {p : Nat} (ho : o.op = .move (.tmp p) ∨ o.op = .assign (.tmp p)) (hp : Nat.blt p n = true)
  (he:(kb7 E a H (.bmv p)).run=some (x,H')):i5 E.P o ac w (hb6 E.P WB K J ρ0 H0 F0 w0 ρ H F w up ds x H'):=by
 have hyr:=bb6 hv hn hG (.tmp p) hp
 have he':some (c8 E a (.t p),H)=some (x,H'):=he
 injection he' with he'
 injection he' with e1 e2
 subst e1 e2
 refine .value (x':=ac.eval (.tmp p)) (w':=w) (by rcases ho with ho | ho<;>simp[execOp,ho]) ⟨ρ,F,W',hC,fun _ _ h=>h,hyr⟩
theorem Ld9 {t : TypeId} {p : Nat} {y : Operand} (ho : o.op = .store t (.tmp p) y) (hp : Nat.blt p n = true) (hy : ltO n y = true) (h0 : szT E.P t ≠ 0) (he : (kb7 E a H (.bstore (szT E.P t) p (g9 y))).run = some (x, H')) :
  i5 E.P o ac w (hb6 E.P WB K J ρ0 H0 F0 w0 ρ H F w up ds x H'):=by
 have hpr:=bb6 hv hn hG (.tmp p) hp
 have hyr:=bb6 hv hn hG y hy
 simp only[kb7] at he
 cases hs:Nb2 0 H (c8 E a (.t p)) with
 | none=>rw[hs] at he;cases he
 | some q =>
 obtain⟨id,c,g,b⟩:=q
 rw[hs] at he
 simp only at he
 obtain⟨h1,h2,h3,h4,h5⟩:=Yb3 hs hpr
 generalize hcs:B7 (c8 E a (g9 y))=cs at *
 cases hcc:(Nat.ble (c+szT E.P t) (len (i6 b.elems 0))&&Nat.beq (len cs) (szT E.P t)&&(Ga1 (c8 E a (g9 y))&&Mb8 Id8 cs)) with
 | false=>rw[hcc] at he;cases he
 | true =>
 rw[hcc] at he
 have he':some (b7.v (.tuple #[]),setAt H id { b with elems:=[P6 (i6 b.elems 0) c cs] })=some (x,H'):=he
 injection he' with he';injection he' with e1 e2;subst e1 e2
 simp only[Bool.and_eq_true,j8] at hcc
 obtain⟨⟨hle,hlen⟩,hpo,hbo⟩:=hcc
 have hle:=Nat.le_of_ble_eq_true hle
 have hlen:=Nat.eq_of_beq_eq_true hlen
 rw[← hcs] at hbo
 obtain⟨k1,k2⟩:=kd3 hyr hpo hbo
 rw[hcs] at k1 k2
 obtain⟨hWB,hnW,hnF,hlt,hcont⟩:=hC.srel.has id b h2 (Ua8 h4) h3
 rcases hcont with⟨_,row,vs,tt,m1,m2,m3,m4⟩ | ⟨t',K',El,fl,es,clk,m1,_⟩
 case inr=>exact (Bb8 h4 m1).elim
 have hrow:i6 b.elems 0=row:=by rw[m1];rfl
 rw[hrow] at hle ⊢
 generalize hys:(ac.eval y).cells.toList=ys at *
 have hl2:ys.length=cs.length:=k1.symm
 have hone:∀ v∈ys,v.oneCell'=true:=fun v hv'=>by
  obtain⟨j,hj,rfl⟩:=List.mem_iff_getElem.1 hv'
  have hj':j < cs.length:=by omega
  exact (k2 j _ _ (List.getElem?_eq_getElem hj') (List.getElem?_eq_getElem hj)).1
 have hfits:c+ys.length≤vs.size:=by omega
 have hstore:=run_storeCells_at (P:=E.P) (ρ id).blk c tt ys 0 vs w m2 (by simpa using hfits) hone
 simp only[Nat.add_zero] at hstore
 obtain⟨ti,hi1,hi2⟩:=fd5 h0
 have hsz0:(ac.eval y).cells.size=ti.size:=by
  have:(ac.eval y).cells.toList.length=ys.length:=by rw[hys]
  rw[Array.length_toList] at this
  omega
 have hev:ac.eval (.tmp p)=.pointer (some ⟨(ρ id).blk,c,none⟩):=h5
 have hid:=(List.getElem?_eq_some_iff.1 h2).1
 rw[z6]
 refine .skip (w':=w.setRow (ρ id).blk (vs.toList.take c++ys++vs.toList.drop (c+ys.length)).toArray) ?_ ?_
 ·simp[execOp,ho,hev,Instr.storeAt,Instr.sureAddr,storeVar,sizeOf,typeInfo,hi1,hsz0,hys,hstore]
 ·have hheap:=setRow_heap w (ρ id).blk vs (vs.toList.take c++ys++vs.toList.drop (c+ys.length)).toArray tt (0,0) m2
  have hsize:((vs.toList.take c++ys++vs.toList.drop (c+ys.length)).toArray).size=vs.size:=by simp;omega
  have hK:=fun k (hk:K k)=>hC.kept k hk
  have hnK:∀ k,K k→k≠(ρ id).blk:=fun k hk e=>hC.far id b h2 (Ua8 h4) h3 (e ▸ hk)
  obtain⟨c1,c2⟩:=hC.change (w':=w.setRow (ρ id).blk (vs.toList.take c++ys++vs.toList.drop (c+ys.length)).toArray) (H':=H.set id { b with elems:=[P6 row c cs] }) (up':=up) (ρ id).blk hWB hnW hnF rfl rfl rfl (Nat.le_refl _) (by simp[World.setRow]) (fun j hj=>setRow_other w _ j _ hj)
   (fun cc t' fr hcc=>by rw[m2] at hcc;cases hcc;exact⟨_,hheap,hsize⟩) (by simp)
   (fun id' b' hb'=>by
    by_cases e:id=id'
    ·subst e
     obtain rfl:b'=b:=Option.some.inj (hb'.symm.trans h2)
     exact⟨{ b' with elems:=[P6 row c cs] },by simp[hid],rfl,rfl,rfl,rfl,by rw[m1];simp,fun hs0=>by rw[Ua8 h4] at hs0;cases hs0⟩
    ·exact⟨b',by rw[List.getElem?_set_ne e];exact hb',rfl,rfl,rfl,rfl,Nat.le_refl _,fun _=>rfl⟩)
   (fun id' b' hb' hs' hd' hne=>by
    have e:id≠id':=fun e=>hne (by rw[e])
    rw[List.getElem?_set_ne e];exact hb')
   (fun hx id' b' hb' hs' hd' hblk=>by
    have e:id=id':=Classical.byContradiction fun hne=>by
     rw[List.getElem?_set_ne hne] at hb'
     exact hC.srel.apart id id' b b' h2 hb' (Ua8 h4) hs' h3 hd' hne hblk.symm
    subst e
    have:b'={ b with elems:=[P6 row c cs] }:=by simpa [hid] using hb'.symm
    subst this
    have hfit:c+cs.length≤row.length:=by omega
    refine .inl ⟨h4,_,_,tt,rfl,hheap,by rw[Ja0 hfit,hsize];exact m3,fun j u u' hu hu'=>?_⟩
    rw[lb3 hfits] at hu'
    rcases Ib8 hfit hu with⟨g1,g2,g3⟩ | ⟨g1,g3⟩
    ·rw[if_pos (by omega)] at hu'
     obtain⟨q1,q2⟩:=k2 (j - c) u u' g3 hu'
     exact⟨q1,hx _ _ q2⟩
    ·rw[if_neg (by omega)] at hu'
     obtain⟨q1,q2⟩:=m4 j u u' g3 hu'
     exact⟨q1,hx _ _ q2⟩)
   (hJ up w _ (fun k hk=>setRow_other w _ k _ (hnK k hk)) hC.jot)
   (fun D _ hD e=>by rw[e,m2] at hD;cases hD)
  exact⟨ρ,F,W',c1,c2,.w (.ofv _)⟩
end
end Go.Ev
namespace Go.Ev
open Go
section
variable {P:Program} {w:World}
def Wd5 (P:Program) (w:World) (em:Bool) (m:Nat) (t:TypeId) (l:List (Nat×CK)):Prop :=
 ∀ v:Value,(agT P t=true→v=.agg v.cells)→(agT P t=false→v.cells=#[v])→(∀ p∈l,sa2 v.cells p)→(Instr.checkKey em m t v).run P w=.ok () w
theorem Wd5.step {em : Bool} {m : Nat} {t : TypeId} {l : List (Nat × CK)} (h : Wd5 P w em m t l) (hf : ne2 P w 0 t l ∨ True) (hu : P.underlying t ≠ none) (hone : agT P t = false → l ≠ [] ∧ ∀ p ∈ l, p.1 = 0) {xs : Array Value} {off : Nat} (hl : ∀ p ∈ l, p.1 < szT P t) (hx : ∀ p ∈ l.map fun p => (off + p.1, p.2), sa2 xs p) :
  ∃ a,(part t xs off).run P w=.ok a w∧(Instr.checkKey em m t a).run P w=.ok () w:=by
 have hx':∀ p∈l,sa2 xs (off+p.1,p.2):=fun p hp=>hx _ (List.mem_map.2 ⟨p,hp,rfl⟩)
 obtain⟨a,a1,a2,a4,a3⟩:=tc6 (w:=w) hu hone hl hx'
 refine⟨a,a1,h a a2 a4 fun p hp=>?_⟩
 have:=hx' p hp;unfold sa2 at this ⊢;rw[a3 p hp];exact this
theorem Yc2 (em:Bool):∀ (d:Nat) (t:TypeId) (l:List (Nat×CK)),U0 P d t=some l→∀ m,d≤m→Wd5 P w em m t l
 | 0,_,_,h,_,_=>by cases h
 | d+1,t,l,h,0,hm=>by omega
 | d+1,t,l,h,m+1,hm=>by
  intro v hv1 hv2 hv3
  unfold U0 at h
  cases hu:P.underlying t with
  | none=>simp[hu] at h
  | some u =>
  cases u with
  | int k =>
   simp only[hu] at h
   injection h with h;subst h
   have hag:agT P t=false:=qc1 (by simp[hu]) (by simp[hu])
   obtain⟨n,e1⟩:=hv3 (0,.int k) (by simp)
   rw[hv2 hag] at e1
   have e1':v=.int k n:=by simpa using e1
   subst e1'
   simp[Instr.checkKey,run_underlying hu]
  | bool =>
   simp only[hu] at h
   injection h with h;subst h
   have hag:agT P t=false:=qc1 (by simp[hu]) (by simp[hu])
   obtain⟨n,e1⟩:=hv3 (0,.bool) (by simp)
   rw[hv2 hag] at e1
   have e1':v=.bool n:=by simpa using e1
   subst e1'
   simp[Instr.checkKey,run_underlying hu]
  | struct fs =>
   simp only[hu] at h
   split at h
   ·cases h
   have hag:agT P t=true:=by simp[agT,hu]
   rw[hv1 hag]
   generalize v.cells=xs at *
   rw[Instr.checkKey]
   simp only[Sem.run_bind,run_underlying hu,Result.andThen_ok]
   rw[← Array.forIn_toList]
   clear hu hv1 hv2 hag
   generalize fs.toList=fl at *
   induction fl generalizing l with
   | nil=>simp
   | cons f fl ih =>
    simp only[List.map_cons,ga8] at h
    split at h
    ·rename_i l1 l2 e1 e2
     injection h with h;subst h
     split at e1
     ·cases e1
     rename_i hnm
     obtain⟨l',g1,g2,g3⟩:=Aa1 e1
     subst g3
     have hfl:=bb3 (w:=w) d f.type l' g1
     obtain⟨a,p1,p2⟩:=(Yc2 em d f.type l' g1 m (by omega)).step (w:=w) (.inr trivial) hfl.und hfl.one g2 (fun p hp=>hv3 p (List.mem_append_left _ hp))
     simp only[List.forIn_cons,Sem.run_bind,hnm,ne_eq,not_false_eq_true,if_true,Result.andThen_ok,p1,p2,Sem.run_pure]
     exact ih l2 (fun p hp=>hv3 p (List.mem_append_right _ hp)) e2
    ·cases h
  | array n e =>
   simp only[hu] at h
   split at h
   case isFalse=>cases h
   rename_i hi
   obtain⟨ti,hi⟩:=Option.isSome_iff_exists.1 hi
   have hag:agT P t=true:=by simp[agT,hu]
   rw[hv1 hag]
   generalize v.cells=xs at *
   rw[Instr.checkKey]
   simp only[Sem.run_bind,run_underlying hu,Result.andThen_ok]
   simp only[Std.Legacy.Range.forIn_eq_forIn_range',Std.Legacy.Range.size,Nat.sub_zero,Nat.add_one_sub_one,Nat.div_one]
   rw[List.range_eq_range'] at h
   have hsz:∀ w:World,(sizeOf e).run P w=.ok (szT P e) w:=fun w=>by simp[sizeOf,typeInfo,hi,szT]
   clear hu hv1 hv2 hag
   generalize List.range' 0 n=fl at *
   induction fl generalizing l with
   | nil=>simp
   | cons f fl ih =>
    simp only[List.map_cons,ga8] at h
    split at h
    ·rename_i l1 l2 e1 e2
     injection h with h;subst h
     obtain⟨l',g1,g2,g3⟩:=Aa1 e1
     subst g3
     have hfl:=bb3 (w:=w) d e l' g1
     obtain⟨a,p1,p2⟩:=(Yc2 em d e l' g1 m (by omega)).step (w:=w) (.inr trivial) hfl.und hfl.one g2 (fun p hp=>hv3 p (List.mem_append_left _ hp))
     simp only[List.forIn_cons,Sem.run_bind,hsz,Result.andThen_ok,p1,p2,Sem.run_pure]
     exact ih l2 (fun p hp=>hv3 p (List.mem_append_right _ hp)) e2
    ·cases h
  | _=>simp[hu] at h
theorem xd3 {fl : List (Nat × CK)} (hk : ∀ p ∈ fl, (∃ i, p.2 = .int i) ∨ p.2 = .bool) {vs us : Array Value} (h1 : ∀ p ∈ fl, sa2 vs p) (h2 : ∀ p ∈ fl, sa2 us p) {cs ds : List b7} (hc : ∀ (i : Nat) v, vs[i]? = some v → hdA (f9 cs i) = .v v) (hd : ∀ (i : Nat) v, us[i]? = some v → hdA (f9 ds i) = .v v) :
  fl.all (Ma7 vs us)=kb6 fl cs ds:=by
 induction fl with
 | nil=>rfl
 | cons p fl ih =>
  have e:kb6 (p::fl) cs ds=(De2 p.2 (hdA (f9 cs p.1)) (hdA (f9 ds p.1))&&kb6 fl cs ds):=rfl
  rw[List.all_cons,ih (fun q hq=>hk q (by simp[hq])) (fun q hq=>h1 q (by simp[hq])) (fun q hq=>h2 q (by simp[hq])),e]
  congr 1
  have g1:=h1 p (by simp)
  have g2:=h2 p (by simp)
  obtain⟨n,kk⟩:=p
  unfold sa2 at g1 g2
  unfold Ma7
  rcases hk (n,kk) (by simp) with⟨i,hi⟩ | hi
  ·simp only at hi;subst hi
   obtain⟨m,hm⟩:=g1
   obtain⟨m',hm'⟩:=g2
   simp only at hm hm' ⊢
   rw[hc n _ hm,hd n _ hm',hm,hm']
   rfl
  ·simp only at hi;subst hi
   obtain⟨m,hm⟩:=g1
   obtain⟨m',hm'⟩:=g2
   simp only at hm hm' ⊢
   rw[hc n _ hm,hd n _ hm',hm,hm']
   rfl
theorem Wd6 {ks:Array Value} {r:List b7} (i:Nat) (v:Value) (h:ks[i]?=some v):hdA (f9 (ks.toList.map .v++r) i)=.v v:=by
 rw[Ob2]
 have hlt:=(Array.getElem?_eq_some_iff.1 h).1
 rw[List.getElem?_append_left (by simpa using hlt),List.getElem?_map]
 simp[h]
theorem Fe6 {ks:Array Value} (i:Nat) (v:Value) (h:ks[i]?=some v):hdA (f9 (ks.toList.map .v) i)=.v v:=by
 have:=Wd6 (r:=[]) i v h
 rwa [List.append_nil] at this
section
variable {K:TypeId} {fl:List (Nat×CK)} {kl:Nat} (hag:agT P K=true) (hf:U0 P 9 K=some fl)
include hag hf
theorem Fe7 {ks us:Array Value} (h1:∀ p∈fl,sa2 ks p) (h2:∀ p∈fl,sa2 us p):(Op.equal K (.agg ks) (.agg us)).run P w=.ok (fl.all (Ma7 ks us)) w :=
 (bb3 (w:=w) (9+9991) K fl (Jb1 hf 9991)).eq (.agg ks) (.agg us) (fun _=>rfl) (fun _=>rfl) (fun h=>by rw[hag] at h;cases h) (fun h=>by rw[hag] at h;cases h) h1 h2
theorem kd4 {ks : Array Value} (h1 : ∀ p ∈ fl, sa2 ks p) : ∀ (es : List MapEntry) (rows : List (List b7)) (i : Nat), es.length = rows.length → (∀ (j : Nat) r e, rows[j]? = some r → es[j]? = some e → xc2 fl kl r e) →
  ((Instr.findAsking K (.agg ks) es i).run P w=.ok none w∧Nb4 fl (ks.toList.map .v) rows=none∧∀ new,T9 fl (ks.toList.map .v) new rows=rows++[new]) ∨
  (∃ j e r,(Instr.findAsking K (.agg ks) es i).run P w=.ok (some (i+j,e.val)) w∧es[j]?=some e∧rows[j]?=some r∧Nb4 fl (ks.toList.map .v) rows=some r∧(∀ new,T9 fl (ks.toList.map .v) new rows=rows.set j new)∧∃ us,e.key=.agg us∧fl.all (Ma7 ks us)=true)
 | [],[],i,_,_=>.inl ⟨by simp[Instr.findAsking],rfl,fun new=>rfl⟩
 | [],r::rows,i,hl,_=>by simp at hl
 | e::es,[],i,hl,_=>by simp at hl
 | e::es,r::rows,i,hl,hr=>by
  obtain⟨us,v,g1,g2,g3,g4,g5⟩:=hr 0 r e rfl rfl
  have hk:=Ta8 9 K fl hf
  have he:=Fe7 (w:=w) hag hf h1 g5
  have hq:fl.all (Ma7 ks us)=kb6 fl (ks.toList.map .v) r:=by
   rw[g1]
   exact xd3 hk h1 g5 Fe6 Wd6
  have eR:Nb4 fl (ks.toList.map .v) (r::rows)=Bool.rec (motive:=fun _=>Option (List b7)) (Nb4 fl (ks.toList.map .v) rows) (some r) (kb6 fl (ks.toList.map .v) r):=rfl
  have eU:∀ new,T9 fl (ks.toList.map .v) new (r::rows)=Bool.rec (motive:=fun _=>List (List b7)) (r::T9 fl (ks.toList.map .v) new rows) (new::rows) (kb6 fl (ks.toList.map .v) r):=fun _=>rfl
  cases hb:fl.all (Ma7 ks us) with
  | true =>
   rw[hb] at he
   rw[hb] at hq
   refine .inr ⟨0,e,r,by simp[Instr.findAsking,g3,he],rfl,rfl,by rw[eR,← hq],fun new=>by rw[eU,← hq];rfl,us,g3,hb⟩
  | false =>
   rw[hb] at he
   rw[hb] at hq
   rcases kd4 h1 es rows (i+1) (by simpa using hl) (fun j r' e' hj hj'=>hr (j+1) r' e' (by simpa using hj) (by simpa using hj')) with⟨k1,k2,k3⟩ | ⟨j,e',r',k1,k2,k3,k4,k5,k6⟩
   ·refine .inl ⟨by simp[Instr.findAsking,g3,he,k1],by rw[eR,← hq];exact k2,fun new=>by rw[eU,← hq];show r::T9 _ _ _ _=_;rw[k3 new];rfl⟩
   ·refine .inr ⟨j+1,e',r',by simp[Instr.findAsking,g3,he,k1,Nat.add_assoc,Nat.add_comm 1 j],by simpa using k2,by simpa using k3,by rw[eR,← hq];exact k4,fun new=>by rw[eU,← hq];show r::T9 _ _ _ _=_;rw[k5 new];rfl,k6⟩
end
end
end Go.Ev
namespace Go.Ev
open Go
def vb0 (fl:List (Nat×CK)) (kl:Nat):Bool:=(List.range kl).all fun i=>fl.any fun p=>Nat.beq p.1 i
def Wd7 (P:Program) (t:TypeId):Bool:=match P.info? t with
 | some i=>match i.zero with
  | some (.bool b)=>!b
  | _=>false
 | none=>false
theorem Qc5 {fl:List (Nat×CK)} {kl i:Nat} (h:vb0 fl kl=true) (hi:i < kl):∃ p∈fl,p.1=i:=by
 unfold vb0 at h
 rw[List.all_eq_true] at h
 have:=h i (List.mem_range.2 hi)
 rw[List.any_eq_true] at this
 obtain⟨p,h1,h2⟩:=this
 exact⟨p,h1,Nat.eq_of_beq_eq_true h2⟩
section
variable {WB K:Nat→Prop} {J:List Value→World→Prop} {ρ ρ0:Rho} {H H0 H':List b9} {F F0:Fz} {w w0 w':World} {W':Nat→Prop} {up:List Value} {E:Env} {a:List b7} {ac:Act} {x:b7} {o:Oper}
theorem Md0 {x x':Value} (h:XW ρ H F w (.v x) x'):x'=x:=by
 cases h with
 | w h=>exact aa4 h
 | c h=>cases h with
  | n h=>exact aa4 (.val (.cell h))
theorem Wd8 {fl : List (Nat × CK)} {kl : Nat} {ks : List b7} {v : Value} (hcov : vb0 fl kl = true) (hk : ∀ p ∈ fl, (∃ i, p.2 = .int i) ∨ p.2 = .bool) (hx : XW ρ H F w (.agg ks) v) (hlen : ks.length = kl) (hok : td7 fl ks = true) :
  ∃ vs:Array Value,v=.agg vs∧ks=vs.toList.map .v∧vs.size=kl∧∀ p∈fl,sa2 vs p:=by
 have hx':z7 ρ (n4 H) F w (.agg ks) v:=by
  cases hx with
  | w h=>exact h
  | c h=>cases h with
   | n h=>exact .val (.cell h)
 obtain⟨vs,rfl,hl,hr⟩:=oa8 hx'
 have h1:=tc8 hok
 have k1:∀ p∈fl,sa2 vs p:=fun p hp=>(sb8 hl hr (hk p hp) (h1 p hp)).1
 refine⟨vs,rfl,List.ext_getElem (by simpa using hl) fun i hi hi'=>?_,by rw[← hl];exact hlen,k1⟩
 obtain⟨p,hp,rfl⟩:=Qc5 hcov (hlen ▸ hi)
 have h2:=h1 p hp
 rw[Ob2,List.getElem?_eq_getElem hi] at h2
 simp only[Option.getD_some] at h2
 have hi2:p.1 < vs.size:=hl ▸ hi
 have hrel:=hr p.1 _ _ (List.getElem?_eq_getElem hi) (Array.getElem?_eq_getElem hi2)
 have hv:∃ u,ks[p.1]=.v u:=by
  rcases hk p hp with⟨q,e⟩ | e<;>rw[e] at h2<;>revert h2<;>cases ks[p.1]<;>intro h2<;>first | exact⟨_,rfl⟩ | cases h2
 obtain⟨u,hu⟩:=hv
 rw[hu] at hrel ⊢
 have:=aa4 (.val (.cell hrel))
 simp[this]
theorem Wd9 (m:Nat) (k:IntKind) (a:Int):Instr.sameBits m (.int k a) (.int k a)=true:=by cases m<;>simp[Instr.sameBits]
theorem Md1 (m:Nat) (a:Bool):Instr.sameBits m (.bool a) (.bool a)=true:=by cases m<;>simp[Instr.sameBits]
theorem Md2 {fl : List (Nat × CK)} {kl m : Nat} {ks us : Array Value} (hcov : vb0 fl kl = true) (hk : ∀ p ∈ fl, (∃ i, p.2 = .int i) ∨ p.2 = .bool) (h1 : ks.size = kl) (h2 : us.size = kl) (a1 : ∀ p ∈ fl, sa2 ks p) (a2 : ∀ p ∈ fl, sa2 us p) (he : fl.all (Ma7 ks us) = true) :
  Instr.sameBits (m+1) (.agg us) (.agg ks)=true:=by
 rw[Instr.sameBits]
 rw[Bool.and_eq_true]
 refine⟨by simp[h1,h2],?_⟩
 rw[List.all_eq_true]
 intro q hq
 obtain⟨i,hi,hq⟩:=List.mem_iff_getElem.1 hq
 rw[List.getElem_zip] at hq
 have hi':i < kl:=by rw[List.length_zip,Array.length_toList,Array.length_toList] at hi;omega
 obtain⟨p,hp,rfl⟩:=Qc5 hcov hi'
 have e:=List.all_eq_true.1 he p hp
 have b1:=a1 p hp
 have b2:=a2 p hp
 have g1:ks[p.1]?=some (ks[p.1]'(by omega)):=Array.getElem?_eq_getElem _
 have g2:us[p.1]?=some (us[p.1]'(by omega)):=Array.getElem?_eq_getElem _
 rw[← hq]
 simp only[Array.getElem_toList]
 unfold sa2 at b1 b2
 unfold Ma7 at e
 rcases hk p hp with⟨k,hkk⟩ | hkk
 ·rw[hkk] at b1 b2
  obtain⟨n,b1⟩:=b1
  obtain⟨n',b2⟩:=b2
  rw[b1,b2] at e
  have e:n=n':=by simpa using e
  subst e
  rw[g1] at b1;rw[g2] at b2
  rw[Option.some.inj b1,Option.some.inj b2]
  exact Wd9 _ _ _
 ·rw[hkk] at b1 b2
  obtain⟨n,b1⟩:=b1
  obtain⟨n',b2⟩:=b2
  rw[b1,b2] at e
  have e:n=n':=by simpa using e
  subst e
  rw[g1] at b1;rw[g2] at b2
  rw[Option.some.inj b1,Option.some.inj b2]
  exact Md1 _ _
theorem vb1 {k:Nat} {es:Array MapEntry} {clk:Nat} (P:Program) (h:w.heap[k]?=some (.map es clk)):(getObj k).run P w=.ok (.map es clk) w:=by simp[getObj,Sem.run,h]
theorem vb2 {k:Nat} {es:Array MapEntry} {clk:Nat} (P:Program) (o:Obj) (h:w.heap[k]?=some (.map es clk)):(setObj k o).run P w=.ok () (w.putObj k o):=by simp[setObj,Sem.run,h,World.putObj]
theorem hc7 {P : Program} {t : TypeId} {fl : List (Nat × CK)} {kl : Nat} (hag : agT P t = true) (hf : U0 P 9 t = some fl) {ks : Array Value} (h1 : ∀ p ∈ fl, sa2 ks p) (es : List MapEntry) (rows : List (List b7)) (hl : es.length = rows.length) (hr : ∀ (j : Nat) r e, rows[j]? = some r → es[j]? = some e → xc2 fl kl r e) :
  ((Instr.findKey t (.agg ks) es).run P w=.ok none w∧Nb4 fl (ks.toList.map .v) rows=none∧∀ new,T9 fl (ks.toList.map .v) new rows=rows++[new]) ∨
  (∃ j e r,(Instr.findKey t (.agg ks) es).run P w=.ok (some (j,e.val)) w∧es[j]?=some e∧rows[j]?=some r∧Nb4 fl (ks.toList.map .v) rows=some r∧(∀ new,T9 fl (ks.toList.map .v) new rows=rows.set j new)∧∃ us,e.key=.agg us∧fl.all (Ma7 ks us)=true):=by
 have hu:∃ d,P.underlying t=some d∧∀ e es i,Instr.findNow d (.agg ks) (e::es) i=none:=by
  unfold agT at hag
  split at hag
  ·rename_i fs h;exact⟨_,h,fun e es i=>rfl⟩
  ·rename_i n e h;exact⟨_,h,fun e es i=>rfl⟩
  ·cases hag
 obtain⟨d,hd,hnow⟩:=hu
 have:=kd4 (w:=w) (kl:=kl) hag hf h1 es rows 0 hl hr
 have e0:(Instr.findKey t (.agg ks) es).run P w=(Instr.findAsking t (.agg ks) es 0).run P w:=by
  unfold Instr.findKey
  simp only[Sem.run_bind,run_underlying hd,Result.andThen_ok]
  cases es with
  | nil=>simp[Instr.findNow,Instr.findAsking]
  | cons e es=>rw[hnow]
 rw[e0]
 simpa using this
section
variable {ds:List Deferred} {n:Nat} (hC:C2 E.P WB K J ρ0 H0 F0 w0 H ds w ρ F W' up) (hJ:Kb3 K J)
include hC hJ
theorem Xd0 {t : TypeId} {kt el : TypeId} {fl : List (Nat × CK)} (ho : o.op = .makeMap t none) (hu : E.P.underlying t = some (.map kt el)) (hf : U0 E.P 9 kt = some fl) (he : (kb7 E a H (.mmake t)).run = some (x, H')) :
  i5 E.P o ac w (hb6 E.P WB K J ρ0 H0 F0 w0 ρ H F w up ds x H'):=by
 have he':some (b7.ptr (len H) 0 0 0,Nb3 H (t+1) [])=some (x,H'):=he
 injection he' with he';injection he' with e1 e2;subst e1 e2
 rw[j8]
 obtain⟨c1,c2,c3,c4⟩:=hC.alloc hJ (.map #[] 0)
 have hap:∀ (id:Nat) b,H[id]?=some b→B9 b=true→b.dead=false→(ρ id).blk≠w.heap.size:=fun id b hb hs hd=>Nat.ne_of_lt (hC.srel.has id b hb hs hd).2.2.2.1
 rw[kd2]
 have hnew:(w.alloc (.map #[] 0)).heap[w.heap.size]?=some (.map #[] 0):=World.alloc_heap_new w _
 refine .value (x':=.map (some w.heap.size)) (w':=w.alloc (.map #[] 0)) (by simp[execOp,ho,Instr.makeMap,run_newObj_alloc]) ?_
 obtain⟨d1,d2⟩:=c1.adopt w.heap.size 0 c3 (fun h=>h.2 rfl) (fun o hf=>c4 o hf) (by simp) hap (fun hk=>Nat.lt_irrefl _ (hC.kept _ hk).2) { et:=t+1,es:=0,elems:=[],own:=true,dead:=false,g:=0 } (Ua9 (t:=t) ⟨rfl,rfl⟩) rfl
  (.inr ⟨t,kt,el,fl,#[],0,⟨rfl,rfl⟩,hu,hf,hnew,rfl,fun i r e hr=>by simp at hr⟩)
 refine⟨_,F,_,d1,fun x x' hx=>d2 _ _ (c2 _ _ hx),.c ?_⟩
 have hρn:(ρnew ρ H ⟨w.heap.size,0,0⟩ H.length).blk=w.heap.size:=by simp[ρnew]
 have:=XC.map (ρ:=ρnew ρ H ⟨w.heap.size,0,0⟩) (F:=F) (w:=w.alloc (.map #[] 0)) H.length 0 0 { et:=t+1,es:=0,elems:=[],own:=true,dead:=false,g:=0 } t (H:=H++[{ et:=t+1,es:=0,elems:=[],own:=true,dead:=false,g:=0 }]) (by simp) rfl ⟨rfl,rfl⟩
 rwa [hρn] at this
variable (hv:VR ρ H F w a (ac.tmps.toList++up)) (hn:ac.tmps.size=n) (hG:GOk E F w)
include hv hn hG
omit hJ in
theorem Xd1 {t : TypeId} {kt el : TypeId} {fl : List (Nat × CK)} {m : Nat} {y : Operand} (ho : o.op = .lookup t (.tmp m) y false) (hm : Nat.blt m n = true) (hy : ltO n y = true) (hu : E.P.underlying t = some (.map kt el)) (hag : agT E.P kt = true) (hf : U0 E.P 9 kt = some fl) (hcov : vb0 fl (szT E.P kt) = true) (hz : Wd7 E.P el = true)
  (he:(kb7 E a H (.mlook t (szT E.P kt) fl m (g9 y))).run=some (x,H')) :
  i5 E.P o ac w (hb6 E.P WB K J ρ0 H0 F0 w0 ρ H F w up ds x H'):=by
 have hmr:=bb6 hv hn hG (.tmp m) hm
 have hyr:=bb6 hv hn hG y hy
 have hev:(ac.eval (.tmp m))=ac.tmps.getD m undef:=rfl
 simp only[kb7] at he
 have hcA:g9 (.tmp m)=.t m:=rfl
 rw[hcA] at hmr
 cases hs:Nb2 (t+1) H (c8 E a (.t m)) with
 | none=>rw[hs] at he;cases he
 | some q =>
 obtain⟨id,c,g,b⟩:=q
 rw[hs] at he
 simp only at he
 obtain⟨h1,h2,h3,h4,h5⟩:=Qc4 hs hmr
 revert he hyr
 generalize c8 E a (g9 y)=ya
 intro hyr he
 split at he
 case h_2=>cases he
 ·rename_i ks
  obtain⟨hgd,he⟩:=DT.run_guard_some he
  have he:some (b7.v (.bool (Aa0 (szT E.P kt) fl ks b.elems)),H)=some (x,H'):=he
  rw[Bool.and_eq_true,j8] at hgd
  obtain⟨vs,e1,e2,e3,e4⟩:=Wd8 hcov (Ta8 9 kt fl hf) hyr (Nat.eq_of_beq_eq_true hgd.1) hgd.2
  obtain⟨rfl,rfl⟩:x=b7.v (.bool (Aa0 (szT E.P kt) fl ks b.elems))∧H=H':=by injection he with he;injection he with e1 e2;exact⟨e1.symm,e2⟩
  subst e2
  obtain⟨_,_,_,_,hcont⟩:=hC.srel.has id b h2 (Ua9 h4) h3
  rcases hcont with⟨hb,_⟩ | ⟨t',K',El,fl',es,clk,m1,m2,m3,m4,m5,m6⟩
  ·exact (Bb8 hb h4).elim
  have ht:t'=t:=Nat.succ.inj (m1.2.symm.trans h4.2)
  subst ht
  rw[hu] at m2
  injection m2 with m2;injection m2 with q1 q2;subst q1 q2
  rw[hf] at m3
  injection m3 with m3;subst m3
  have hlen:es.toList.length=b.elems.length:=by rw[Array.length_toList];exact m5.symm
  have hrow:∀ (j:Nat) r e,b.elems[j]?=some r→es.toList[j]?=some e→xc2 fl (szT E.P kt) r e:=fun j r e hr he=>m6 j r e hr (by simpa using he)
  have hfind:=hc7 (w:=w) (kl:=szT E.P kt) hag hf e4 es.toList b.elems hlen hrow
  have hck:(Instr.checkKey es.isEmpty 10000 kt (.agg vs)).run E.P w=.ok () w:=Yc2 es.isEmpty 9 kt fl hf 10000 (by decide) (.agg vs) (fun _=>rfl) (fun h=>by rw[hag] at h;cases h) e4
  have hgo:(getObj (ρ id).blk).run E.P w=.ok (.map es clk) w:=vb1 E.P m4
  rcases hfind with⟨k1,k2,_⟩ | ⟨j,e,r,k1,k2,k3,k4,_,_⟩
  ·have hz' : (zeroValue el).run E.P w = .ok (.bool false) w := by
    unfold Wd7 at hz
    split at hz
    ·rename_i i hi
     split at hz
     ·rename_i bb hbb
      cases bb with
      | true=>cases hz
      | false=>simp[zeroValue,typeInfo,hi,hbb]
     ·cases hz
    ·cases hz
   refine .value (x':=.bool false) (w':=w) ?_ ⟨ρ,F,W',hC,fun _ _ h=>h,?_⟩
   ·simp[execOp,ho,Instr.lookup,run_underlying hu,h5,e1,hgo,hck,k1,hz']
   ·unfold Aa0
    rw[k2]
    exact .w (.val (.cell (.v _)))
  ·obtain⟨us,bb,g1,g2,g3,g4,g5⟩:=hrow j r e k3 k2
   refine .value (x':=.bool bb) (w':=w) ?_ ⟨ρ,F,W',hC,fun _ _ h=>h,?_⟩
   ·simp[execOp,ho,Instr.lookup,run_underlying hu,h5,e1,hgo,hck,k1,g4]
   ·unfold Aa0
    rw[k4]
    have:toB (hdA (f9 r (szT E.P kt)))=bb:=by
     rw[Ob2,g1,← g2]
     rw[List.getElem?_append_right (by simp)]
     simp[toB]
    show XW ρ H F w (.v (.bool (toB (hdA (f9 r (szT E.P kt)))))) _
    rw[this]
    exact .w (.val (.cell (.v _)))
theorem pe7 {t : TypeId} {kt el : TypeId} {fl : List (Nat × CK)} {m : Nat} {y z : Operand} (ho : o.op = .mapUpdate t (.tmp m) y z) (hm : Nat.blt m n = true) (hy : ltO n y = true) (hz : ltO n z = true) (hu : E.P.underlying t = some (.map kt el)) (hag : agT E.P kt = true) (hf : U0 E.P 9 kt = some fl) (hcov : vb0 fl (szT E.P kt) = true)
  (he:(kb7 E a H (.mupd t (szT E.P kt) fl m (g9 y) (g9 z))).run=some (x,H')) :
  i5 E.P o ac w (hb6 E.P WB K J ρ0 H0 F0 w0 ρ H F w up ds x H'):=by
 have hmr:=bb6 hv hn hG (.tmp m) hm
 have hyr:=bb6 hv hn hG y hy
 have hzr:=bb6 hv hn hG z hz
 simp only[kb7] at he
 have hcA:g9 (.tmp m)=.t m:=rfl
 rw[hcA] at hmr
 cases hs:Nb2 (t+1) H (c8 E a (.t m)) with
 | none=>rw[hs] at he;cases he
 | some q =>
 obtain⟨id,c,g,b⟩:=q
 rw[hs] at he
 simp only at he
 obtain⟨h1,h2,h3,h4,h5⟩:=Qc4 hs hmr
 revert he hyr hzr
 generalize c8 E a (g9 y)=ya
 generalize c8 E a (g9 z)=za
 intro hyr hzr he
 split at he
 case h_2=>cases he
 rename_i ks bv
 obtain⟨hgd,he⟩:=DT.run_guard_some he
 have he:some (b7.v (.tuple #[]),setAt H id { b with elems:=T9 fl ks (app ks [.v (.bool bv)]) b.elems })=some (x,H'):=he
 rw[Bool.and_eq_true,j8] at hgd
 have hkinds:=Ta8 9 kt fl hf
 obtain⟨vs,e1,e2,e3,e4⟩:=Wd8 hcov hkinds hyr (Nat.eq_of_beq_eq_true hgd.1) hgd.2
 have e5:=Md0 hzr
 injection he with he;injection he with q1 q2
 subst q1 q2 e2
 obtain⟨hWB,hnW,hnF,hlt,hcont⟩:=hC.srel.has id b h2 (Ua9 h4) h3
 rcases hcont with⟨hb,_⟩ | ⟨t',K',El,fl',es,clk,m1,m2,m3,m4,m5,m6⟩
 ·exact (Bb8 hb h4).elim
 have ht:t'=t:=Nat.succ.inj (m1.2.symm.trans h4.2)
 subst ht
 rw[hu] at m2
 injection m2 with m2;injection m2 with q1 q2;subst q1 q2
 rw[hf] at m3
 injection m3 with m3;subst m3
 have hlen:es.toList.length=b.elems.length:=by rw[Array.length_toList];exact m5.symm
 have hrow:∀ (j:Nat) r e,b.elems[j]?=some r→es.toList[j]?=some e→xc2 fl (szT E.P kt) r e:=fun j r e hr he=>m6 j r e hr (by simpa using he)
 have hfind:=hc7 (w:=w) (kl:=szT E.P kt) hag hf e4 es.toList b.elems hlen hrow
 have hck:(Instr.checkKey false 10000 kt (.agg vs)).run E.P w=.ok () w:=Yc2 false 9 kt fl hf 10000 (by decide) (.agg vs) (fun _=>rfl) (fun h=>by rw[hag] at h;cases h) e4
 have hgo:(getObj (ρ id).blk).run E.P w=.ok (.map es clk) w:=vb1 E.P m4
 have hnK:∀ k,K k→k≠(ρ id).blk:=fun k hk e=>hC.far id b h2 (Ua9 h4) h3 (e ▸ hk)
 have hid:=(List.getElem?_eq_some_iff.1 h2).1
 have hnewrow:∀ us:MapEntry,xc2 fl (szT E.P kt) (app (vs.toList.map .v) [.v (.bool bv)]) { us with key:=.agg vs,val:=.bool bv }:=fun us=>⟨vs,bv,by rw[E6],e3,rfl,rfl,e4⟩
 have hfin : ∀ (es' : Array MapEntry) (clk' : Nat), (T9 fl (vs.toList.map .v) (app (vs.toList.map .v) [.v (.bool bv)]) b.elems).length = es'.size → b.elems.length ≤ es'.size → (∀ (i : Nat) r e, (T9 fl (vs.toList.map .v) (app (vs.toList.map .v) [.v (.bool bv)]) b.elems)[i]? = some r → es'[i]? = some e → xc2 fl (szT E.P kt) r e) →
   hb6 E.P WB K J ρ0 H0 F0 w0 ρ H F w up ds (.v (.tuple #[])) (H.set id { b with elems:=T9 fl (vs.toList.map .v) (app (vs.toList.map .v) [.v (.bool bv)]) b.elems }) (.tuple #[]) (w.putObj (ρ id).blk (.map es' clk')):=fun es' clk' hl1 hl2 hrows=>by
  obtain⟨c1,c2⟩:=hC.change (w':=w.putObj (ρ id).blk (.map es' clk')) (H':=H.set id { b with elems:=T9 fl (vs.toList.map .v) (app (vs.toList.map .v) [.v (.bool bv)]) b.elems }) (up':=up) (ρ id).blk hWB hnW hnF rfl rfl rfl (Nat.le_refl _) (by simp) (fun j hj=>World.putObj_heap_other hj)
   (fun cc t' fr hcc=>by rw[m4] at hcc;cases hcc) (by simp)
   (fun id' b' hb'=>by
    by_cases e:id=id'
    ·subst e
     obtain rfl:b'=b:=Option.some.inj (hb'.symm.trans h2)
     exact⟨{ b' with elems:=T9 fl (vs.toList.map .v) (app (vs.toList.map .v) [.v (.bool bv)]) b'.elems },by simp[hid],rfl,rfl,rfl,rfl,by simp only;rw[hl1];exact hl2,fun hs0=>by rw[Ua9 h4] at hs0;cases hs0⟩
    ·exact⟨b',by rw[List.getElem?_set_ne e];exact hb',rfl,rfl,rfl,rfl,Nat.le_refl _,fun _=>rfl⟩)
   (fun id' b' hb' hs' hd' hne=>by
    have e:id≠id':=fun e=>hne (by rw[e])
    rw[List.getElem?_set_ne e];exact hb')
   (fun hx id' b' hb' hs' hd' hblk=>by
    have e:id=id':=Classical.byContradiction fun hne=>by
     rw[List.getElem?_set_ne hne] at hb'
     exact hC.srel.apart id id' b b' h2 hb' (Ua9 h4) hs' h3 hd' hne hblk.symm
    subst e
    have:b'={ b with elems:=T9 fl (vs.toList.map .v) (app (vs.toList.map .v) [.v (.bool bv)]) b.elems }:=by simpa [hid] using hb'.symm
    subst this
    exact .inr ⟨t',kt,el,fl,es',clk',h4,hu,hf,World.putObj_heap_same hlt,hl1,hrows⟩)
   (hJ up w _ (fun k hk=>World.putObj_heap_other (hnK k hk)) hC.jot)
   (fun D _ hD e=>by rw[e,m4] at hD;cases hD)
  exact⟨ρ,F,W',c1,c2,.w (.ofv _)⟩
 rw[z6]
 rcases hfind with⟨k1,_,k3⟩ | ⟨j,e,r,k1,k2,k3,k4,k5,us,k6,k7⟩
 ·have hso:=vb2 E.P (.map (es.push { key:=.agg vs,val:=.bool bv,born:=clk }) (clk+1)) m4
  refine .skip (w':=w.putObj (ρ id).blk (.map (es.push { key:=.agg vs,val:=.bool bv,born:=clk }) (clk+1))) ?_ (hfin _ _ ?_ ?_ ?_)
  ·simp[execOp,ho,Instr.mapUpdate,run_underlying hu,h5,e1,e5,hgo,hck,k1,hso]
  ·rw[k3];simp[m5]
  ·simp[m5]
  ·intro i r e hr he
   rw[k3] at hr
   by_cases hi:i < b.elems.length
   ·rw[List.getElem?_append_left hi] at hr
    rw[Array.getElem?_push,if_neg (by omega)] at he
    exact m6 i r e hr he
   ·rw[List.getElem?_append_right (by omega)] at hr
    have hi0:i - b.elems.length=0:=by
     rcases Nat.eq_zero_or_pos (i - b.elems.length) with h | h
     ·exact h
     ·rw[List.getElem?_eq_none (by simp;omega)] at hr;cases hr
    rw[hi0] at hr
    rw[Array.getElem?_push,if_pos (by omega)] at he
    simp at hr he
    subst hr he
    exact hnewrow { key:=.agg vs,val:=.bool bv,born:=clk }
 ·have k2':es[j]?=some e:=by simpa using k2
  obtain⟨us',bb,g1,g2,g3,g4,g5⟩:=hrow j r e k3 k2
  rw[k6] at g3
  injection g3 with g3
  subst g3
  have hsame:Instr.sameBits 10000 (.agg us) (.agg vs)=true:=Md2 (m:=9999) hcov hkinds e3 g2 e4 g5 k7
  have hso:=vb2 E.P (.map (es.modify j fun e=>{ e with key:=.agg vs,val:=.bool bv }) clk) m4
  refine .skip (w':=w.putObj (ρ id).blk (.map (es.modify j fun e=>{ e with key:=.agg vs,val:=.bool bv }) clk)) ?_ (hfin _ _ ?_ ?_ ?_)
  ·simp[execOp,ho,Instr.mapUpdate,run_underlying hu,h5,e1,e5,hgo,hck,k1,k2',k6,Instr.keyThatStays,hsame,hso]
  ·rw[k5];simp[m5]
  ·simp[m5]
  ·intro i r' e' hr he
   rw[k5] at hr
   rw[Array.getElem?_modify] at he
   by_cases hi:j=i
   ·subst hi
    rw[if_pos rfl,k2'] at he
    have hj:=(List.getElem?_eq_some_iff.1 k3).1
    rw[List.getElem?_set_self hj] at hr
    simp at hr he
    subst hr he
    exact hnewrow e
   ·rw[if_neg hi] at he
    rw[List.getElem?_set_ne hi] at hr
    exact m6 i r' e' hr he
end
end
end Go.Ev
namespace Go.Ev
open Go
def xd4 (pr:List Nat):Operand→Option Nat
 | .tmp p=>if pr.contains p then some p else none
 | _=>none
def Xd2 (pr:List Nat) (o:Oper):Bool:=match o.dst with
 | some d=>pr.contains d
 | none=>false
def ob9 (b:Bool) (x:SP):SP:=match b with
 | true=>x
 | false=>.bad
structure Ne4 where
 kt:TypeId
 el:TypeId
 fl:List (Nat×CK)
def Xd3 (P:Program) (t:TypeId):Option Ne4:=match P.underlying t with
 | some (.map kt el)=>match U0 P 9 kt with
  | some fl=>match agT P kt&&vb0 fl (szT P kt) with
   | true=>some ⟨kt,el,fl⟩
   | false=>none
  | none=>none
 | _=>none
def cSp (P:Program) (n:Nat) (pr:List Nat) (o:Oper):Option SP :=
 match o.op with
 | .alloc t=>match Xd2 pr o with
  | true=>match zeT P t with
   | some z=>some (.balloc z)
   | none=>some .bad
  | false=>none
 | .box _ x=>match Xd2 pr o with
  | true=>some (ob9 (ltO n x) (.bbox (g9 x)))
  | false=>none
 | .load t x=>match xd4 pr x with
  | some p=>some (ob9 (Nat.blt p n&&(P.underlying t).isSome) (.bload (szT P t) (agT P t) p))
  | none=>none
 | .store t x y=>match xd4 pr x with
  | some p=>some (ob9 (Nat.blt p n&&ltO n y&&!Nat.beq (szT P t) 0) (.bstore (szT P t) p (g9 y)))
  | none=>none
 | .fieldAddr s x f=>match xd4 pr x with
  | some p=>match P.underlying s with
   | some (.struct fs)=>match fs[f]? with
    | some fd=>some (ob9 (Nat.blt p n&&!Nat.beq (szT P fd.type) 0) (.bfld fd.offset p))
    | none=>some .bad
   | _=>some .bad
  | none=>none
 | .move x=>match xd4 pr x with
  | some p=>some (ob9 (Nat.blt p n) (.bmv p))
  | none=>none
 | .assign x=>match xd4 pr x with
  | some p=>some (ob9 (Nat.blt p n) (.bmv p))
  | none=>none
 | .makeMap t none=>match Xd3 P t with
  | some _=>some (.mmake t)
  | none=>some .bad
 | .lookup t (.tmp m) y false=>match Xd3 P t with
  | some q=>some (ob9 (Nat.blt m n&&ltO n y&&Wd7 P q.el) (.mlook t (szT P q.kt) q.fl m (g9 y)))
  | none=>some .bad
 | .mapUpdate t (.tmp m) y z=>match Xd3 P t with
  | some q=>some (ob9 (Nat.blt m n&&ltO n y&&ltO n z) (.mupd t (szT P q.kt) q.fl m (g9 y) (g9 z)))
  | none=>some .bad
 | .call c=>match c.callee with
  | .builtin .append=>match Xd2 pr o with
   | true=>match c.args.toList,c.argTypes.toList with
    | [s,x],[t,u]=>match P.underlying t with
     | some (.slice e)=>some (ob9 (Nat.blt 0 (szT P e)&&Nat.beq t u) (.old n (.apre (szT P e) (g9 s) (g9 x))))
     | _=>some .bad
    | _,_=>some .bad
   | false=>none
  | .builtin .clear=>match c.args.toList,c.argTypes.toList with
   | [x],[t]=>match P.underlying t with
    | some (.slice e)=>match zeT P e with
     | some z=>some (ob9 (Nat.blt 0 (szT P e)) (.old n (.clr (szT P e) z (g9 x))))
     | none=>some .bad
    | _=>some .bad
   | _,_=>some .bad
  | _=>none
 | _=>none
structure Rd where
 nOut:Nat
 ps:List Nat
 asq:PC
 body:PC
abbrev HL:=List (Nat×Option (Nat×Bool))
def Xd4:Option (Nat×Bool)→Option (Nat×Bool)→Bool
 | none,_=>true
 | some (d,b),some (d',b')=>Nat.beq d d'&&(b==b')
 | some _,none=>false
def Xd5 (S:HL) (t:Nat) (g:Option (Nat×Bool)):Bool:=S.any fun p=>Nat.beq p.1 t&&Xd4 p.2 g
def Qb1 (ops:Array Oper) (S:HL) (o:Oper):Option (List Operand):=match o.op with
 | .call c=>match c.callee with
  | .value (.tmp t)=>match R5 ops o with
   | some g=>if Xd5 S t g then some c.args.toList else none
   | none=>none
  | _=>none
 | _=>none
def xc5 (ops:Array Oper) (S:HL) (o:Oper):Option (Nat×Option (Nat×Bool)):=match o.op,o.dst with
 | .move (.tmp t),some d=>match R5 ops o with
  | some g=>if Xd5 S t g then some (d,g) else none
  | none=>none
 | _,_=>none
def gOk (n:Nat):Option (Nat×Bool)→Bool
 | none=>true
 | some (d,_)=>Nat.blt d n
def dOk (n:Nat):Option Nat→Bool
 | none=>true
 | some d=>Nat.blt d n
def rmL (S:HL) (dd:List Nat):HL:=S.filter fun p=>!dd.contains p.1&&match p.2 with
 | none=>true
 | some (d,_)=>!dd.contains d
def rmD (S:HL):Option Nat→HL
 | none=>S
 | some d=>rmL S [d]
def Kb4 (l:List Oper):List Nat:=l.filterMap (·.dst)
def Yb4 (p:Oper→Bool):List Oper→Nat
 | []=>0
 | o::r=>match p o with
  | true=>Yb4 p r+1
  | false=>0
def kd5 (P:Program) (n:Nat) (pr:List Nat) (ops:Array Oper) (S:HL) (o:Oper):Bool:=(cSp P n pr o).isNone&&(Qb1 ops S o).isNone&&(xc5 ops S o).isNone
def Xd6 (l r:HL):Bool:=l.all fun p=>Xd5 r p.1 p.2
def kd6 (P:Program) (n:Nat) (pr:List Nat) (yl:Option Rd) (S0:HL) (ops:Array Oper):Nat→List Oper→HL→PC
 | 0,_,_=>.bad
 | _+1,[],S=>match Xd6 S0 S with
  | true=>.skip
  | false=>.bad
 | f+1,o::r,S=>match Qb1 ops S o with
  | some args=>match yl,R5 ops o with
   | some rd,some g=>match gOk n g&&dOk n o.dst&&args.all (ltO n)&&Nat.beq args.length rd.ps.length with
    | true=>.seq (.round o.dst g (args.map g9) n rd.nOut rd.ps rd.asq rd.body) (kd6 P n pr yl S0 ops f r (rmD S o.dst))
    | false=>.bad
   | _,_=>.bad
  | none=>match xc5 ops S o with
   | some (d,g)=>match Nat.blt d n with
    | true=>.seq (.mask n [d] (.ops [⟨some d,none,[],.mv (.c .unk)⟩])) (kd6 P n pr yl S0 ops f r ((d,g)::rmL S [d]))
    | false=>.bad
   | none=>match cSp P n pr o with
    | some so=>match R5 ops o with
     | some g=>match gOk n g&&dOk n o.dst with
      | true=>.seq (.sp o.dst g so) (kd6 P n pr yl S0 ops f r (rmD S o.dst))
      | false=>.bad
     | none=>.bad
    | none=>match Db5 P ops (o::r.take (Yb4 (kd5 P n pr ops S) r)) with
     | some l=>.seq (.mask n (Kb4 (o::r.take (Yb4 (kd5 P n pr ops S) r))) (.ops l)) (kd6 P n pr yl S0 ops f (r.drop (Yb4 (kd5 P n pr ops S) r)) (rmL S (Kb4 (o::r.take (Yb4 (kd5 P n pr ops S) r)))))
     | none=>.bad
def oa2 (P:Program) (n:Nat) (pr:List Nat) (yl:Option Rd) (S0:HL) (kp:Nat→List Nat) (rf:Operand→Array Tmp→Code→Code→PC) (cur:Nat):Code→PC
 | .skip=>.skip
 | .region _ ops d=>match d with
  | false=>kd6 P n pr yl S0 ops (ops.size+1) ops.toList S0
  | true=>match Xd6 S0 (rmL S0 (Kb4 ops.toList)) with
   | true=>.mask n (Kb4 ops.toList) (Ta4 P ops)
   | false=>.bad
 | .seq a b=>.seq (oa2 P n pr yl S0 kp rf cur a) (oa2 P n pr yl S0 kp rf cur b)
 | .cond c x y=>match ltO n c with
  | true=>.cond (g9 c) (oa2 P n pr yl S0 kp rf cur x) (oa2 P n pr yl S0 kp rf cur y)
  | false=>.bad
 | .block id c=>.block id (oa2 P n pr yl S0 kp rf id c)
 | .loop c=>.loopM (kp cur) (oa2 P n pr yl S0 kp rf cur c)
 | .label _=>.skip
 | .exit id=>.exit id
 | .ret=>.ret
 | .rangeFunc g ps asq body=>rf g ps asq body
 | _=>.bad
structure Ic5 where
 pr:List Nat
 kp:List (Nat×List Nat)
 fi:FuncId
 ki:List (Nat×List Nat)
def Md3 (l:List (Nat×List Nat)) (id:Nat):List Nat:=match l.find? fun p=>Nat.beq p.1 id with
 | some p=>p.2
 | none=>[]
def Qb2 (_:Operand) (_:Array Tmp) (_ _:Code):PC:=.bad
def Ne5 (P:Program) (h:Ic5) (n:Nat) (ps:Array Tmp) (asq body:Code):Rd :=
 ⟨n,ps.toList,oa2 P n h.pr none [] (Md3 h.kp) Qb2 0 asq,oa2 P n h.pr none [] (Md3 h.kp) Qb2 0 body⟩
def xd5 (P:Program) (h:Ic5) (fnI:Func) (cI:Code) (n:Nat) (g:Operand) (ps:Array Tmp) (asq body:Code):PC :=
 match ltO n g&&Nat.beq fnI.results.size 0&&ps.toList.all (fun p=>Nat.blt p n) with
 | true=>.inner h.fi (g9 g) fnI.ntmps (oa2 P fnI.ntmps [] (some (Ne5 P h n ps asq body)) [(0,none)] (Md3 h.ki) Qb2 0 cI)
 | false=>.bad
def Va0 (P:Program) (h:Ic5) (fnI fn:Func):Option PFn :=
 match fn.body,fnI.body with
 | some c,some cI =>
  if fn.results.toList.all (fd2 P) then some ⟨fn.ntmps,fn.results.toList.map (tc2 P),oa2 P fn.ntmps h.pr none [] (Md3 h.kp) (xd5 P h fnI cI fn.ntmps) 0 c⟩ else none
 | _,_=>none
noncomputable def kd7 (H:List b9):Bool:=List.rec (motive:=fun _=>Bool) true (fun b _ ih=>Bool.rec (motive:=fun _=>Bool) ih false (B9 b)) H
noncomputable def mb6 (E:Env) (fn:PFn) (args:List b7) (blks:List b9):DT (b7×List b9) :=
 .guard (Bool.and (kd7 blks) (Nat.ble (len args) fn.ntmps)) ((J9 E (len blks) fn.body ⟨app args (List.replicate (fn.ntmps - len args) (.v (.tuple #[]))),blks⟩).bind fun r =>
  match r.1 with
  | .exit _=>.fail
  | _=>match Ka9 (Ma5 (r5 (ba8 r.2.H) r.2.a) (n4 r.2.H)) fn.res with
   | some l=>.guard (kd7 (A3 r.2.H (len blks))) (sb1 (len blks) (n4 r.2.H) (db5 l))
   | none=>.fail)
end Go.Ev
namespace Go.Ev
open Go
section
variable {WB K:Nat→Prop} {J:List Value→World→Prop} {DF:List Deferred→Prop} {S:HL} {rv:Value} {ρ ρ0:Rho} {H H0 H':List b9} {F F0:Fz} {w w0 w':World} {W':Nat→Prop} {up:List Value} {E:Env} {a:List b7} {s s':St} {ac:Act} {x:b7} {o:Oper} {n:Nat}
def pb0 (tmps:Array Value):Option (Nat×Bool)→Prop
 | none=>True
 | some (d,b)=>tmps[d]?=some (.bool b)
structure I3 (P:Program) (WB K:Nat→Prop) (J:List Value→World→Prop) (n:Nat) (S:HL) (rv:Value) (DF:List Deferred→Prop) (ρ0:Rho) (H0:List b9) (F0:Fz) (w0:World) (s:St) (ac:Act) (w:World):Prop where
 inv:Ld7 P WB K J n ρ0 H0 F0 w0 s ac w
 held:∀ p∈S,pb0 ac.tmps p.2→ac.tmps[p.1]?=some rv
 df:DF ac.defers
theorem na2 {b:Bool} {so:SP} (h:(kb7 E a H (ob9 b so)).run=some (x,H')):b=true∧ob9 b so=so:=by
 cases b with
 | true=>exact⟨rfl,rfl⟩
 | false=>cases h
theorem hb7 {pr:List Nat} {y:Operand} {p:Nat} (h:xd4 pr y=some p):y=.tmp p:=by
 unfold xd4 at h
 split at h
 ·split at h
  ·injection h with h;rw[h]
  ·cases h
 ·cases h
theorem Yb5 {P:Program} {t:TypeId} {q:Ne4} (h:Xd3 P t=some q):P.underlying t=some (.map q.kt q.el)∧U0 P 9 q.kt=some q.fl∧agT P q.kt=true∧vb0 q.fl (szT P q.kt)=true:=by
 unfold Xd3 at h
 split at h
 ·rename_i kt el hu
  split at h
  ·rename_i fl hf
   split at h
   ·rename_i hc
    injection h with h
    subst h
    rw[Bool.and_eq_true] at hc
    exact⟨hu,hf,hc.1,hc.2⟩
   ·cases h
  ·cases h
 ·cases h
theorem Qb3 {k:Nat} (h:(!Nat.beq k 0)=true):k≠0:=fun e=>by subst e;cases h
theorem VR.arel (hv:VR ρ H F w a (ac.tmps.toList++up)) (hn:ac.tmps.size=n):ja9 ρ (n4 H) F w (r5 (ba8 H) (A3 a n)) ac.tmps:=by
 have hl:=hv.1
 have hsz:ac.tmps.toList.length=ac.tmps.size:=Array.length_toList
 rw[List.length_append] at hl
 rw[o1,I5]
 refine⟨by rw[List.length_map,List.length_take];omega,fun i x x' hx hx'=>?_⟩
 rw[List.getElem?_map] at hx
 have hi:i < n:=hn ▸ (Array.getElem?_eq_some_iff.1 hx').1
 rw[List.getElem?_take,if_pos hi] at hx
 cases hy:a[i]? with
 | none=>rw[hy] at hx;cases hx
 | some y =>
  rw[hy] at hx
  injection hx with hx
  subst hx
  refine Qc2 (hv.2 i y x' hy ?_)
  rw[List.getElem?_append_left (by rw[Array.length_toList];omega)]
  simpa using hx'
theorem Xd7 {px : PO} {ds : List Deferred} (hC : C2 E.P WB K J ρ0 H0 F0 w0 H ds w ρ F W' up) (hJ : Kb3 K J)
  (hop:∀ H1,(evalOp E (r5 (ba8 H) (A3 a n)) (n4 H) px).run=some (x,H1)→i5 E.P o ac w (K9 W' ρ (n4 H) F w x H1)) (he:(kb7 E a H (.old n px)).run=some (x,H')):i5 E.P o ac w (hb6 E.P WB K J ρ0 H0 F0 w0 ρ H F w up ds x H'):=by
 obtain⟨⟨x1,H1⟩,h1,h2⟩:=DT.run_bind_some (show ((evalOp E (r5 (ba8 H) (A3 a n)) (n4 H) px).bind fun r=>.guard (Nb1 H r.2) (.ret (r.1,w6 H r.2))).run=some (x,H') from he)
 obtain⟨hok,h2⟩:=DT.run_guard_some h2
 have h2:some (x1,w6 H H1)=some (x,H'):=h2
 injection h2 with h2;injection h2 with e1 e2;subst e1 e2
 intro next Q hp
 refine hop H1 h1 next Q fun x' w' ⟨ρ',F',k1,k2,k3⟩=>hp x' w' ?_
 obtain⟨c1,c2⟩:=hC.step hJ k1 hok k2
 exact⟨_,F',W',c1,c2,.w (xd2 k1 hok k3)⟩
theorem ze6 {α:Type} {l:Array α} {a b:α} (h:l.toList=[a,b]):l=#[a,b]:=by
 apply Array.ext'
 simpa using h
theorem ze7 {α:Type} {l:Array α} {a:α} (h:l.toList=[a]):l=#[a]:=by
 apply Array.ext'
 simpa using h
theorem Ne6 {pr : List Nat} {so : SP} {ds : List Deferred} (hC : C2 E.P WB K J ρ0 H0 F0 w0 H ds w ρ F W' up) (hJ : Kb3 K J) (hv : VR ρ H F w a (ac.tmps.toList ++ up)) (hn : ac.tmps.size = n) (hG : GOk E F w)
  (hs:cSp E.P n pr o=some so) (he:(kb7 E a H so).run=some (x,H')):i5 E.P o ac w (hb6 E.P WB K J ρ0 H0 F0 w0 ρ H F w up ds x H'):=by
 unfold cSp at hs
 split at hs
 ·rename_i t ho
  split at hs
  ·split at hs
   ·rename_i z hz
    injection hs with hs;subst hs
    exact Ld8 hC hJ ho hz he
   ·injection hs with hs;subst hs;cases he
  ·cases hs
 ·rename_i t y ho
  split at hs
  ·injection hs with hs;subst hs
   obtain⟨h1,h2⟩:=na2 he
   rw[h2] at he
   exact pe4 hC hJ hv hn hG ho h1 he
  ·cases hs
 ·rename_i t y ho
  split at hs
  ·rename_i p hp
   injection hs with hs;subst hs
   obtain⟨h1,h2⟩:=na2 he
   rw[h2] at he
   rw[Bool.and_eq_true] at h1
   rw[hb7 hp] at ho
   exact Wd3 hC hv hn hG ho h1.1 (fun e=>by rw[e] at h1;cases h1.2) he
  ·cases hs
 ·rename_i t y z ho
  split at hs
  ·rename_i p hp
   injection hs with hs;subst hs
   obtain⟨h1,h2⟩:=na2 he
   rw[h2] at he
   rw[Bool.and_eq_true,Bool.and_eq_true] at h1
   rw[hb7 hp] at ho
   exact Ld9 hC hJ hv hn hG ho h1.1.1 h1.1.2 (Qb3 h1.2) he
  ·cases hs
 ·rename_i st y f ho
  split at hs
  ·rename_i p hp
   split at hs
   ·rename_i fs hu
    split at hs
    ·rename_i fd hf
     injection hs with hs;subst hs
     obtain⟨h1,h2⟩:=na2 he
     rw[h2] at he
     rw[Bool.and_eq_true] at h1
     rw[hb7 hp] at ho
     exact pe6 hC hv hn hG ho h1.1 hu hf (Qb3 h1.2) he
    ·injection hs with hs;subst hs;cases he
   ·injection hs with hs;subst hs;cases he
  ·cases hs
 ·rename_i y ho
  split at hs
  ·rename_i p hp
   injection hs with hs;subst hs
   obtain⟨h1,h2⟩:=na2 he
   rw[h2] at he
   rw[hb7 hp] at ho
   exact Wd4 hC hv hn hG (.inl ho) h1 he
  ·cases hs
 ·rename_i y ho
  split at hs
  ·rename_i p hp
   injection hs with hs;subst hs
   obtain⟨h1,h2⟩:=na2 he
   rw[h2] at he
   rw[hb7 hp] at ho
   exact Wd4 hC hv hn hG (.inr ho) h1 he
  ·cases hs
 ·rename_i t ho
  split at hs
  ·rename_i q hq
   injection hs with hs;subst hs
   obtain⟨h1,h2,_,_⟩:=Yb5 hq
   exact Xd0 hC hJ ho h1 h2 he
  ·injection hs with hs;subst hs;cases he
 ·rename_i t m y ho
  split at hs
  ·rename_i q hq
   injection hs with hs;subst hs
   obtain⟨h1,h2,h3,h4⟩:=Yb5 hq
   obtain⟨k1,k2⟩:=na2 he
   rw[k2] at he
   rw[Bool.and_eq_true,Bool.and_eq_true] at k1
   exact Xd1 hC hv hn hG ho k1.1.1 k1.1.2 h1 h3 h2 h4 k1.2 he
  ·injection hs with hs;subst hs;cases he
 ·rename_i t m y z ho
  split at hs
  ·rename_i q hq
   injection hs with hs;subst hs
   obtain⟨h1,h2,h3,h4⟩:=Yb5 hq
   obtain⟨k1,k2⟩:=na2 he
   rw[k2] at he
   rw[Bool.and_eq_true,Bool.and_eq_true] at k1
   exact pe7 hC hJ hv hn hG ho k1.1.1 k1.1.2 k1.2 h1 h3 h2 h4 he
  ·injection hs with hs;subst hs;cases he
 ·rename_i c ho
  split at hs
  ·rename_i hcb
   split at hs
   ·split at hs
    ·rename_i y z t u hargs htys
     split at hs
     ·rename_i e hu
      injection hs with hs;subst hs
      obtain⟨k1,k2⟩:=na2 he
      rw[k2] at he
      rw[Bool.and_eq_true,Nat.blt_eq] at k1
      have htu:=Nat.eq_of_beq_eq_true k1.2
      subst htu
      obtain⟨ti,hi,hi0,hi1⟩:=qc2 (Nat.ne_of_gt k1.1)
      refine Xd7 hC hJ (fun H1 h1=>?_) he
      exact tc5 (hv.arel hn) hC.hrel hG ho hcb (ze6 hargs) (ze6 htys) hu hi (by omega) h1
     ·injection hs with hs;subst hs;cases he
    ·injection hs with hs;subst hs;cases he
   ·cases hs
  ·rename_i hcb
   split at hs
   ·rename_i y t hargs htys
    split at hs
    ·rename_i e hu
     split at hs
     ·rename_i z hz
      injection hs with hs;subst hs
      obtain⟨k1,k2⟩:=na2 he
      rw[k2] at he
      rw[Nat.blt_eq] at k1
      refine Xd7 hC hJ (fun H1 h1=>?_) he
      exact Oc4 (hv.arel hn) hC.hrel hG ho hcb (ze7 hargs) (ze7 htys) hu hz k1 h1
     ·injection hs with hs;subst hs;cases he
    ·injection hs with hs;subst hs;cases he
   ·injection hs with hs;subst hs;cases he
  ·cases hs
 ·cases hs
theorem VR.putA (hv:VR ρ H F w a (ac.tmps.toList++up)) (hn:ac.tmps.size=n) {dst:Option Nat} (hd:dOk n dst=true) {x':Value} (hx:XW ρ H F w x x'):VR ρ H F w (Ev.putA a dst x) ((ac.put dst x').tmps.toList++up):=by
 rw[Ab9]
 cases dst with
 | none=>exact hv
 | some d =>
  have hd:d < n:=by have:=hd;unfold dOk at this;rwa [Nat.blt_eq] at this
  have e:(ac.put (some d) x').tmps.toList++up=(ac.tmps.toList++up).set d x':=by
   rw[List.set_append_left _ _ (by rw[Array.length_toList];omega)]
   simp[Act.put]
  rw[e]
  refine⟨by simp only[List.length_set];exact hv.1,fun i y y' hy hy'=>?_⟩
  rw[List.getElem?_set] at hy hy'
  by_cases hi:d=i
  ·subst hi
   have hl:d < (ac.tmps.toList++up).length:=by rw[List.length_append,Array.length_toList];omega
   rw[if_pos rfl,if_pos (hv.1 ▸ hl)] at hy
   rw[if_pos rfl,if_pos hl] at hy'
   injection hy with hy;injection hy' with hy'
   subst hy hy'
   exact hx
  ·rw[if_neg hi] at hy hy'
   exact hv.2 i y y' hy hy'
theorem VR.tr {vs:List Value} {ρ':Rho} {F':Fz} (hv:VR ρ H F w a vs) (ht:Tr ρ H F w ρ' H' F' w'):VR ρ' H' F' w' a vs:=⟨hv.1,fun i x x' hx hx'=>ht _ _ (hv.2 i x x' hx hx')⟩
theorem VR.at (hv:VR ρ H F w a (ac.tmps.toList++up)) (hn:ac.tmps.size=n) {t:Nat} (ht:t < n):∃ x',ac.tmps[t]?=some x'∧XW ρ H F w (c8 E a (.t t)) x':=by
 have hl:=hv.1
 have hsz:ac.tmps.toList.length=ac.tmps.size:=Array.length_toList
 rw[List.length_append] at hl
 have h1:t < a.length:=by omega
 have h2:t < ac.tmps.size:=by omega
 refine⟨ac.tmps[t],by simp[h2],?_⟩
 rw[Ia9,List.getElem?_eq_getElem h1]
 refine hv.2 t _ _ (List.getElem?_eq_getElem h1) ?_
 rw[List.getElem?_append_left (by rw[Array.length_toList];exact h2)]
 simp[h2]
theorem Fb8 {ops : Array Oper} {g : Option (Nat × Bool)} {d : St → DT St} (hg : R5 ops o = some g) (hgn : gOk n g = true) (hv : VR ρ H F w s.a (ac.tmps.toList ++ up)) (hn : ac.tmps.size = n) (he : (pc8 E s o.dst g d).run = some s') :
  (Region.wanted o (yielded ops ac.tmps)=true∧(d s).run=some s')∨(Region.wanted o (yielded ops ac.tmps)=false∧s'=⟨putA s.a o.dst (.v (.tuple #[])),s.H⟩):=by
 unfold R5 at hg
 unfold Region.wanted
 cases hgo:o.guard with
 | none =>
  simp only[hgo] at hg ⊢
  injection hg with hg
  subst hg
  exact .inl ⟨trivial,he⟩
 | some jw =>
  obtain⟨j,want⟩:=jw
  simp only[hgo] at hg ⊢
  cases hj:ops[j]? with
  | none=>simp[hj] at hg
  | some oj =>
  simp only[hj] at hg
  cases hd:oj.dst with
  | none=>simp[hd] at hg
  | some dd =>
  simp only[hd] at hg
  injection hg with hg
  subst hg
  have hdn:dd < n:=by have:=hgn;unfold gOk at this;rwa [Nat.blt_eq] at this
  obtain⟨u',hu1,hu2⟩:=hv.at (E:=E) hn hdn
  have he':(match c8 E s.a (.t dd) with
   | .v (.bool b) => Bool.rec (motive := fun _ => DT St)
     (.ite b (.ret ⟨putA (setAt s.a dd (.v (.bool true))) o.dst (.v (.tuple #[])),s.H⟩) (d ⟨setAt s.a dd (.v (.bool false)),s.H⟩))
     (.ite b (d ⟨setAt s.a dd (.v (.bool true)),s.H⟩) (.ret ⟨putA (setAt s.a dd (.v (.bool false))) o.dst (.v (.tuple #[])),s.H⟩)) want
   | .v (.tuple _)=>.ret ⟨putA s.a o.dst (.v (.tuple #[])),s.H⟩
   | _=>.fail).run=some s':=he
  have hset:∀ b,c8 E s.a (.t dd)=.v (.bool b)→setAt s.a dd (.v (.bool b))=s.a:=fun b h=>hd9 (E:=E) (by simp) h
  revert he' hu2 hset
  generalize c8 E s.a (.t dd)=u
  intro hu2 he' hset
  split at he'
  ·rename_i b
   have hb:=Md0 hu2
   subst hb
   rw[lb4 hj hd hu1]
   have hs:=hset b rfl
   cases want<;>cases b
   ·rw[hs] at he';exact .inl ⟨rfl,he'⟩
   ·refine .inr ⟨rfl,?_⟩
    rw[hs] at he'
    exact (Option.some.inj he').symm
   ·refine .inr ⟨rfl,?_⟩
    rw[hs] at he'
    exact (Option.some.inj he').symm
   ·rw[hs] at he';exact .inl ⟨rfl,he'⟩
  ·rename_i vs
   have hb:=Md0 hu2
   subst hb
   rw[db7 hj hd hu1]
   exact .inr ⟨rfl,(Option.some.inj he').symm⟩
  ·cases he'
theorem xc6 {a a':Array Value} {dd:List Nat} (h:∀ p∈S,pb0 a p.2→a[p.1]?=some rv) (hs:∀ t,¬ t∈dd→a'[t]?=a[t]?):∀ p∈rmL S dd,pb0 a' p.2→a'[p.1]?=some rv:=by
 intro p hp hg
 simp only[rmL,List.mem_filter,Bool.and_eq_true] at hp
 obtain⟨h1,h2,h3⟩:=hp
 rw[hs p.1 (by simpa using h2)]
 refine h p h1 ?_
 obtain⟨t,g⟩:=p
 cases g with
 | none=>trivial
 | some q =>
  obtain⟨d,b⟩:=q
  have h3:¬ d∈dd:=by simpa using h3
  exact (hs d h3).symm.trans hg
theorem Va1 {dst:Option Nat} {v:Value} (h:∀ p∈S,pb0 ac.tmps p.2→ac.tmps[p.1]?=some rv):∀ p∈rmD S dst,pb0 (ac.put dst v).tmps p.2→(ac.put dst v).tmps[p.1]?=some rv:=by
 cases dst with
 | none=>exact h
 | some d=>exact xc6 h fun t ht=>Qb0 fun e=>by injection e with e;subst e;simp at ht
theorem xd6 {tmps:Array Value} {g g':Option (Nat×Bool)} (h:Xd4 g g'=true) (hg:pb0 tmps g'):pb0 tmps g:=by
 cases g with
 | none=>trivial
 | some q =>
  obtain⟨d,b⟩:=q
  cases g' with
  | none=>cases h
  | some q' =>
   obtain⟨d',b'⟩:=q'
   simp only[Xd4,Bool.and_eq_true,beq_iff_eq] at h
   have h1:=Nat.eq_of_beq_eq_true h.1
   obtain⟨_,h2⟩:=h
   subst h1 h2
   exact hg
theorem Yb6 {tmps:Array Value} {t:Nat} {g:Option (Nat×Bool)} (h:∀ p∈S,pb0 tmps p.2→tmps[p.1]?=some rv) (hs:Xd5 S t g=true) (hg:pb0 tmps g):tmps[t]?=some rv:=by
 simp only[Xd5,List.any_eq_true,Bool.and_eq_true] at hs
 obtain⟨p,h1,h2,h3⟩:=hs
 have:=h p h1 (xd6 h3 hg)
 rwa [Nat.eq_of_beq_eq_true h2] at this
theorem vb3 {ops:Array Oper} {o:Oper} {g:Option (Nat×Bool)} {tmps:Array Value} (hg:R5 ops o=some g):Region.wanted o (yielded ops tmps)=true↔pb0 tmps g:=by
 unfold R5 at hg
 unfold Region.wanted
 cases hgo:o.guard with
 | none =>
  simp only[hgo] at hg ⊢
  injection hg with hg
  subst hg
  exact⟨fun _=>trivial,fun _=>trivial⟩
 | some jw =>
  obtain⟨j,want⟩:=jw
  simp only[hgo] at hg ⊢
  cases hj:ops[j]? with
  | none=>simp[hj] at hg
  | some oj =>
  simp only[hj] at hg
  cases hd:oj.dst with
  | none=>simp[hd] at hg
  | some d =>
  simp only[hd] at hg
  injection hg with hg
  subst hg
  simp only[yielded,hj,Option.bind_some,hd,pb0]
  cases tmps[d]? with
  | none=>simp
  | some v=>cases v<;>simp
theorem Fe8 {Fe : Fence} {m i : Nat} {pr : List Nat} {so : SP} {g : Option (Nat × Bool)} {ops : Array Oper} {rest : List Nat} {Q : Exit → Act → World → Prop} (hF : FW Fe) (hG0 : GOk E F0 w0) (hJ : Kb3 K J) (hi : ops[i]? = some o)
  (hs:cSp E.P n pr o=some so) (hg:R5 ops o=some g) (hgn:gOk n g=true) (hdn:dOk n o.dst=true) (hI:I3 E.P WB K J n S rv DF ρ0 H0 F0 w0 s ac w) (he:(td8 E s o.dst g so).run=some s')
  (hQ:∀ ac' w',I3 E.P WB K J n (rmD S o.dst) rv DF ρ0 H0 F0 w0 s' ac' w'→wpOpsIn Fe m E.P ops Q rest ac' w'):wpOpsIn Fe m E.P ops Q (i::rest) ac w:=by
 obtain⟨⟨ρ,F,W',up,hI2⟩,hheld,hdf⟩:=hI
 simp only[wpOpsIn,hi]
 rcases Fb8 hg hgn hI2.vals hI2.size he with⟨hw,he⟩ | ⟨hw,rfl⟩
 ·rw[if_pos hw]
  obtain⟨⟨x,H'⟩,h1,h2⟩:=DT.run_bind_some he
  have h2:some (⟨putA s.a o.dst x,H'⟩:St)=some s':=h2
  injection h2 with h2
  subst h2
  have hop:=Ne6 (ac:={ ac with defers:=[] }) (ds:=ac.defers) hI2.core hJ hI2.vals hI2.size (hG0.adv hI2.core.adv) hs h1
  refine hop.inAny hF m _ _ fun x' w' hp=>?_
  obtain⟨ρ',F',W'',c1,c2,c3⟩:=hp
  exact hQ _ _ ⟨⟨ρ',F',W'',up,by rw[r6];exact c1,(hI2.vals.tr c2).putA hI2.size hdn c3,(ja0 _ _).trans hI2.size⟩,Va1 hheld,by rw[r6];exact hdf⟩
 ·rw[if_neg (by simp[hw])]
  refine⟨fun f _=>hF.fn f,hQ _ _ ⟨⟨ρ,F,W',up,by rw[r6];exact hI2.core,hI2.vals.putA hI2.size hdn (.w (.ofv _)),(ja0 _ _).trans hI2.size⟩,Va1 hheld,by rw[r6];exact hdf⟩⟩
theorem Xd8 {Fe : Fence} {m i d k : Nat} {g : Option (Nat × Bool)} {ops : Array Oper} {rest : List Nat} {Q : Exit → Act → World → Prop} {xx : e7} (hF : FW Fe) (hG0 : GOk E F0 w0) (hcalls : ∀ f, g8 E.P E.G f (E.call f)) (hJ : Kb3 K J) (hi : ops[i]? = some o)
  (hc:xc5 ops S o=some (d,g)) (hdn:d < n) (hI:I3 E.P WB K J n S rv DF ρ0 H0 F0 w0 s ac w) (he:(J9 E k (.mask n [d] (.ops [⟨some d,none,[],.mv (.c .unk)⟩])) s).run=some (xx,s'))
  (hQ:xx=.normal→∀ ac' w',I3 E.P WB K J n ((d,g)::rmL S [d]) rv DF ρ0 H0 F0 w0 s' ac' w'→wpOpsIn Fe m E.P ops Q rest ac' w'):wpOpsIn Fe m E.P ops Q (i::rest) ac w:=by
 obtain⟨⟨ρ,F,W',up,hI2⟩,hheld,hdf⟩:=hI
 unfold xc5 at hc
 split at hc
 case h_2=>cases hc
 rename_i t d' ho hd
 split at hc
 case h_2=>cases hc
 rename_i g' hg
 split at hc
 case isFalse=>cases hc
 rename_i hS
 injection hc with hc
 injection hc with e1 e2
 subst e1 e2
 simp only[wpOpsIn,hi]
 have he':((J9 E k (.ops [⟨some d',none,[],.mv (.c .unk)⟩]) ⟨r5 (ba8 s.H) (A3 s.a n),n4 s.H⟩).bind fun r=>.guard (Nb1 s.H r.2.H) (.ret (r.1,⟨ia1 [d'] s.a r.2.a 0,w6 s.H r.2.H⟩))).run=some (xx,s'):=he
 obtain⟨⟨x1,s1⟩,h1,h2⟩:=DT.run_bind_some he'
 obtain⟨hok,h2⟩:=DT.run_guard_some h2
 have h1:some (e7.normal,(⟨putA (r5 (ba8 s.H) (A3 s.a n)) (some d') .unk,n4 s.H⟩:St))=some (x1,s1):=h1
 injection h1 with h1;injection h1 with e1 e2;subst e1 e2
 have h2:some (e7.normal,(⟨ia1 [d'] s.a (putA (r5 (ba8 s.H) (A3 s.a n)) (some d') .unk) 0,w6 s.H (n4 s.H)⟩:St))=some (xx,s'):=h2
 injection h2 with h2;injection h2 with e1 e2;subst e1 e2
 obtain⟨c1,c2⟩:=hI2.core.step hJ .refl hok hI2.core.hrel
 have hvr:∀ v,VR (ρsp s.H ρ ρ) (w6 s.H (n4 s.H)) F w (ia1 [d'] s.a (putA (r5 (ba8 s.H) (A3 s.a n)) (some d') .unk) 0) ((ac.put o.dst v).tmps.toList++up):=fun v=>by
  refine⟨by rw[ub9];have:=hI2.vals.1;rw[List.length_append,Array.length_toList] at this ⊢;rw[ja0];exact this,fun i y y' hy hy'=>?_⟩
  rw[ub8] at hy
  cases hz:s.a[i]? with
  | none=>rw[hz] at hy;cases hy
  | some z =>
   rw[hz] at hy
   injection hy with hy
   rw[Nat.zero_add] at hy
   by_cases hid:i=d'
   ·subst hid
    have hm:La0 i [i]=true:=(xc4 _ _).2 (by simp)
    rw[hm] at hy
    have hy:((putA (r5 (ba8 s.H) (A3 s.a n)) (some i) .unk)[i]?).getD .unk=y:=hy
    rw[Ab9] at hy
    simp only[List.getElem?_set] at hy
    have:y=.unk:=by
     rw[← hy]
     simp only[if_true]
     split<;>rfl
    subst this
    exact .w (.unk _)
   ·have hm : La0 i [d'] = false := by
     cases h:La0 i [d'] with
     | false=>rfl
     | true=>exact absurd (by simpa using (xc4 _ _).1 h) hid
    rw[hm] at hy
    have hy:z=y:=hy
    subst hy
    refine c2 _ _ (hI2.vals.2 i z y' hz ?_)
    rw[hd] at hy'
    simpa [Act.put,List.getElem?_append,Array.getElem?_setIfInBounds_ne,Ne.symm hid] using hy'
 have hfin:∀ v,(Region.wanted o (yielded ops ac.tmps)=true→v=rv)→(Region.wanted o (yielded ops ac.tmps)=false→v=undef)→wpOpsIn Fe m E.P ops Q rest (ac.put o.dst v) w:=fun v hv1 hv2=>by
  refine hQ rfl _ _ ⟨⟨_,F,W',up,by rw[r6];exact c1,hvr v,(ja0 _ _).trans hI2.size⟩,fun p hp hgp=>?_,by rw[r6];exact hdf⟩
  have hlt:d' < ac.tmps.size:=Nat.lt_of_lt_of_eq hdn hI2.size.symm
  have hset:(ac.put (some d') v).tmps[d']?=some v:=by
   show (ac.tmps.setIfInBounds d' v)[d']?=some v
   exact Array.getElem?_setIfInBounds_self_of_lt hlt
  rcases List.mem_cons.1 hp with rfl | hp
  ·cases hw:Region.wanted o (yielded ops ac.tmps) with
   | true=>rw[hd,← hv1 hw];exact hset
   | false =>
    exfalso
    have hng:¬ pb0 ac.tmps g':=fun h=>by rw[(vb3 hg).2 h] at hw;cases hw
    cases g' with
    | none=>exact hng trivial
    | some q =>
     obtain⟨dg,b⟩:=q
     have hgq:(ac.put o.dst v).tmps[dg]?=some (.bool b):=hgp
     by_cases he:dg=d'
     ·subst he
      rw[hd,hset,hv2 hw] at hgq
      injection hgq with hgq
      cases hgq
     ·rw[Qb0 (fun e=>he (by rw[hd] at e;injection e with e;exact e.symm))] at hgq
      exact hng hgq
  ·have:=Va1 (dst:=some d') (v:=v) hheld p hp
   rw[hd] at hgp ⊢
   exact this hgp
 by_cases hw:Region.wanted o (yielded ops ac.tmps)=true
 ·rw[if_pos hw]
  have ht:=Yb6 hheld hS ((vb3 hg).1 hw)
  have hop:i5 E.P o { ac with defers:=[] } w (fun v w'=>v=rv∧w'=w):=by
   have hev:({ ac with defers:=[] }:Act).eval (.tmp t)=rv:=by
    show ac.tmps.getD t undef=rv
    have hlt:=(Array.getElem?_eq_some_iff.1 ht).1
    have:=(Array.getElem?_eq_some_iff.1 ht).2
    simp[Array.getD,hlt,this]
   exact .value (x':=rv) (w':=w) (by simp[execOp,ho,hev]) ⟨rfl,rfl⟩
  refine hop.inAny hF m _ _ fun v w' hp=>?_
  obtain⟨rfl,rfl⟩:=hp
  exact hfin _ (fun _=>rfl) fun h=>by rw[hw] at h;cases h
 ·rw[if_neg hw]
  exact⟨fun f _=>hF.fn f,hfin _ (fun h=>absurd h hw) fun _=>rfl⟩
end
end Go.Ev
namespace Go.Ev
open Go
section
variable {P:Program} {k:Nat} {WB K:Nat→Prop} {J:List Value→World→Prop} {DF:List Deferred→Prop} {S:HL} {rv:Value} {ρ ρ0:Rho} {H H0 H2:List b9} {F F0:Fz} {w w0:World} {W':Nat→Prop} {up:List Value} {E:Env} {R:List Nat} {n:Nat}
noncomputable def Xd9 (H:List b9) (x:b7) (r:List Nat):List Nat:=match x with
 | .ptr id _ _ g=>match blkAt H id g with
  | some _=>(pa5 r id).2
  | none=>r
 | .sl id _ _ g=>match blkAt H id g with
  | some _=>(pa5 r id).2
  | none=>r
 | _=>r
theorem Yd0 (H:List b9) (x:b7) (r:List Nat) (hr:TOk k r):TOk k (Xd9 H x r)∧TLe r (Xd9 H x r):=by
 have step:∀ id,TOk k (pa5 r id).2∧TLe r (pa5 r id).2:=fun id=>by
  obtain⟨h1,h2,_⟩:=hr.idx (id:=id) (j:=(pa5 r id).1) (r:=(pa5 r id).2) rfl
  exact⟨h1,h2⟩
 unfold Xd9
 split
 ·split
  ·exact step _
  ·exact⟨hr,.refl _⟩
 ·split
  ·exact step _
  ·exact⟨hr,.refl _⟩
 ·exact⟨hr,.refl _⟩
theorem kd8 (H:List b9):∀ (cs:List b7) (r:List Nat),TOk k r→TOk k (Cd3 H cs r)∧TLe r (Cd3 H cs r)
 | [],r,hr=>⟨hr,.refl _⟩
 | x::cs,r,hr=>by
  have hx:=Yd0 H x r hr
  obtain⟨h1,h2⟩:=kd8 H cs _ hx.1
  exact⟨h1,hx.2.trans h2⟩
noncomputable def Yd1 (H:List b9) (id:Nat) (r:List Nat):List Nat:=match nth H id with
 | some b=>match B9 b&&Nat.beq b.et 0 with
  | true=>Cd3 H (i6 b.elems 0) r
  | false=>r
 | none=>r
theorem Yd2 (H:List b9) (id:Nat) (r:List Nat) (hr:TOk k r):TOk k (Yd1 H id r)∧TLe r (Yd1 H id r):=by
 unfold Yd1
 split
 ·split
  ·exact kd8 H _ r hr
  ·exact⟨hr,.refl _⟩
 ·exact⟨hr,.refl _⟩
theorem kd9 (H:List b9):∀ (ids:List Nat) (r:List Nat),TOk k r→TOk k (Nc6 H ids r)∧TLe r (Nc6 H ids r)
 | [],r,hr=>⟨hr,.refl _⟩
 | id::ids,r,hr=>by
  have hx:=Yd2 H id r hr
  obtain⟨h1,h2⟩:=kd9 H ids _ hx.1
  exact⟨h1,hx.2.trans h2⟩
noncomputable def Ed7 (b:b9):b9:=Bool.rec (motive:=fun _=>b9) b { b with dead:=true } (B9 b)
theorem Yb7 (H:List b9):n4 H=H.map Ed7:=Ua7 H
theorem mb7:∀ {R:List Nat} {j:Nat} {H2:List b9},ua9 k H j R=some H2→ua9 k (n4 H) j R=some (n4 H2)
 | [],j,H2,h=>by
  simp only[ua9] at h ⊢
  injection h with h
  subst h
  rfl
 | id::R,j,H2,h=>by
  simp only[ua9,y6] at h ⊢
  cases hb:H[id]? with
  | none=>simp[hb] at h
  | some b =>
  simp only[hb] at h
  cases hr:ua9 k H (j+1) R with
  | none=>simp[hr] at h
  | some l =>
  simp only[hr] at h
  injection h with h
  subst h
  have e:(n4 H)[id]?=some (Ed7 b):=by rw[Yb7,List.getElem?_map,hb];rfl
  rw[e,mb7 hr]
  simp only[Yb7,List.map_cons]
  congr 2
  unfold Ed7
  cases Nat.blt j k<;>cases hs:B9 b<;>simp[B9] at hs ⊢<;>simp[hs]
theorem pe8 (x:b7):TC k H R x (Td4 k H R x):=by
 unfold Td4
 split
 ·rename_i id i c g
  split
  ·rename_i b hb
   split
   ·rename_i j hj
    have:=(Pa8 R 0 id j hj).2
    exact .ptr id i c g j b hb (by simpa using this)
   ·exact .unk _
  ·exact .unk _
 ·rename_i id off n g
  split
  ·rename_i b hb
   split
   ·rename_i j hj
    have:=(Pa8 R 0 id j hj).2
    exact .sl id off n g j b hb (by simpa using this)
   ·exact .unk _
  ·exact .unk _
 ·rename_i h1 h2
  refine .same x ?_
  cases x<;>first | exact trivial | (exact (h1 _ _ _ _ rfl).elim) | (exact (h2 _ _ _ _ rfl).elim)
theorem qc6 {x z:b7} {x':Value} (h:TC k H R x z) (hx:X8 ρ (n4 H) F w x x'):TC k (n4 H) R x z:=by
 cases h with
 | unk=>exact .unk _
 | ptr id i c g j b hb hj =>
  obtain⟨hb1,hd1,hg1⟩:=s9 hb
  obtain⟨ad,b2,e,m1,m2,m3,m4⟩:=sa1 (.val (.cell hx))
  obtain⟨n1,n2⟩:=ga9 m1 m2
  have:b2=b:=Option.some.inj (n1.symm.trans hb1)
  subst this
  exact .ptr id i c g j b2 (by unfold blkAt;simp only[y6,m1,m2,hg1];simp) hj
 | sl id off n g j b hb hj =>
  obtain⟨hb1,hd1,hg1⟩:=s9 hb
  obtain⟨ad,cap,b2,e,m1,m2,m3,_⟩:=ua0 (.val (.cell hx))
  obtain⟨n1,n2⟩:=ga9 m1 m2
  have:b2=b:=Option.some.inj (n1.symm.trans hb1)
  subst this
  exact .sl id off n g j b2 (by unfold blkAt;simp only[y6,m1,m2,hg1];simp) hj
 | same x h=>exact .same x h
theorem Ed8 {x z:b7} {x':Value} (h:TV k H R x z) (hx:X9 ρ (n4 H) F w x x'):TV k (n4 H) R x z:=by
 cases h with
 | cell hb h =>
  cases hx with
  | cell hx=>exact .cell hb (qc6 h hx)
  | _=>cases hb
 | agg cs ds hl h =>
  obtain⟨vs,e,hl2,h2⟩:=oa8 (.val hx)
  refine .agg cs ds hl fun i x z hx hz=>?_
  have hi:i < vs.size:=hl2 ▸ (List.getElem?_eq_some_iff.1 hx).1
  exact qc6 (h i x z hx hz) (h2 i x _ hx (Array.getElem?_eq_getElem hi))
 | fn f cs ds hl h =>
  obtain⟨vs,e,hl2,h2⟩:=lb2 (.val hx)
  refine .fn f cs ds hl fun i x z hx hz=>?_
  have hi:i < vs.size:=hl2 ▸ (List.getElem?_eq_some_iff.1 hx).1
  exact qc6 (h i x z hx hz) (h2 i x _ hx (Array.getElem?_eq_getElem hi))
 | tup l=>exact .tup l
theorem pe9 {x z:b7} {x':Value} (h:TW k H R x z) (hx:z7 ρ (n4 H) F w x x'):TW k (n4 H) R x z:=by
 cases h with
 | val hn h =>
  cases hx with
  | val hx=>exact .val hn (Ed8 h hx)
  | tup cs vs hl h2=>exact absurd rfl (hn cs)
 | tup cs ds hl h =>
  obtain⟨vs,e,hl2,h2⟩:=Wc2 hx
  refine .tup cs ds hl fun i x z hx hz=>?_
  have hi:i < vs.size:=hl2 ▸ (List.getElem?_eq_some_iff.1 hx).1
  exact Ed8 (h i x z hx hz) (h2 i x _ hx (Array.getElem?_eq_getElem hi))
theorem Qc6 {b:b9} (h:B9 b=false):Ba4 k H R b=b:=by unfold Ba4;rw[h];rfl
theorem mb8 (b:b9):(Ba4 k H R b).et=b.et∧(Ba4 k H R b).es=b.es∧(Ba4 k H R b).dead=b.dead∧(Ba4 k H R b).g=b.g∧(Ba4 k H R b).elems.length=b.elems.length∧B9 (Ba4 k H R b)=B9 b:=by
 unfold Ba4
 cases B9 b&&Nat.beq b.et 0
 ·exact⟨rfl,rfl,rfl,rfl,rfl,rfl⟩
 ·refine⟨rfl,rfl,rfl,rfl,by simp[o1],rfl⟩
section
variable (hR:TOk k R) (hb:ua9 k H 0 R=some H2)
include hR hb
theorem Yc3 {j:Nat} {c:b9} (hc:(r5 (Ba4 k H R) H2)[j]?=some c):∃ id b,R[j]?=some id∧(R[j]?).getD 0=id∧H[id]?=some b∧c=Ba4 k H R (reG k j b):=by
 rw[o1,List.getElem?_map] at hc
 cases h:H2[j]? with
 | none=>rw[h] at hc;cases hc
 | some c2 =>
  rw[h] at hc
  injection hc with hc
  obtain⟨id,b,h1,h2,h3,h4⟩:=Ob5 hb h
  exact⟨id,b,h1,h2,h3,by rw[← hc,h4]⟩
theorem Yd3 {j id:Nat} {b:b9} (hj:R[j]?=some id) (hid:H[id]?=some b):(r5 (Ba4 k H R) H2)[j]?=some (Ba4 k H R (reG k j b)):=by
 obtain⟨_,hat⟩:=tb1 hb
 obtain⟨b',h1,h2⟩:=hat j id hj
 have:b'=b:=Option.some.inj (h1.symm.trans hid)
 subst this
 rw[Nat.zero_add] at h2
 rw[o1,List.getElem?_map,h2]
 rfl
theorem xc7 (j:Nat) (b:b9):B9 (reG k j b)=B9 b:=by unfold B9;rw[Ua1]
theorem Qc7:wc0 (fun j=>ρ ((R[j]?).getD 0)) (n4 H2) (fun j=>ρ ((R[j]?).getD 0)) (n4 (r5 (Ba4 k H R) H2)):=fun j b hb' hd=>by
 obtain⟨h1,h2⟩:=ga9 hb' hd
 refine⟨b,ea2 ?_ h2,hd,Nat.le_refl _,fun _=>⟨rfl,rfl,Nat.le_refl _⟩⟩
 rw[o1,List.getElem?_map,h1]
 simp[Qc6 h2]
theorem Ne7 {x z:b7} {x':Value} (h:TC k H R x z) (hx:X8 ρ (n4 H) F w x x'):X8 (fun j=>ρ ((R[j]?).getD 0)) (n4 (r5 (Ba4 k H R) H2)) F w z x' :=
 (Ab8 (mb7 hb) (qc6 h hx) hx).carry (Qc7 hR hb) (fun _ _ h=>h) (fun _ _ _=>rfl)
theorem ze8 {x z:b7} {x':Value} (h:TW k H R x z) (hx:z7 ρ (n4 H) F w x x'):z7 (fun j=>ρ ((R[j]?).getD 0)) (n4 (r5 (Ba4 k H R) H2)) F w z x' :=
 (Xc1 (mb7 hb) (pe9 h hx) hx).carry (Qc7 hR hb) (fun _ _ h=>h) (fun _ _ _=>rfl)
theorem xd7 {x z:b7} {x':Value} (h:TC k H R x z) (hx:XC ρ H F w x x'):XW (fun j=>ρ ((R[j]?).getD 0)) (r5 (Ba4 k H R) H2) F w z x'∧(XC (fun j=>ρ ((R[j]?).getD 0)) (r5 (Ba4 k H R) H2) F w z x'):=by
 have main:XC (fun j=>ρ ((R[j]?).getD 0)) (r5 (Ba4 k H R) H2) F w z x':=by
  cases hx with
  | n hx=>exact .n (Ne7 hR hb h hx)
  | box id c g b hb1 hd he =>
   cases h with
   | unk=>exact .n (.unk _)
   | ptr _ _ _ _ j b2 hb2 hj =>
    have e:ρ id=(fun j=>ρ ((R[j]?).getD 0)) j:=by simp[hj]
    rw[e]
    obtain⟨q1,q2,q3,q4,q5,q6⟩:=mb8 (k:=k) (H:=H) (R:=R) (reG k j b)
    exact .box j c _ _ (Yd3 hR hb hj hb1) (by rw[q3,va0];exact hd) ⟨by rw[q2,Ua1];exact he.1,by rw[q1,Jb4];exact he.2⟩
   | same _ hs=>exact hs.elim
  | map id c g b t hb1 hd he =>
   cases h with
   | unk=>exact .n (.unk _)
   | ptr _ _ _ _ j b2 hb2 hj =>
    have e:ρ id=(fun j=>ρ ((R[j]?).getD 0)) j:=by simp[hj]
    rw[e]
    obtain⟨q1,q2,q3,q4,q5,q6⟩:=mb8 (k:=k) (H:=H) (R:=R) (reG k j b)
    exact .map j c _ _ t (Yd3 hR hb hj hb1) (by rw[q3,va0];exact hd) ⟨by rw[q2,Ua1];exact he.1,by rw[q1,Jb4];exact he.2⟩
   | same _ hs=>exact hs.elim
 exact⟨.c main,main⟩
theorem Fe9 {x z:b7} {x':Value} (h:TW k H R x z) (hx:XW ρ H F w x x'):XW (fun j=>ρ ((R[j]?).getD 0)) (r5 (Ba4 k H R) H2) F w z x':=by
 cases hx with
 | w hx=>exact .w (ze8 hR hb h hx)
 | c hx =>
  have hx0:=hx
  cases hx with
  | n hx=>exact .w (ze8 hR hb h (.val (.cell hx)))
  | box =>
   cases h with
   | val _ h=>cases h with
    | cell _ h=>exact (xd7 hR hb h hx0).1
  | map =>
   cases h with
   | val _ h=>cases h with
    | cell _ h=>exact (xd7 hR hb h hx0).1
theorem Yd4 (h:Vd7 P WB W' ρ H F w):Vd7 P WB W' (fun j=>ρ ((R[j]?).getD 0)) (r5 (Ba4 k H R) H2) F w:=by
 refine⟨fun j c hc hs hd=>?_,fun j j' c c' hc hc' hs hs' hd hd' hne=>?_⟩
 ·obtain⟨id,b,h1,h2,h3,h4⟩:=Yc3 hR hb hc
  subst h4
  obtain⟨q1,q2,q3,q4,q5,q6⟩:=mb8 (k:=k) (H:=H) (R:=R) (reG k j b)
  rw[q6,xc7 hR hb] at hs
  rw[q3,va0] at hd
  obtain⟨k1,k2,k3,k4,k5⟩:=h.has id b h3 hs hd
  simp only[h2]
  refine⟨k1,k2,k3,k4,?_⟩
  rcases k5 with⟨e,row,vs,t,m1,m2,m3,m4⟩ | ⟨t,K,El,fl,es,clk,m1,m2,m3,m4,m5,m6⟩
  ·refine .inl ⟨⟨by rw[q2,Ua1];exact e.1,by rw[q1,Jb4];exact e.2⟩,row.map (Td4 k H R),vs,t,?_,m2,by simpa using m3,fun i z x' hz hx'=>?_⟩
   ·unfold Ba4
    have:(B9 (reG k j b)&&Nat.beq (reG k j b).et 0)=true:=by rw[xc7 hR hb,hs,Jb4,e.2];rfl
    rw[this]
    show r5 (r5 (Td4 k H R)) (reG k j b).elems=_
    rw[Aa2,m1,o1]
    simp[o1]
   ·rw[List.getElem?_map] at hz
    cases hq:row[i]? with
    | none=>rw[hq] at hz;cases hz
    | some q =>
     rw[hq] at hz
     injection hz with hz
     subst hz
     obtain⟨g1,g2⟩:=m4 i q x' hq hx'
     exact⟨g1,(xd7 hR hb (pe8 q) g2).2⟩
  ·have hnb : Ba4 k H R (reG k j b) = reG k j b := by
    unfold Ba4
    have:(B9 (reG k j b)&&Nat.beq (reG k j b).et 0)=false:=by
     rw[Jb4,m1.2,Bool.and_eq_false_iff];exact .inr rfl
    rw[this]
   rw[hnb]
   exact .inr ⟨t,K,El,fl,es,clk,⟨by rw[Ua1];exact m1.1,by rw[Jb4];exact m1.2⟩,m2,m3,m4,by rw[Aa2];exact m5,by rw[Aa2];exact m6⟩
 ·obtain⟨id,b,h1,h2,h3,h4⟩:=Yc3 hR hb hc
  obtain⟨id',b',h1',h2',h3',h4'⟩:=Yc3 hR hb hc'
  subst h4 h4'
  obtain⟨_,_,q3,_,_,q6⟩:=mb8 (k:=k) (H:=H) (R:=R) (reG k j b)
  obtain⟨_,_,q3',_,_,q6'⟩:=mb8 (k:=k) (H:=H) (R:=R) (reG k j' b')
  rw[q6,xc7 hR hb] at hs
  rw[q6',xc7 hR hb] at hs'
  rw[q3,va0] at hd
  rw[q3',va0] at hd'
  simp only[h2,h2']
  refine h.apart id id' b b' h3 h3' hs hs' hd hd' fun e=>hne ?_
  subst e
  obtain⟨a1,a2⟩:=List.getElem?_eq_some_iff.1 h1
  obtain⟨b1,b2⟩:=List.getElem?_eq_some_iff.1 h1'
  exact (List.getElem_inj hR.nodup).1 (a2.trans b2.symm)
end
theorem Ge0 {ds:List Deferred} (hR:TOk H0.length R) (hb:ua9 H0.length H 0 R=some H2) (h:C2 P WB K J ρ0 H0 F0 w0 H ds w ρ F W' up):C2 P WB K J ρ0 H0 F0 w0 (r5 (Ba4 H0.length H R) H2) ds w (fun j=>ρ ((R[j]?).getD 0)) F W' up:=by
 have hAd:=Ob6 hR hb h.adv
 have hat:∀ (j:Nat) c,H2[j]?=some c→(r5 (Ba4 H0.length H R) H2)[j]?=some (Ba4 H0.length H R c):=fun j c hc=>by rw[o1,List.getElem?_map,hc];rfl
 refine⟨h.sub,⟨hAd.ext,fun id b hid=>?_,hAd.more,hAd.new,fun id b' hb' hn=>?_⟩,?_,Yd4 hR hb h.srel,h.kept,fun j c hc hs hd=>?_,h.jot,h.marks⟩
 ·obtain⟨b',k1,k2,k3,k4⟩:=hAd.heap id b hid
  obtain⟨q1,q2,q3,q4,q5,q6⟩:=mb8 (k:=H0.length) (H:=H) (R:=R) b'
  exact⟨_,hat id b' k1,q3.trans k2,by rw[q4];exact k3,fun hg=>by rw[q2,q5];exact k4 (q4 ▸ hg)⟩
 ·rw[o1,List.getElem?_map] at hb'
  cases hq:H2[id]? with
  | none=>rw[hq] at hb';cases hb'
  | some c =>
   rw[hq] at hb'
   injection hb' with hb'
   subst hb'
   obtain⟨_,_,_,q4,_,_⟩:=mb8 (k:=H0.length) (H:=H) (R:=R) c
   exact hAd.fresh id c hq fun b hb1=>by rw[← q4];exact hn b hb1
 ·refine (Ab7 hR h.hrel (mb7 hb)).pull (fun i=>i) (fun i b hb1 hd=>?_) (fun _ _ _ _ _ _ _ _ e=>e)
  obtain⟨h1,h2⟩:=ga9 hb1 hd
  rw[o1,List.getElem?_map] at h1
  cases hq:H2[i]? with
  | none=>rw[hq] at h1;cases h1
  | some c =>
   rw[hq] at h1
   injection h1 with h1
   have hsc:B9 c=false:=by
    obtain⟨_,_,_,_,_,q6⟩:=mb8 (k:=H0.length) (H:=H) (R:=R) c
    rw[← q6,h1];exact h2
   rw[Qc6 hsc] at h1
   subst h1
   exact⟨ea2 hq hsc,rfl⟩
 ·obtain⟨id,b,h1,h2,h3,h4⟩:=Yc3 hR hb hc
  subst h4
  obtain⟨_,_,q3,_,_,q6⟩:=mb8 (k:=H0.length) (H:=H) (R:=R) (reG H0.length j b)
  rw[q6,xc7 hR hb] at hs
  rw[q3,va0] at hd
  simp only[h2]
  exact h.far id b h3 hs hd
theorem I3.tidyM {s s':St} {ac:Act} {keep:List Nat} (h:I3 P WB K J n S rv DF ρ0 H0 F0 w0 s ac w) (he:(Ev.tidyM H0.length ⟨K0 keep s.a 0,s.H⟩).run=some s'):I3 P WB K J n S rv DF ρ0 H0 F0 w0 s' ac w:=by
 obtain⟨⟨ρ,F,W',up,hI⟩,hheld,hdf⟩:=h
 unfold Ev.tidyM at he
 cases ht:Nb0 H0.length s.H (K0 keep s.a 0) (List.range H0.length) with
 | mk a roots =>
 simp only[ht] at he
 cases hb:ua9 H0.length s.H 0 (Nc6 s.H roots roots) with
 | none=>simp[hb] at he
 | some H2 =>
 simp only[hb] at he
 have he':some (⟨a,r5 (Ba4 H0.length s.H (Nc6 s.H roots roots)) H2⟩:St)=some s':=he
 injection he' with he'
 subst he'
 obtain⟨k1,_,k3,k4⟩:=uc4 (TOk.start _) ht
 obtain⟨m1,m2⟩:=kd9 s.H roots roots k1
 obtain⟨g1,g2⟩:=tb2 keep s.a 0
 refine⟨⟨_,F,W',up,Ge0 m1 hb hI.core,⟨(k3.trans g1).trans hI.vals.1,fun i x x' hx hx'=>?_⟩,hI.size⟩,hheld,hdf⟩
 have hi:i < (K0 keep s.a 0).length:=k3 ▸ (List.getElem?_eq_some_iff.1 hx).1
 have hk:=k4 i _ x (List.getElem?_eq_getElem hi) hx
 refine Fe9 m1 hb (hk.le m2) ?_
 rcases g2 i _ (List.getElem?_eq_getElem hi) with e | e
 ·rw[e];exact .w (.unk _)
 ·exact hI.vals.2 i _ x' e hx'
end
end Go.Ev
namespace Go.Ev
open Go
section
variable {DS:Nat→Prop} {tm:Array Value} {ds:List Deferred} {Fe:Fence} {nn:Nat}
variable {W:Nat→Prop} {ρ0:Rho} {H0:List b9} {F0:Fz} {w0 w:World}
variable {tr:Nat} {E:Env} {ops:Array Oper} {M:List Nat} {ks:List (Nat×PI)} {s:St} {U T:Nat→St}
structure vb4 (DS:Nat→Prop) (tm:Array Value) (ds:List Deferred) (W:Nat→Prop) (ρ0:Rho) (H0:List b9) (F0:Fz) (w0:World) (tr:Nat) (E:Env) (ops:Array Oper) (a0:List b7) (U T:Nat→St) (m:Nat) (listed:Array Bool) (ac:Act) (w:World):Prop where
 size:listed.size=ops.size
 closed:∀ j,j < ops.size→L8 listed j→∀ i∈Y0 (ha8 ops j),L8 listed i
 hm:m≤ops.size
 heavy:∀ j,j < ops.size→B5 tr E.P ops j=2→(L8 listed j↔j < m)
 inv:mb4 DS tm ds W ρ0 H0 F0 w0 ⟨ia8 (T ops.size).a a0 (u9 ops listed),D3 (T m).H (l6 tr E.P ops U listed)⟩ ac w
variable (hD:DC tr E.P ops M ks) (hT:Ic2 E ops ks s U T) (hin:∀ j,j < ops.size→B5 tr E.P ops j=0→∀ d,Q7 ops j=some d→d < s.a.length)
include hD
theorem za4 {m:Nat} {listed:Array Bool} {ac:Act} (hR:vb4 DS tm ds W ρ0 H0 F0 w0 tr E ops s.a U T m listed ac w) {j:Nat} (hj:j < ops.size) (hd:∀ i∈Y0 (ha8 ops j),L8 listed i) {i:Nat} (hi:i < ops.size) (hb:k9 M i j=true):L8 listed i :=
 tb7 hD.rows (L8 listed) (fun j' o ho hx i hi=>by
  have hj':=(Array.getElem?_eq_some_iff.1 ho).1
  have:o=ha8 ops j':=Option.some.inj (ho.symm.trans (V5 hj'))
  subst this
  exact hR.closed j' hj' hx i hi) j _ (V5 hj) hd i hi hb
include hT
theorem xc8 {m : Nat} {listed : Array Bool} {ac : Act} (hR : vb4 DS tm ds W ρ0 H0 F0 w0 tr E ops s.a U T m listed ac w) {j : Nat} (hj : j < ops.size) (hnx : ¬ L8 listed j) (hd : ∀ i ∈ Y0 (ha8 ops j), L8 listed i) :
  Agr (T j).a (ia8 (T ops.size).a s.a (u9 ops listed)) (sb4 (qb6 ops j)++Pa7 (ha9 tr E.P ops j)):=fun t ht=>by
 have huniq:∀ {i i':Nat},i < ops.size→i' < ops.size→Q7 ops i=some t→Q7 ops i'=some t→i=i':=fun {i i'} h1 h2 e1 e2=>((hD.slots h1 h2 e1).2).resolve_right fun h=>h e2
 have hend:(∀ i,j≤i→i < ops.size→Q7 ops i≠some t)→(T j).a[t]?=(T ops.size).a[t]?:=fun h=>by
  have:=db9 hD hT (t:=t) (ops.size - j) j (by omega) fun i h1 h2 _=>h i h1 (by omega)
  rw[show j+(ops.size - j)=ops.size by omega] at this
  exact this.symm
 by_cases hw:∃ i,i < ops.size∧Q7 ops i=some t
 ·obtain⟨i,hi,hdi⟩:=hw
  rcases (hD.slots hi hj hdi).1 ht with hb | ⟨_,hna,hb⟩
  ·have hxi:=za4 hD hR hj hd hi hb
   rw[na0]
   ·refine hend fun k h1 h2 he=>?_
    have:=huniq hi h2 hdi he
    have:=sa4 hD hj hi hb
    omega
   ·rintro⟨k,h1,h2,h3⟩
    have:=huniq hi h1 hdi h2
    subst this
    exact h3 hxi
  ·have hxi : ¬ L8 listed i := fun hx => by
    rcases hb with hb | hb
    ·exact hnx (za4 hD hR hi (hR.closed i hi hx) hj hb)
    ·subst hb;exact hnx hx
   have hji:j≤i:=by
    rcases hb with hb | hb
    ·have:=sa4 hD hi hj hb;omega
    ·omega
   have h1:=db9 hD hT (t:=t) j 0 (by omega) fun k _ h2 _ he=>by
    have:=huniq hi (by omega) hdi he
    omega
   have h2:=Yb0 hD hT (t:=t) ops.size 0 (by omega) fun k _ h2 hk he=>by
    have:=huniq hi (by omega) hdi he
    subst this
    have:=Pb0 hk
    rw[hna] at this
    cases this
   rw[Nat.zero_add] at h1 h2
   rw[h1,hT.t0,h2,hT.u0]
   rcases Nat.lt_or_ge t (T ops.size).a.length with hlt | hge
   ·rw[gb9 ⟨i,hi,hdi,hxi⟩ hlt]
    rw[(va1 hD hT ops.size (Nat.le_refl _)).2] at hlt
    rw[List.getElem?_eq_getElem hlt]
    rfl
   ·rw[List.getElem?_eq_none (by rw[← (va1 hD hT ops.size (Nat.le_refl _)).2];exact hge),List.getElem?_eq_none (by rw[ma9];exact hge)]
 ·rw[na0]
  ·exact hend fun k _ h2 he=>hw ⟨k,h2,he⟩
  ·rintro⟨k,h1,h2,_⟩
   exact hw ⟨k,h1,h2⟩
end
section
variable {DS:Nat→Prop} {tm:Array Value} {ds:List Deferred} {Fe:Fence} {nn:Nat}
variable {W:Nat→Prop} {ρ0:Rho} {H0:List b9} {F0:Fz} {w0 w:World}
variable {tr:Nat} {E:Env} {ops:Array Oper} {M:List Nat} {ks:List (Nat×PI)} {s:St} {U T:Nat→St}
variable (hD:DC tr E.P ops M ks) (hT:Ic2 E ops ks s U T) (hin:∀ j,j < ops.size→B5 tr E.P ops j=0→∀ d,Q7 ops j=some d→d < s.a.length)
variable (hpairs:xa2 E (T ops.size).a (sa0 ops.size M ks)=true)
variable (hF:FW Fe) (hDS:∀ j d,j < ops.size→Q7 ops j=some d→DS d)
variable (hG0:GOk E F0 w0) (hcalls:∀ f,g8 E.P E.G f (E.call f))
include hD
theorem vb4.next {m m' : Nat} {listed : Array Bool} {ac ac' : Act} {w' : World} (hR : vb4 DS tm ds W ρ0 H0 F0 w0 tr E ops s.a U T m listed ac w) {i : Nat} (hi : i < ops.size) (hdi : ∀ j ∈ Y0 (ha8 ops i), L8 listed j)
  (hm':m'≤ops.size) (hheavy:∀ j,j < ops.size→B5 tr E.P ops j=2→(L8 (listed.setIfInBounds i true) j↔j < m'))
  {x:b7} (hx:∀ d,Q7 ops i=some d→d < (T ops.size).a.length→(T ops.size).a[d]?=some x)
  (hI:mb4 DS tm ds W ρ0 H0 F0 w0 ⟨putA (ia8 (T ops.size).a s.a (u9 ops listed)) (Q7 ops i) x,D3 (T m').H (l6 tr E.P ops U (listed.setIfInBounds i true))⟩ ac' w') :
  vb4 DS tm ds W ρ0 H0 F0 w0 tr E ops s.a U T m' (listed.setIfInBounds i true) ac' w':=by
 refine⟨by simpa using hR.size,fun j hj hx k hk=>?_,hm',hheavy,by rw[Pc7 hD hR.size hi hx];exact hI⟩
 have his:i < listed.size:=by rw[hR.size];exact hi
 rcases (ba9 his).1 hx with h | h
 ·exact (ba9 his).2 (.inl (hR.closed j hj h k hk))
 ·subst h;exact (ba9 his).2 (.inl (hdi k hk))
omit hD in
theorem mb4.puts {ac:Act} {j:Nat} (hDS:∀ j d,j < ops.size→Q7 ops j=some d→DS d) (hj:j < ops.size) (hsm:∀ t,¬ DS t→ac.tmps[t]?=tm[t]?) (v:Value) (t:Nat) (ht:¬ DS t):(ac.put (Q7 ops j) v).tmps[t]?=tm[t]?:=(Qb0 fun e=>ht (hDS j t hj e)).trans (hsm t ht)
include hG0 hcalls hF hDS in
theorem Yb8 {ac : Act} {i : Nat} {a : List b7} {H H' : List b9} {b : Bool} {x : b7} {Q : Exit → Act → World → Prop} {K : Act → World → Prop} (hi : i < ops.size)
  (hI:mb4 DS tm ds W ρ0 H0 F0 w0 ⟨a,H⟩ ac w) (hg:Ob9 E a (qb6 ops i)=some b)
  (h1:b=true→(evalOp E a H (ha9 tr E.P ops i)).run=some (x,H')) (h2:b=false→x=.v (.tuple #[])∧H'=H)
  (hK:∀ ac' w',mb4 DS tm ds W ρ0 H0 F0 w0 ⟨putA a (Q7 ops i) x,H'⟩ ac' w'→K ac' w'):wpOpIn Fe nn E.P ops Q i K ac w:=by
 obtain⟨hd,hsz,hsm,ρ,F,hAdv,hH,hA⟩:=hI
 have hw:=hc5 (hD.guard i hi) hA hg
 unfold wpOpIn
 simp only[V5 hi,hw]
 cases b with
 | true =>
  rw[if_pos rfl]
  refine (Pc0 (ac:={ ac with defers:=[] }) tr hA hH (hG0.adv hAdv) hcalls (h1 rfl)).inAny hF nn _ _ fun x' w' hp=>?_
  obtain⟨ρ',F',a1,a2,a3⟩:=hp
  exact hK _ _ ⟨(r6 _ _).trans hd,(ja0 _ _).trans hsz,mb4.puts hDS hi hsm _,ρ',F',hAdv.trans a1,a2,(hA.adv a1).putA _ a3⟩
 | false =>
  rw[if_neg (by simp)]
  obtain⟨e1,e2⟩:=h2 rfl
  subst e1 e2
  exact⟨fun f _=>hF.fn f,hK _ _ ⟨(r6 _ _).trans hd,(ja0 _ _).trans hsz,mb4.puts hDS hi hsm _,ρ,F,hAdv,hH,hA.putA _ (.ofv _)⟩⟩
include hT hin hpairs hG0 hcalls hF hDS
theorem ld0 {m : Nat} {listed : Array Bool} {ac : Act} (hR : vb4 DS tm ds W ρ0 H0 F0 w0 tr E ops s.a U T m listed ac w) {i : Nat} (hi : i < ops.size) (hk : B5 tr E.P ops i = 1) (hnx : ¬ L8 listed i) (hdi : ∀ j ∈ Y0 (ha8 ops i), L8 listed j)
  {Q:Exit→Act→World→Prop} {K:Act→World→Prop} (hK:∀ ac' w',vb4 DS tm ds W ρ0 H0 F0 w0 tr E ops s.a U T m (listed.setIfInBounds i true) ac' w'→K ac' w'):wpOpIn Fe nn E.P ops Q i K ac w:=by
 obtain⟨b,x,g1,g2,g3,g4⟩:=Pb5 hD hT hi hk
 have hread:=xc8 hD hT hR hi hnx hdi
 have hne:B5 tr E.P ops i≠0:=by omega
 refine Yb8 hD hF hDS hG0 hcalls (H':=D3 (T m).H (l6 tr E.P ops U listed)) hi hR.inv ((Ga4 hread.left).symm.trans g1) (fun hb=>?_) (fun hb=>⟨g4 hb,rfl⟩) fun ac' w' hI'=>hK ac' w' ?_
 ·have he:=g3 hb
  rw[Qa1 _ hread.right] at he
  refine (lb6 (vc4 hk) he).2 _ fun id hid=>?_
  -- the block that is looked at stands in the heap at hand
  have hlive:∃ b',(D3 (T m).H (l6 tr E.P ops U listed))[id]?=some b'∧b'.dead=false:=by
   obtain⟨hd0,_,_,ρ,F,hAdv,hH,hA⟩:=hR.inv
   have harg:∀ (y:Arg),Nb6 y=true→id∈V4 (c8 E (ia8 (T ops.size).a s.a (u9 ops listed)) y)→∃ b',(D3 (T m).H (l6 tr E.P ops U listed))[id]?=some b'∧b'.dead=false:=fun y hy hm=>by
    cases y with
    | c z =>
     exfalso
     have hm':id∈V4 z:=hm
     cases z<;>first | (cases hm';done) | (cases hy;done)
    | g n =>
     exfalso
     have hm':id∈V4 (.tptr (r5 .v (E.G n))):=hm
     cases hm'
    | t n =>
     rw[Ia9] at hm
     cases hn:(ia8 (T ops.size).a s.a (u9 ops listed))[n]? with
     | none=>rw[hn] at hm;cases hm
     | some u =>
     rw[hn] at hm
     simp only[Option.getD_some] at hm
     have hlt:n < ac.tmps.size:=hA.1 ▸ (List.getElem?_eq_some_iff.1 hn).1
     have hW:=hA.2 n u _ hn (Array.getElem?_eq_getElem hlt)
     cases u with
     | ptr id' i c g =>
      have:id=id':=by simpa [V4] using hm
      subst this
      obtain⟨_,b',_,h1,h2,_⟩:=sa1 hW
      exact⟨b',h1,h2⟩
     | sl id' off n g =>
      have:id=id':=by simpa [V4] using hm
      subst this
      obtain⟨_,_,b',_,h1,h2,_⟩:=ua0 hW
      exact⟨b',h1,h2⟩
     | _=>cases hm
   have hbare:=hD.bare hi
   revert hbare hid
   generalize ha9 tr E.P ops i=q
   intro hid hbare
   cases q with
   | load ks n agg y=>exact harg y hbare hid
   | idxS es y z=>exact harg y hbare hid
   | slice es y lo hi=>exact harg y hbare hid
   | _=>cases hid
  obtain⟨b',hb1,hb2⟩:=hlive
  obtain⟨hnD,hb3⟩:=uc9 hb1 hb2
  have huse:id∈ta9 E (T ops.size).a (ha9 tr E.P ops i):=by
   rw[← id6 hD hT hi,lb9 hread.right];exact hid
  -- nobody between touches it
  have hbetween:∀ j,j < ops.size→B5 tr E.P ops j=2→k9 M i j=false→k9 M j i=false→id∉K8 E (T ops.size).a (ha9 tr E.P ops j):=fun j hj hkj h1 h2 =>
   Jb7 hpairs (hD.pair hj hi hk hkj h2 h1) id huse
  have hlike:K1 (T i).H (T m).H id:=by
   rcases Nat.lt_or_ge i m with him | him
   ·have := vc9 hD hT hin (id := id) (m - i) i (by have := hR.hm; omega) fun j h1 h2 hkj => by
     have hj:j < ops.size:=by have:=hR.hm;omega
     have hxj:=(hR.heavy j hj hkj).2 (by omega)
     refine hbetween j hj hkj ?_ ?_
     ·cases hc:k9 M i j with
      | false=>rfl
      | true=>exact absurd (za4 hD hR hj (hR.closed j hj hxj) hi hc) hnx
     ·cases hc:k9 M j i with
      | false=>rfl
      | true=>have:=sa4 hD hi hj hc;omega
    rwa [show i+(m - i)=m by omega] at this
   ·have := vc9 hD hT hin (id := id) (i - m) m (by omega) fun j h1 h2 hkj => by
     have hj:j < ops.size:=by omega
     have hxj:¬ L8 listed j:=fun h=>by have:=(hR.heavy j hj hkj).1 h;omega
     refine hbetween j hj hkj ?_ ?_
     ·cases hc:k9 M i j with
      | false=>rfl
      | true=>have:=sa4 hD hj hi hc;omega
     ·cases hc:k9 M j i with
      | false=>rfl
      | true=>exact absurd (za4 hD hR hi hdi hj hc) hxj
    rw[show m+(i - m)=i by omega] at this
    intro b0 hb0
    obtain⟨b2,h3,h4⟩:=this b' hb3
    have:b2=b0:=Option.some.inj (h3.symm.trans hb0)
    subst this
    exact⟨b',hb3,h4.1.symm,h4.2.1.symm,h4.2.2.1.symm,h4.2.2.2.1.symm,h4.2.2.2.2.symm⟩
  refine hlike.trans fun b0 hb0=>⟨b0,?_,.refl b0⟩
  rw[r9 hnD];exact hb0
 ·refine vb4.next hD hR hi hdi hR.hm (fun j hj hkj=>?_) (x:=x) (fun d hd hlt=>?_) ?_
  ·rw[ba9 (hR.size ▸ hi)]
   rw[← hR.heavy j hj hkj]
   exact⟨fun h=>h.resolve_right fun e=>by subst e;omega,.inl⟩
  ·rw[Cd9 hD hT hi hd,g2,hd]
   refine Bb3 ?_
   rw[(va1 hD hT i (by omega)).2,← (va1 hD hT ops.size (Nat.le_refl _)).2]
   exact hlt
  ·rw[Bb4 hR.size hi hne];exact hI'
omit hpairs in
theorem ld1 {m : Nat} {listed : Array Bool} {ac : Act} (hR : vb4 DS tm ds W ρ0 H0 F0 w0 tr E ops s.a U T m listed ac w) {i : Nat} (hi : i < ops.size) (hk : B5 tr E.P ops i = 2) (hnx : ¬ L8 listed i) (hdi : ∀ j ∈ Y0 (ha8 ops i), L8 listed j)
  {Q:Exit→Act→World→Prop} {K:Act→World→Prop} (hK:∀ ac' w',vb4 DS tm ds W ρ0 H0 F0 w0 tr E ops s.a U T (i+1) (listed.setIfInBounds i true) ac' w'→K ac' w'):wpOpIn Fe nn E.P ops Q i K ac w:=by
 obtain⟨b,x,g1,g2,g3,g4⟩:=qc5 hD hT hin hi hk
 have hread:=xc8 hD hT hR hi hnx hdi
 have hne:B5 tr E.P ops i≠0:=by omega
 have hmi:m≤i:=by
  rcases Nat.lt_or_ge i m with h | h
  ·exact absurd ((hR.heavy i hi hk).2 h) hnx
  ·exact h
 have hno:∀ j,m≤j→j < i→B5 tr E.P ops j≠2:=fun j h1 h2 hkj=>by
  have hj:j < ops.size:=by omega
  have:=(hR.heavy j hj hkj).1 (za4 hD hR hi hdi hj (hD.chain h2 hi hkj hk).1)
  omega
 have hsame:(T m).H=(T i).H:=by
  have:=vc7 hD hT (i - m) m (by omega) fun j h1 h2=>hno j h1 (by omega)
  rw[show m+(i - m)=i by omega] at this
  exact this.symm
 have hfin:∀ {H':List b9} {ac':Act} {w':World},H'=D3 (T (i+1)).H (l6 tr E.P ops U listed)→mb4 DS tm ds W ρ0 H0 F0 w0 ⟨putA (ia8 (T ops.size).a s.a (u9 ops listed)) (Q7 ops i) x,H'⟩ ac' w'→K ac' w':=fun {H' ac' w'} e hI'=>by
  refine hK ac' w' (vb4.next hD hR hi hdi (by omega) (fun j hj hkj=>?_) (x:=x) (fun d hd hlt=>?_) ?_)
  ·rw[ba9 (hR.size ▸ hi)]
   constructor
   ·rintro (h | h)
    ·have:=(hR.heavy j hj hkj).1 h;omega
    ·omega
   ·intro h
    by_cases e:j=i
    ·exact .inr e
    ·refine .inl ((hR.heavy j hj hkj).2 ?_)
     rcases Nat.lt_or_ge j m with h' | h'
     ·exact h'
     ·exact absurd hkj (hno j h' (by omega))
  ·rw[Cd9 hD hT hi hd,g2,hd]
   refine Bb3 ?_
   rw[(va1 hD hT i (by omega)).2,← (va1 hD hT ops.size (Nat.le_refl _)).2]
   exact hlt
  ·rw[Bb4 hR.size hi hne,← e];exact hI'
 cases b with
 | false =>
  obtain⟨h1,h2⟩:=g4 rfl
  exact Yb8 hD hF hDS hG0 hcalls (x:=x) (H':=D3 (T m).H (l6 tr E.P ops U listed)) hi hR.inv ((Ga4 hread.left).symm.trans g1) (fun h=>by cases h) (fun _=>⟨h1,rfl⟩) fun ac' w' hI'=>hfin (by rw[h2,hsame]) hI'
 | true =>
  obtain⟨hid,H',h5,h6,h7⟩:=g3 rfl
  rw[Qa1 _ hread.right] at h6
  have hall:∀ id∈hid,id < (T i).H.length:=fun id hid'=>by
   obtain⟨b',k1,k2,k3,rfl⟩:=(h5 id).1 hid'
   exact wd1 hD hT hin hi hk k1 k2 k3
  have hsub:∀ id,l6 tr E.P ops U listed id→id∈hid:=fun id ⟨b',k1,k2,k3,k4⟩=>by
   refine (h5 id).2 ⟨b',k1,k2,?_,k4⟩
   cases hc:k9 M b' i with
   | false=>rfl
   | true=>exact absurd (za4 hD hR hi hdi k1 hc) k3
  have hMono:D0 (·∈hid) (D3 (T i).H (·∈hid)) (D3 (T i).H (l6 tr E.P ops U listed)) (D3 (T i).H (·∈hid)) (D3 (T i).H (l6 tr E.P ops U listed)):=by
   refine⟨by rw[ia9,ia9],fun id hn=>?_,fun id b hm hb=>?_,fun _ _=>rfl,fun _ _=>rfl,fun id h=>by rw[ia9];exact hall id h⟩
   ·rw[r9 (D:=(·∈hid)) hn,r9 fun h=>hn (hsub id h)]
   ·rw[L7 (D:=(·∈hid)) hm] at hb
    simp only[Option.map_eq_some_iff] at hb
    obtain⟨c,_,rfl⟩:=hb
    rfl
  obtain⟨H2',h8,h9⟩:=hMono.evalOp (tb9 hk) h6
  refine Yb8 hD hF hDS hG0 hcalls (x:=x) (H':=H2') hi hR.inv ((Ga4 hread.left).symm.trans g1) (fun _=>by rw[hsame];exact h8) (fun h=>by cases h) fun ac' w' hI'=>hfin ?_ hI'
  refine List.ext_getElem? fun id=>?_
  rw[h7]
  by_cases hm:id∈hid
  ·rw[h9.at2 id hm]
   have hr:=Bb1 (H0:=(T i).H) (H:=H') hm (hall id hm) (h9.bound id hm)
   by_cases hd:l6 tr E.P ops U listed id
   ·rw[L7 hd,L7 hd,hr]
   ·rw[r9 hd,r9 hd,hr]
  ·rw[← h9.same id hm,r9 fun h=>hm (hsub id h),Jb6 hm]
end
end Go.Ev
namespace Go.Ev
open Go
section
variable {DS:Nat→Prop} {tm:Array Value} {ds:List Deferred} {Fe:Fence} {nn:Nat}
variable {W:Nat→Prop} {ρ0:Rho} {H0:List b9} {F0:Fz} {w0 w:World}
variable {tr:Nat} {E:Env} {ops:Array Oper} {M:List Nat} {ks:List (Nat×PI)} {s:St} {U T:Nat→St}
variable (hD:DC tr E.P ops M ks) (hT:Ic2 E ops ks s U T) (hin:∀ j,j < ops.size→B5 tr E.P ops j=0→∀ d,Q7 ops j=some d→d < s.a.length) (hlen:H0.length≤s.H.length)
variable (hF:FW Fe) (hDS:∀ j d,j < ops.size→Q7 ops j=some d→DS d)
include hD hT hin hlen
include hF hDS in
theorem ld2 {m : Nat} {listed : Array Bool} {ac : Act} (hR : vb4 DS tm ds W ρ0 H0 F0 w0 tr E ops s.a U T m listed ac w) {i : Nat} (hi : i < ops.size) (hk : B5 tr E.P ops i = 0) (hnx : ¬ L8 listed i) (hdi : ∀ j ∈ Y0 (ha8 ops i), L8 listed j)
  {Q:Exit→Act→World→Prop} {K:Act→World→Prop} (hK:∀ ac' w',vb4 DS tm ds W ρ0 H0 F0 w0 tr E ops s.a U T m (listed.setIfInBounds i true) ac' w'→K ac' w'):wpOpIn Fe nn E.P ops Q i K ac w:=by
 obtain⟨t,z,d,ho,hgn,hz,hd,hU⟩:=Qa2 hD hT hi hk
 obtain⟨hd0,hsz,hsm,ρ,F,hAdv,hH,hA⟩:=hR.inv
 simp only at hAdv hH hA
 generalize hHS:D3 (T m).H (l6 tr E.P ops U listed)=HS at hAdv hH hA
 have hHSlen:HS.length=(T m).H.length:=by rw[← hHS,ia9]
 have his:i < listed.size:=by rw[hR.size];exact hi
 -- the block stands in the text's heap,asq it was made
 have hblk:(T m).H[(U i).H.length]?=some (T6 z):=by
  have h1:=vc8 hD hT hin hi hk m hR.hm fun h h1 h2=>by
   cases hc:k9 M i h with
   | false=>rfl
   | true =>
    have hh:h < ops.size:=by have:=hR.hm;omega
    exact absurd (za4 hD hR hh (hR.closed h hh ((hR.heavy h hh h2).2 h1)) hi hc) hnx
  obtain⟨t',z',h2,h3,h4⟩:=Xc7 hD hT hi hk
  have:t'=t:=by rw[ho] at h2;injection h2 with h2;exact h2.symm
  subst this
  have:z'=z:=Option.some.inj (h3.symm.trans hz)
  subst this
  rw[h1,h4]
 have hidlt:(U i).H.length < HS.length:=by rw[hHSlen];exact (List.getElem?_eq_some_iff.1 hblk).1
 have hidge:s.H.length≤(U i).H.length:=(Yb1 hD hT (by omega)).1
 have hdead:l6 tr E.P ops U listed (U i).H.length:=⟨i,hi,hk,hnx,rfl⟩
 have hinj:∀ b,b < ops.size→B5 tr E.P ops b=0→(U i).H.length=(U b).H.length→b=i:=fun b hb hkb he=>by
  rcases Nat.lt_trichotomy b i with h | h | h
  ·have:=ne5 hD hT h (by omega) hkb;omega
  ·exact h
  ·have:=ne5 hD hT h (by omega) hk;omega
 have hdead':∀ id,l6 tr E.P ops U (listed.setIfInBounds i true) id↔l6 tr E.P ops U listed id∧id≠(U i).H.length:=fun id=>by
  constructor
  ·rintro⟨b,h1,h2,h3,h4⟩
   refine⟨⟨b,h1,h2,fun h=>h3 ((ba9 his).2 (.inl h)),h4⟩,fun e=>h3 ((ba9 his).2 (.inr ?_))⟩
   exact hinj b h1 h2 (e.symm.trans h4)
  ·rintro⟨⟨b,h1,h2,h3,h4⟩,h5⟩
   refine⟨b,h1,h2,fun h=>?_,h4⟩
   rcases (ba9 his).1 h with h | h
   ·exact h3 h
   ·subst h;exact h5 h4
 generalize hHS':D3 (T m).H (l6 tr E.P ops U (listed.setIfInBounds i true))=HS'
 have hoff:∀ id,id≠(U i).H.length→HS'[id]?=HS[id]?:=fun id hne=>by
  rw[← hHS',← hHS]
  by_cases h:l6 tr E.P ops U listed id
  ·rw[L7 h,L7 ((hdead' id).2 ⟨h,hne⟩)]
  ·rw[r9 h,r9 fun h'=>h ((hdead' id).1 h').1]
 have hon:HS'[(U i).H.length]?=some (T6 z):=by
  rw[← hHS',r9 fun h'=>((hdead' _).1 h').2 rfl]
  exact hblk
 have hHSdead:∀ b,HS[(U i).H.length]?=some b→b.dead=true:=fun b hb=>by
  rw[← hHS,L7 hdead] at hb
  simp only[Option.map_eq_some_iff] at hb
  obtain⟨c,_,rfl⟩:=hb
  rfl
 -- the operation
 have hev:(evalOp E (ia8 (T ops.size).a s.a (u9 ops listed)) HS (.alloc z)).run=some (.ptr HS.length 0 0 0,HS++[T6 z]):=by
  simp only[evalOp,DT.run_ret,j8,ia7,E6,T6]
 unfold wpOpIn
 have hw:Region.wanted (ha8 ops i) (yielded ops ac.tmps)=true:=by simp[Region.wanted,hgn]
 simp only[V5 hi,hw]
 rw[if_pos trivial]
 refine (sb7 (ac:={ ac with defers:=[] }) hH ho hz hev).inAny hF nn _ _ (fun x' w' hp=>hK _ _ (vb4.next hD hR hi hdi hR.hm (fun j hj hkj=>?_) (x:=.ptr (U i).H.length 0 0 0) (fun d' hd' hlt=>?_) ?_))
 ·rw[ba9 his,← hR.heavy j hj hkj]
  exact⟨fun h=>h.resolve_right fun e=>by subst e;omega,.inl⟩
 ·refine qc4 hD hT hi hk hd' ?_ (Nat.le_refl _)
  rw[← (va1 hD hT ops.size (Nat.le_refl _)).2]
  exact hlt
 ·obtain⟨ρ',F',a1,a2,a3⟩:=hp
  rw[hHS']
  have hadv:=hAdv.trans a1
  let ρ2:Rho:=fun id=>if id=(U i).H.length then ρ' HS.length else ρ' id
  have hρ2:∀ id,id≠(U i).H.length→ρ2 id=ρ' id:=fun id h=>if_neg h
  have hρ2':ρ2 (U i).H.length=ρ' HS.length:=if_pos rfl
  have hold:∀ id b,HS'[id]?=some b→id≠(U i).H.length→(HS++[T6 z])[id]?=some b:=fun id b hb hne=>by
   rw[hoff id hne] at hb
   rw[List.getElem?_append_left (List.getElem?_eq_some_iff.1 hb).1]
   exact hb
  have hN:(HS++[T6 z])[HS.length]?=some (T6 z):=by simp
  refine⟨(r6 _ _).trans hd0,(ja0 _ _).trans hsz,mb4.puts hDS hi hsm _,ρ2,F',⟨hadv.ext,fun id b hb=>?_,hadv.more,hadv.new,fun id b' hb' hn=>?_⟩,?_,?_⟩
  ·have hidH:id < s.H.length:=by have:=(List.getElem?_eq_some_iff.1 hb).1;omega
   have hne:id≠(U i).H.length:=by omega
   obtain⟨b',h1,h2⟩:=hadv.heap id b hb
   rw[List.getElem?_append_left (by omega)] at h1
   refine⟨b',by rw[hoff id hne];exact h1,?_⟩
   rw[hρ2 id hne]
   exact h2
  ·by_cases he:id=(U i).H.length
   ·subst he
    rw[hρ2']
    exact hadv.fresh HS.length _ hN fun b hb=>by have:=(List.getElem?_eq_some_iff.1 hb).1;omega
   ·rw[hρ2 id he]
    exact hadv.fresh id b' (hold id b' hb' he) hn
  ·refine a2.pull (fun id=>if id=(U i).H.length then HS.length else id) (fun id b hb hdd=>?_) fun id id' b b' hb hdd hb' hdd' he=>?_
   ·by_cases e:id=(U i).H.length
    ·subst e
     simp only[if_true]
     have:b=T6 z:=Option.some.inj (hb.symm.trans hon)
     subst this
     exact⟨hN,hρ2'⟩
    ·simp only[if_neg e]
     exact⟨hold id b hb e,hρ2 id e⟩
   ·have hlt : ∀ id b, HS'[id]? = some b → id ≠ (U i).H.length → id < HS.length := fun id b hb hne => by
     rw[hoff id hne] at hb
     exact (List.getElem?_eq_some_iff.1 hb).1
    by_cases e:id=(U i).H.length
    ·by_cases e':id'=(U i).H.length
     ·rw[e,e']
     ·simp only[if_pos e,if_neg e'] at he
      have:=hlt id' b' hb' e'
      omega
    ·by_cases e':id'=(U i).H.length
     ·simp only[if_neg e,if_pos e'] at he
      have:=hlt id b hb e
      omega
     ·simpa only[if_neg e,if_neg e'] using he
  ·have hA2 : ja9 ρ2 HS' F' w' (ia8 (T ops.size).a s.a (u9 ops listed)) ac.tmps := by
    refine hA.carry (fun id b hb hdd=>?_) a1.more a1.ext.cells
    have hne:id≠(U i).H.length:=fun e=>by
     subst e
     rw[hHSdead b hb] at hdd
     cases hdd
    obtain⟨b',h1,h2,h3,h4⟩:=a1.heap id b hb
    rw[List.getElem?_append_left (List.getElem?_eq_some_iff.1 hb).1] at h1
    refine⟨b',by rw[hoff id hne];exact h1,h2.trans hdd,h3,fun hg=>?_⟩
    rw[hρ2 id hne]
    exact h4 hg
   have hW:z7 ρ2 HS' F' w' (.ptr (U i).H.length 0 0 0) x':=by
    obtain⟨ad,b,e,h1,h2,h3,h4⟩:=sa1 a3
    have:b=T6 z:=Option.some.inj (h1.symm.trans hN)
    subst this
    rw[e]
    refine .val (.cell (.ptr _ 0 0 0 ad _ hon rfl (Nat.le_refl _) fun _=>?_))
    rw[hρ2']
    exact h4 rfl
   exact hA2.putA (Q7 ops i) hW
omit hin in
theorem ld3 {ac : Act} (hI : mb4 DS tm ds W ρ0 H0 F0 w0 s ac w) :
  vb4 DS tm ds W ρ0 H0 F0 w0 tr E ops s.a U T 0 (Array.replicate ops.size false) ac { w with drawn:=w.drawn+1 }:=by
 have hnx:∀ j,j < ops.size→¬ L8 (Array.replicate ops.size false) j:=fun j hj h=>by
  unfold L8 at h
  simp[Array.getD,hj] at h
 obtain⟨hd0,hsz,hsm,ρ,F,hAdv,hH,hA⟩:=hI
 have hdead:∀ id,l6 tr E.P ops U (Array.replicate ops.size false) id→s.H.length≤id:=fun id ⟨b,h1,_,_,h4⟩=>by
  have:=(Yb1 hD hT (j:=b) (by omega)).1
  omega
 have hlow:∀ id,id < s.H.length→(D3 (T 0).H (l6 tr E.P ops U (Array.replicate ops.size false)))[id]?=s.H[id]?:=fun id hid=>by
  rw[r9 fun h=>by have:=hdead id h;omega,hT.t0]
  exact (Yb1 hD hT (Nat.le_refl _)).2 id hid
 have hhigh:∀ id b,(D3 (T 0).H (l6 tr E.P ops U (Array.replicate ops.size false)))[id]?=some b→s.H.length≤id→b.dead=true:=fun id b hb hge=>by
  have hlt:id < (T 0).H.length:=by
   have:=(List.getElem?_eq_some_iff.1 hb).1
   rwa [ia9] at this
  rw[hT.t0] at hlt
  obtain⟨j,h1,h2,h3⟩:=Dd0 hD hT ops.size (Nat.le_refl _) id hge hlt
  rw[L7 (show l6 tr E.P ops U (Array.replicate ops.size false) id from ⟨j,h1,h2,hnx j h1,h3⟩)] at hb
  simp only[Option.map_eq_some_iff] at hb
  obtain⟨c,_,rfl⟩:=hb
  rfl
 have hH':v8 W ρ s.H F { w with drawn:=w.drawn+1 }:=hH.same rfl
 have hAdv':Adv W ρ0 H0 F0 w0 ρ s.H F { w with drawn:=w.drawn+1 }:=hAdv.trans (.same rfl rfl rfl rfl (Nat.le_succ _))
 let ρ1:Rho:=fun id=>if id < s.H.length then ρ id else ⟨w.heap.size,0,0⟩
 have hρ1:∀ id,id < s.H.length→ρ1 id=ρ id:=fun id h=>if_pos h
 have hlive:∀ id b,(D3 (T 0).H (l6 tr E.P ops U (Array.replicate ops.size false)))[id]?=some b→b.dead=false→id < s.H.length:=fun id b hb hd=>by
  rcases Nat.lt_or_ge id s.H.length with h | h
  ·exact h
  ·rw[hhigh id b hb h] at hd;cases hd
 refine⟨by simp,fun j hj hx=>absurd hx (hnx j hj),Nat.zero_le _,fun j hj _=>⟨fun h=>absurd h (hnx j hj),fun h=>by omega⟩,hd0,hsz,hsm,ρ1,F,⟨hAdv'.ext,fun id b hb=>?_,hAdv'.more,hAdv'.new,fun id b hb hn=>?_⟩,?_,?_⟩
 ·have hid:id < s.H.length:=by have:=(List.getElem?_eq_some_iff.1 hb).1;omega
  obtain⟨b',h1,h2⟩:=hAdv'.heap id b hb
  refine⟨b',(hlow id hid).trans h1,?_⟩
  rw[hρ1 id hid]
  exact h2
 ·simp only at hb
  by_cases hid:id < s.H.length
  ·rw[hlow id hid] at hb
   rw[hρ1 id hid]
   exact hAdv'.fresh id b hb hn
  ·show W (if id < s.H.length then ρ id else ⟨w.heap.size,0,0⟩).blk
   rw[if_neg hid]
   exact hH.new _ (Nat.le_refl _)
 ·refine hH'.pull (fun id=>id) (fun id b hb hd=>?_) fun _ _ _ _ _ _ _ _ h=>h
  have hid:=hlive id b hb hd
  rw[← hlow id hid]
  exact⟨hb,hρ1 id hid⟩
 ·have hcarry : wc0 ρ s.H ρ1 (D3 (T 0).H (l6 tr E.P ops U (Array.replicate ops.size false))) := fun id b hb hd => by
   have hid:=(List.getElem?_eq_some_iff.1 hb).1
   exact⟨b,(hlow id hid).trans hb,hd,Nat.le_refl _,fun _=>⟨hρ1 id hid,rfl,Nat.le_refl _⟩⟩
  refine⟨by rw[ma9,(va1 hD hT ops.size (Nat.le_refl _)).2];exact hA.1,fun t x x' hx hx'=>?_⟩
  simp only at hx
  by_cases ht:u9 ops (Array.replicate ops.size false) t
  ·have hlt : t < (T ops.size).a.length := by
    have:=(List.getElem?_eq_some_iff.1 hx).1
    rwa [ma9] at this
   rw[gb9 ht hlt] at hx
   injection hx with hx
   rw[(va1 hD hT ops.size (Nat.le_refl _)).2] at hlt
   rw[List.getElem?_eq_getElem hlt,Option.getD_some] at hx
   exact z7.carry (w:=w) (w':={ w with drawn:=w.drawn+1 }) hcarry (fun _ _ h=>h) (fun _ _ _=>rfl) (hA.2 t x x' (by rw[← hx];exact List.getElem?_eq_getElem hlt) hx')
  ·rw[na0 ht] at hx
   have hno:∀ j,j < ops.size→Q7 ops j≠some t:=fun j hj he=>ht ⟨j,hj,he,hnx j hj⟩
   have h1:=db9 hD hT (t:=t) ops.size 0 (by omega) fun j _ h2 _=>hno j (by omega)
   have h2:=Yb0 hD hT (t:=t) ops.size 0 (by omega) fun j _ h2 _=>hno j (by omega)
   rw[Nat.zero_add] at h1 h2
   rw[h1,hT.t0,h2,hT.u0] at hx
   exact z7.carry (w:=w) (w':={ w with drawn:=w.drawn+1 }) hcarry (fun _ _ h=>h) (fun _ _ _=>rfl) (hA.2 t x x' hx hx')
omit hin hlen in
theorem Qc8 {m:Nat} {listed:Array Bool} {ac:Act} (hR:vb4 DS tm ds W ρ0 H0 F0 w0 tr E ops s.a U T m listed ac w) (hall:∀ j,j < ops.size→L8 listed j):mb4 DS tm ds W ρ0 H0 F0 w0 (T ops.size) ac w:=by
 have h1:ia8 (T ops.size).a s.a (u9 ops listed)=(T ops.size).a:=vc0 fun t ⟨j,h1,_,h3⟩=>h3 (hall j h1)
 have h2:D3 (T m).H (l6 tr E.P ops U listed)=(T ops.size).H:=by
  rw[vc1 fun id ⟨b,h1,_,h3,_⟩=>h3 (hall b h1)]
  have:=vc7 hD hT (ops.size - m) m (by have:=hR.hm;omega) fun j h3 h4 hk=>by
   have hj:j < ops.size:=by have:=hR.hm;omega
   have:=(hR.heavy j hj hk).1 (hall j hj)
   omega
  rw[show m+(ops.size - m)=ops.size by have:=hR.hm;omega] at this
  exact this.symm
 have h3:=hR.inv
 rw[h1,h2] at h3
 exact h3
variable (hpairs:xa2 E (T ops.size).a (sa0 ops.size M ks)=true) (hG0:GOk E F0 w0) (hcalls:∀ f,g8 E.P E.G f (E.call f))
include hpairs hG0 hcalls hF hDS
theorem Bb9 {Q:Exit→Act→World→Prop} (hQ:∀ ac' w',mb4 DS tm ds W ρ0 H0 F0 w0 (T ops.size) ac' w'→Q .normal ac' w'):∀ (fuel m:Nat) (listed:Array Bool) (ac:Act) (w:World),vb4 DS tm ds W ρ0 H0 F0 w0 tr E ops s.a U T m listed ac w→na1 listed≤fuel→wpAnyIn Fe nn E.P .any ops Q fuel listed ac w
 | 0,m,listed,ac,w,hR,hc=>by
  have hall:∀ j,L8 listed j:=ub1 (by omega)
  refine⟨?_,hQ _ _ (Qc8 hD hT hR fun j _=>hall j)⟩
  rw[List.eq_nil_iff_forall_not_mem]
  intro i hi
  exact (mb0 hi).2.1 (hall i)
 | fuel+1,m,listed,ac,w,hR,hc=>by
  refine⟨fun h=>hQ _ _ (Qc8 hD hT hR (Pc9 hD hR.size h)),fun i hi=>?_⟩
  obtain⟨h1,h2,h3⟩:=mb0 hi
  have hdi:∀ j∈Y0 (ha8 ops i),L8 listed j:=fun j hj=>h3 hR.size j hj (by have:=Bb2 hD.rows (V5 h1) hj;omega)
  have hcount:na1 (listed.setIfInBounds i true)≤fuel:=by
   have his:i < listed.size:=by rw[hR.size];exact h1
   have hf:listed.toList[i]?=some false:=by
    have:listed.getD i true=false:=by unfold L8 at h2;simpa using h2
    simp only[Array.getD,his,dite_true] at this
    rw[List.getElem?_eq_getElem (by simpa using his)]
    congr 1
   have:=eb0 listed.toList i hf
   unfold na1 at hc ⊢
   rw[Array.toList_setIfInBounds]
   omega
  rcases hb5 (tr:=tr) (P:=E.P) (ops:=ops) i with hk | hk | hk
  ·exact ld2 hD hT hin hlen hF hDS hR h1 hk h2 hdi fun ac' w' hR'=>Bb9 hQ fuel m _ ac' w' hR' hcount
  ·exact ld0 hD hT hin hpairs hF hDS hG0 hcalls hR h1 hk h2 hdi fun ac' w' hR'=>Bb9 hQ fuel m _ ac' w' hR' hcount
  ·exact ld1 hD hT hin hF hDS hG0 hcalls hR h1 hk h2 hdi fun ac' w' hR'=>Bb9 hQ fuel (i+1) _ ac' w' hR' hcount
end
end Go.Ev
namespace Go.Ev
open Go
section
variable {DS:Nat→Prop} {tm:Array Value} {ds:List Deferred} {Fe:Fence} {nn:Nat} {E:Env}
theorem qe0 (hF : FW Fe) (hm : E.P.follows .mixedOrders = true) (hcalls : ∀ f, g8 E.P E.G f (E.call f)) {W : Nat → Prop} {ρ0 : Rho} {H0 : List b9} {F0 : Fz} {w0 : World} {k : Nat} (hG0 : GOk E F0 w0)
  {id:Nat} {ops:Array Oper} {s:St} {x:e7} {s':St} (hDS:∀ j d,j < ops.size→Q7 ops j=some d→DS d) (hlen:H0.length≤s.H.length)
  (he:(J9 E k (Ta4 E.P ops) s).run=some (x,s')) {ac:Act} {w:World} {Q:Exit→Act→World→Prop} (hI:mb4 DS tm ds W ρ0 H0 F0 w0 s ac w)
  (hQ:∀ ac' w',mb4 DS tm ds W ρ0 H0 F0 w0 s' ac' w'→Q (toX x) ac' w'):(Code.region id ops true).wpIn Fe nn E.P Q ac w:=by
 have hdr:∃ dsts asq l ps,Ta4 E.P ops=.draw dsts asq l ps:=by
  unfold Ta4 at he ⊢
  have hT:∀ tr,(∃ a b c d,Ta3 tr E.P ops=.draw a b c d)∨Ta3 tr E.P ops=.bad:=fun tr=>by
   unfold Ta3
   simp only
   cases ud3 tr E.P ops (Region.before ops).toList 0 ops.toList with
   | none=>exact .inr rfl
   | some ks =>
    simp only[Wc0]
    split
    ·exact .inl ⟨_,_,_,_,rfl⟩
    ·exact .inr rfl
  revert he
  rcases hT 0 with⟨a,b,c,d,h0⟩ | h0<;>rw[h0]<;>intro he
  ·exact⟨_,_,_,_,rfl⟩
  ·revert he
   rcases hT 1 with⟨a,b,c,d,h1⟩ | h1<;>rw[h1]<;>intro he
   ·exact⟨_,_,_,_,rfl⟩
   ·revert he
    rcases hT 2 with⟨a,b,c,d,h2⟩ | h2<;>rw[h2]<;>intro he
    ·exact⟨_,_,_,_,rfl⟩
    ·cases he
 obtain⟨dsts,asq,l,ps,hc⟩:=hdr
 rw[hc] at he
 obtain⟨tr,M,ks,hD,rfl,rfl,rfl,rfl⟩:=id5 hc
 have he' : ((H9 E ((List.range ops.size).filterMap (bb2 ks)) s).bind fun s => (H9 E ((List.range ops.size).filterMap (Fb1 ks)) s).bind fun s =>
   Bool.rec (motive:=fun _=>DT (e7×St)) .fail (Bool.rec (motive:=fun _=>DT (e7×St)) .fail (.ret (.normal,s)) (ab9 s.a ((List.range ops.size).filterMap (bb2 ks)))) (xa2 E s.a (sa0 ops.size M ks))).run=some (x,s'):=he
 obtain⟨s1,h1,h2⟩:=DT.run_bind_some he'
 obtain⟨s2,h3,h4⟩:=DT.run_bind_some h2
 obtain⟨U,u0,u1,u2⟩:=Ba7 _ _ _ _ h1
 obtain⟨T,t0,t1,t2⟩:=Ba7 _ _ _ _ h3
 have hT:Ic2 E ops ks s U T:=⟨u0,u2,t0.trans u1.symm,t2⟩
 cases hp:xa2 E s2.a (sa0 ops.size M ks) with
 | false=>rw[hp] at h4;cases h4
 | true =>
 rw[hp] at h4
 simp only at h4
 cases hs:ab9 s2.a ((List.range ops.size).filterMap (bb2 ks)) with
 | false=>rw[hs] at h4;cases h4
 | true =>
 rw[hs] at h4
 have h4':some (e7.normal,s2)=some (x,s'):=h4
 injection h4' with h4';injection h4' with e1 e2;subst e1 e2
 rw[← t1] at hp hs hQ
 have hin:∀ j,j < ops.size→B5 tr E.P ops j=0→∀ d,Q7 ops j=some d→d < s.a.length:=fun j hj hk d hd=>by
  rw[← (va1 hD hT ops.size (Nat.le_refl _)).2]
  refine Jb8 hs (tb8 tr E.P ops M j) ?_ d hd
  rw[List.mem_filterMap]
  exact⟨j,List.mem_range.2 hj,(Xc3 hD hj hk).1⟩
 refine wpIn_region_any hm (Bb9 hD hT hin hlen hF hDS hp hG0 hcalls hQ ops.size 0 _ ac _ (ld3 hD hT hlen hI) ?_)
 unfold na1
 simp
end
section
variable {P:Program} {WB K:Nat→Prop} {J:List Value→World→Prop} {ρ0:Rho} {H0:List b9} {F0:Fz} {w w0:World} {s:St} {ac:Act} {E:Env}
theorem Yd5 {Fe : Fence} {n m kk id : Nat} (hm : E.P.follows .mixedOrders = true) (hF : FW Fe) (hG0 : GOk E F0 w0) (hcalls : ∀ f, g8 E.P E.G f (E.call f)) (hJ : Kb3 K J) {ops : Array Oper} {Q : Exit → Act → World → Prop} {x : e7} {s' : St}
  (hI:Ld7 E.P WB K J n ρ0 H0 F0 w0 s ac w) (he:(J9 E kk (.mask n (ops.toList.filterMap (·.dst)) (Ta4 E.P ops)) s).run=some (x,s'))
  (hQ:∀ ac' w',Ld7 E.P WB K J n ρ0 H0 F0 w0 s' ac' w'→ac'.defers=ac.defers→(∀ t,¬ t∈ops.toList.filterMap (·.dst)→ac'.tmps[t]?=ac.tmps[t]?)→Q (toX x) ac' w'):(Code.region id ops true).wpIn Fe m E.P Q ac w:=by
 obtain⟨ρ,F,W',up,hI⟩:=hI
 have he':((J9 E kk (Ta4 E.P ops) ⟨r5 (ba8 s.H) (A3 s.a n),n4 s.H⟩).bind fun r=>.guard (Nb1 s.H r.2.H) (.ret (r.1,⟨ia1 (ops.toList.filterMap (·.dst)) s.a r.2.a 0,w6 s.H r.2.H⟩))).run=some (x,s'):=he
 obtain⟨⟨x1,s1⟩,h1,h2⟩:=DT.run_bind_some he'
 obtain⟨ho,h2⟩:=DT.run_guard_some h2
 have h2:some (x1,(⟨ia1 (ops.toList.filterMap (·.dst)) s.a s1.a 0,w6 s.H s1.H⟩:St))=some (x,s'):=h2
 injection h2 with h2;injection h2 with e1 e2;subst e1 e2
 have hG:GOk E F w:=hG0.adv hI.core.adv
 refine qe0 (DS:=(·∈ops.toList.filterMap (·.dst))) (tm:=ac.tmps) (ds:=ac.defers) (W:=W') (ρ0:=ρ) (H0:=n4 s.H) (F0:=F) (w0:=w) hF hm hcalls hG (fun j d hj hd=>?_) (Nat.le_refl _) h1 ⟨rfl,rfl,fun _ _=>rfl,ρ,F,.refl,hI.core.hrel,hI.arel⟩ fun ac' w' hM=>?_
 ·refine List.mem_filterMap.2 ⟨ha8 ops j,?_,hd⟩
  have:=V5 hj
  exact Array.mem_toList_iff.2 (Array.mem_of_getElem? this)
 ·obtain⟨k1,k2,k3⟩:=Qc3 hJ hI ho hM
  exact hQ ac' w' k1 k2 k3
end
end Go.Ev
