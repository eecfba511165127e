/- Own work. -/
import Derived.Test.YtkfaiccnekeklaaGreatEvOcH
set_option linter.all false
noncomputable section
def Qla:=@Classical.byContradiction
def Qlb:=@Array.getElem?_eq_getElem
namespace Go.Ev.Ce
open Go Go.Ev Go.Ev.L Go.Proofs
set_option maxRecDepth 100000
theorem od3{l:List V3}(hc:aa6 l=0):4<=(F0 l).length:=by
 obtain⟨_,hl,h4⟩:=Q6 hc;obtain⟨v,hv⟩:=Sd1 hl h4;obtain⟨p,q,s,hp,hq,hs,hm,e1,e2,e3⟩:=((lc2 hl v).1 hv).2;have hpos:=vd2 hc;rw[xc6 hc v] at hpos;have hpos:0<sig (F0 l) (λp=>CN p (da8 l) v):=hpos
 obtain⟨t,ht,hne⟩:∃t∈F0 l,dot t.n v≠t.b:=by
  apply Qla;intro hno
  have:sig (F0 l) (λp=>CN p (da8 l) v)=0:=Ca7 λr hr=>(Rb8 hc hr v).2.1 (by
   apply Qla;intro h;exact hno ⟨r,hr,h⟩)
  omega
 have n1:p≠q:=λe=>hm (by subst e;simp only[mw,dot,c7];grind)
 have n2:p≠s:=λe=>hm (by subst e;simp only[mw,dot,c7];grind)
 have n3:q≠s:=λe=>hm (by subst e;simp only[mw,dot,c7];grind)
 have n4:t≠p:=λe=>hne (by subst e;exact e1)
 have n5:t≠q:=λe=>hne (by subst e;exact e2)
 have n6:t≠s:=λe=>hne (by subst e;exact e3)
 have hnd:[t,p,q,s].Nodup:=by simp[n1,n2,n3,n4,n5,n6]
 exact List.Nodup.length_le_of_subset hnd λr hr=>by
  simp only[List.mem_cons,List.not_mem_nil,or_false] at hr
  rcases hr with rfl|rfl|rfl|rfl<;>assumption
theorem ve8{l:List V3}(hc:aa6 l=0):Sm 100000000000000000 (ba5 l).1:=by
 obtain⟨h48,hl,h4⟩:=Q6 hc;have hX:=Rb7 hc;have hlen:(da8 l).length<=48:=by have:=ud7 (l:=l);unfold da8;omega
 have hF:(F0 (da8 l)).length<=1000000:=hb8 hlen hX.iv;have hbs:=wc8 (l:=F0 (da8 l)) (B:=3057647616) (f:=λp=>AR (onF p (da8 l)) p.n (ptF p (da8 l))) λp hp=>hX.ar_bd hlen (hX.mem.1 hp)
 have hlt:(F0 (da8 l)).length*3057647616<=1000000*3057647616:=Nat.mul_le_mul_right _ hF;unfold ba5;rw[if_pos hc];exact hbs.mono (by omega)
section
variable{l:List V3}(hc:aa6 l=0)(h40:l.length<=40){v:V3}(hv:inV v=true)(hin:∀p∈F0 l,dot p.n v<=p.b)
include hc h40 hv hin
theorem xc9 (P : C5) (h1 : P.Ic8 = l) (h2 : P.Zb5 = F0 l) (h3 : P.je1 = ((F0 l).length : Int)) (h4 : P.d9 = v.x ∧ P.d8 = v.y ∧ P.f7 = v.z) :
  ∃s,lp (H4 P) ⟨0,0⟩=(2,s)/\s.Zb4=(ba5 l).1:=by
 obtain⟨h48,hl,hs⟩:=Q6 hc;have hi:=List.all_eq_true.1 hl;have hF:(F0 l).length<=1000000:=hb8 h48 hl;have hbd:=ve8 hc;have hfr:=xc6 hc v;have hT:(ba5 l).1=sig (F0 l) λp=>CN p (da8 l) v:=by rw[hfr]
 have nn:∀p∈F0 l,0<=CN p (da8 l) v:=λp hp=>by
  obtain⟨k1,k2,_⟩:=Rb8 hc hp v
  have:=hin p hp
  by_cases he:dot p.n v=p.b
  ·rw[k2 he];omega
  ·have:=k1 (by omega);omega
 have part:∀j,0<=sig ((F0 l).take j) (λp=>CN p (da8 l) v)/\sig ((F0 l).take j) (λp=>CN p (da8 l) v)<=(ba5 l).1:=λj=>by
  have e:sig (F0 l) (λp=>CN p (da8 l) v)=sig ((F0 l).take j) (λp=>CN p (da8 l) v)+sig ((F0 l).drop j) (λp=>CN p (da8 l) v):=by rw[<- yb5,List.take_append_drop]
  have a1:0<=sig ((F0 l).take j) (λp=>CN p (da8 l) v):=wc4 λp hp=>nn p (List.mem_of_mem_take hp)
  have a2:0<=sig ((F0 l).drop j) (λp=>CN p (da8 l) v):=wc4 λp hp=>nn p (List.mem_of_mem_drop hp)
  omega
 suffices key:∃t s,lp (H4 P) ⟨0,0⟩=(t,s)/\(t=2/\s.Zb4=(ba5 l).1) by
  obtain⟨t,s,h,rfl,h2⟩:=key;exact⟨s,h,h2⟩
 refine R6 (step:=H4 P) (mk:=λj (q:Int)=>(⟨q,(j:Int)⟩:j9)) (F0 l).length (λj q=>j<=(F0 l).length/\q=sig ((F0 l).take j) λp=>CN p (da8 l) v) (λt s=>t=2/\s.Zb4=(ba5 l).1) (by omega)
  (λj q hj hq=>?_) (λj q hj hq=>?_) 0 0 ⟨Nat.zero_le _,by simp[sig]⟩
 ·obtain⟨hj',rfl⟩:=hq;have hN:=C0 hj (show (F0 l).length<=4611686018427387904 by omega)
  have hpm:gL tP (F0 l) j∈F0 l:=Ba8 tP hj;have hp:=(B7 hl _).1 hpm;obtain⟨b1,b2⟩:=hbd;obtain⟨c1,c2⟩:=part j;obtain⟨d1,d2⟩:=part (j+1);have hTk:sig ((F0 l).take (j+1)) (λp=>CN p (da8 l) v)=sig ((F0 l).take j) (λp=>CN p (da8 l) v)+CN (gL tP (F0 l) j) (da8 l) v:=by
   rw[Oa8 tP hj,yb5,m9,Pa8,Int.add_zero]
  have hve:(⟨P.d9,P.d8,P.f7⟩:V3)=v:=by rw[h4.1,h4.2.1,h4.2.2]
  have hside:(C7 (gL tP (F0 l) j) v==0)=decide (dot (gL tP (F0 l) j).n v=(gL tP (F0 l) j).b):=by rw[kb9,Td4 hp.ok hv]
  have happ:app (bL tV (onF (gL tP (F0 l) j) l)) [[i P.d9,i P.d8,i P.f7]]=bL tV (onF (gL tP (F0 l) j) l++[v]):=by rw[h4.1,h4.2.1,h4.2.2];exact le9 _ v
  have hle:(onF (gL tP (F0 l) j) l).length<=l.length:=List.length_filter_le _ _;have h0:onF (gL tP (F0 l) j) l≠[]:=λe=>by
   obtain⟨u,_,_,hu,_,_,_,e1,_⟩:=hp.on
   have:=G9.2 ⟨hu,e1⟩
   rw[e] at this;cases this
  have hph:phV (onF (gL tP (F0 l) j) l)=1:=by
   cases hO:onF (gL tP (F0 l) j) l with
   |nil=>exact absurd hO h0
   |cons a l=>rfl
  have hon:yb7 (gL tP (F0 l) j) l=⟨2,(onF (gL tP (F0 l) j) l).length,bL tV (onF (gL tP (F0 l) j) l)⟩:=by
   obtain⟨jj,h⟩:=Sc4 ⟨l,(gL tP (F0 l) j).n.x,(gL tP (F0 l) j).n.y,(gL tP (F0 l) j).n.z,(gL tP (F0 l) j).b⟩ (gL tP (F0 l) j) l rfl ⟨rfl,rfl,rfl,rfl⟩ hp.ok hi (by omega)
   rw[hph] at h;unfold yb7 Qa8;simp only[o6,l9,h];rfl
  have hroom:(Nat.beq (onF (gL tP (F0 l) j) l).length (len (bL tV (onF (gL tP (F0 l) j) l)))&&Nat.ble (((onF (gL tP (F0 l) j) l).length+1)*24) room)=true:=ad8 rfl (by omega)
  have hl1:(onF (gL tP (F0 l) j) l).length+1=(onF (gL tP (F0 l) j) l++[v]).length:=by simp only[List.length_append,List.length_singleton]
  rw[hl1] at hroom;have hl48:(onF (gL tP (F0 l) j) l++[v]).length<=48:=by rw[<- hl1];omega
  have s1:D6 (onF (gL tP (F0 l) j) l++[v])=ba5 (onF (gL tP (F0 l) j) l++[v]):=Ic4 _ (by omega)
  have s2:B9 (onF (gL tP (F0 l) j) l++[v])=true:=Ic5 _ (by omega)
  show Nx (r7 Stp.next Stp.exit Stp.fail _ _) _ _;by_cases he:dot (gL tP (F0 l) j).n v=(gL tP (F0 l) j).b
  ·have hz:=(Rb8 hc hpm v).2.1 he;rw[hz,Int.add_zero] at hTk;rw[decide_eq_true he] at hside;simp only[r7,h1,h2,h3,hve,Int.toNat_natCast,Oa9,hside,hN,i6 hj];rw[btD (o5 hj)];exact Nx.nx (s:=(⟨sig ((F0 l).take j) (λp=>CN p (da8 l) v),((j+1:Nat):Int)⟩:j9)) (N:=λs=>∃q',s=(⟨q',((j+1:Nat):Int)⟩:j9)/\(j+1<=(F0 l).length/\q'=sig ((F0 l).take (j+1)) λp=>CN p (da8 l) v)) ⟨_,rfl,by omega,hTk.symm⟩
  ·rw[decide_eq_false he] at hside;have hlt:dot (gL tP (F0 l) j).n v<(gL tP (F0 l) j).b:=by have:=hin _ hpm;omega
   obtain⟨_,k2,k3⟩:=ie1 hc hpm hv hlt hl48 λu=>by
    rw[List.mem_append,G9,List.mem_singleton]
   rw[k2] at s1;have hW:W (sig ((F0 l).take j) (λp=>CN p (da8 l) v)+CN (gL tP (F0 l) j) (da8 l) v)=sig ((F0 l).take (j+1)) λp=>CN p (da8 l) v:=by
    rw[<- hTk];exact aa0 (by omega) (by omega)
   have hn1:decide (CN (gL tP (F0 l) j) (da8 l) v<1)=false:=decide_eq_false (by omega)
   simp only[r7,h1,h2,h3,hve,Int.toNat_natCast,Oa9,hside,hN,i6 hj,o6,ha9,hon,happ,hroom,hl1,Gb3,Tb2,s1,s2,hn1,hW];rw[btD (o5 hj)];exact Nx.nx (s:=(⟨sig ((F0 l).take (j+1)) (λp=>CN p (da8 l) v),((j+1:Nat):Int)⟩:j9)) (N:=λs=>∃q',s=(⟨q',((j+1:Nat):Int)⟩:j9)/\(j+1<=(F0 l).length/\q'=sig ((F0 l).take (j+1)) λp=>CN p (da8 l) v)) ⟨_,rfl,by omega,rfl⟩
 ·obtain⟨hj',rfl⟩:=hq;have e:j=(F0 l).length:=by omega
  subst e;refine⟨2,?_,rfl,by rw[List.take_length];exact hT.symm⟩
  show r7 Stp.next Stp.exit Stp.fail _ _=_;simp only[r7,h3];rw[bfD (u9 (Nat.lt_irrefl _))]
end
theorem od4{a c:Int}(ha:Sm 11 a)(hc:Sm 11 c):Sm 11 (W (Int.tdiv (W (a+c)) 2)):=by
 obtain⟨a1,a2⟩:=ha;obtain⟨c1,c2⟩:=hc;rw[aa0 (n:=a+c) (by omega) (by omega)]
 have h:-11<=Int.tdiv (a+c) 2/\Int.tdiv (a+c) 2<=11:=by
  have h2:(Int.tdiv (a+c) 2).natAbs=(a+c).natAbs / 2:=Int.natAbs_tdiv (a+c) 2;omega
 rw[aa0 (by omega) (by omega)]
 exact⟨by omega,by omega⟩
theorem Ic7(x:List Int)(y:B2)(hy:(0<=y.d0/\y.d0<=255)/\0<=y.d1/\y.d1<=255):W5 x y=some (b true,[]):=by
 have hm:=dd3 (x.take 40);have hp:=od0 x;have hgp:=od1 x;generalize p7 (x.take 40)=l at hm hp;have hl4:=hm.l4;have hl8:=hm.l8;have hc:=hm.chk;obtain⟨_,hl,_⟩:=Q6 hc;have idx:∀d:Int,0<=d/\d<=255->∃m:Nat,Int.tmod (W d) (l.length:Int)=(m:Int)/\m<l.length:=λd hd=>by
  rw[aa0 (by omega) (by omega),Int.tmod_eq_emod_of_nonneg hd.1]
  have h1:=Int.emod_nonneg d (show (l.length:Int)≠0 by omega)
  have h2:=Int.emod_lt_of_pos d (show (0:Int)<l.length by omega)
  exact⟨(d % (l.length:Int)).toNat,by omega,by omega⟩
 obtain⟨m0,hm0,lt0⟩:=idx y.d0 hy.1;obtain⟨m1,hm1,lt1⟩:=idx y.d1 hy.2;have ma:gL tV l m0∈l:=Ba8 tV lt0;have mc:gL tV l m1∈l:=Ba8 tV lt1;obtain⟨ax,ay,az⟩:=hm.bd _ ma;obtain⟨cx,cy,cz⟩:=hm.bd _ mc;obtain⟨w,hw⟩:∃w,y5 (W (Int.tdiv (W ((gL tV l m0).x+(gL tV l m1).x)) 2)) (W (Int.tdiv (W ((gL tV l m0).y+(gL tV l m1).y)) 2)) (W (Int.tdiv (W ((gL tV l m0).z+(gL tV l m1).z)) 2))=w:=⟨_,rfl⟩;have hwV:inV w=true:=by
  rw[<- hw];exact (sa8 _).2 ⟨(od4 ax cx).mono (by omega),(od4 ay cy).mono (by omega),(od4 az cz).mono (by omega)⟩
 have haV:inV (gL tV l m0)=true:=List.all_eq_true.1 hl _ ma;have e0:(ba5 l).2=0:=by unfold ba5;rw[if_pos hc]
 have z0:((l.length:Int)==0)=false:=by rw[beq_eq_false_iff_ne];omega
 have u3:D6 l=ba5 l:=Ic4 _ (by omega)
 have u4:B9 l=true:=Ic5 _ (by omega)
 have e1:((ba5 l).2 != 0)=false:=by rw[e0];rfl
 have f0:va2 l=(F0 l,0):=by show X5 l=_;unfold X5;rw[if_pos hc]
 have f1:ma5 l=true:=decide_eq_true (by omega)
 have hpos:=vd2 hc;have e2:decide ((ba5 l).1<1)=false:=decide_eq_false (by omega)
 have h4f:=od3 hc;have e3:decide (((F0 l).length:Int)<4)=false:=decide_eq_false (by omega)
 have hh:Wa2 l w=decide (∀p∈F0 l,dot p.n w<=p.b):=Ed5 hc hwV;have hg:Wa3 l w=true:=Ed6 hc hwV;have eq:∀n:Int,(n==n)=true:=λn=>beq_self_eq_true n
 unfold W5;simp only[nd8,nd9,o6,ha9,l9,hp,hgp,hm0,hm1,Int.toNat_natCast,hw,z0,i6 lt0,i6 lt1,hg,hh,u3,u4,e1,f0,f1,e2,e3];by_cases hf:∀p∈F0 l,dot p.n w<=p.b
 ·rw[decide_eq_true hf];obtain⟨s,k1,k2⟩:=xc9 hc (by omega) hwV hf ⟨true,l,(ba5 l).1,F0 l,((F0 l).length:Int),w.x,w.y,w.z⟩ rfl rfl rfl ⟨rfl,rfl,rfl⟩
  simp only[k1,k2,eq];rfl
 ·rw[decide_eq_false hf];obtain⟨s,k1,k2⟩:=xc9 hc (by omega) haV (λp hp=>((B7 hl p).1 hp).hd _ ma) ⟨true,l,(ba5 l).1,F0 l,((F0 l).length:Int),(gL tV l m0).x,(gL tV l m0).y,(gL tV l m0).z⟩ rfl rfl rfl ⟨rfl,rfl,rfl⟩
  simp only[k1,k2,eq];rfl
theorem ie4(x:List Int)(y:B2)(hy:(0<=y.d0/\y.d0<=255)/\0<=y.d1/\y.d1<=255):fa8 x y=true:=by unfold fa8;rw[Ic7 x y hy];rfl
theorem ie5(x:List Int)(y:B2)(hy:(0<=y.d0/\y.d0<=255)/\0<=y.d1/\y.d1<=255):fa9 x y=true:=by unfold fa9;rw[Ic7 x y hy];rfl
end Go.Ev.Ce
namespace Go.Ev.Ce
open Go Go.Ev Go.Ev.L Go.ChangeShapes Go.RowKit
theorem Vd4(g:Nat->Int)(h:∀c,c<2->0<=g c/\g c<=255):∃a,Rdg (Z4 tM) (.agg (ha5 .u8 2 g)) a/\(0<=a.d0/\a.d0<=255)/\0<=a.d1/\a.d1<=255 :=
 ⟨⟨g 0,g 1⟩,⟨rfl,rfl⟩,h 0 (by omega),h 1 (by omega)⟩
theorem ve9 {D : Type} {enc : TypeId × Value → D} {P : Program} {w : World} {base : Nat} {spare : Nat → Bool} {held : Bool} {ρ : Rho} {H : List c8} {F : Fz} {t e : TypeId} {d : Nat} {v : Value} {dd : DataW D} {pp : List MemPlace} {bs : Nat} {r : Reach}
  (ht:P.underlying t=some (.array 2 e)) (he:P.underlying e=some (.int .u8)) (hts:P.cellTypes P.depth t=some [e,e]) (hf:R9 P d t=some (xa1 .u8 2)) (hes:P.cellsOf t=2)
  (hok:Value.okWide P w r bs t v) (h:DataW.Trod enc P w base spare held t v dd pp):∃g:Nat->Int,(∀c,c<2->0<=g c/\g c<=255)/\V8 ρ H F w (.agg (ha5 .u8 2 g)) v:=by
 obtain⟨g,hv⟩:=he7 (ρ:=ρ) (H:=H) (F:=F) (by simp[agT,ht]) hf hes hok h
 refine⟨g,λc hc=>?_,hv⟩
 obtain⟨vs,e0,hl,hr⟩:=na6 (.val hv);subst e0;have hlen:vs.size=2:=by rw[<- hl];simp[ha5]
 have hc':c<vs.size:=by omega
 have hg:(ha5 .u8 2 g)[c]?=some (.v (.int .u8 (g c))):=by
  unfold ha5;rw[List.getElem?_map,List.getElem?_range hc];rfl
 have hx:=X8 (.val (.cell (hr c _ _ hg (Qlb hc'))));unfold Value.okWide at hok;rw[ht] at hok;obtain⟨cs,e1,hsz,ts,h1,h2,h3⟩:=hok;injection e1 with e1;subst e1;rw[hts] at h1;injection h1 with h1;subst h1;obtain⟨u,hu,hcell⟩:=h3 c _ (Qlb hc');rw[hx] at hcell;have hue:u=e:=by
  have:c=0\/c=1:=by omega
  rcases this with rfl|rfl<;>simpa using hu.symm
 subst hue;simp only[Cell.okWide,Cell.ok,he] at hcell
 have:=hcell.2
 simp only[IntKind.has,IntKind.min,IntKind.max,IntKind.bits,IntKind.signed] at this
 simp at this
 omega
end Go.Ev.Ce
