/-  -/
import Derived.Test.YtbnkiacicnnmkaaGreatSG
open Go.Proofs.Tryz
set_option linter.unusedSimpArgs false
set_option linter.unusedVariables false
set_option maxRecDepth 100000
set_option maxHeartbeats 4000000
namespace Go.Proofs.YtbnkiacicnnmkaaGreat.Fx
open Vg Tf
theorem _root_.Go.Proofs.YtbnkiacicnnmkaaGreat.Vg.Stp.mkF2 {P:Program}{o:Oper}{e:Env}{M:Mem}{f:FuncId}{x y:Operand}{v u:Value}(ho:o.op= .makeFunc (.func f) #[] #[x,y])(hx:rd e x=some (true,.c (.v v)))(hy:rd e y=some (true,.c (.v u))):Stp P o e M (Fv f #[v,u]) []:=
 Stp.pure fun β a hop w=>by
  have hex:=hop x (by simp[ho,Op.operands]) _ hx
  have hey:=hop y (by simp[ho,Op.operands]) _ hy
  simp only[gv,V.g,Cv.g,cond_true]at hex hey
  unfold execOp
  simp[ho,hex,hey,Instr.makeFunc,V.g,Cv.g]
theorem uf {H:Hp}(p:Pg)(hp:p.ok H)(hc1:∀c∈p.cus,c.c.xs.length<=1000000000000000/\c.c.ys.length<=1000000000000000)(hm1:∀m∈p.mas,∀v∈m.zs,v.2.length<=1000000000000000):CallH H Tryz.prog 27 [ze p.r] (Bo (vT p)):=by
 rw[wa]
 refine kH func27 Rr ntmps27 fun C hR hP hH hL=>?_
 refine zB 100 (vv ?_)
 refine zY (fun hc=>?_) (fun hc=>?_)
 ·have:vT p=false:=by
   have:g7 p=false:=by
    rw[Mu];intro h
    unfold g7 at h
    simp only[Ns,decide_eq_true_eq]at h
    simp only[Mg,LT,decide_eq_true_eq,bne_iff_ne]at hc
    omega
   unfold vT;rw[this,Mw]
  rw[this]at hR
  exact zu (hR C hL) rfl
 have hS:g7 p=true:=by
  unfold g7
  simp only[Ns,decide_eq_true_eq]
  simp only[Mg,LP,decide_eq_false_iff_not,bne_eq_false_iff_eq]at hc
  omega
 clear hc
 refine vv ?_
 have hlt:p.code.length<=4000/\p.tys.length<=100/\p.cus.length<=100/\p.mas.length<=100:=by
  unfold g7 at hS
  simp only[Ns,decide_eq_true_eq]at hS
  omega
 refine CallQ.letgo (xs:=[_,_]) (M0:=[]) [101,100] hL hP rfl rfl rfl Xf rfl rfl (fun β Cn l1 l2 l3=>?_)
 have hp1:PtH Cn.hp (xh β 101 0) [.func (.func 66) #[] #[]]:=(l3 101 _ rfl rfl rfl).pt zd
 have hp0:PtH Cn.hp (xh β 100 0) p.r:=(l3 100 _ rfl rfl rfl).pt zd
 have hpc:=(hp.mono hH).mono l2
 have hxs:List.map (V.conc [101,100] β) [V.c (Cv.v (Value.slice p.t.o p.tys.length p.t.c)),V.c (Cv.fn 68 [(101,0)])]=[.c (.v (vsl p.t p.tys.length)),Fv 68 #[xh β 101 0]]:=rfl
 rw[hxs]
 refine yP 110 l1 (Ub p.t p.tys hpc.t zA 68 #[xh β 101 0] (fun t=> !fok t) (fun t _=>Tg t _ hp1)) (zN _) rfl (fun C1 m1 m2=>?_)
 clear l3 hxs
 simp only[Env.conc,Nk,Nm,V.conc,Cv.conc,cond_true,cond_false,MV,List.contains_nil]
 have hp1:PtH Cn.hp (yb β (.p 101 0)) [.func (.func 66) #[] #[]]:=hp1
 have hp0:PtH Cn.hp (yb β (.p 100 0)) p.r:=hp0
 have e3:yb β (.fn 68 [(101,0)])= .func (.func 68) #[] #[yb β (.p 101 0)]:=rfl
 rw[e3]
 generalize yb β (.p 101 0)=v1 at*
 generalize yb β (.p 100 0)=v0 at*
 obtain⟨b0,o0,rfl,c0,el0,mk0,hc0,hcc⟩:=PtH.at hp0
 obtain⟨b1,o1,rfl,_⟩:=PtH.at hp1
 have hN:∀q:Bool,p.tys.all fok=q->(p.tys.any fun t=> !fok t)= !q:=fun q h=>by
  rw[<-h];simp[LB]
 cases hA:p.tys.all fok with
 |false=>
  have hV:vT p=false:=by unfold vT;rw[hA];simp
  rw[hV]at hR
  simp only[go_sem,hN _ hA,L8]
  refine z6 (v:= .agg []) 120 rfl rfl (.inr rfl) (fun h=>by cases h) (vv ?_)
  refine z6 (v:= .agg []) 120 rfl rfl (.inr rfl) (fun h=>by cases h) (vv ?_)
  refine z6 (v:= .agg []) 120 rfl rfl (.inr rfl) (fun h=>by cases h) (vv ?_)
  refine CallQ.guard (xs:=[]) (v:=Bo false) 130 (fun h=>by cases h) (fun h=>by cases h) (vv ?_)
  refine z6 (v:= .agg []) 120 rfl rfl (.inr rfl) (fun h=>by cases h) (vv ?_)
  refine z6 (v:= .agg []) 120 rfl rfl (.inr rfl) (fun h=>by cases h) (vv ?_)
  refine z6 (v:= .agg []) 120 rfl rfl (.inr rfl) (fun h=>by cases h) (vv ?_)
  refine CallQ.guard (xs:=[]) (v:=Bo false) 130 (fun h=>by cases h) (fun h=>by cases h) (vv ?_)
  exact zu (hR C1 m1) rfl
 |true=>
  simp only[go_sem,hN _ hA,LD]
  refine z6 120 rfl rfl (.inl rfl) (fun _=>(zV (k:=2) rfl rfl rfl).toC) (vv ?_)
  have hpd:=hpc.mono m2
  have hp1':=hp1.mono m2
  refine z6 120 rfl rfl (.inl rfl) (fun _=>zQ (m2 _ _ hc0) (hcc 2 _ rfl) rfl rfl rfl) (vv ?_)
  refine z6 120 rfl rfl (.inl rfl) (fun _=>(Stp.mkF rfl rfl).toC) (vv ?_)
  have hcu:=aA p.u p.cus hpd.u zA 70 #[.pointer (some ⟨b1,o1,none⟩)] (fun c=> !wU c.c.xs c.c.ys) (fun c hc=>Te c (hpd.cu c hc) (hc1 c hc).1 (hc1 c hc).2 _ hp1')
  generalize hAC:(p.cus.any fun c=> !wU c.c.xs c.c.ys)=AC at*
  have hCU:p.cus.all (fun c=>wU c.c.xs c.c.ys)= !AC:=by rw[<-hAC];simp[LB]
  refine zO 130 hcu (zN _) rfl ?_
  cases AC with
  |true=>
   have hV:vT p=false:=by unfold vT;rw[hCU];simp
   rw[hV]at hR
   refine vv ?_
   refine z6 (v:= .agg []) 120 rfl rfl (.inr rfl) (fun h=>by cases h) (vv ?_)
   refine z6 (v:= .agg []) 120 rfl rfl (.inr rfl) (fun h=>by cases h) (vv ?_)
   refine z6 (v:= .agg []) 120 rfl rfl (.inr rfl) (fun h=>by cases h) (vv ?_)
   refine CallQ.guard (xs:=[]) (v:=Bo false) 130 (fun h=>by cases h) (fun h=>by cases h) (vv ?_)
   exact zu (hR C1 m1) rfl
  |false=>
   refine vv ?_
   refine z6 120 rfl rfl (.inl rfl) (fun _=>(zV (k:=3) rfl rfl rfl).toC) (vv ?_)
   refine z6 120 rfl rfl (.inl rfl) (fun _=>zQ (m2 _ _ hc0) (hcc 3 _ rfl) rfl rfl rfl) (vv ?_)
   refine z6 120 rfl rfl (.inl rfl) (fun _=>(Stp.mkF rfl rfl).toC) (vv ?_)
   have hma:=bw p.m p.mas hpd.m zA 72 #[.pointer (some ⟨b1,o1,none⟩)] (fun m:MpL=> !x8 m.xs m.ys (m.zs.map fun v:Sv×List Int=>v.2)) (fun m hm=>Tb m (hpd.ma m hm) (hm1 m hm) _ hp1')
   generalize hAM:(p.mas.any fun m:MpL=> !x8 m.xs m.ys (m.zs.map fun v:Sv×List Int=>v.2))=AM at*
   have hMA:p.mas.all (fun m:MpL=>x8 m.xs m.ys (m.zs.map fun v:Sv×List Int=>v.2))= !AM:=by rw[<-hAM];simp[LB]
   refine zO 130 hma (zN _) rfl ?_
   cases AM with
   |true=>
    have hV:vT p=false:=by unfold vT;rw[hMA];simp
    rw[hV]at hR
    refine vv ?_
    exact zu (hR C1 m1) rfl
   |false=>
    refine vv ?_
    have hTY:∀t∈p.tys,fok t=true:=Nr.1 hA
    refine z6 120 rfl rfl (.inl rfl) (fun _=>(zV (k:=0) rfl rfl rfl).toC) (vv ?_)
    refine z6 120 rfl rfl (.inl rfl) (fun _=>zQ (m2 _ _ hc0) (hcc 0 _ rfl) rfl rfl rfl) (vv ?_)
    refine z6 120 rfl rfl (.inl rfl) (fun _=>(Stp.mkF2 rfl rfl rfl).toC) (vv ?_)
    have hin:=Ua p.c p.code hpd.c zA 75 #[.pointer (some ⟨b1,o1,none⟩),.pointer (some ⟨b0,o0,none⟩)] (fun i:Ins=> !oA p i) (fun i hi=>Ta p hpd hTY zA i _ _ hp1' (hp0.mono m2))
    generalize hAI:(p.code.any fun i:Ins=> !oA p i)=AI at*
    have hCO:p.code.all (oA p)= !AI:=by rw[<-hAI];simp[LB]
    refine zO 130 hin (zN _) rfl ?_
    cases AI with
    |true=>
     have hV:vT p=false:=by unfold vT;rw[hCO];simp
     rw[hV]at hR
     refine vv ?_
     exact zu (hR C1 m1) rfl
    |false=>
     refine vv ?_
     refine z6 130 rfl rfl (.inl rfl) (fun _=>(zV (k:=5) rfl rfl rfl).toC) (vv ?_)
     refine z6 130 rfl rfl (.inl rfl) (fun _=>zQ (m2 _ _ hc0) (hcc 5 _ rfl) rfl rfl rfl) (vv ?_)
     refine z6 130 rfl rfl (.inl rfl) (fun _=>(zV (k:=7) rfl rfl rfl).toC) (vv ?_)
     refine z6 130 rfl rfl (.inl rfl) (fun _=>zQ (m2 _ _ hc0) (hcc 7 _ rfl) rfl rfl rfl) (vv ?_)
     refine z6 130 rfl rfl (.inl rfl) (fun _=>(zV (k:=6) rfl rfl rfl).toC) (vv ?_)
     refine z6 130 rfl rfl (.inl rfl) (fun _=>zQ (m2 _ _ hc0) (hcc 6 _ rfl) rfl rfl rfl) ?_
     simp only[go_sem,List.range_zero,Nu,Nt,Nk,Nm,M4,MR]
     refine zi 4 (zB 140 ?_)
     simp only[go_sem,M4,MR]
     have hd5:=hpd.i5
     cases hB5:decide (1000<(p.f5.length:Int))with
     |true=>
      have hV:vT p=false:=by
       have:tA p.sz p.f5=false:=by
        unfold tA
        rw[show decide (1000<p.f5.length)=true by have:=of_decide_eq_true hB5;exact yQ zA,cond_true]
       unfold vT;rw[this];simp
      rw[hV]at hR
      simp only[go_sem,hB5]
      refine z6 (v:= .agg []) 150 rfl rfl (.inr rfl) (fun h=>by cases h) (vv ?_)
      refine CallQ.guard (xs:=[]) (v:=Bo false) 160 (fun h=>by cases h) (fun h=>by cases h) (vv ?_)
      exact yM (hR C1 m1) ClM.nil
     |false=>
     have hl5:p.f5.length<=1000:=by have:=of_decide_eq_false hB5;omega
     simp only[go_sem,hB5]
     refine z6 150 rfl rfl (.inl rfl) (fun _=>(Stp.mkF rfl rfl).toC) (vv ?_)
     have hi5:=nk p.s5 p.f5 hd5 zA 78 #[.pointer (some ⟨b0,o0,none⟩)] (fun n:Int=> !lR p.sz n) (fun n _=>aL p n _ (hp0.mono m2))
     generalize hA5:(p.f5.any fun n:Int=> !lR p.sz n)=A5 at*
     have hC5:tA p.sz p.f5= !A5:=by
      unfold tA
      rw[show decide (1000<p.f5.length)=false from yZ zA,cond_false,<-hA5];simp[LB]
     refine zO 160 hi5 (zN _) rfl ?_
     cases A5 with
     |true=>
      have hV:vT p=false:=by unfold vT;rw[hC5];simp
      rw[hV]at hR
      refine vv ?_
      exact yM (hR C1 m1) ClM.nil
     |false=>
     simp only[go_sem,M4,MR]
     have hd7:=hpd.i7
     cases hB7:decide (1000<(p.f7.length:Int))with
     |true=>
      have hV:vT p=false:=by
       have:tA p.sz p.f7=false:=by
        unfold tA
        rw[show decide (1000<p.f7.length)=true by have:=of_decide_eq_true hB7;exact yQ zA,cond_true]
       unfold vT;rw[this];simp
      rw[hV]at hR
      simp only[go_sem,hB7]
      refine z6 (v:= .agg []) 150 rfl rfl (.inr rfl) (fun h=>by cases h) (vv ?_)
      refine CallQ.guard (xs:=[]) (v:=Bo false) 160 (fun h=>by cases h) (fun h=>by cases h) (vv ?_)
      exact yM (hR C1 m1) ClM.nil
     |false=>
     have hl7:p.f7.length<=1000:=by have:=of_decide_eq_false hB7;omega
     simp only[go_sem,hB7]
     refine z6 150 rfl rfl (.inl rfl) (fun _=>(Stp.mkF rfl rfl).toC) (vv ?_)
     have hi7:=nk p.s7 p.f7 hd7 zA 78 #[.pointer (some ⟨b0,o0,none⟩)] (fun n:Int=> !lR p.sz n) (fun n _=>aL p n _ (hp0.mono m2))
     generalize hA7:(p.f7.any fun n:Int=> !lR p.sz n)=A7 at*
     have hC7:tA p.sz p.f7= !A7:=by
      unfold tA
      rw[show decide (1000<p.f7.length)=false from yZ zA,cond_false,<-hA7];simp[LB]
     refine zO 160 hi7 (zN _) rfl ?_
     cases A7 with
     |true=>
      have hV:vT p=false:=by unfold vT;rw[hC7];simp
      rw[hV]at hR
      refine vv ?_
      exact yM (hR C1 m1) ClM.nil
     |false=>
     simp only[go_sem,M4,MR]
     have hd6:=hpd.i6
     cases hB6:decide (1000<(p.f6.length:Int))with
     |true=>
      have hV:vT p=false:=by
       have:tA p.sz p.f6=false:=by
        unfold tA
        rw[show decide (1000<p.f6.length)=true by have:=of_decide_eq_true hB6;exact yQ zA,cond_true]
       unfold vT;rw[this];simp
      rw[hV]at hR
      simp only[go_sem,hB6]
      refine z6 (v:= .agg []) 150 rfl rfl (.inr rfl) (fun h=>by cases h) (vv ?_)
      refine CallQ.guard (xs:=[]) (v:=Bo false) 160 (fun h=>by cases h) (fun h=>by cases h) (vv ?_)
      exact yM (hR C1 m1) ClM.nil
     |false=>
     have hl6:p.f6.length<=1000:=by have:=of_decide_eq_false hB6;omega
     simp only[go_sem,hB6]
     refine z6 150 rfl rfl (.inl rfl) (fun _=>(Stp.mkF rfl rfl).toC) (vv ?_)
     have hi6:=nk p.s6 p.f6 hd6 zA 78 #[.pointer (some ⟨b0,o0,none⟩)] (fun n:Int=> !lR p.sz n) (fun n _=>aL p n _ (hp0.mono m2))
     generalize hA6:(p.f6.any fun n:Int=> !lR p.sz n)=A6 at*
     have hC6:tA p.sz p.f6= !A6:=by
      unfold tA
      rw[show decide (1000<p.f6.length)=false from yZ zA,cond_false,<-hA6];simp[LB]
     refine zO 160 hi6 (zN _) rfl ?_
     cases A6 with
     |true=>
      have hV:vT p=false:=by unfold vT;rw[hC6];simp
      rw[hV]at hR
      refine vv ?_
      exact yM (hR C1 m1) ClM.nil
     |false=>
     simp only[go_sem,M4,MR]
     refine z6 170 rfl rfl (.inl rfl) (fun _=>(zV (k:=4) rfl rfl rfl).toC) (vv ?_)
     refine z6 170 rfl rfl (.inl rfl) (fun _=>zQ (m2 _ _ hc0) (hcc 4 _ rfl) rfl rfl rfl) (vv ?_)
     have hsz:0<=p.sz/\p.sz<=1000:=by
      unfold g7 at hS
      simp only[Ns,decide_eq_true_eq]at hS
      omega
     refine⟨zA,?_⟩
     refine zB 180 (vv ?_)
     refine z6 180 rfl rfl (.inl rfl) (fun _=>(zV (k:=5) rfl rfl rfl).toC) (vv ?_)
     refine z6 180 rfl rfl (.inl rfl) (fun _=>zQ (m2 _ _ hc0) (hcc 5 _ rfl) rfl rfl rfl) (vv ?_)
     refine z6 180 rfl rfl (.inl rfl) (fun _=>(zV (k:=6) rfl rfl rfl).toC) (vv ?_)
     refine z6 180 rfl rfl (.inl rfl) (fun _=>zQ (m2 _ _ hc0) (hcc 6 _ rfl) rfl rfl rfl) ?_
     simp only[go_sem,List.range_zero,Nu,Nt,Nk,Nm,M4,MR]
     have hKK:=wY p.sz.toNat
     have hK7:=zh (yv p.sz.toNat [])
     rw[<-hKK]at hK7
     generalize w9 p.sz.toNat [Cv.v (Value.bool false)]=K7 at*
     refine CallQ.letgo (xs:=[_]) (M0:=[]) [180] m1 hP rfl (by unfold yF;simp only[Nj,yJ hK7];rfl) rfl Zh rfl rfl (fun β2 C2 n1 n2 n3=>?_)
     obtain⟨v2,hv2,hk2⟩:=(n3 180 _ rfl rfl rfl).vslx (sz:=1) (rows:=[[vsl p.s5 p.f5.length],[vsl p.s6 p.f6.length]]) (fun r hr=>by simp only[MU,LQ,or_false]at hr;rcases hr with rfl|rfl<;>rfl) rfl
     have hv2:yb β2 (Cv.sl 180 0 2 1)=vsl v2 2:=hv2
     have hk2:SlH C2.hp (vsl v2 2) 1 [[vsl p.s5 p.f5.length],[vsl p.s6 p.f6.length]]:=hk2
     have hpe:=hpd.mono n2
     simp only[Env.conc,Mem.conc,Bk.conc,Nk,Nm,V.conc,Cv.conc,cond_true,cond_false,MV,List.contains_nil,Nat.reduceBEq,Mr,hv2,xw hK7]
     refine CallW.x 190 n1 (ff v2 p.s5 p.s6 p.f5 p.f6 hk2 hpe.i5 hpe.i6 zA) (zN _) (Sub.nil _) ClM.nil (fun _=>xA rfl) rfl (fun _ C3 H3 q1 q2 q3 _=>?_)
     refine vv ?_
     have hA5:=vB hC5
     have hA6:=vB hC6
     have hrg:∀n∈p.f5++p.f6,0<=n/\n<p.sz:=fun n hn=>(LM.1 hn).elim (hA5.2 n) (hA6.2 n)
     have hLl:(p.f5++p.f6).length<=2000:=by rw[MB];omega
     have hVD:vT p=(decide (p.f5++p.f6).Nodup&&p.f8.all (fun n=> !iX n)):=by
      unfold vT
      rw[hS,hA,hCU,hMA,hCO,hC5,hC6,hC7]
      simp
     have hfin:=nk p.s8 p.f8 (((hpd.mono n2).mono q2).i8) (by
      have:p.f8.length=p.f6.length:=by
       unfold g7 at hS
       simp only[Ns,decide_eq_true_eq]at hS
       omega
      omega) 80 #[] iX (fun n _=>(T9 n).toX)
     generalize p.f5++p.f6=L at*
     have hN0:p.sz=(p.sz.toNat:Int):=zA
     subst hKK
     generalize p.sz.toNat=N at*
     have hLc:∀i (h:i<L.length),(L.map iC)[i]?=some (iC L[i]):=fun i h=>by simp[h]
     refine zL (M0:=[]) (α:={i:Nat//i<=L.length/\(L.take i).Nodup}) (q1.pins hP) (fun i=>[(1,true,.c (.v (.pointer (some ⟨b0,o0,none⟩)))),(6,true,.c (.sl 2 0 N 1)),(99,true,.c (.sl 1 0 L.length 1)),(100,true,I L.length),(101,true,I i.val)])
      (fun i=>[(2,⟨false,(yv N ((L.take i.val).map Int.toNat)).map bC,4⟩),(1,⟨false,L.map iC,3⟩)]) (fun i=>L.length-i.val) ⟨0,zA,zd⟩ (fun _=>zD (by simp only[Nj,zZ (zh _),zZ (yD _)];rfl)) (fun _=>zP rfl) [(1,1),(2,170)] ?_ ?_
     ·exact zk
     rintro⟨i,hi,hnd⟩ J hj
     simp only at hj hi hnd⊢
     refine zB 200 (vv ?_)
     clear hcu hma hin hi5 hi7 hi6
     refine zY (fun hc=>?_) (fun hc=>?_)
     ·have hc:=zI hc
      obtain⟨c0,c1⟩:=hrg _ (Nv hc)
      have hov:=hLc i hc
      have hmk:=bH (fun n hn=>(hrg n hn).1) hc
      obtain⟨j0,hj0⟩:∃j0:Nat,L[i]=j0:=⟨L[i].toNat,zA⟩
      have hjn:(L[i]).toNat=j0:=by rw[hj0];rfl
      have hjN:j0<N:=by rw[hj0,hN0]at c1;omega
      rw[hjn]at hmk
      have g1:((yv N ((L.take i).map Int.toNat)).map bC)[j0]?=some (bC (((L.take i).map Int.toNat).contains j0)):=by rw[tO (by rw[wJ];exact hjN),rl hjN]
      have hset:((yv N ((L.take i).map Int.toNat)).map bC).set j0 (bC true)=(yv N ((L.take (i+1)).map Int.toNat)).map bC:=by
       rw[MF hc,ME,Nk,Nm,hjn,<-m6 hjN,Mv]
      have hll:((yv N ((L.take i).map Int.toNat)).map bC).length=N:=by rw[Ni,wJ]
      rw[hmk]at g1
      rw[hj0]at hov
      have hwi:IntKind.i64.wrap ((i:Int)+1)=((i+1:Nat):Int):=wS zA
      by_cases hm:L[i]∈L.take i
      ·have hV:vT p=false:=by rw[hVD,show decide L.Nodup=false from decide_eq_false (bF hc hm),Mw]
       rw[hV]at hR
       rw[show decide (L[i]∈L.take i)=true from decide_eq_true hm]at g1
       simp only[go_sem,hov,g1,hset,hll,Int.toNat_natCast]
       exact⟨⟨zA,zA⟩,⟨zA,zA⟩,zu (hR _ q1) rfl⟩
      ·rw[show decide (L[i]∈L.take i)=false from decide_eq_false hm]at g1
       simp only[go_sem,hov,g1,hset,hll,Int.toNat_natCast,hwi]
       exact⟨⟨zA,zA⟩,⟨zA,zA⟩,⟨zA,zA⟩,zA,hj _ _ ⟨i+1,hc,k9 hc hnd hm⟩ [(1,1),(2,2)] yK zk⟩
     ·have hc:=zJ hi hc
      subst hc
      rw[MS]at hnd
      rw[hVD,show decide L.Nodup=true from decide_eq_true hnd,MY]at hR
      refine vv ?_
      refine z6 220 rfl rfl (.inl rfl) (fun _=>(zV (k:=8) rfl rfl rfl).toC) (vv ?_)
      refine z6 220 rfl rfl (.inl rfl) (fun _=>zQ (q2 _ _ (n2 _ _ (m2 _ _ hc0))) (hcc 8 _ rfl) rfl rfl rfl) (vv ?_)
      generalize hA8:p.f8.any iX=A8 at*
      refine zO 230 hfin (zN _) rfl (vv ?_)
      exact RetQ.bool (hR _ q1) rfl y6 (by rw[<-hA8];simp[LB])
def nK (i:Ins):List Int:=
 bif i.op==3 then[i.a]else bif i.op==4 then[i.b]else bif i.op==9 then[i.b]else bif i.op==10 then[i.b]else bif i.op==18 then[i.b]else bif i.op==20 then[i.b]else bif i.op==22 then[i.b]else
 bif i.op==19 then[i.b,i.c,i.k]else[i.b,i.c]
theorem au (i:Ins)(h:i.op=1\/i.op=2):CallOk Tryz.prog 82 [ze i.w] [] (.c (.v (.slice none 0 0))) []:=by
 rw[xl]
 obtain⟨op,a,b,c,k⟩:=i
 simp only at h⊢
 refine kN 100 func82 Xe ntmps82 fun C hR hP=>?_
 rcases h with rfl|rfl<;>simp only[go_sem]<;>exact RetQ.pure hR rfl y6 rfl (zH rfl)
theorem gS (i:Ins)(h:¬(i.op=1\/i.op=2)):CallOk Tryz.prog 82 [ze i.w] [] (.c (.sl 1 0 (nK i).length 1)) [(1,⟨false,(nK i).map iC,3⟩)]:=by
 rw[xl]
 obtain⟨op,a,b,c,k⟩:=i
 simp only[not_or]at h⊢
 obtain⟨R,hRd⟩:∃R,R=nK ⟨op,a,b,c,k⟩:=⟨_,rfl⟩
 rw[<-hRd]
 unfold nK at hRd
 simp only at hRd
 refine kN 100 func82 Xe ntmps82 fun C hR hP=>?_
 have e:∀n:Int,op≠n->(op==n)=false:=fun n h=>by simpa using h
 by_cases h3:op=3\/op=4\/op=9\/op=10\/op=18\/op=20\/op=22\/op=19
 ·rcases h3 with rfl|rfl|rfl|rfl|rfl|rfl|rfl|rfl
  all_goals
   simp only[Int.reduceBEq,cond_true,cond_false]at hRd
   subst hRd
   simp only[go_sem,List.range_zero,Nu,Nt,Nk,Nm,M4,MR]
   exact RetQ.ren [(1,101)] hR hP rfl y6 rfl rfl trivial ⟨oR,trivial⟩ (zD rfl) (zH rfl)
 ·simp only[not_or]at h3
  obtain⟨h3,h4,h9,h10,h18,h20,h22,h19⟩:=h3
  rw[e _ h3,e _ h4,e _ h9,e _ h10,e _ h18,e _ h20,e _ h22,e _ h19]at hRd
  simp only[cond_false]at hRd
  subst hRd
  simp only[go_sem,e _ h.1,e _ h.2,e _ h3,e _ h4,e _ h9,e _ h10,e _ h18,e _ h20,e _ h22,e _ h19,List.range_zero,Nu,Nt,Nk,Nm,M4,MR]
  exact RetQ.ren [(1,101)] hR hP rfl y6 rfl rfl trivial ⟨oR,trivial⟩ (zD rfl) (zH rfl)
@[reducible] def mn (r:Int)(n:Nat)(ro:Bool):Nat×Bk:=(1,⟨ro,[.v (.int .u16 r),.sl 2 0 n 1],91⟩)
@[reducible] def gp (C:List Bool)(ro:Bool):Nat×Bk:=(2,⟨ro,C.map bC,4⟩)
theorem xa {C:List Bool}{n:Int}(h0:0<=n)(h1:n<C.length):(C.map bC)[n.toNat]?=some (bC (gB C n)):=tO zA
structure InOk (i:Ins) (n:Nat):Prop where
 op:1<=i.op/\i.op<=22
 a:0<=i.a/\i.a<16
 b:0<=i.b/\i.b<16
 c:0<=i.c/\i.c<16
 k23:i.op=2\/i.op=3->0<=i.k/\i.k<n
 k19:i.op=19->0<=i.k/\i.k<16
 k22:i.op=22->0<=i.k/\i.k/32+1<n
theorem dN (i:Ins)(r:Int)(Z:List Bool)(hi:InOk i Z.length)(h0:0<=r)(h1:r<65536)(hZ:Z.length<=1000):
  CallOk Tryz.prog 30 [.c (.p 1 0),ze i.w] [mn r Z.length true,gp Z true] (Bo (iI i (r9 r) Z)) []:=by
 obtain⟨A,hA⟩:∃A,A=iI i (r9 r) Z:=⟨_,rfl⟩
 rw[<-hA]
 unfold iI at hA
 have hk2:=hi.k23
 have hk22:=hi.k22
 have hal:=Uu h0 h1 hi.a.1 hi.a.2
 have ha:=hi.a
 rw[xl]
 obtain⟨op,a,b,c,k⟩:=i
 simp only at*
 have hM:ClM [mn r Z.length true,gp Z true]:=zD (by simp only[Nj,zZ (zh _)];rfl)
 have hlen:(Z.map bC).length=Z.length:=Ni _
 refine kN 100 func30 Ro ntmps30 fun C hR hP=>?_
 refine vv ?_
 by_cases h8:op=8
 ·subst h8
  refine vv ?_
  exact zU hR rfl y6 (by rw[hA];rfl) (SubS.sub ⟨oS,oS,trivial⟩) hM (zH rfl)
 have e8:(op==8)=false:=by simpa using h8
 by_cases h3:op=3
 ·subst h3
  obtain⟨k0,k1⟩:=hk2 (.inr rfl)
  have hg:=xa (C:=Z) k0 k1
  simp only[go_sem,e8]
  refine Sm.dg 110 6 zw ?_
  simp only[go_sem,hg,hlen]
  exact⟨⟨k0,k1⟩,zU hR rfl y6 (by rw[hA];rfl) (SubS.sub ⟨oS,oS,trivial⟩) hM (zH rfl)⟩
 have e3:(op==3)=false:=by simpa using h3
 by_cases h22:op=22
 ·subst h22
  obtain⟨k0,k1⟩:=hk22 rfl
  have hg:=xa (C:=Z) (n:=k/32) zA zA
  have hg1:=xa (C:=Z) (n:=k/32+1) zA zA
  have w1:IntKind.i64.wrap (k.tdiv 32)=k/32:=by rw[Mj k0];exact y8 zA zA
  have w2:IntKind.i64.wrap (k/32+1)=k/32+1:=y8 zA zA
  simp only[go_sem,e8,e3,w1]
  refine Sm.dg 110 25 zw ?_
  simp only[go_sem,hg,hg1,hlen,w1,w2,hal]
  exact⟨ha.1,fun h=>⟨h,h,zA,zA⟩,fun h=>⟨h,h,zA,zA⟩,zU hR rfl y6 (by
   rw[hA]
   simp only[Int.reduceBEq,cond_true,cond_false]
   cases gB (r9 r) a<;>rfl) (SubS.sub ⟨oS,oS,trivial⟩) hM (zH rfl)⟩
 have e22:(op==22)=false:=by simpa using h22
 simp only[go_sem,e8,e3,e22]
 refine Sm.dg 110 6 zw ?_
 simp only[go_sem,hal]
 exact⟨ha.1,zU hR rfl y6 (by rw[hA,e3,e22,e8,cond_false,cond_false,cond_false];rfl) (SubS.sub ⟨oS,oS,trivial⟩) hM (zH rfl)⟩
def eE (r a:Int):Int:=bits .or .u16 r (IntKind.u16.wrap (1*2^min a.toNat 16))
def YK (r a:Int):Int:=bits .andNot .u16 r (IntKind.u16.wrap (1*2^min a.toNat 16))
def Yb (i:Ins):List Int:=bif i.op==1 then[]else bif i.op==2 then[]else nK i
def Zy (i:Ins)(r:Int):Int:=bif i.op==3 then r else YK r i.a
def fl (i:Ins)(r:Int):Int:=(Yb i).foldl eE (Zy i r)
theorem jB:∀(l:List Int) (r:Int),(∀a∈l,0<=a/\a<16)->0<=r->r<65536->(0<=l.foldl eE r/\l.foldl eE r<65536)/\r9 (l.foldl eE r)=l.foldl (fun R a=>sB R a true) (r9 r)
 |[],r,_,h0,h1=>⟨⟨h0,h1⟩,rfl⟩
 |a::l,r,h,h0,h1=>by
  obtain⟨⟨u,v⟩,w⟩:=Us h0 h1 (h a (Ln ..)).1 (h a (Ln ..)).2
  have ih:=jB l (eE r a) (fun x hx=>h x (L2 _ hx)) u v
  refine⟨ih.1,?_⟩
  rw[List.foldl_cons,List.foldl_cons,ih.2]
  exact congrArg (fun q=>l.foldl (fun R a=>sB R a true) q) w
theorem ct (i:Ins){n:Nat}(hi:InOk i n):∀a∈nK i,0<=a/\a<16:=by
 intro a ha
 unfold nK at ha
 have h19:=hi.k19
 have h1:=hi.a
 have h2:=hi.b
 have h3:=hi.c
 by_cases h:i.op=19
 ·rw[h]at ha
  have:=h19 h
  simp at ha
  rcases ha with rfl|rfl|rfl<;>omega
 ·rw[show(i.op==19)=false by simpa using h,cond_false]at ha
  simp only[MK]at ha
  split at ha
  ·simp at ha;subst ha;omega
  ·split at ha
   ·simp at ha;subst ha;omega
   ·split at ha
    ·simp at ha;subst ha;omega
    ·split at ha
     ·simp at ha;subst ha;omega
     ·split at ha
      ·simp at ha;subst ha;omega
      ·split at ha
       ·simp at ha;subst ha;omega
       ·split at ha
        ·simp at ha;subst ha;omega
        ·simp at ha;rcases ha with rfl|rfl<;>omega
theorem Zx (i:Ins){n:Nat}(hi:InOk i n){r:Int}(h0:0<=r)(h1:r<65536):(0<=Zy i r/\Zy i r<65536)/\r9 (Zy i r)=bif i.op==3 then r9 r else sB (r9 r) i.a false:=by
 unfold Zy
 cases i.op==3 with
 |true=>exact⟨⟨h0,h1⟩,rfl⟩
 |false=>exact Ut h0 h1 hi.a.1 hi.a.2
theorem Zw (i:Ins){n:Nat}(hi:InOk i n){r:Int}(h0:0<=r)(h1:r<65536):(0<=fl i r/\fl i r<65536)/\r9 (fl i r)=eK i (r9 r):=by
 have h:=Zx i hi h0 h1
 have hr:∀a∈Yb i,0<=a/\a<16:=by
  intro a ha
  unfold Yb at ha
  cases h1:i.op==1 with
  |true=>rw[h1]at ha;cases ha
  |false=>
   cases h2:i.op==2 with
   |true=>rw[h1,h2]at ha;cases ha
   |false=>rw[h1,h2]at ha;exact ct i hi a ha
 have hf:=jB (Yb i) (Zy i r) hr h.1.1 h.1.2
 refine⟨hf.1,hf.2.trans ?_⟩
 rw[h.2]
 have ho:=hi.op
 obtain⟨op,a,b,c,k⟩:=i
 simp only at*
 generalize r9 r=R
 have hs:op=1\/op=2\/op=3\/op=4\/op=5\/op=6\/op=7\/op=8\/op=9\/op=10\/op=11\/op=12\/op=13\/op=14\/op=15\/op=16\/op=17\/op=18\/op=19\/op=20\/op=21\/op=22:=zA
 rcases hs with rfl|rfl|rfl|rfl|rfl|rfl|rfl|rfl|rfl|rfl|rfl|rfl|rfl|rfl|rfl|rfl|rfl|rfl|rfl|rfl|rfl|rfl<;>rfl
theorem fK {n m:Nat}{b b' c c':Bk}{r:Mem}(k:Nat):Mem.get ((n,b)::(m,c)::(n,b')::(m,c')::r) k=Mem.get ((n,b)::(m,c)::r) k:=by
 simp only[zE]
 by_cases h1:k=n
 ·simp[h1]
 ·by_cases h2:k=m<;>simp[h1,h2]
theorem oj {n m:Nat}{b b' c c':Bk}{r M:Mem}(h:Sub ((n,b)::(m,c)::r) M):Sub ((n,b)::(m,c)::(n,b')::(m,c')::r) M:=fun k x hk=>h k x (by rw[<-fK (b':=b') (c':=c')];exact hk)
theorem nl {n m:Nat}{b b' c c':Bk}{r:Mem}(h:ClM ((n,b)::(m,c)::r)):ClM ((n,b)::(m,c)::(n,b')::(m,c')::r):=fun β β' hag k x hk=>
 h β β' (fun k hn=>hag k (by rw[fK];exact hn)) k x (by rw[<-fK (b':=b') (c':=c')];exact hk)
def Pi (i:Ins)(Z:List Bool):List Bool:=bif i.op==3 then sB Z i.k false else Z
theorem xy {Z:List Bool}{n:Int}{b:Bool}:(Z.map bC).set n.toNat (bC b)=(sB Z n b).map bC:=by unfold sB;rw[Mv]
@[reducible] def XT (i:Ins):List Cv:=[.v (iv i.op),.v (iv i.a),.v (iv i.b),.v (iv i.c),.v (iv i.k)]
theorem gt (i:Ins)(r:Int)(Z:List Bool)(hi:InOk i Z.length)(h0:0<=r)(h1:r<65536)(hZ:Z.length<=1000):
  CallOk Tryz.prog 31 [.c (.p 1 0),ze i.w] [mn r Z.length false,gp Z false] (.tup []) [mn (fl i r) Z.length false,gp (o6 i Z) false]:=by
 rw[xl]
 have hM:ClM [mn r Z.length false,gp Z false]:=zD (by simp only[Nj,zZ (zh _)];rfl)
 have hM2:ClM ([mn (fl i r) Z.length false,gp (o6 i Z) false]++[mn r Z.length false,gp Z false]):=zD (by simp only[Nt,Nu,Nj,zZ (zh _)];rfl)
 have hlen:(Z.map bC).length=Z.length:=Ni _
 have hn1:(Pi i Z).length=Z.length:=by unfold Pi;cases i.op==3<;>simp[wO]
 have hk2:=hi.k23
 have hk22:=hi.k22
 have ha:=hi.a
 have hrg:=ct i hi
 have hMx:∀(q:Int) (Y:List Bool),ClM [mn q Z.length false,gp Y false]:=fun _ _=>zD (by simp only[Nj,zZ (zh _)];rfl)
 refine kN 100 func31 Rn ntmps31 fun C hR hP=>?_
 by_cases h3:i.op=3
 ·obtain⟨op,a,b,c,k⟩:=i
  simp only at*
  subst h3
  obtain⟨k0,k1⟩:=hk2 (.inr rfl)
  refine vv ?_
  refine Sm.dgW [2] 110 6 zw ?_
  simp only[go_sem,hlen,xy]
  refine⟨⟨k0,k1⟩,zA,?_⟩
  refine CallQ.ren [(1,120)] 130 (gS ⟨3,a,b,c,k⟩ zd) ClM.nil rfl rfl trivial rfl (.inl rfl) ?_
  have hL3:nK ⟨3,a,b,c,k⟩=[a]:=rfl
  rw[hL3]
  simp only[go_sem,Nk,Nm,MG,MW]
  refine zi 2 (zB 140 ?_)
  simp only[go_sem,M4]
  refine Sm.dgW [1] 150 6 zw (vv ?_)
  refine DOpQ.look (nx':=150) (sc:=True) (v:=V.c (Cv.v (.int .u16 r))) [mn r Z.length false] 150 wq trivial ⟨rfl,trivial⟩ rfl (vv ?_)
  refine⟨ha.1,?_⟩
  have hb:fl ⟨3,a,b,c,k⟩ r=bits .or .u16 r (IntKind.u16.wrap (1*2^min a.toNat 16)):=rfl
  have hz:o6 ⟨3,a,b,c,k⟩ Z=sB Z k false:=rfl
  rw[hb,hz]at hR
  exact vF hR (zU hR rfl trivial rfl (oj (SubS.sub ⟨oS,oS,trivial⟩)) (nl (hMx _ _)) (zH rfl))
 have e3:(i.op==3)=false:=by simpa using h3
 by_cases h12:i.op=1\/i.op=2
 ·obtain⟨op,a,b,c,k⟩:=i
  simp only at*
  simp only[go_sem,e3]
  refine Sm.dgW [1] 110 7 zw ?_
  simp only[go_sem,hlen]
  refine DOpQ.look (nx':=110) (sc:=True) (v:=V.c (Cv.v (.int .u16 r))) [mn r Z.length false] 110 wq trivial ⟨rfl,trivial⟩ rfl (vv ?_)
  refine⟨ha.1,?_⟩
  refine CallQ.pure 120 (au ⟨op,a,b,c,k⟩ h12) rfl (vv ?_)
  refine zi 1 (zB 140 ?_)
  rcases h12 with rfl|rfl
  ·simp only[go_sem]
   have hb:fl ⟨1,a,b,c,k⟩ r=bits .andNot .u16 r (IntKind.u16.wrap (1*2^min a.toNat 16)):=rfl
   have hz:o6 ⟨1,a,b,c,k⟩ Z=Z:=rfl
   rw[hb,hz]at hR
   exact vF hR (zU hR rfl trivial rfl (oj (SubS.sub ⟨oS,oS,trivial⟩)) (nl (hMx _ _)) (zH rfl))
  ·simp only[go_sem]
   refine Sm.dgW [2] 150 6 zw ?_
   simp only[go_sem,hlen,xy]
   have hk:=hk2 (.inl rfl)
   refine⟨hk,zA,?_⟩
   have hb:fl ⟨2,a,b,c,k⟩ r=bits .andNot .u16 r (IntKind.u16.wrap (1*2^min a.toNat 16)):=rfl
   have hz:o6 ⟨2,a,b,c,k⟩ Z=sB Z k true:=rfl
   rw[hb,hz]at hR
   exact vF hR (zU hR rfl trivial rfl (oj (SubS.sub ⟨oS,oS,trivial⟩)) (nl (hMx _ _)) (zH rfl))
 have e1:(i.op==1)=false:=by simp only[not_or]at h12;simpa using h12.1
 have e2:(i.op==2)=false:=by simp only[not_or]at h12;simpa using h12.2
 have hb:fl i r=(nK i).foldl eE (YK r i.a):=by unfold fl Yb Zy;rw[e1,e2,e3];rfl
 have hreg:=gS i h12
 rw[xl]at hreg
 simp only[go_sem,e3]
 refine Sm.dgW [1] 110 7 zw ?_
 simp only[go_sem,hlen]
 refine DOpQ.look (nx':=110) (sc:=True) (v:=V.c (Cv.v (.int .u16 r))) [mn r Z.length false] 110 wq trivial ⟨rfl,trivial⟩ rfl (vv ?_)
 refine⟨ha.1,?_⟩
 refine CallQ.ren [(1,120)] 130 hreg ClM.nil rfl rfl trivial rfl (.inl rfl) ?_
 generalize hL:nK i=L at*
 have hll:(L.map iC).length=L.length:=Ni _
 have hL3:L.length<=3:=by
  rw[<-hL];unfold nK
  simp only[MK]
  repeat' split
  all_goals simp
 have hLc:∀j (h:j<L.length),(L.map iC)[j]?=some (iC L[j]):=fun j h=>by simp[h]
 simp only[Mem.ren,Nk,Nm,zf (yD _),V.ren,Cv.ren,rn,Nat.reduceBEq,cond_true,cond_false]
 refine vv ?_
 refine zL (M0:=[mn r Z.length false,gp Z false]) (α:={j:Nat//j<=L.length}) hP (fun j=>[(0,true,.c (.p 1 0)),(3,true,.c (.p 5 0)),(27,true,.c (.sl 6 0 L.length 1)),(28,true,I L.length),(29,true,I j.val)])
  (fun j=>[mn ((L.take j.val).foldl eE (YK r i.a)) Z.length false,gp Z false,(5,⟨false,XT i,42⟩),(6,⟨false,L.map iC,3⟩)]) (fun j=>L.length-j.val) ⟨0,zA⟩ (fun _=>zD (by simp only[Nj,zZ (zh _),zZ (yD _)];rfl)) (fun _=>zP rfl) [(1,1),(2,2),(5,100),(6,120)] ?_ ?_
 ·exact zk
 rintro⟨j,hj⟩ J hJ
 simp only at hJ hj⊢
 refine zB 150 (vv ?_)
 refine zY (fun hc=>?_) (fun hc=>?_)
 ·have hc:=zI hc
  have hov:=hLc j hc
  have hra:=hrg _ (Nv hc)
  have hwj:IntKind.i64.wrap ((j:Int)+1)=((j+1:Nat):Int):=wS zA
  have hst:(L.take (j+1)).foldl eE (YK r i.a)=bits .or .u16 ((L.take j).foldl eE (YK r i.a)) (IntKind.u16.wrap (1*2^min L[j].toNat 16)):=by
   rw[MF hc,List.foldl_append];rfl
  generalize (L.take j).foldl eE (YK r i.a)=q at*
  simp only[go_sem,hov,hll,Int.toNat_natCast]
  refine⟨⟨zA,zA⟩,?_⟩
  refine Sm.dgW [1] 160 6 zw (vv ?_)
  refine DOpQ.look (nx':=160) (sc:=True) (v:=V.c (Cv.v (.int .u16 q))) [mn q Z.length false] 160 wq trivial ⟨rfl,trivial⟩ rfl ?_
  simp only[go_sem,hwj]
  rw[<-hst]
  exact⟨hra.1,hJ _ _ ⟨j+1,hc⟩ [(1,1),(2,2),(5,5),(6,6)] yK zk⟩
 ·have hc:=zJ hj hc
  subst hc
  rw[MS,<-hb]at*
  clear hJ
  by_cases h22:i.op=22
  ·obtain⟨k0,k1⟩:=hk22 h22
   have e22:(i.op==22)=true:=by simpa using h22
   have w1:IntKind.i64.wrap (i.k.tdiv 32)=i.k/32:=by rw[Mj k0];exact y8 zA zA
   have w2:IntKind.i64.wrap (i.k/32+1)=i.k/32+1:=y8 zA zA
   simp only[go_sem,e2,e22]
   refine Sm.dgW [2] 160 17 zw ?_
   simp only[go_sem,hlen,w1,w2,xy,Ni,wO]
   refine⟨⟨zA,zA⟩,zA,⟨zA,zA⟩,zA,?_⟩
   have hz:o6 i Z=sB (sB Z (i.k/32) true) (i.k/32+1) true:=by unfold o6;rw[e3,e2,e22];rfl
   rw[hz]at hR
   exact vF hR (zU hR rfl trivial rfl (oj (SubS.sub ⟨oS,oS,trivial⟩)) (nl (hMx _ _)) (zH rfl))
  have e22:(i.op==22)=false:=by simpa using h22
  simp only[go_sem,e2,e22]
  have hz:o6 i Z=Z:=by unfold o6;rw[e3,e2,e22];rfl
  rw[hz]at hR
  exact vF hR (zU hR rfl trivial rfl (oj (SubS.sub ⟨oS,oS,trivial⟩)) (nl (hMx _ _)) (zH rfl))
end Go.Proofs.YtbnkiacicnnmkaaGreat.Fx
