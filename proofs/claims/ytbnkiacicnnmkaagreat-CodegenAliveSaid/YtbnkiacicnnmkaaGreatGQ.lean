/-  -/
import Derived.Test.YtbnkiacicnnmkaaGreatGK
open Go.Proofs.Tryz
set_option linter.unusedSimpArgs false
set_option linter.unusedVariables false
set_option maxRecDepth 100000
set_option maxHeartbeats 4000000
namespace Go.Proofs.YtbnkiacicnnmkaaGreat.Fx
open Vg Tf
end Go.Proofs.YtbnkiacicnnmkaaGreat.Fx
namespace Go.Proofs.YtbnkiacicnnmkaaGreat.Fx
open Vg Tf
section
variable {P:Program} {nt:Nat} {C:Cx} {todo r:List It} {e e0:Env} {M M0 Mf:Mem}
end
section
variable {nt:Nat} {C:Cx} {todo r:List It} {e e0:Env} {M M0 Mf:Mem} {H:Hp} {d:DgL}
end
theorem _root_.Go.Proofs.YtbnkiacicnnmkaaGreat.Vg.StpC.ldA {P:Program}{C:Cx}{o:Oper}{e:Env}{M:Mem}{ty:TypeId}{x:Operand}{b i:Nat}{c:Array Value}{el:TypeId}{mk:Nat×Nat}{vs:List Value}(hb:C.hp b (.cells c el mk))(hc:∀j v,vs[j]?=some v->c[i+j]?=some v)(ho:o.op= .load ty x)(hx:rd e x=some (true,.c (.v (.pointer (some ⟨b,i,none⟩)))))
  (ha:z5 P ty=some true) (hs:zt P ty=vs.length) (h0:vs.length≠0):StpC P C.S C.w0 o e M (.agg (vs.map .v)) []:=by
 intro β M' a w _ _ hrel hop K Q hk
 have he:=hop β (zG _ _) x (by simp[ho,Op.operands]) _ hx
 have hbw:=zy hrel hb
 have hr2:w.rangeAt b i vs:=fun j v hj=>by simp[World.cell?,hbw,hc j v hj]
 simp only[gv,V.g,Cv.g,cond_true]at he
 unfold z5 at ha
 cases hu:P.underlying ty with
 |none=>simp[hu]at ha
 |some d=>
  have hd:d.isRow=true:=by cases d<;>simp_all
  have hld:=run_loadVar_mid (P:=P) w b i ty _ d hr2 hu hd (vj hs h0)
  have hcs:∀β:Vl,(vs.map Cv.v).map (Cv.g β)=vs:=fun β=>by
   rw[MZ];conv=>rhs;rw[<-Lz vs]
   exact MJ fun _ _=>rfl
  have hrun:(execOp a.eval o).run P w= .ok (.value (V.g β (.agg (vs.map .v)))) w:=by
   unfold execOp
   simp only[ho,he,Instr.loadAt,Instr.sureAddr,Sem.run_bind,Sem.run_pure,Result.andThen_ok,hld]
   simp only[V.g,hcs]
  unfold Oper.wp
  rw[hrun]
  exact hk β _ w (zG _ _) hrel (fun β'' _=>by simp only[V.g,hcs])
theorem sP {α:Type}{r:α->List Value}{k:Nat}(hk:∀x,(r x).length=k)(l:List α)(i j:Nat)(h:i<l.length)(hj:j<k):(l.map r).flatten[i*k+j]?=(r l[i])[j]?:=by
 have h1:=nE hk l i j h hj
 unfold zC at h1
 rw[MC]at h1
 cases ha:(l.map r).flatten[i*k+j]?<;>cases hb:(r l[i])[j]?<;>rw[ha,hb]at h1<;>simp_all
theorem ZJ {H:Hp}(p:Pg)(hp:p.ok H)(hc1:∀c∈p.cus,c.c.xs.length<=1000000000000000/\c.c.ys.length<=1000000000000000)(hm1:∀m∈p.mas,∀v∈m.zs,v.2.length<=1000000000000000)(hv:vT p=false):
  CallH H Tryz.prog 7 [ze p.r] (.c (.v (.slice none 0 0))):=by
 have hval:=uf p hp hc1 hm1
 rw[hv]at hval
 rw[wa]at hval⊢
 refine kH func7 Pe ntmps7 fun C hR hP hH hL=>?_
 have hR:=hR C hL
 refine zB 100 (vv ?_)
 refine zO 110 hval hH rfl (vv ?_)
 exact yM hR ClM.nil
theorem mc {α:Type}(r:α->List Value){k:Nat}(hk:∀x,(r x).length=k)(l:List α)(x:α):(zC (l.map r)).take (l.length*k)++(r x).map Cv.v=zC ((l++[x]).map r):=by
 rw[Nw (by rw[zS hk];exact MP _)]
 unfold zC
 rw[ME,L7,ME]
 simp
theorem di {H:Hp}{p:Pg}(hp:p.ok H)(h:0<p.code.length):∃b o,p.c.o=some ⟨b,o,none⟩/\∃cs el mk,H b (.cells cs el mk)/\∀q (hq:q<p.code.length) j v,(p.code[q].w)[j]?=some v->cs[o+q*5+j]?=some v:=by
 have hz:=zS (r:=Ins.w) (k:=5) (fun _=>rfl) p.code
 unfold zC at hz
 rw[Ni]at hz
 obtain⟨b,o,c,h1,cs,el,mk,hb,hc⟩:=hp.c.at (by intro h0;rw[h0]at hz;simp at hz;omega)
 have hio:p.c.o=some ⟨b,o,none⟩:=by injection h1
 refine⟨b,o,hio,cs,el,mk,hb,fun q hq j v hj=>?_⟩
 have hj5:j<5:=(ML.1 hj).1
 have:=hc (q*5+j) v (by rw[sP (r:=Ins.w) (k:=5) (fun _=>rfl) p.code q j hq hj5];exact hj)
 rw[Mx];exact this
def dX:Ins:=⟨0,0,0,0,0⟩
def xc (code:List Ins)(l:List Int):List Ins:=l.map fun n=>code.getD n.toNat dX
def yx (p:Pg):List Ins:=xc p.code (u9 p)
def jr (p:Pg)(s:Sv):Pg:={p with code:=yx p,c:=s}
theorem qU (code:List Ins)(f5:List Int):∀(n:Nat) (E:List Bool),(mR code f5 n E).length<=code.length/\∀k∈mR code f5 n E,0<=k/\k<code.length
 |0,_=>⟨Nat.zero_le _,fun k h=>by cases h⟩
 |n+1,E=>by
  unfold mR
  dsimp only
  cases lJ f5 E (uF code E 0).2.1 E.length with
  |true=>exact qU code f5 n _
  |false=>exact⟨by have:=(tL (code.drop 0) 0 E).1;rw[M5]at this;exact this,kP code E 0⟩
theorem qw (code:List Ins)(l:List Int)(i:Nat)(h:i<l.length):xc code (l.take (i+1))=xc code (l.take i)++[code.getD (l[i]).toNat dX]:=by
 unfold xc;rw[MF h,ME];rfl
theorem qz {H:Hp}(p:Pg)(hp:p.ok H)(hc1:∀c∈p.cus,c.c.xs.length<=1000000000000000/\c.c.ys.length<=1000000000000000)(hm1:∀m∈p.mas,∀v∈m.zs,v.2.length<=1000000000000000)(hv:vT p=true):
  CallX H Tryz.prog 8 [ze p.r] [] (fun s:Sv=> .tup [W.agg ((jr p s).r.map Cv.v),Wi 0]) (fun _=>[]) (fun s H'=>SlH H' (vsl s (yx p).length) 5 ((yx p).map Ins.w)):=by
 have hval:=uf p hp hc1 hm1
 have hal:=bI p hp hc1 hm1 hv
 obtain⟨hal1,hal2⟩:=qU p.code p.f5 (p.sz.toNat+1) (fV p)
 have hcl:=(li p hv).2.2
 have hA:mR p.code p.f5 (p.sz.toNat+1) (fV p)=u9 p:=rfl
 have hK:yx p=xc p.code (u9 p):=rfl
 rw[hA]at hal1 hal2
 rw[hv]at hval
 have hrw:∀s,(jr p s).r.map Cv.v=[.v (vsl s (yx p).length),.v (vsl p.t p.tys.length),.v (vsl p.u p.cus.length),.v (vsl p.m p.mas.length),.v (iv p.sz),.v (vsl p.s5 p.f5.length),.v (vsl p.s6 p.f6.length),.v (vsl p.s7 p.f7.length),.v (vsl p.s8 p.f8.length)]:=fun _=>rfl
 simp only[hrw]
 rw[wa]at hval hal⊢
 generalize hL0:u9 p=L at*
 refine kX func8 Pd ntmps8 fun C hR hP hH hL=>?_
 refine zB 100 (vv ?_)
 refine zO 110 hval hH rfl (vv ?_)
 refine wM [(1,120)] 130 hL hal hH rfl trivial ClM.nil (fun _=>rfl) rfl rfl rfl fun _ C1 H1 l1 g1 _ _=>?_
 simp only[Mem.ren,Nk,Nm,zf (yD _),V.ren,Cv.ren,rn,Nat.reduceBEq,cond_true,cond_false]
 refine vv ?_
 refine xN 140 5 42 [4] [] rfl (vv ?_)
 refine zL (M0:=[]) (α:={i:Nat//i<=L.length}) (l1.pins hP) (fun i=>[(1,true,.c (.p 1 0)),(2,true,.c (.p 3 0)),(4,true,.c (.sl 5 0 i.val 5)),(12,true,.c (.sl 6 0 L.length 1)),(13,true,I L.length),(14,true,I i.val)])
  (fun i=>[(1,⟨false,uV p,28⟩),(3,⟨false,[.v (.slice none 0 0),.v (.slice none 0 0),.v (.slice none 0 0),.v (.slice none 0 0),.v (.int .i64 0),.v (.slice none 0 0),.v (.slice none 0 0),.v (.slice none 0 0),.v (.slice none 0 0)],28⟩),(5,⟨false,zC ((xc p.code (L.take i.val)).map Ins.w),42⟩),(6,⟨false,L.map iC,3⟩)]) (fun i=>L.length-i.val) ⟨0,zA⟩ (fun _=>zD (by simp only[Nj,iR,zZ (yD _)];rfl)) (fun _=>zP rfl) [(1,100),(3,101),(5,140),(6,120)] ?_ ?_
 ·exact zk
 rintro⟨i,hi⟩ J hj
 simp only at hj hi⊢
 refine xE 8 150 (vv ?_)
 refine zY (fun hc=>?_) (fun hc=>?_)
 ·have hc:=zI hc
  have hov:(L.map iC)[i]?=some (iC L[i]):=by simp[hc]
  obtain⟨c0,c1⟩:=hal2 _ (Nv hc)
  have hwi:IntKind.i64.wrap ((i:Int)+1)=((i+1:Nat):Int):=wS zA
  have hpt:=qw p.code L i hc
  obtain⟨j0,hj0⟩:∃j0:Nat,L[i]=j0:=⟨L[i].toNat,zA⟩
  rw[hj0]at hov c0 c1 hpt
  have hjn:j0<p.code.length:=zA
  have hx:p.code.getD ((j0:Int)).toNat dX=p.code[j0]:=by rw[Int.toNat_natCast,Nl,No hjn];rfl
  rw[hx]at hpt
  obtain⟨b0,o0,hpo,cs,el,mk,hcb,hcc⟩:=di ((hp.mono hH).mono g1) zA
  have hpg0:(uV p)[0]?=some (.v (.slice (some ⟨b0,o0,none⟩) p.code.length p.c.c)):=by rw[<-hpo];rfl
  have hps:(xc p.code (L.take i)).length=i:=by unfold xc;rw[Ni,LW];omega
  have hz:=zS (r:=Ins.w) (k:=5) (fun _=>rfl) (xc p.code (L.take i))
  have hap:=mc Ins.w (k:=5) (fun _=>rfl) (xc p.code (L.take i)) p.code[j0]
  rw[hps]at hz hap
  rw[<-hpt]at hap
  refine zB 160 ?_
  simp only[go_sem,hov,hpg0]
  refine⟨⟨zA,zA⟩,?_⟩
  refine z6 170 rfl rfl (.inl rfl) (fun _=>(Stp.idxV rfl rfl rfl ae zA zA).toC) ?_
  simp only[go_sem,Int.toNat_natCast]
  refine z6 180 rfl rfl (.inl rfl) (fun _=>StpC.ldA (vs:=p.code[j0].w) hcb (fun j v hv=>hcc j0 hjn j v hv) rfl rfl rfl rfl (Mo _)) ?_
  have hs5:∀x:Ins,wK [Cv.v (.int .i64 0),.v (.int .i64 0),.v (.int .i64 0),.v (.int .i64 0),.v (.int .i64 0)] 0 (List.map Cv.v x.w)=List.map Cv.v x.w:=fun _=>rfl
  have ht5:∀x:Ins,List.take 5 (List.map Cv.v x.w)=List.map Cv.v x.w:=fun _=>rfl
  have hon:∀x:Ins,(List.map Cv.v x.w).all Cv.one=true:=fun _=>rfl
  have hl5:∀x:Ins,(List.map Cv.v x.w).length=5:=fun _=>rfl
  generalize p.code[j0]=x at*
  simp only[go_sem,hz,hs5,ht5,hon,hl5,hap,hwi]
  refine⟨⟨zA,zA⟩,hj _ _ ⟨i+1,hc⟩ [(1,1),(3,3),(5,181),(6,6)] yK zk⟩
 ·have hc:=zJ hi hc
  subst hc
  rw[MS,<-hK]
  have hkl:L.length=(yx p).length:=by rw[hK];unfold xc;rw[Ni]
  refine zB 200 ?_
  simp only[go_sem,uV]
  refine RetQ.letgo (M0:=[]) [5] l1 hP rfl (by unfold yF;simp only[Nj,yJ (zK _),yJ (yD _)];rfl) (fun β C2 l2 k2 kn=>?_)
  obtain⟨s,hs,hks⟩:=(kn 5 _ rfl rfl rfl).vslx (sz:=5) (rows:=(yx p).map Ins.w) (fun r hr=>by obtain⟨x,_,rfl⟩:=Nz.1 hr;rfl) rfl
  rw[Ni]at hs hks
  rw[hkl]
  simp only[Mem.conc,Env.conc,Bk.conc,Cv.conc,V.conc,Nk,Nm,MV,List.contains_nil,Nat.reduceBEq,Mr,LF,cond_true,cond_false,xw (zK _),xw (yD _),hs]
  exact yM (hR s C2 l2 hks) ClM.nil
theorem mt {H:Hp}(p:Pg)(hp:p.ok H)(hc1:∀c∈p.cus,c.c.xs.length<=1000000000000000/\c.c.ys.length<=1000000000000000)(hm1:∀m∈p.mas,∀v∈m.zs,v.2.length<=1000000000000000)(hv:vT p=false):
  CallH H Tryz.prog 8 [ze p.r] (.tup [W.agg [.v (.slice none 0 0),.v (.slice none 0 0),.v (.slice none 0 0),.v (.slice none 0 0),.v (.int .i64 0),.v (.slice none 0 0),.v (.slice none 0 0),.v (.slice none 0 0),.v (.slice none 0 0)],Wi 1]):=by
 have hval:=uf p hp hc1 hm1
 rw[hv]at hval
 rw[wa]at hval⊢
 refine kH func8 Pd ntmps8 fun C hR hP hH hL=>?_
 have hR:=hR C hL
 refine zB 100 (vv ?_)
 refine zO 110 hval hH rfl (vv ?_)
 exact yM hR ClM.nil
def eP (X:List Bool)(l:List Int):List Bool:=l.foldl (fun Z c=>sB Z c false) X
theorem lc (X:List Bool):∀l:List Int,(eP X l).length=X.length:=by
 intro l
 induction l generalizing X with
 |nil=>rfl
 |cons a t ih=>exact(ih (sB X a false)).trans (wO _ _ _)
theorem ie (X:List Bool)(l:List Int)(i:Nat)(h:i<l.length):eP X (l.take (i+1))=sB (eP X (l.take i)) l[i] false:=by
 unfold eP;rw[MF h,List.foldl_append];rfl
theorem ai (l:List Bool)(n c:Int)(hn:0<=n)(hc:0<=c):gB (sB l n false) c=(gB l c&& !(c==n)):=by
 by_cases h:c=n
 ·subst h
  unfold gB sB
  rw[Nl,LI]
  simp
  split<;>rfl
 ·rw[bO _ _ _ _ hc hn h,show(c==n)=false by simpa using h];simp
theorem ld (c:Int)(hc:0<=c):∀(l:List Int) (X:List Bool),(∀n∈l,0<=n)->gB (eP X l) c=(gB X c&& !l.contains c)
 |[],X,_=>by simp[eP]
 |a::t,X,h=>by
  have ih:=ld c hc t (sB X a false) (fun n hn=>h n (L2 _ hn))
  rw[ai X a c (h a (Ln ..)) hc]at ih
  rw[MV]
  refine Eq.trans ih ?_
  cases gB X c<;>cases (c==a)<;>simp
def Yo (p:Pg):List Cv:=[.sl 21 0 p.code.length 5,.v (vsl p.t p.tys.length),.v (vsl p.u p.cus.length),.v (vsl p.m p.mas.length),.v (iv p.sz),.sl 20 0 p.f5.length 1,.v (vsl p.s6 p.f6.length),.sl 22 0 p.f7.length 1,.v (vsl p.s8 p.f8.length)]
@[reducible,go_sem] def SE (N:Nat)(R X:List Bool)(o:List Int):Mem:=[(5,⟨false,[.sl 11 0 16 1,.sl 12 0 N 1],103⟩),(11,⟨false,R.map bC,4⟩),(12,⟨false,X.map bC,4⟩),(6,⟨false,o.map iC,3⟩)]
@[reducible,go_sem] def YJ (p:Pg)(E:List Bool):Mem:=[(1,⟨false,Yo p,28⟩),(20,⟨true,p.f5.map iC,3⟩),(21,⟨true,zC (p.code.map Ins.w),42⟩),(22,⟨true,p.f7.map iC,3⟩),(9,⟨false,E.map bC,4⟩)]
theorem bA {H:Hp}(p:Pg)(hp:p.ok H)(hv:vT p=true):
  CallX H Tryz.prog 11 [ze p.r] [] (fun _:Unit=> .c (.sl 1 0 (u9 p).length 1)) (fun _=>[(1,⟨false,(u9 p).map iC,3⟩)]) (fun _ _=>True):=by
 have hok:=bN p hv
 obtain⟨hb7,hb5,hcl⟩:=li p hv
 have hb7:=vB hb7
 have hb5:=vB hb5
 have hvv:=mV p hv
 have hAl:u9 p=mR p.code p.f5 (p.sz.toNat+1) (fV p):=rfl
 have hen:fV p=eH (List.replicate p.sz.toNat false) p.f7:=rfl
 rw[wa]
 refine kX func11 QD ntmps11 fun C hR hP hH hL=>?_
 have hR:=hR () C hL trivial
 refine zB 100 ?_
 simp only[go_sem,wY]
 refine⟨zA,?_⟩
 have hN0:p.sz=(p.sz.toNat:Int):=zA
 have hEt:yv p.sz.toNat []=List.replicate p.sz.toNat false:=List.ext_getElem (by simp[yv]) (fun k h1 h2=>by simp[yv])
 have hEl:=r6 (List.replicate p.sz.toNat false) p.f7
 rw[List.length_replicate]at hEl
 rw[hEt]
 rw[hAl,hen]at hR
 clear hAl hen
 have il:∀l:List Int,(zT l).length=l.length:=fun l=>by unfold zT;rw[Ni]
 generalize hN:p.sz.toNat=N at*
 generalize hE0:List.replicate N false=E0 at*
 have hE0l:E0.length=N:=by rw[<-hE0];simp
 have hcL:(p.code.map Ins.w).length=p.code.length:=Ni _
 refine Sm.bringC 21 42 100 0 (rows:=p.code.map Ins.w) (by have:=hp.c.mono hH;exact this) rfl rfl rfl ?_
 refine Sm.bringC 20 3 100 5 (rows:=zT p.f5) (hp.i5.mono hH) rfl rfl rfl ?_
 refine Sm.bringC 22 3 100 7 (rows:=zT p.f7) (hp.i7.mono hH) rfl rfl rfl ?_
 dsimp only
 simp only[il,qG,hcL]
 have hsz0:=zS (r:=Ins.w) (k:=5) (fun _=>rfl) p.code
 have q0:(Yo p)[0]?=some (.sl 21 0 p.code.length 5):=rfl
 have q4:(Yo p)[4]?=some (.v (iv p.sz)):=rfl
 have q5:(Yo p)[5]?=some (.sl 20 0 p.f5.length 1):=rfl
 have q7:(Yo p)[7]?=some (.sl 22 0 p.f7.length 1):=rfl
 have hcm:∀E,ClM (YJ p E):=fun E=>zD (by simp only[Nj,zZ (zh _),zZ (yD _),iR];rfl)
 refine zL (M0:=[]) (α:={i:Nat//i<=p.f7.length}) hP (fun i=>[(1,true,.c (.p 1 0)),(3,true,.c (.sl 9 0 N 1)),(4,true,I i.val)])
  (fun i=>YJ p (eH E0 (p.f7.take i.val))) (fun i=>p.f7.length-i.val) ⟨0,zA⟩ (fun _=>hcm _) (fun _=>zP rfl) [(1,100),(20,20),(21,21),(22,22),(9,101)] ?_ ?_
 ·exact zk
 rintro⟨i,hi⟩ J hj
 simp only at hj hi⊢
 refine xE 14 120 ?_
 simp only[go_sem,q7]
 refine zY (fun hc=>?_) (fun hc=>?_)
 ·have hc:=zI hc
  have hov:(p.f7.map iC)[i]?=some (iC p.f7[i]):=by simp[hc]
  obtain⟨c0,c1⟩:=hb7.2 _ (Nv hc)
  have hwi:IntKind.i64.wrap ((i:Int)+1)=((i+1:Nat):Int):=wS zA
  have hst:=nc E0 p.f7 i hc
  have hkl:=r6 E0 (p.f7.take i)
  generalize p.f7[i]=z at*
  refine zB 130 ?_
  simp only[go_sem,q7,hov,hwi,Int.toNat_natCast,Ni,hkl,hE0l,xy,<-hst]
  exact⟨⟨zA,zA⟩,⟨zA,zA⟩,zA,hj _ _ ⟨i+1,hc⟩ [(1,1),(20,20),(21,21),(22,22),(9,9)] yK zk⟩
 have hc:=zJ hi hc
 subst hc
 rw[MS]
 clear hj
 generalize hE1:eH E0 p.f7=E1 at*
 refine zB 130 (vv ?_)
 obtain⟨A,hA⟩:∃A,A=mR p.code p.f5 (N+1) E1:=⟨_,rfl⟩
 rw[<-hA]at hR
 have hcn:lQ E1<N+1:=by
  have:lQ E1<=E1.length:=List.countP_le_length
  omega
 refine zL (M0:=[]) (α:={x:Nat×List Bool//x.2.length=N/\lQ x.2<x.1/\A=mR p.code p.f5 x.1 x.2}) hP (fun x=>[(1,true,.c (.p 1 0)),(3,true,.c (.sl 9 0 N 1))])
  (fun x=>YJ p x.val.2) (fun x=>x.val.1) ⟨(N+1,E1),hEl,hcn,hA⟩ (fun _=>hcm _) (fun _=>zP rfl) [(1,1),(20,20),(21,21),(22,22),(9,9)] ?_ ?_
 ·exact zk
 clear hE1 hEl hcn hA hi hc
 rintro⟨⟨n,E⟩,hEl,hcn,hA⟩ J0 hj0
 simp only at hj0 hEl hcn hA⊢
 obtain⟨n,rfl⟩:∃m,n=m+1:=⟨n-1,zA⟩
 have hcZ:=uQ E zA
 rw[hEl]at hcZ
 refine zB 140 (vv ?_)
 refine Sm.dg 140 5 zw (vv ?_)
 refine⟨zA,?_⟩
 refine DCallQ.ren [(1,9),(2,150)] 160 hcZ (zD (by simp only[Nj,zZ (zh _)];rfl)) rfl rfl ⟨⟨_,rfl,oP (zh _)⟩,trivial⟩ rfl (.inl rfl) rfl rfl ?_
 simp only[Mem.ren,Nk,Nm,zf (zh _),V.ren,Cv.ren,rn,Nat.reduceBEq,cond_true,cond_false]
 simp only[go_sem,q0]
 refine xN 170 1 3 [6] [] rfl ?_
 simp only[go_sem,q0]
 have w00:IntKind.i64.wrap ((p.code.length:Int)-1)=(p.code.length:Int)-1-((0:Nat):Int):=by
  rw[y8 zA zA];omega
 rw[w00]
 have hpe:=kQ p.code E
 have hrp:[Cv.v (Value.bool false),Cv.v (Value.bool false),Cv.v (Value.bool false),Cv.v (Value.bool false),Cv.v (Value.bool false),Cv.v (Value.bool false),Cv.v (Value.bool false),Cv.v (Value.bool false),Cv.v (Value.bool false),Cv.v (Value.bool false),Cv.v (Value.bool false),Cv.v (Value.bool false),Cv.v (Value.bool false),Cv.v (Value.bool false),Cv.v (Value.bool false),Cv.v (Value.bool false)]=(List.replicate 16 false).map bC:=rfl
 rw[hrp]
 refine zL (M0:=[]) (α:={j:Nat//j<=p.code.length}) hP (fun j=>[(1,true,.c (.p 1 0)),(3,true,.c (.sl 9 0 N 1)),(5,true,.c (.p 5 0)),(6,true,.c (.sl 6 0 (uF p.code E (p.code.length-j.val)).2.2.length 1)),(7,true,I ((p.code.length:Int)-1-(j.val:Int)))])
  (fun j=>YJ p E++SE N (uF p.code E (p.code.length-j.val)).1 (uF p.code E (p.code.length-j.val)).2.1 (uF p.code E (p.code.length-j.val)).2.2) (fun j=>p.code.length-j.val) ⟨0,zA⟩ (fun _=>zD (by simp only[Nt,Nu,Nj,zZ (zh _),zZ (yD _),iR];rfl)) (fun _=>zP rfl) [(1,1),(20,20),(21,21),(22,22),(9,9),(5,160),(11,140),(12,150),(6,170)] ?_ ?_
 ·simp only[Nat.sub_zero]
  rw[hpe]
  exact zk
 rintro⟨j,hj⟩ J hb
 simp only at hb hj⊢
 refine zB 180 (vv ?_)
 by_cases hc:j<p.code.length
 ·have e0:(p.code.length:Int)-1-(j:Int)=((p.code.length-1-j:Nat):Int):=zA
  have e1:decide ((0:Int)<=((p.code.length-1-j:Nat):Int))=true:=yQ zA
  have hjl:p.code.length-1-j<p.code.length:=zA
  have htk:=zX (r:=Ins.w) (k:=5) (fun _=>rfl) p.code (p.code.length-1-j) hjl
  have hps:=nP p.code E (p.code.length-1-j) hjl
  have hoki:=hok _ (Nv hjl)
  have hkl:=rU p.code E (p.code.length-j)
  have hko:=(tL (p.code.drop (p.code.length-j)) (p.code.length-j) E).1
  rw[show p.code.length-1-j+1=p.code.length-j by omega]at hps
  have hnk:p.code.length-(j+1)=p.code.length-1-j:=zA
  have hol:(uF p.code E (p.code.length-j)).2.2.length<=4000:=by
   unfold uF;rw[Lv]at hko;omega
  clear hko
  generalize p.code[p.code.length-1-j]=x at*
  generalize uF p.code E (p.code.length-j)=z at*
  obtain⟨zr,zc,zo⟩:=z
  simp only at hkl hol hps⊢
  have hzl:zc.length=N:=by rw[hkl.2,hEl]
  rw[e0]
  refine zB 180 ?_
  simp only[go_sem,e1]
  refine Sm.dg 180 12 zw ?_
  simp only[go_sem,q0,htk,hsz0]
  refine⟨⟨zA,zA⟩,zA,?_⟩
  have hM12:∀Y Z:List Bool,ClM [eM 1 Y,eM 2 Z]:=fun _ _=>zD (by simp only[Nj,zZ (zh _)];rfl)
  have hcon0:=jb x zr zc (by rw[hzl];exact hoki) hkl.1 zA
  have hcon1:=ja x zr zc (by rw[hzl];exact hoki) hkl.1 zA
  rw[hzl]at hcon0 hcon1
  have w2:IntKind.i64.wrap (((p.code.length-1-j:Nat):Int)-1)=(p.code.length:Int)-1-((j+1:Nat):Int):=by
   rw[y8 zA zA];omega
  cases hal:iI x zr zc with
  |false=>
   rw[hal,cond_false]at hps
   refine DCallQ.ren [(1,11),(2,12)] 190 (hcon0 hal) (hM12 _ _) rfl rfl ⟨⟨_,rfl,oP (zh _)⟩,⟨_,rfl,oP (zh _)⟩,trivial⟩ rfl (.inr rfl) rfl rfl ?_
   simp only[go_sem,w2]
   refine hb _ _ ⟨j+1,hc⟩ [(1,1),(20,20),(21,21),(22,22),(9,9),(5,5),(11,11),(12,12),(6,6)] yK ?_
   simp only
   rw[hnk,hps]
   exact zk
  |true=>
   rw[hal,cond_true]at hps
   refine DCallQ.ren [(1,11),(2,12),(3,200),(4,201)] 210 (hcon1 hal) (hM12 _ _) rfl rfl ⟨⟨_,rfl,oP (zh _)⟩,⟨_,rfl,oP (zh _)⟩,trivial⟩ rfl (.inl rfl) rfl rfl ?_
   simp only[Mem.ren,Nk,Nm,zf (zh _),V.ren,W.ren,Cv.ren,rn,Nat.reduceBEq,cond_true,cond_false]
   simp only[go_sem,w2]
   have htz:List.take zo.length (zo.map iC)=zo.map iC:=Nw zd
   have hon:(zo.map iC).all Cv.one=true:=Nr.2 fun c hc=>by obtain⟨n,_,rfl⟩:=Nz.1 hc;rfl
   rw[htz]
   have hln:1+zo.length=(((p.code.length-1-j:Nat):Int)::zo).length:=by rw[MG];omega
   refine⟨⟨⟨zd,hon⟩,zA,zA⟩,?_⟩
   refine hb _ _ ⟨j+1,hc⟩ [(1,1),(20,20),(21,21),(22,22),(9,9),(5,5),(11,200),(12,201),(6,212)] yK ?_
   simp only
   rw[hnk,hps,hln]
   exact zk
 have hc:j=p.code.length:=zA
 subst hc
 rw[LU]
 clear hb
 have hkl:=rU p.code E 0
 have hkm:=(tL (p.code.drop 0) 0 E).1
 have hAz:A=(bif lJ p.f5 E (uF p.code E 0).2.1 N then mR p.code p.f5 n (uj p.f5 E (uF p.code E 0).2.1 N)else(uF p.code E 0).2.2):=by rw[hA,mR,hEl]
 have hln:(uF p.code E 0).2.2.length<=4000:=by unfold uF;rw[M5]at hkm⊢;omega
 generalize uF p.code E 0=z at*
 obtain⟨zr,X,zo⟩:=z
 simp only at hAz hkl hln⊢
 obtain⟨_,hXl⟩:=hkl
 rw[hEl]at hXl
 have e10:decide ((0:Int)<=(p.code.length:Int)-1-(p.code.length:Int))=false:=yZ zA
 simp only[go_sem,e10]
 -- the inputs
 refine zL (M0:=[]) (α:={k:Nat//k<=p.f5.length}) hP (fun k=>[(1,true,.c (.p 1 0)),(3,true,.c (.sl 9 0 N 1)),(5,true,.c (.p 5 0)),(6,true,.c (.sl 6 0 zo.length 1)),(10,true,Bo false),(11,true,I k.val)])
  (fun k=>YJ p E++SE N zr (eP X (p.f5.take k.val)) zo) (fun k=>p.f5.length-k.val) ⟨0,zA⟩ (fun _=>zD (by simp only[Nt,Nu,Nj,zZ (zh _),zZ (yD _),iR];rfl)) (fun _=>zP rfl) [(1,1),(20,20),(21,21),(22,22),(9,9),(5,5),(11,11),(12,12),(6,6)] ?_ ?_
 ·exact zk
 rintro⟨k,hk⟩ J hb
 simp only at hb hk⊢
 refine xE 14 220 ?_
 simp only[go_sem,q5]
 refine zY (fun hc=>?_) (fun hc=>?_)
 ·have hc:=zI hc
  have hov:(p.f5.map iC)[k]?=some (iC p.f5[k]):=by simp[hc]
  obtain⟨c0,c1⟩:=hb5.2 _ (Nv hc)
  have hwi:IntKind.i64.wrap ((k:Int)+1)=((k+1:Nat):Int):=wS zA
  have hst:=ie X p.f5 k hc
  have hkl:=lc X (p.f5.take k)
  generalize p.f5[k]=z at*
  refine zB 220 (vv ?_)
  refine Sm.dgW [12] 220 7 zw ?_
  simp only[go_sem,q5,hov,hwi,Int.toNat_natCast,Ni,hkl,hXl,xy,<-hst]
  exact⟨⟨zA,zA⟩,⟨zA,zA⟩,zA,hb _ _ ⟨k+1,hc⟩ [(1,1),(20,20),(21,21),(22,22),(9,9),(5,5),(11,11),(12,12),(6,6)] yK zk⟩
 have hc:=zJ hk hc
 subst hc
 rw[MS]
 clear hb
 have hzg:∀c:Nat,gB (eP X p.f5) c=(gB X c&& !p.f5.contains (c:Int)):=fun c=>ld c zA p.f5 X (fun n hn=>(hb5.2 n hn).1)
 have hzl:=lc X p.f5
 rw[hXl]at hzl
 generalize eP X p.f5=Z at*
 refine zB 230 (vv ?_)
 refine zL (M0:=[]) (α:={c:Nat//c<=N}) hP (fun c=>[(1,true,.c (.p 1 0)),(3,true,.c (.sl 9 0 N 1)),(5,true,.c (.p 5 0)),(6,true,.c (.sl 6 0 zo.length 1)),(10,true,Bo (lJ p.f5 E X c.val)),(12,true,I c.val)])
  (fun c=>YJ p (uj p.f5 E X c.val)++SE N zr Z zo) (fun c=>N-c.val) ⟨0,zA⟩ (fun _=>zD (by simp only[Nt,Nu,Nj,zZ (zh _),zZ (yD _),iR];rfl)) (fun _=>zP rfl) [(1,1),(20,20),(21,21),(22,22),(9,9),(5,5),(11,11),(12,12),(6,6)] ?_ ?_
 ·exact zk
 rintro⟨c,hcN⟩ J hb
 simp only at hb hcN⊢
 refine xE 14 240 ?_
 simp only[go_sem,q4]
 rw[hN0]
 have hGl:=vk p.f5 E X c
 refine zY (fun hc=>?_) (fun hc=>?_)
 ·have hc:=zI hc
  have gX:(Z.map bC)[c]?=some (bC (gB X c&& !p.f5.contains (c:Int))):=by have:=xa (C:=Z) (n:=(c:Int)) zA zA;rwa [Int.toNat_natCast,hzg]at this
  have gE:((uj p.f5 E X c).map bC)[c]?=some (bC (gB E c)):=by
   have:=xa (C:=uj p.f5 E X c) (n:=(c:Int)) zA zA
   rwa [Int.toNat_natCast,rZ _ _ _ _ _ (MP _)]at this
  have hwi:IntKind.i64.wrap ((c:Int)+1)=((c+1:Nat):Int):=wS zA
  have hst:uj p.f5 E X (c+1)=bif mO p.f5 E X c then sB (uj p.f5 E X c) c true else uj p.f5 E X c:=rfl
  have hsc:lJ p.f5 E X (c+1)=bif mO p.f5 E X c then true else lJ p.f5 E X c:=rfl
  have hg1:mO p.f5 E X c=bif gB X c then(bif gB E c then false else !p.f5.contains (c:Int))else false:=rfl
  have hgg:(bif gB X c&& !p.f5.contains (c:Int)then !gB E c else false)=mO p.f5 E X c:=by rw[hg1];cases gB X c<;>cases gB E c<;>cases p.f5.contains (c:Int)<;>rfl
  refine zB 250 ?_
  simp only[go_sem,gX,gE,hgg,Int.toNat_natCast]
  refine⟨⟨zA,zA⟩,fun h=>⟨h,h,zA,zA⟩,?_⟩
  cases hg:mO p.f5 E X c with
  |false=>
   rw[hg,cond_false]at hst hsc
   refine zB 250 ?_
   simp only[go_sem,hwi]
   refine hb _ _ ⟨c+1,hc⟩ [(1,1),(20,20),(21,21),(22,22),(9,9),(5,5),(11,11),(12,12),(6,6)] yK ?_
   simp only
   rw[hst,hsc]
   exact zk
  |true=>
   rw[hg,cond_true]at hst hsc
   have hse:((uj p.f5 E X c).map bC).set c (bC true)=(uj p.f5 E X (c+1)).map bC:=by rw[hst];have:=xy (Z:=uj p.f5 E X c) (n:=(c:Int)) (b:=true);rwa [Int.toNat_natCast]at this
   simp only[go_sem,hwi,hse,Ni,hGl,hEl,Int.toNat_natCast]
   refine⟨⟨zA,zA⟩,zA,?_⟩
   refine zB 250 ?_
   simp only[go_sem,hwi]
   refine hb _ _ ⟨c+1,hc⟩ [(1,1),(20,20),(21,21),(22,22),(9,9),(5,5),(11,11),(12,12),(6,6)] yK ?_
   simp only
   rw[hsc]
   exact zk
 have hc:=zJ hcN hc
 subst hc
 clear hb
 cases hg:lJ p.f5 E X c with
 |true=>
  rw[hg,cond_true]at hAz
  have hcg:=(oD p.f5 E X c zA).2 hg
  refine zB 260 ?_
  simp only[go_sem,hg]
  exact hj0 _ _ ⟨(n,uj p.f5 E X c),by rw[vk];exact hEl,by simp only;omega,hAz⟩ [(1,1),(20,20),(21,21),(22,22),(9,9)] yK zk
 |false=>
  rw[hg,cond_false]at hAz
  rw[hAz]at hR
  refine zB 260 ?_
  simp only[go_sem,hg]
  exact RetQ.ren [(1,6)] hR hP rfl y6 rfl rfl trivial ⟨oV (zf (yD _)),trivial⟩ (zD (by simp only[Nt,Nu,Nj,zZ (yD _)];rfl)) (zH rfl)
end Go.Proofs.YtbnkiacicnnmkaaGreat.Fx
