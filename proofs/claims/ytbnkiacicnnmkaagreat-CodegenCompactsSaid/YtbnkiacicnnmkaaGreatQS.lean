/-  -/
import Derived.Test.YtbnkiacicnnmkaaGreatQY
set_option linter.unusedSimpArgs false
set_option linter.unusedVariables false
set_option maxRecDepth 100000
set_option maxHeartbeats 4000000
namespace Go.Proofs.YtbnkiacicnnmkaaGreat.Fx
open Vg Tf
theorem xf {L:List Nat}{β:Vl}{l:List Cv}(h:l.all Cv.isV=true):l.map (Cv.conc L β)=l:=by
 rw[JD]at h
 conv=>rhs;rw[<-HI l]
 refine JV fun c hc=>?_
 have:=h c hc
 cases c with
 |v x=>rfl
 |_=>cases this
theorem eg (l:List (List Value))(h:∀r∈l,∀v∈r,v.oneCell'=true):(zC l).all Cv.one=true:=by
 rw[JD]
 intro c hc
 unfold zC at hc
 obtain⟨v,hv,rfl⟩:=JL.1 hc
 obtain⟨r,hr,hvr⟩:=List.mem_flatten.1 hv
 exact h r hr v hvr
@[go_sem] theorem Q7:(Region.Mode.any==Region.Mode.text)=false:=rfl
theorem wH {L:List Nat}{cs:List Cv}{i:Nat}{c:Cv}(h:cs.all (Cv.cok L)=true)(hc:c.cok L=true):(cs.set i c).all (Cv.cok L)=true:=by
 rw[JD]at h⊢
 intro x hx
 rcases List.mem_or_eq_of_mem_set hx with hx|rfl
 ·exact h x hx
 ·exact hc
theorem WS {b:Bl}(h:xj b=true):b.ks.length<=10:=by
 have hq:∃q,ym b.kd=some q:=by
  have h1:=h
  unfold xj at h1
  cases hq:ym b.kd with
  |none=>rw[hq]at h1;cases h1
  |some q=>exact⟨q,rfl⟩
 obtain⟨q,hq⟩:=hq
 have hm:=vl hq
 unfold xj at h
 rw[hq]at h
 simp only[JB,decide_eq_true_eq]at h
 have:∀x∈kindT,x.2.2.1<=10:=yp
 exact IE (Nat.le_of_eq h.2.1) (this _ hm)
theorem VB {cs:List Cv}{i:Nat}{v:Value}(h:cs.all Cv.isV=true):(cs.set i (.v v)).all Cv.isV=true:=by
 rw[JD]at h⊢
 intro x hx
 rcases List.mem_or_eq_of_mem_set hx with hx|rfl
 ·exact h x hx
 ·rfl
theorem aW {M:Mem}{cs:List Cv}{i:Nat}{c:Cv}(h:cs.all (Cv.inM M)=true)(hc:c.inM M=true):(cs.set i c).all (Cv.inM M)=true:=by
 rw[JD]at h⊢
 intro x hx
 rcases List.mem_or_eq_of_mem_set hx with hx|rfl
 ·exact h x hx
 ·exact hc
theorem iG {ρ:Nat->Nat}{r:Bool}{l:List Cv}{t:TypeId}{i n a b c:Nat}(h:l.all Cv.isV=true)(hn:ρ n=n):(⟨r,l.set i (.sl n a b c),t⟩:Bk).ren ρ=⟨r,l.set i (.sl n a b c),t⟩:=by
 have h1:=yD (ρ:=ρ) (r:=r) (t:=t) h
 simp only[Bk.ren,Bk.mk.injEq,true_and,and_true]at h1⊢
 rw[Jy,h1]
 simp only[Cv.ren,hn]
def zR (v:Sv×List Int):List Value:=[vsl v.1 v.2.length]
theorem xd {k:Nat}(A B:List (List Value))(r:List Value)(hA:∀a∈A,a.length=k)(i:Nat)(hi:i<r.length)(v:Value):(zC (A++r::B)).set (A.length*k+i) (.v v)=zC (A++r.set i v::B):=by
 have hl:=yQ (k:=k) A hA
 have e:∀x:List Value,zC (A++x::B)=zC A++(x.map .v++zC B):=fun x=>by simp[zC]
 rw[e,e,List.set_append_right _ _ zA,hl,Nat.add_sub_cancel_left,List.set_append_left _ _ (by simpa using hi),Jy]
def W7 (a b:Nat)(n:Nat):Nat:=if n=a then b else if n=b then a else n
theorem bN (a b:Nat):∀n m,W7 a b n=W7 a b m->n=m:=by
 intro n m h
 unfold W7 at h
 split at h<;>split at h<;>(try split at h)<;>(try split at h)<;>omega
theorem xq {H:Hp}{f:FuncId}{v:Value}{len sz:Nat}{cells:List Cv}{ty:TypeId}(hv:cells.all Cv.isV=true)(h:CallX H Tryz.prog f [.c (.v v)] [] (fun _:Unit=> .c (.sl 2 0 len sz)) (fun _=>[(2,⟨false,cells,ty⟩)]) (fun _ _=>True))(n:Nat):
  CallX H Tryz.prog f [.c (.v v)] [] (fun _:Unit=> .c (.sl n 0 len sz)) (fun _=>[(n,⟨false,cells,ty⟩)]) (fun _ _=>True):=by
 have h2:=h.ren (ρ:=W7 2 n) (bN 2 n)
 simp only[Mem.ren,Ky,Kz,V.ren,Cv.ren,yD hv]at h2
 have e:W7 2 n 2=n:=by simp[W7]
 simp only[e]at h2
 exact h2
theorem _root_.Go.Proofs.YtbnkiacicnnmkaaGreat.Vg.DCallQ.n1 {H:Hp}{P:Program}{nt:Nat}{C:Cx}{r:List It}{e e0:Env}{M M0 Mf:Mem}{id:Nat}{rg:Array Oper}{k:Nat}{T:List (Nat×Nat)}{i:Nat}{o:Oper}{l:List Oper}{f:FuncId}{vs:List (Option (Bool×V))}{dst:Option Nat}{xs:List V}{v:V}{n:Nat}{b:Bk}(nx:Nat)(hc:CallX H P f xs [] (fun _:Unit=>v) (fun _=>[(n,b)]) (fun _ _=>True))(hH:H.le C.hp)(hvs:vs=xs.map fun x=>some (true,x))
  (h0:M0.get n=none) (h1:M.get n=none) (hT:(T.all fun q=> !(q.1==n||q.1==n+1000000)||(qI o).contains q.2)=true)
  (h:wz P nt C id rg r e0 M0 Mf k (wA P nt C (.ops rg (rg.toList.drop k)::r)) ((n,i)::T) (i+1) l (e.put dst true v) ((n,b)::M) nx):DCallQ P nt C id rg r e0 M0 Mf k T i o f vs true dst l e M:=
 ⟨[],[(n,b)],M0,v,xs,fun _=>hvs,fun _=> .inr (CallX.kx hc hH ClM.nil (fun _=>rfl) (fun _=>rfl)),Sub.nil _,ClM.nil,xA (by simp[Mem.get,h0]),.inl rfl,⟨fun _ _ h=> .inl h,uG (by simp[nY,h0,h1]) (by simpa[uF]using hT)⟩,wX nx h⟩
@[reducible] def z7:List Cv:=[.v (.string ⟨#[]⟩),.v (.slice none 0 0),.v (.slice none 0 0),.v (.slice none 0 0),.v (.slice none 0 0),.v (.slice none 0 0),.v (.slice none 0 0)]
theorem ay {H:Hp}(d:DgL)(o:d.ok H)(hok:sY d.c=true):CallX H Tryz.prog 53 [z3 d.r] [] (fun x:DgL=>z3 x.r) (fun _=>[]) (fun x H'=>x.c=d.c/\x.ok H'):=by
 have hB:=Mi hok
 have hv:=hok
 unfold sY at hv
 simp only[JB,decide_eq_true_eq]at hv
 obtain⟨_,⟨n1,n2,n3,n4,n5⟩,n6,_,hcu,hma,_,hbl,_⟩:=hv
 have n2:d.cus.length<=30:=by simpa[DgL.c]using n2
 have n3:d.mas.length<=30:=by simpa[DgL.c]using n3
 have n6:d.bls.length<=200:=by simpa[DgL.c]using n6
 have n1:d.tys.length<=30:=n1
 have n4:d.ins.length<=30:=n4
 have n5:d.ous.length<=30:=n5
 refine kX Tryz.func53 O4 Tryz.ntmps53 fun C hR hP hH hL=>?_
 refine zB 100 (vv ?_)
 have oneR:∀{α:Type} (f:α->List Value) (l:List α),(∀a,∀v∈f a,v.oneCell'=true)->(zC (l.map f)).all Cv.one=true:=fun f l h=>eg _ (fun r hr=>by obtain⟨a,_,rfl⟩:=JL.1 hr;exact h a)
 have lenR:∀{α:Type} (f:α->List Value) (k:Nat) (l:List α),(∀a,(f a).length=k)->∀r∈l.map f,r.length=k:=fun f k l h r hr=>by obtain⟨a,_,rfl⟩:=JL.1 hr;exact h a
 have q1:=xq (zJ _) (Rq (H:=H) _ _ o.ty (lenR Td.r 11 _ fun _=>rfl) (oneR Td.r _ fun a=>by simp[Td.r,xN,Value.oneCell']) (by simp;omega))
 have q2:=xq (zJ _) (Rt (H:=H) _ _ o.cu (lenR CuL.r 3 _ fun _=>rfl) (oneR CuL.r _ fun a=>by simp[CuL.r,Value.oneCell']) (by simp;omega))
 have q3:=xq (zJ _) (Rs (H:=H) _ _ o.ma (lenR MpL.r 4 _ fun _=>rfl) (oneR MpL.r _ fun a=>by simp[MpL.r,Value.oneCell']) (by simp;omega))
 have q4:=xq (zJ _) (Rr (H:=H) _ _ o.i (lenR Po.r 4 _ fun _=>rfl) (oneR Po.r _ fun a=>by simp[Po.r,Value.oneCell']) (by simp;omega))
 have q5:=xq (zJ _) (Ru (H:=H) _ _ o.bl (lenR BlL.r 6 _ fun _=>rfl) (oneR BlL.r _ fun a=>by simp[BlL.r,Value.oneCell']) (by simp;omega))
 have q6:=xq (zJ _) (YX (H:=H) _ _ o.ou (lenR (fun s:Str=>[sv s]) 1 _ fun _=>rfl) (oneR (fun s:Str=>[sv s]) _ fun a=>by simp[Value.oneCell']) (by simp[yH];omega))
 have hsl:(yH d.ous).length=d.ous.length:=by simp[yH]
 simp only[hsl]at q6
 simp only[Kv]at q1 q2 q3 q4 q5
 refine Sm.dg 110 10 zi (vv ?_)
 refine DCallQ.n1 120 (q1 111) hH rfl rfl rfl rfl (vv ?_)
 refine DCallQ.n1 120 (q2 112) hH rfl rfl rfl rfl (vv ?_)
 refine DCallQ.n1 120 (q3 113) hH rfl rfl rfl rfl (vv ?_)
 refine Sm.dg 130 10 zi (vv ?_)
 refine DCallQ.n1 140 (q4 114) hH rfl rfl rfl rfl (vv ?_)
 refine DCallQ.n1 140 (q5 115) hH rfl rfl rfl rfl (vv ?_)
 refine DCallQ.n1 140 (q6 116) hH rfl rfl rfl rfl (vv ?_)
 refine xa (M0:=[]) hP [(1,true,.c (.p 1 0)),(2,true,.c (.p 2 0)),(36,true,I d.cus.length),(37,true,I (0:Nat))] [(1,⟨false,[.v (sv d.nm),.sl 111 0 d.tys.length 11,.sl 112 0 d.cus.length 3,.sl 113 0 d.mas.length 4,.sl 114 0 d.ins.length 4,.sl 115 0 d.bls.length 6,.sl 116 0 d.ous.length 1],69⟩),(2,⟨false,z7,69⟩),(111,⟨false,zC (d.tys.map Td.r),57⟩),(112,⟨false,zC (d.cus.map CuL.r),138⟩),(113,⟨false,zC (d.mas.map MpL.r),140⟩),(114,⟨false,zC (d.ins.map Po.r),60⟩),(115,⟨false,zC (d.bls.map BlL.r),64⟩),(116,⟨false,zC (yH d.ous),9⟩)] [(1,100),(2,101),(111,111),(112,112),(113,113),(114,114),(115,115),(116,116)] zh cM (zO rfl) ?_
 refine Sm.letgo (M0:=[]) [111,114,116] hL hP rfl (by unfold yC;simp only[Kw,yF (zJ _)];rfl) (fun β C1 l1 k1 kn=>?_)
 obtain⟨s1,hv1,hk1⟩:=(kn 111 _ rfl rfl rfl).vslx (sz:=11) (rows:=d.tys.map Td.r) (lenR Td.r 11 _ fun _=>rfl) rfl
 obtain⟨s4,hv4,hk4⟩:=(kn 114 _ rfl rfl rfl).vslx (sz:=4) (rows:=d.ins.map Po.r) (lenR Po.r 4 _ fun _=>rfl) rfl
 obtain⟨s6,hv6,hk6⟩:=(kn 116 _ rfl rfl rfl).vslx (sz:=1) (rows:=yH d.ous) (lenR (fun s:Str=>[sv s]) 1 _ fun _=>rfl) rfl
 simp only[Kv,hsl]at hv1 hk1 hv4 hk4 hv6 hk6
 have hH1:H.le C1.hp:=hH.trans k1
 simp only[Mem.conc,Env.conc,Bk.conc,Cv.conc,V.conc,Ky,Kz,J0,List.contains_nil,Nat.reduceBEq,Jq,IF,cond_true,cond_false,xf (zJ _),hv1,hv4,hv6]
 have hnc:=n2
 have hcm:∀q:List CuL,q.map CuL.c=(d.cus.take q.length).map CuL.c->∀i,(h:i<q.length)->∀h2:i<d.cus.length,q[i].c=d.cus[i].c:=fun q hq i h h2=>by
  have:=congrArg (fun l=>l[i]?) hq
  simpa[h,h2]using this
 refine xH (C:=C) (Ck:=C1) (M0:=[]) (α:={q:List CuL//q.length<=d.cus.length/\q.map CuL.c=(d.cus.take q.length).map CuL.c}) l1 hP (fun q=>[(1,true,.c (.p 1 0)),(2,true,.c (.p 2 0)),(36,true,I d.cus.length),(37,true,I q.val.length)])
  (fun q=>[(1,⟨false,[.v (sv d.nm),.v (vsl s1 d.tys.length),.sl 112 0 d.cus.length 3,.sl 113 0 d.mas.length 4,.v (vsl s4 d.ins.length),.sl 115 0 d.bls.length 6,.v (vsl s6 d.ous.length)],69⟩),(2,⟨false,z7,69⟩),(112,⟨false,zC ((q.val++d.cus.drop q.val.length).map CuL.r),138⟩),(113,⟨false,zC (d.mas.map MpL.r),140⟩),(115,⟨false,zC (d.bls.map BlL.r),64⟩)])
  (fun q hp=>(H.le hp/\SlH hp (vsl s1 d.tys.length) 11 (d.tys.map Td.r)/\SlH hp (vsl s4 d.ins.length) 4 (d.ins.map Po.r)/\SlH hp (vsl s6 d.ous.length) 1 (yH d.ous))/\∀c∈q.val,c.ok hp) (fun q=>d.cus.length-q.val.length) ⟨[],z9,z9⟩ ⟨⟨hH1,hk1,hk4,hk6⟩,z9⟩ (fun _=>cM) (fun _=>zO rfl) [(1,1),(2,2),(112,112),(113,113),(115,115)] zh ?_
 rintro⟨q,hq,hqc⟩ C2 J l2 ⟨⟨iH,i1,i4,i6⟩,iC⟩ hj
 simp only at hj hq hqc iC⊢
 refine zB 150 (vv ?_)
 refine zV (fun hc=>?_) (fun hc=>?_)
 ·have hc:=zH hc
  have hqd:(q++d.cus.drop q.length)[q.length]?=some d.cus[q.length]:=by
   rw[Ju (JZ _),I2,JC hc];rfl
  have hmem:d.cus[q.length]∈d.cus:=JH hc
  have hdc:d.cus.drop q.length=d.cus[q.length]::d.cus.drop (q.length+1):=JC hc
  have htc:d.cus.take (q.length+1)=d.cus.take q.length++[d.cus[q.length]]:=JR hc
  have hco:=o.cus _ hmem
  refine⟨⟨zA,zA⟩,?_⟩
  refine Sm.dgW [112] 160 15 zi (vv ?_)
  have hLt:∀r∈(q++d.cus.drop q.length).map CuL.r,r.length=3:=lenR CuL.r 3 _ fun _=>rfl
  have hll:(q++d.cus.drop q.length).length=d.cus.length:=by simp;omega
  have hg1:=yR (k:=3) _ hLt q.length 1 (by rw[Kv,hll];exact hc) zA
  have hg2:=yR (k:=3) _ hLt q.length 2 (by rw[Kv,hll];exact hc) zA
  have hrow:((q++d.cus.drop q.length).map CuL.r)[q.length]'(by rw[Kv,hll];exact hc)=CuL.r d.cus[q.length]:=by
   rw[If]
   congr 1
   have:=hqd
   rw[JA zA]at this
   exact Ik this
  rw[hrow]at hg1 hg2
  generalize d.cus[q.length]=cu at*
  have hg1:(zC ((q++d.cus.drop q.length).map CuL.r))[q.length*3+1]?=some (.v (vsl cu.x cu.c.xs.length)):=hg1
  have hg2:(zC ((q++d.cus.drop q.length).map CuL.r))[q.length*3+2]?=some (.v (vsl cu.y cu.c.ys.length)):=hg2
  refine DOpQ.look (nx':=160) (sc:=True) (v:= .c (.v (vsl cu.x cu.c.xs.length))) [(112,⟨false,zC ((q++d.cus.drop q.length).map CuL.r),138⟩)] 160 ?_ trivial ⟨rfl,trivial⟩ rfl ?_
  ·simp only[go_sem,hg1]
  refine vv ?_
  have hcb:=hB.cuO _ hmem
  have hxl:cu.c.xs.length<=32/\cu.c.xs.length=cu.c.ys.length:=by
   unfold wN xX at hcb
   simp only[JB,decide_eq_true_eq]at hcb
   exact⟨hcb.2.1.1.2,hcb.1⟩
  have c1:=xq (zJ _) (qB (H:=H) _ _ hco.x (lenR (fun n:Int=>[iv n]) 1 _ fun _=>rfl) (oneR (fun n:Int=>[iv n]) _ fun a=>by simp[Value.oneCell']) (by simp[zP];omega))
  have c2:=xq (zJ _) (qB (H:=H) _ _ hco.y (lenR (fun n:Int=>[iv n]) 1 _ fun _=>rfl) (oneR (fun n:Int=>[iv n]) _ fun a=>by simp[Value.oneCell']) (by simp[zP];omega))
  have e1:(zP cu.c.xs).length=cu.c.xs.length:=by simp[zP]
  have e2:(zP cu.c.ys).length=cu.c.ys.length:=by simp[zP]
  simp only[e1]at c1
  simp only[e2]at c2
  refine DCallQ.n1 170 (c1 121) iH rfl rfl rfl rfl (vv ?_)
  refine DOpQ.look (nx':=160) (sc:=True) (v:= .c (.v (vsl cu.y cu.c.ys.length))) [(112,⟨false,zC ((q++d.cus.drop q.length).map CuL.r),138⟩)] 160 ?_ trivial ⟨rfl,trivial⟩ rfl ?_
  ·simp only[go_sem,hg2]
  refine vv ?_
  refine DCallQ.n1 170 (c2 122) iH rfl rfl rfl rfl (vv ?_)
  have hz:=yQ (k:=3) _ hLt
  rw[Kv,hll]at hz
  refine⟨by rw[hz];omega,by rw[J8,hz];omega,?_⟩
  have kA:((zC ((q++d.cus.drop q.length).map CuL.r)).set (q.length*3+1) (Cv.sl 121 0 cu.c.xs.length 1)).all (Cv.cok [121,122])=true:=wH (yF (zJ _)) rfl
  have kB:(((zC ((q++d.cus.drop q.length).map CuL.r)).set (q.length*3+1) (Cv.sl 121 0 cu.c.xs.length 1)).set (q.length*3+1+1) (Cv.sl 122 0 cu.c.ys.length 1)).all (Cv.cok [121,122])=true:=wH kA rfl
  refine Sm.letgo (M0:=[]) [121,122] l2 hP rfl (by unfold yC;simp only[Kw,kA,kB,yF (zJ _)];rfl) (fun β C3 l3 k3 kn=>?_)
  obtain⟨sx,hvx,hkx⟩:=(kn 121 _ rfl rfl rfl).vslx (sz:=1) (rows:=zP cu.c.xs) (lenR (fun n:Int=>[iv n]) 1 _ fun _=>rfl) rfl
  obtain⟨sy,hvy,hky⟩:=(kn 122 _ rfl rfl rfl).vslx (sz:=1) (rows:=zP cu.c.ys) (lenR (fun n:Int=>[iv n]) 1 _ fun _=>rfl) rfl
  rw[e1]at hvx hkx
  rw[e2]at hvy hky
  simp only[Mem.conc,Env.conc,Bk.conc,Cv.conc,V.conc,Ky,Kz,J0,List.contains_nil,Nat.reduceBEq,Jq,IF,cond_true,cond_false,Jy,xf (zJ _),hvx,hvy]
  have hset:((zC ((q++d.cus.drop q.length).map CuL.r)).set (q.length*3+1) (.v (vsl sx cu.c.xs.length))).set (q.length*3+1+1) (.v (vsl sy cu.c.ys.length))=zC (((q++[CuL.mk cu.c sx sy])++d.cus.drop (q++[CuL.mk cu.c sx sy]).length).map CuL.r):=by
   have hA:∀a∈q.map CuL.r,a.length=3:=lenR CuL.r 3 _ fun _=>rfl
   rw[hdc,JN,Ky]
   have h1:=xd (k:=3) (q.map CuL.r) ((d.cus.drop (q.length+1)).map CuL.r) (CuL.r cu) hA 1 (by simp[CuL.r]) (vsl sx cu.c.xs.length)
   have h2:=xd (k:=3) (q.map CuL.r) ((d.cus.drop (q.length+1)).map CuL.r) ((CuL.r cu).set 1 (vsl sx cu.c.xs.length)) hA 2 (by simp[CuL.r]) (vsl sy cu.c.ys.length)
   rw[Kv]at h1 h2
   rw[h1]
   show List.set _ (q.length*3+2) _=_
   rw[h2]
   simp only[JM,JQ,J9,J4,JN,Ky,Kz,I1,JF,JG]
   rfl
  rw[hset]
  refine zB 180 ?_
  simp only[go_sem,wS (show q.length<=1000000000000000000 by omega)]
  refine hj _ _ C3 ⟨q++[CuL.mk cu.c sx sy],by simp;omega,by simp only[JN,Ky,Kz,JM,JQ,J9,J4];rw[htc,JN,hqc];rfl⟩ [(1,1),(2,2),(112,112),(113,113),(115,115)] l3 ⟨⟨iH.trans k3,i1.mono k3,i4.mono k3,i6.mono k3⟩,fun c hc=>?_⟩ (by simp only[JM,JQ,J9];omega) ?_
  ·rcases IP.1 hc with hc|hc
   ·exact(iC c hc).mono k3
   ·obtain rfl:=IM.1 hc
    exact⟨hkx,hky⟩
  ·simp only[JM,JQ,J9,J4]
   exact zh
 ·have hc:=zI hq hc
  have hqe:q++d.cus.drop q.length=q:=by rw[hc,JI,JK]
  have hqc:q.map CuL.c=d.cus.map CuL.c:=by rw[hqc,hc,JY]
  rw[hqe]
  clear hj
  refine Sm.letgo (M0:=[]) [112] l2 hP rfl (by unfold yC;simp only[Kw,yF (zJ _)];rfl) (fun β C3 l3 k3 kn=>?_)
  obtain⟨s2,hv2,hk2⟩:=(kn 112 _ rfl rfl rfl).vslx (sz:=3) (rows:=q.map CuL.r) (lenR CuL.r 3 _ fun _=>rfl) rfl
  rw[Kv,hc]at hv2 hk2
  simp only[Mem.conc,Env.conc,Bk.conc,Cv.conc,V.conc,Ky,Kz,J0,List.contains_nil,Nat.reduceBEq,Jq,IF,cond_true,cond_false,xf (zJ _),hv2]
  refine xH (C:=C) (Ck:=C3) (M0:=[]) (α:={m:List MpL//m.length<=d.mas.length/\m.map MpL.c=(d.mas.take m.length).map MpL.c}) l3 hP (fun m=>[(1,true,.c (.p 1 0)),(2,true,.c (.p 2 0)),(64,true,I d.mas.length),(65,true,I m.val.length)])
   (fun m=>[(1,⟨false,[.v (sv d.nm),.v (vsl s1 d.tys.length),.v (vsl s2 d.cus.length),.sl 113 0 d.mas.length 4,.v (vsl s4 d.ins.length),.sl 115 0 d.bls.length 6,.v (vsl s6 d.ous.length)],69⟩),(2,⟨false,z7,69⟩),(113,⟨false,zC ((m.val++d.mas.drop m.val.length).map MpL.r),140⟩),(115,⟨false,zC (d.bls.map BlL.r),64⟩)])
   (fun m hp=>(H.le hp/\SlH hp (vsl s1 d.tys.length) 11 (d.tys.map Td.r)/\SlH hp (vsl s4 d.ins.length) 4 (d.ins.map Po.r)/\SlH hp (vsl s6 d.ous.length) 1 (yH d.ous)/\SlH hp (vsl s2 d.cus.length) 3 (q.map CuL.r)/\∀c∈q,c.ok hp)/\∀c∈m.val,c.ok hp) (fun m=>d.mas.length-m.val.length) ⟨[],z9,z9⟩ ⟨⟨iH.trans k3,i1.mono k3,i4.mono k3,i6.mono k3,hk2,fun c hc=>(iC c hc).mono k3⟩,z9⟩ (fun _=>cM) (fun _=>zO rfl) [(1,1),(2,2),(113,113),(115,115)] zh ?_
  clear iH i1 i4 i6 iC l2 hH1
  rintro⟨m,hm,hmc⟩ C4 J l4 ⟨⟨iH,i1,i4,i6,i2,iC⟩,iM⟩ hj
  simp only at hj hm hmc iM⊢
  refine zB 190 (vv ?_)
  refine zV (fun hc3=>?_) (fun hc3=>?_)
  ·have hc3:=zH hc3
   have hmd:(m++d.mas.drop m.length)[m.length]?=some d.mas[m.length]:=by
    rw[Ju (JZ _),I2,JC hc3];rfl
   have hmem:d.mas[m.length]∈d.mas:=JH hc3
   have hdc:d.mas.drop m.length=d.mas[m.length]::d.mas.drop (m.length+1):=JC hc3
   have htc:d.mas.take (m.length+1)=d.mas.take m.length++[d.mas[m.length]]:=JR hc3
   have hmo:=o.mas _ hmem
   refine⟨⟨zA,zA⟩,?_⟩
   refine Sm.dgW [113] 190 24 zi (vv ?_)
   have hLt:∀r∈(m++d.mas.drop m.length).map MpL.r,r.length=4:=lenR MpL.r 4 _ fun _=>rfl
   have hll:(m++d.mas.drop m.length).length=d.mas.length:=by simp;omega
   have hg1:=yR (k:=4) _ hLt m.length 1 (by rw[Kv,hll];exact hc3) zA
   have hg2:=yR (k:=4) _ hLt m.length 2 (by rw[Kv,hll];exact hc3) zA
   have hg3:=yR (k:=4) _ hLt m.length 3 (by rw[Kv,hll];exact hc3) zA
   have hrow:((m++d.mas.drop m.length).map MpL.r)[m.length]'(by rw[Kv,hll];exact hc3)=MpL.r d.mas[m.length]:=by
    rw[If]
    congr 1
    have:=hmd
    rw[JA zA]at this
    exact Ik this
   rw[hrow]at hg1 hg2 hg3
   have hmb:=hB.maO _ hmem
   generalize d.mas[m.length]=mp at*
   have hg1:(zC ((m++d.mas.drop m.length).map MpL.r))[m.length*4+1]?=some (.v (vsl mp.x mp.xs.length)):=hg1
   have hg2:(zC ((m++d.mas.drop m.length).map MpL.r))[m.length*4+2]?=some (.v (vsl mp.y mp.ys.length)):=hg2
   have hg3:(zC ((m++d.mas.drop m.length).map MpL.r))[m.length*4+3]?=some (.v (vsl mp.z mp.zs.length)):=hg3
   have hmm:mp.xs.length<=32/\mp.ys.length<=32/\mp.zs.length=mp.xs.length/\∀z∈mp.zs,z.2.length<=32:=by
    unfold xM xX at hmb
    simp only[JB,decide_eq_true_eq,Kv,JD,JL]at hmb
    obtain⟨⟨⟨_,a1⟩,_⟩,⟨⟨_,a2⟩,_⟩,a3,a4⟩:=hmb
    exact⟨a1,a2,a3,fun z hz=>by rw[(a4 z.2 ⟨z,hz,rfl⟩).1];exact a2⟩
   obtain⟨b1,b2,b3,b4⟩:=hmm
   have c1:=xq (zJ _) (qB (H:=H) _ _ hmo.x (lenR (fun n:Int=>[iv n]) 1 _ fun _=>rfl) (oneR (fun n:Int=>[iv n]) _ fun a=>by simp[Value.oneCell']) (by simp[zP];omega))
   have c2:=xq (zJ _) (qB (H:=H) _ _ hmo.y (lenR (fun n:Int=>[iv n]) 1 _ fun _=>rfl) (oneR (fun n:Int=>[iv n]) _ fun a=>by simp[Value.oneCell']) (by simp[zP];omega))
   have c3:=xq (zJ _) (Rp (H:=H) _ (mp.zs.map zR) hmo.z (lenR zR 1 _ fun _=>rfl) (oneR zR _ fun a=>by simp[zR,Value.oneCell']) (by simp;omega))
   have e1:(zP mp.xs).length=mp.xs.length:=by simp[zP]
   have e2:(zP mp.ys).length=mp.ys.length:=by simp[zP]
   simp only[e1]at c1
   simp only[e2]at c2
   simp only[Kv]at c3
   refine DOpQ.look (nx':=190) (sc:=True) (v:= .c (.v (vsl mp.x mp.xs.length))) [(113,⟨false,zC ((m++d.mas.drop m.length).map MpL.r),140⟩)] 190 ?_ trivial ⟨rfl,trivial⟩ rfl ?_
   ·simp only[go_sem,hg1]
   refine vv ?_
   refine DCallQ.n1 200 (c1 121) iH rfl rfl rfl rfl (vv ?_)
   refine DOpQ.look (nx':=190) (sc:=True) (v:= .c (.v (vsl mp.y mp.ys.length))) [(113,⟨false,zC ((m++d.mas.drop m.length).map MpL.r),140⟩)] 190 ?_ trivial ⟨rfl,trivial⟩ rfl ?_
   ·simp only[go_sem,hg2]
   refine vv ?_
   refine DCallQ.n1 200 (c2 122) iH rfl rfl rfl rfl (vv ?_)
   refine DOpQ.look (nx':=190) (sc:=True) (v:= .c (.v (vsl mp.z mp.zs.length))) [(113,⟨false,zC ((m++d.mas.drop m.length).map MpL.r),140⟩)] 190 ?_ trivial ⟨rfl,trivial⟩ rfl ?_
   ·simp only[go_sem,hg3]
   refine vv ?_
   refine DCallQ.n1 200 (c3 123) iH rfl rfl rfl rfl ?_
   have hz:=yQ (k:=4) _ hLt
   rw[Kv,hll]at hz
   generalize hR4:zC ((m++d.mas.drop m.length).map MpL.r)=R4 at*
   have hR4v:R4.all Cv.isV=true:=by rw[<-hR4];exact zJ _
   have hgs:(((R4.set (m.length*4+1) (Cv.sl 121 0 mp.xs.length 1)).set (m.length*4+1+1) (Cv.sl 122 0 mp.ys.length 1)).set (m.length*4+1+2) (Cv.sl 123 0 mp.zs.length 1))[m.length*4+1+2]?=some (Cv.sl 123 0 mp.zs.length 1):=
    Iw (by rw[J8,J8,hz];omega)
   simp only[go_sem,J8,hz,hgs]
   refine⟨zA,zA,zA,?_⟩
   have kA:(R4.set (m.length*4+1) (Cv.sl 121 0 mp.xs.length 1)).all (Cv.cok [121,122])=true:=wH (yF hR4v) rfl
   have kB:((R4.set (m.length*4+1) (Cv.sl 121 0 mp.xs.length 1)).set (m.length*4+1+1) (Cv.sl 122 0 mp.ys.length 1)).all (Cv.cok [121,122])=true:=wH kA rfl
   have kC:(((R4.set (m.length*4+1) (Cv.sl 121 0 mp.xs.length 1)).set (m.length*4+1+1) (Cv.sl 122 0 mp.ys.length 1)).set (m.length*4+1+2) (Cv.sl 123 0 mp.zs.length 1)).all (Cv.cok [121,122])=true:=wH kB rfl
   refine Sm.letgo (M0:=[]) [121,122] l4 hP rfl (by unfold yC;simp only[Kw,kA,kB,kC,yF hR4v,yF (zJ _)];rfl) (fun β C5 l5 k5 kn=>?_)
   obtain⟨sx,hvx,hkx⟩:=(kn 121 _ rfl rfl rfl).vslx (sz:=1) (rows:=zP mp.xs) (lenR (fun n:Int=>[iv n]) 1 _ fun _=>rfl) rfl
   obtain⟨sy,hvy,hky⟩:=(kn 122 _ rfl rfl rfl).vslx (sz:=1) (rows:=zP mp.ys) (lenR (fun n:Int=>[iv n]) 1 _ fun _=>rfl) rfl
   rw[e1]at hvx hkx
   rw[e2]at hvy hky
   simp only[Mem.conc,Env.conc,Bk.conc,Cv.conc,V.conc,Ky,Kz,J0,List.contains_nil,Nat.reduceBEq,Jq,IF,cond_true,cond_false,Jy,xf hR4v,xf (zJ _),hvx,hvy]
   have hR5v:((R4.set (m.length*4+1) (.v (vsl sx mp.xs.length))).set (m.length*4+1+1) (.v (vsl sy mp.ys.length))).all Cv.isV=true:=VB (VB hR4v)
   generalize hR5:(R4.set (m.length*4+1) (.v (vsl sx mp.xs.length))).set (m.length*4+1+1) (.v (vsl sy mp.ys.length))=R5 at*
   have hl5:R5.length=d.mas.length*4:=by rw[<-hR5,J8,J8,hz]
   refine xH (C:=C) (Ck:=C5) (M0:=[]) (α:={z:List (Sv×List Int)//z.length<=mp.zs.length/\z.map (·.2)=(mp.zs.take z.length).map (·.2)}) l5 hP (fun z=>[(1,true,.c (.p 1 0)),(2,true,.c (.p 2 0)),(6,true,.c (.p 113 (m.length*4+1))),(64,true,I d.mas.length),(65,true,I m.length),(101,true,I mp.zs.length),(102,true,I z.val.length)])
    (fun z=>[(1,⟨false,[.v (sv d.nm),.v (vsl s1 d.tys.length),.v (vsl s2 d.cus.length),.sl 113 0 d.mas.length 4,.v (vsl s4 d.ins.length),.sl 115 0 d.bls.length 6,.v (vsl s6 d.ous.length)],69⟩),(2,⟨false,z7,69⟩),(113,⟨false,R5.set (m.length*4+1+2) (.sl 123 0 mp.zs.length 1),140⟩),(115,⟨false,zC (d.bls.map BlL.r),64⟩),(123,⟨false,zC ((z.val++mp.zs.drop z.val.length).map zR),26⟩)])
    (fun z hp=>((H.le hp/\SlH hp (vsl s1 d.tys.length) 11 (d.tys.map Td.r)/\SlH hp (vsl s4 d.ins.length) 4 (d.ins.map Po.r)/\SlH hp (vsl s6 d.ous.length) 1 (yH d.ous)/\SlH hp (vsl s2 d.cus.length) 3 (q.map CuL.r)/\∀c∈q,c.ok hp)/\∀c∈m,c.ok hp)/\SlH hp (vsl sx mp.xs.length) 1 (zP mp.xs)/\SlH hp (vsl sy mp.ys.length) 1 (zP mp.ys)/\∀v∈z.val,SlH hp (vsl v.1 v.2.length) 1 (zP v.2)) (fun z=>mp.zs.length-z.val.length) ⟨[],z9,z9⟩
    ⟨⟨⟨iH.trans k5,i1.mono k5,i4.mono k5,i6.mono k5,i2.mono k5,fun c hc=>(iC c hc).mono k5⟩,fun c hc=>(iM c hc).mono k5⟩,hkx,hky,z9⟩ (fun z=>zD (JD.2 fun p hp=>by
     simp only[J3,IS,or_false]at hp
     rcases hp with rfl|rfl|rfl|rfl|rfl
     ·rfl
     ·rfl
     ·exact aW (z6 hR5v) rfl
     ·exact iR
     ·exact iR)) (fun _=>zO rfl) [(1,1),(2,2),(113,113),(115,115),(123,123)]
    ⟨rfl,trivial,⟨rfl,rfl,rfl,rfl,rfl,rfl,rfl,trivial⟩,⟨oR,oR,.inr ⟨_,rfl,.inl (iG hR5v rfl)⟩,oX,oX,trivial⟩⟩ ?_
   rintro⟨z,hzl,hzc⟩ C6 J6 l6 ⟨⟨⟨jH,j1,j4,j6,j2,jC⟩,jM⟩,jx,jy,jz⟩ hj6
   simp only at hj6 hzl hzc jz⊢
   refine zB 210 ?_
   simp only[go_sem,wS (show m.length<=1000000000000000000 by omega)]
   refine zV (fun hc4=>?_) (fun hc4=>?_)
   ·have hc4:=zH hc4
    have hzd:(z++mp.zs.drop z.length)[z.length]?=some mp.zs[z.length]:=by
     rw[Ju (JZ _),I2,JC hc4];rfl
    have hzmem:mp.zs[z.length]∈mp.zs:=JH hc4
    have hzdc:mp.zs.drop z.length=mp.zs[z.length]::mp.zs.drop (z.length+1):=JC hc4
    have hztc:mp.zs.take (z.length+1)=mp.zs.take z.length++[mp.zs[z.length]]:=JR hc4
    have hzo:=hmo.e _ hzmem
    have hz32:=b4 _ hzmem
    have hLz:∀r∈(z++mp.zs.drop z.length).map zR,r.length=1:=lenR zR 1 _ fun _=>rfl
    have hlz:(z++mp.zs.drop z.length).length=mp.zs.length:=by simp;omega
    have hgz:=yR (k:=1) _ hLz z.length 0 (by rw[Kv,hlz];exact hc4) zA
    have hrowz:((z++mp.zs.drop z.length).map zR)[z.length]'(by rw[Kv,hlz];exact hc4)=zR mp.zs[z.length]:=by
     rw[If]
     congr 1
     have:=hzd
     rw[JA zA]at this
     exact Ik this
    rw[hrowz]at hgz
    generalize mp.zs[z.length]=zv at*
    have hgz:(zC ((z++mp.zs.drop z.length).map zR))[z.length]?=some (.v (vsl zv.1 zv.2.length)):=by rw[Jr,Jx]at hgz;exact hgz
    have hlzr:=yQ (k:=1) _ hLz
    rw[Kv,hlz,Jr]at hlzr
    have hgY:(R5.set (m.length*4+1+2) (Cv.sl 123 0 mp.zs.length 1))[m.length*4+1+2]?=some (Cv.sl 123 0 mp.zs.length 1):=Iw (by rw[hl5];omega)
    have cz:=xq (zJ _) (qB (H:=H) _ _ hzo (lenR (fun n:Int=>[iv n]) 1 _ fun _=>rfl) (oneR (fun n:Int=>[iv n]) _ fun a=>by simp[Value.oneCell']) (by simp[zP];omega))
    have ez:(zP zv.2).length=zv.2.length:=by simp[zP]
    simp only[ez]at cz
    refine Sm.dgW [123] 220 13 zi ?_
    simp only[go_sem,hgY]
    refine⟨⟨zA,zA⟩,?_⟩
    refine DOpQ.look (nx':=220) (sc:=True) (v:= .c (.v (vsl zv.1 zv.2.length))) [(123,⟨false,zC ((z++mp.zs.drop z.length).map zR),26⟩)] 220 ?_ trivial ⟨rfl,trivial⟩ rfl ?_
    ·simp only[go_sem,hgz]
    refine vv ?_
    refine DCallQ.n1 220 (cz 124) jH rfl rfl rfl rfl ?_
    simp only[go_sem,hlzr]
    refine⟨⟨zA,zA⟩,zA,?_⟩
    have kA6:((zC ((z++mp.zs.drop z.length).map zR)).set z.length (Cv.sl 124 0 zv.2.length 1)).all (Cv.cok [124])=true:=wH (yF (zJ _)) rfl
    have kB6:(R5.set (m.length*4+1+2) (Cv.sl 123 0 mp.zs.length 1)).all (Cv.cok [124])=true:=wH (yF hR5v) rfl
    refine Sm.letgo (M0:=[]) [124] l6 hP rfl (by unfold yC;simp only[Kw,kA6,kB6,yF (zJ _)];rfl) (fun β C7 l7 k7 kn=>?_)
    obtain⟨sz,hvz,hkz⟩:=(kn 124 _ rfl rfl rfl).vslx (sz:=1) (rows:=zP zv.2) (lenR (fun n:Int=>[iv n]) 1 _ fun _=>rfl) rfl
    rw[ez]at hvz hkz
    simp only[Mem.conc,Env.conc,Bk.conc,Cv.conc,V.conc,Ky,Kz,J0,List.contains_nil,Nat.reduceBEq,Jq,IF,cond_true,cond_false,Jy,xf hR5v,xf (zJ _),hvz]
    have hset:(zC ((z++mp.zs.drop z.length).map zR)).set z.length (.v (vsl sz zv.2.length))=zC (((z++[(sz,zv.2)])++mp.zs.drop (z.length+1)).map zR):=by
     have hA:∀a∈z.map zR,a.length=1:=lenR zR 1 _ fun _=>rfl
     rw[hzdc,JN,Ky]
     have h1:=xd (k:=1) (z.map zR) ((mp.zs.drop (z.length+1)).map zR) (zR zv) hA 0 (by simp[zR]) (vsl sz zv.2.length)
     rw[Kv,Jr]at h1
     refine Eq.trans h1 ?_
     simp only[JN,Ky,Kz,I1,JF,JG]
     rfl
    rw[hset]
    refine zB 230 ?_
    simp only[go_sem,wS (show z.length<=1000000000000000000 by omega)]
    refine hj6 _ _ C7 ⟨z++[(sz,zv.2)],by simp;omega,by simp only[JN,Ky,Kz,JM,JQ,J9,J4];rw[hztc,JN,hzc];rfl⟩ [(1,1),(2,2),(113,113),(115,115),(123,123)] l7
     ⟨⟨⟨jH.trans k7,j1.mono k7,j4.mono k7,j6.mono k7,j2.mono k7,fun c hc=>(jC c hc).mono k7⟩,fun c hc=>(jM c hc).mono k7⟩,jx.mono k7,jy.mono k7,fun v hv=>?_⟩ (by simp only[JM,JQ,J9];omega) ?_
    ·rcases IP.1 hv with hv|hv
     ·exact(jz v hv).mono k7
     ·obtain rfl:=IM.1 hv
      exact hkz
    ·simp only[JM,JQ,J9,J4]
     exact⟨rfl,trivial,⟨rfl,rfl,rfl,rfl,rfl,rfl,rfl,trivial⟩,⟨oR,oR,.inr ⟨_,rfl,.inl (iG hR5v rfl)⟩,oX,oX,trivial⟩⟩
   ·have hc4:=zI hzl hc4
    have hze:z++mp.zs.drop z.length=z:=by rw[hc4,JI,JK]
    have hzc:z.map (·.2)=mp.zs.map (·.2):=by rw[hzc,hc4,JY]
    rw[hze]
    clear hj6
    have kB6:(R5.set (m.length*4+1+2) (Cv.sl 123 0 mp.zs.length 1)).all (Cv.cok [123])=true:=wH (yF hR5v) rfl
    refine Sm.letgo (M0:=[]) [123] l6 hP rfl (by unfold yC;simp only[Kw,kB6,yF (zJ _)];rfl) (fun β C7 l7 k7 kn=>?_)
    obtain⟨sz,hvz,hkz⟩:=(kn 123 _ rfl rfl rfl).vslx (sz:=1) (rows:=z.map zR) (lenR zR 1 _ fun _=>rfl) rfl
    rw[Kv,hc4]at hvz hkz
    simp only[Mem.conc,Env.conc,Bk.conc,Cv.conc,V.conc,Ky,Kz,J0,List.contains_nil,Nat.reduceBEq,Jq,IF,cond_true,cond_false,Jy,xf hR5v,xf (zJ _),hvz]
    have hset:R5.set (m.length*4+1+2) (.v (vsl sz mp.zs.length))=zC (((m++[MpL.mk mp.nm mp.xs mp.ys z sx sy sz])++d.mas.drop (m.length+1)).map MpL.r):=by
     have hA:∀a∈m.map MpL.r,a.length=4:=lenR MpL.r 4 _ fun _=>rfl
     rw[<-hR5,<-hR4,hdc,JN,Ky]
     have h1:=xd (k:=4) (m.map MpL.r) ((d.mas.drop (m.length+1)).map MpL.r) (MpL.r mp) hA 1 (by simp[MpL.r]) (vsl sx mp.xs.length)
     have h2:=xd (k:=4) (m.map MpL.r) ((d.mas.drop (m.length+1)).map MpL.r) ((MpL.r mp).set 1 (vsl sx mp.xs.length)) hA 2 (by simp[MpL.r]) (vsl sy mp.ys.length)
     have h3:=xd (k:=4) (m.map MpL.r) ((d.mas.drop (m.length+1)).map MpL.r) (((MpL.r mp).set 1 (vsl sx mp.xs.length)).set 2 (vsl sy mp.ys.length)) hA 3 (by simp[MpL.r]) (vsl sz mp.zs.length)
     rw[Kv]at h1 h2 h3
     rw[h1]
     show List.set (List.set _ (m.length*4+2) _) (m.length*4+3) _=_
     rw[h2,h3]
     simp only[JN,Ky,Kz,I1,JF,JG]
     congr 3
     show[_,_,_,_]=[_,_,_,_]
     rw[hc4]
    rw[hset]
    have hzr:z.map zR=z.map fun v=>[vsl v.1 v.2.length]:=rfl
    refine hj _ _ C7 ⟨m++[MpL.mk mp.nm mp.xs mp.ys z sx sy sz],by simp;omega,by simp only[JN,Ky,Kz,JM,JQ,J9,J4];rw[htc,JN,hmc];simp[MpL.c,hzc]⟩ [(1,1),(2,2),(113,113),(115,115)] l7
     ⟨⟨jH.trans k7,j1.mono k7,j4.mono k7,j6.mono k7,j2.mono k7,fun c hc=>(jC c hc).mono k7⟩,fun c hc=>?_⟩ (by simp only[JM,JQ,J9];omega) ?_
    ·rcases IP.1 hc with hc|hc
     ·exact(jM c hc).mono k7
     ·obtain rfl:=IM.1 hc
      exact⟨jx.mono k7,jy.mono k7,by show SlH _ (vsl sz z.length) 1 _;rw[hc4];exact hkz,fun v hv=>(jz v hv).mono k7⟩
    ·simp only[JM,JQ,J9,J4]
     exact zh
  ·have hc3:=zI hm hc3
   have hme:m++d.mas.drop m.length=m:=by rw[hc3,JI,JK]
   have hmc:m.map MpL.c=d.mas.map MpL.c:=by rw[hmc,hc3,JY]
   rw[hme]
   clear hj
   refine Sm.letgo (M0:=[]) [113] l4 hP rfl (by unfold yC;simp only[Kw,yF (zJ _)];rfl) (fun β C5 l5 k5 kn=>?_)
   obtain⟨s3,hv3,hk3⟩:=(kn 113 _ rfl rfl rfl).vslx (sz:=4) (rows:=m.map MpL.r) (lenR MpL.r 4 _ fun _=>rfl) rfl
   rw[Kv,hc3]at hv3 hk3
   simp only[Mem.conc,Env.conc,Bk.conc,Cv.conc,V.conc,Ky,Kz,J0,List.contains_nil,Nat.reduceBEq,Jq,IF,cond_true,cond_false,xf (zJ _),hv3]
   refine xH (C:=C) (Ck:=C5) (M0:=[]) (α:={b:List BlL//b.length<=d.bls.length/\b.map BlL.c=(d.bls.take b.length).map BlL.c}) l5 hP (fun b=>[(1,true,.c (.p 1 0)),(2,true,.c (.p 2 0)),(123,true,I d.bls.length),(124,true,I b.val.length)])
    (fun b=>[(1,⟨false,[.v (sv d.nm),.v (vsl s1 d.tys.length),.v (vsl s2 d.cus.length),.v (vsl s3 d.mas.length),.v (vsl s4 d.ins.length),.sl 115 0 d.bls.length 6,.v (vsl s6 d.ous.length)],69⟩),(2,⟨false,z7,69⟩),(115,⟨false,zC ((b.val++d.bls.drop b.val.length).map BlL.r),64⟩)])
    (fun b hp=>(H.le hp/\SlH hp (vsl s1 d.tys.length) 11 (d.tys.map Td.r)/\SlH hp (vsl s4 d.ins.length) 4 (d.ins.map Po.r)/\SlH hp (vsl s6 d.ous.length) 1 (yH d.ous)/\SlH hp (vsl s2 d.cus.length) 3 (q.map CuL.r)/\(∀c∈q,c.ok hp)/\SlH hp (vsl s3 d.mas.length) 4 (m.map MpL.r)/\∀c∈m,c.ok hp)/\∀c∈b.val,c.ok hp) (fun b=>d.bls.length-b.val.length) ⟨[],z9,z9⟩
    ⟨⟨iH.trans k5,i1.mono k5,i4.mono k5,i6.mono k5,i2.mono k5,fun c hc=>(iC c hc).mono k5,hk3,fun c hc=>(iM c hc).mono k5⟩,z9⟩ (fun _=>cM) (fun _=>zO rfl) [(1,1),(2,2),(115,115)] zh ?_
   clear iH i1 i4 i6 i2 iC iM
   rintro⟨b,hb,hbc⟩ C6 J l6 ⟨⟨iH,i1,i4,i6,i2,iC,i3,iM⟩,iB⟩ hj
   simp only at hj hb hbc iB⊢
   refine zB 190 (vv ?_)
   refine zV (fun hc5=>?_) (fun hc5=>?_)
   ·have hc5:=zH hc5
    have hbd:(b++d.bls.drop b.length)[b.length]?=some d.bls[b.length]:=by
     rw[Ju (JZ _),I2,JC hc5];rfl
    have hmem:d.bls[b.length]∈d.bls:=JH hc5
    have hdc:d.bls.drop b.length=d.bls[b.length]::d.bls.drop (b.length+1):=JC hc5
    have htc:d.bls.take (b.length+1)=d.bls.take b.length++[d.bls[b.length]]:=JR hc5
    have hbo:=o.bls _ hmem
    have hLt:∀r∈(b++d.bls.drop b.length).map BlL.r,r.length=6:=lenR BlL.r 6 _ fun _=>rfl
    have hll:(b++d.bls.drop b.length).length=d.bls.length:=by simp;omega
    have hg3:=yR (k:=6) _ hLt b.length 3 (by rw[Kv,hll];exact hc5) zA
    have hg5:=yR (k:=6) _ hLt b.length 5 (by rw[Kv,hll];exact hc5) zA
    have hrow:((b++d.bls.drop b.length).map BlL.r)[b.length]'(by rw[Kv,hll];exact hc5)=BlL.r d.bls[b.length]:=by
     rw[If]
     congr 1
     have:=hbd
     rw[JA zA]at this
     exact Ik this
    rw[hrow]at hg3 hg5
    have hbb:=hB.blO _ hmem
    generalize d.bls[b.length]=bl at*
    have hg3:(zC ((b++d.bls.drop b.length).map BlL.r))[b.length*6+3]?=some (.v (vsl bl.i bl.c.ins.length)):=hg3
    have hg5:(zC ((b++d.bls.drop b.length).map BlL.r))[b.length*6+5]?=some (.v (vsl bl.k bl.c.ks.length)):=hg5
    have b1:=jc hbb
    have b2:=WS hbb
    have c1:=xq (zJ _) (YX (H:=H) _ _ hbo.i (lenR (fun s:Str=>[sv s]) 1 _ fun _=>rfl) (oneR (fun s:Str=>[sv s]) _ fun a=>by simp[Value.oneCell']) (by simp[yH];omega))
    have c2:=xq (zJ _) (qB (H:=H) _ _ hbo.k (lenR (fun n:Int=>[iv n]) 1 _ fun _=>rfl) (oneR (fun n:Int=>[iv n]) _ fun a=>by simp[Value.oneCell']) (by simp[zP];omega))
    have e1:(yH bl.c.ins).length=bl.c.ins.length:=by simp[yH]
    have e2:(zP bl.c.ks).length=bl.c.ks.length:=by simp[zP]
    simp only[e1]at c1
    simp only[e2]at c2
    refine⟨⟨zA,zA⟩,?_⟩
    refine Sm.dgW [115] 190 15 zi (vv ?_)
    refine DOpQ.look (nx':=190) (sc:=True) (v:= .c (.v (vsl bl.i bl.c.ins.length))) [(115,⟨false,zC ((b++d.bls.drop b.length).map BlL.r),64⟩)] 190 ?_ trivial ⟨rfl,trivial⟩ rfl ?_
    ·simp only[go_sem,hg3]
    refine vv ?_
    refine DCallQ.n1 200 (c1 121) iH rfl rfl rfl rfl (vv ?_)
    refine DOpQ.look (nx':=190) (sc:=True) (v:= .c (.v (vsl bl.k bl.c.ks.length))) [(115,⟨false,zC ((b++d.bls.drop b.length).map BlL.r),64⟩)] 190 ?_ trivial ⟨rfl,trivial⟩ rfl ?_
    ·simp only[go_sem,hg5]
    refine vv ?_
    refine DCallQ.n1 200 (c2 122) iH rfl rfl rfl rfl ?_
    have hz:=yQ (k:=6) _ hLt
    rw[Kv,hll]at hz
    simp only[go_sem,J8,hz]
    refine⟨zA,zA,?_⟩
    have kA:((zC ((b++d.bls.drop b.length).map BlL.r)).set (b.length*6+3) (Cv.sl 121 0 bl.c.ins.length 1)).all (Cv.cok [121,122])=true:=wH (yF (zJ _)) rfl
    have kB:(((zC ((b++d.bls.drop b.length).map BlL.r)).set (b.length*6+3) (Cv.sl 121 0 bl.c.ins.length 1)).set (b.length*6+5) (Cv.sl 122 0 bl.c.ks.length 1)).all (Cv.cok [121,122])=true:=wH kA rfl
    refine Sm.letgo (M0:=[]) [121,122] l6 hP rfl (by unfold yC;simp only[Kw,kA,kB,yF (zJ _)];rfl) (fun β C7 l7 k7 kn=>?_)
    obtain⟨sx,hvx,hkx⟩:=(kn 121 _ rfl rfl rfl).vslx (sz:=1) (rows:=yH bl.c.ins) (lenR (fun s:Str=>[sv s]) 1 _ fun _=>rfl) rfl
    obtain⟨sy,hvy,hky⟩:=(kn 122 _ rfl rfl rfl).vslx (sz:=1) (rows:=zP bl.c.ks) (lenR (fun n:Int=>[iv n]) 1 _ fun _=>rfl) rfl
    rw[e1]at hvx hkx
    rw[e2]at hvy hky
    simp only[Mem.conc,Env.conc,Bk.conc,Cv.conc,V.conc,Ky,Kz,J0,List.contains_nil,Nat.reduceBEq,Jq,IF,cond_true,cond_false,Jy,xf (zJ _),hvx,hvy]
    have hset:((zC ((b++d.bls.drop b.length).map BlL.r)).set (b.length*6+3) (.v (vsl sx bl.c.ins.length))).set (b.length*6+5) (.v (vsl sy bl.c.ks.length))=zC (((b++[BlL.mk bl.c sx sy])++d.bls.drop (b.length+1)).map BlL.r):=by
     have hA:∀a∈b.map BlL.r,a.length=6:=lenR BlL.r 6 _ fun _=>rfl
     rw[hdc,JN,Ky]
     have h1:=xd (k:=6) (b.map BlL.r) ((d.bls.drop (b.length+1)).map BlL.r) (BlL.r bl) hA 3 (by simp[BlL.r]) (vsl sx bl.c.ins.length)
     have h2:=xd (k:=6) (b.map BlL.r) ((d.bls.drop (b.length+1)).map BlL.r) ((BlL.r bl).set 3 (vsl sx bl.c.ins.length)) hA 5 (by simp[BlL.r]) (vsl sy bl.c.ks.length)
     rw[Kv]at h1 h2
     rw[h1,h2]
     simp only[JN,Ky,Kz,I1,JF,JG]
     rfl
    rw[hset]
    refine zB 210 ?_
    simp only[go_sem,wS (show b.length<=1000000000000000000 by omega)]
    refine hj _ _ C7 ⟨b++[BlL.mk bl.c sx sy],by simp;omega,by simp only[JN,Ky,Kz,JM,JQ,J9,J4];rw[htc,JN,hbc];rfl⟩ [(1,1),(2,2),(115,115)] l7
     ⟨⟨iH.trans k7,i1.mono k7,i4.mono k7,i6.mono k7,i2.mono k7,fun c hc=>(iC c hc).mono k7,i3.mono k7,fun c hc=>(iM c hc).mono k7⟩,fun c hc=>?_⟩ (by simp only[JM,JQ,J9];omega) ?_
    ·rcases IP.1 hc with hc|hc
     ·exact(iB c hc).mono k7
     ·obtain rfl:=IM.1 hc
      exact⟨hkx,hky⟩
    ·simp only[JM,JQ,J9,J4]
     exact zh
   ·have hc5:=zI hb hc5
    have hbe:b++d.bls.drop b.length=b:=by rw[hc5,JI,JK]
    have hbc:b.map BlL.c=d.bls.map BlL.c:=by rw[hbc,hc5,JY]
    rw[hbe]
    clear hj
    refine RetQ.letgo (M0:=[]) [115] l6 hP rfl (by unfold yC;simp only[Kw,yF (zJ _)];rfl) (fun β C7 l7 k7 kn=>?_)
    obtain⟨s5,hv5,hk5⟩:=(kn 115 _ rfl rfl rfl).vslx (sz:=6) (rows:=b.map BlL.r) (lenR BlL.r 6 _ fun _=>rfl) rfl
    rw[Kv,hc5]at hv5 hk5
    simp only[Mem.conc,Env.conc,Bk.conc,Cv.conc,V.conc,Ky,Kz,J0,List.contains_nil,Nat.reduceBEq,Jq,IF,cond_true,cond_false,xf (zJ _),hv5]
    have hR':=hR (DgL.mk d.nm d.tys q m d.ins b d.ous s1 s2 s3 s4 s5 s6) C7 l7 ⟨by unfold DgL.c;rw[hqc,hmc,hbc],⟨i1.mono k7,by show SlH _ (vsl s2 q.length) 3 _;rw[hc];exact i2.mono k7,by show SlH _ (vsl s3 m.length) 4 _;rw[hc3];exact i3.mono k7,i4.mono k7,by show SlH _ (vsl s5 b.length) 6 _;rw[hc5];exact hk5,i6.mono k7,fun c hc=>(iC c hc).mono k7,fun c hc=>(iM c hc).mono k7,fun c hc=>(iB c hc).mono k7⟩⟩
    have hvr:z3 (DgL.mk d.nm d.tys q m d.ins b d.ous s1 s2 s3 s4 s5 s6).r= .agg [.v (sv d.nm),.v (vsl s1 d.tys.length),.v (vsl s2 d.cus.length),.v (vsl s3 d.mas.length),.v (vsl s4 d.ins.length),.v (vsl s5 d.bls.length),.v (vsl s6 d.ous.length)]:=by
     simp only[z3,DgL.r,hc,hc3,hc5];rfl
    rw[hvr]at hR'
    exact zN hR' rfl (vv trivial) rfl (Sub.nil _) ClM.nil (zG rfl)
end Go.Proofs.YtbnkiacicnnmkaaGreat.Fx
