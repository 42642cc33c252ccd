/-  -/
import Derived.Test.YtbnkiacicnnmkaaGreatXI4
open Go.Proofs.Tryz
open Go.Proofs.Tryz renaming prog→KI
set_option linter.unusedSimpArgs false
set_option linter.unusedVariables false
set_option maxRecDepth 100000
set_option maxHeartbeats 4000000
namespace Go.Proofs.YtbnkiacicnnmkaaGreat.Fx
open Vg Tf
theorem aP (a b:Ft)(h:wI a.m a.kg a.s a.a a.k=true)(hu:wI b.m b.kg b.s b.a b.k=true):CallOk KI 92 [I 3,sL a,sL b] [] (bif qf 1 a b then .tup [.agg [ci (a.m+1*b.m),ci (a.kg+1*b.kg),ci (a.s+1*b.s),ci (a.a+1*b.a),ci (a.k+1*b.k)],.c (.v (.bool true))]else .tup [.agg [ci 0,ci 0,ci 0,ci 0,ci 0],.c (.v (.bool false))]) []:=by
 have hc:=qr a b 1 (.inl rfl) h hu
 refine kO 100 func92 Zg ntmps92 (by simp[ClV,V.g,Cv.g,sL,ci]) fun C hR=>?_
 refine vv ?_
 refine CallQ.pure 106 hc rfl ?_
 cases h5:qf 1 a b<;>rw[h5]at hR<;>simp only[cond_true,cond_false]at hR⊢
 ·simp only[go_sem]
  exact RetQ.pure hR rfl (vv trivial) wq (zH rfl)
 ·simp only[go_sem]
  exact RetQ.pure hR rfl (vv trivial) wq (zH rfl)
theorem aO (a b:Ft)(h:wI a.m a.kg a.s a.a a.k=true)(hu:wI b.m b.kg b.s b.a b.k=true):CallOk KI 92 [I 4,sL a,sL b] [] (bif qf (-1) a b then .tup [.agg [ci (a.m+ -1*b.m),ci (a.kg+ -1*b.kg),ci (a.s+ -1*b.s),ci (a.a+ -1*b.a),ci (a.k+ -1*b.k)],.c (.v (.bool true))]else .tup [.agg [ci 0,ci 0,ci 0,ci 0,ci 0],.c (.v (.bool false))]) []:=by
 have hc:=qr a b (-1) (.inr rfl) h hu
 refine kO 100 func92 Zg ntmps92 (by simp[ClV,V.g,Cv.g,sL,ci]) fun C hR=>?_
 refine vv ?_
 refine CallQ.pure 106 hc rfl ?_
 cases h5:qf (-1) a b<;>rw[h5]at hR<;>simp only[cond_true,cond_false]at hR⊢
 ·simp only[go_sem]
  exact RetQ.pure hR rfl (vv trivial) wq (zH rfl)
 ·simp only[go_sem]
  exact RetQ.pure hR rfl (vv trivial) wq (zH rfl)
theorem ip (op:Int)(a b:Ft)(h3:op≠3)(h4:op≠4):CallOk KI 92 [I op,sL a,sL b] [] (.tup [.agg [ci a.m,ci a.kg,ci a.s,ci a.a,ci a.k],.c (.v (.bool (uS a b)))]) []:=by
 refine kO 100 func92 Zg ntmps92 (by simp[ClV,V.g,Cv.g,sL,ci]) fun C hR=>?_
 refine vv ?_
 have e3:(op==3)=false:=by simpa using h3
 have e4:(op==4)=false:=by simpa using h4
 simp only[e3,e4]
 refine Sm.dgW [102] 110 5 zw (vv ?_)
 exact RetQ.pure hR rfl (vv trivial) wq (zH rfl)
def uA (s:Int)(a b:Ft):Ft:=⟨0,false,0,0,0,a.m+s*b.m,a.kg+s*b.kg,a.s+s*b.s,a.a+s*b.a,a.k+s*b.k⟩
def jf (op:Int)(a b c:Ft):Bool:=
 bif op==7 then(bif qf 1 a b then uS (uA 1 a b) c else false)else bif op==8 then(bif qf (-1) a b then uS (uA (-1) a b) c else false)else
 bif op==9 then uS a c else bif op==10 then uS a c else bif op==13 then uS a b else bif op==14 then uS a b else(bif uS a b then uS a c else false)
theorem pW (op:Int)(h:tI op=true):op=5\/op=6\/op=7\/op=8\/op=9\/op=10\/op=13\/op=14:=by
 unfold tI at h
 simp only[MK,decide_eq_true_eq,beq_iff_eq]at h
 grind
theorem dM (i:Ins)(a b c:Ft)(h:tI i.op=true)(ha:wI a.m a.kg a.s a.a a.k=true)(hb:wI b.m b.kg b.s b.a b.k=true):CallOk KI 163 [ze i.w,fx a,fx b,fx c] [] (Bo (jf i.op a b c)) []:=by
 have hm:=bP a b ha hb
 have hd:=YV a b ha hb
 have ht:=pW i.op h
 clear h
 obtain⟨op,ia,ib,ic,ik⟩:=i
 rw[xl]
 unfold fx
 unfold sL at hm hd
 simp only at*
 refine kN 100 func163 V7 ntmps163 fun C hR hP=>?_
 rcases ht with rfl|rfl|rfl|rfl|rfl|rfl|rfl|rfl
 ·simp only[go_sem]
  exact zu hR rfl
 ·simp only[go_sem]
  exact zu hR rfl
 ·simp only[go_sem]
  refine CallQ.pure 110 hm rfl ?_
  cases h5:qf 1 a b<;>rw[h5]at hm<;>simp only[cond_true,cond_false]at hm⊢
  ·simp only[go_sem]
   refine zu hR ?_
   unfold jf;rw[h5];rfl
  ·simp only[go_sem]
   refine zu hR ?_
   unfold jf;rw[h5];rfl
 ·simp only[go_sem]
  refine CallQ.pure 110 hd rfl ?_
  cases h5:qf (-1) a b<;>rw[h5]at hd<;>simp only[cond_true,cond_false]at hd⊢
  ·simp only[go_sem]
   refine zu hR ?_
   unfold jf;rw[h5];rfl
  ·simp only[go_sem]
   refine zu hR ?_
   unfold jf;rw[h5];rfl
 all_goals simp only[go_sem]
 all_goals refine zu hR ?_
 all_goals rfl
theorem ej (op:Int)(a b:Ft)(h:op=7\/op=8\/op=5\/op=6)(ha:wI a.m a.kg a.s a.a a.k=true)(hb:wI b.m b.kg b.s b.a b.k=true)(c:Ft):
  ∃u:Ft,∃z:Bool,(bif z then uS u c else false)=jf op a b c/\CallOk KI 92 [I (op-4),sL a,sL b] [] (.tup [.agg [ci u.m,ci u.kg,ci u.s,ci u.a,ci u.k],.c (.v (.bool z))]) []:=by
 have h3:=aP a b ha hb
 have h4:=aO a b ha hb
 rcases h with rfl|rfl|rfl|rfl
 ·cases h5:qf 1 a b<;>rw[h5]at h3<;>simp only[cond_true,cond_false]at h3
  ·exact⟨⟨0,false,0,0,0,0,0,0,0,0⟩,false,by unfold jf;rw[h5];rfl,h3⟩
  ·exact⟨uA 1 a b,true,by unfold jf;rw[h5];rfl,h3⟩
 ·cases h5:qf (-1) a b<;>rw[h5]at h4<;>simp only[cond_true,cond_false]at h4
  ·exact⟨⟨0,false,0,0,0,0,0,0,0,0⟩,false,by unfold jf;rw[h5];rfl,h4⟩
  ·exact⟨uA (-1) a b,true,by unfold jf;rw[h5];rfl,h4⟩
 ·exact⟨a,uS a b,by unfold jf;rfl,ip 1 a b xW xW⟩
 ·exact⟨a,uS a b,by unfold jf;rfl,ip 2 a b xW xW⟩
structure Pg where
 code:List Ins
 tys:List Ft
 cus:List CuL
 mas:List MpL
 sz:Int
 f5:List Int
 f6:List Int
 f7:List Int
 f8:List Int
 c:Sv
 t:Sv
 u:Sv
 m:Sv
 s5:Sv
 s6:Sv
 s7:Sv
 s8:Sv
def o3 (c:CuL):List Value:=[vsl c.x c.c.xs.length,vsl c.y c.c.ys.length]
def oT (m:MpL):List Value:=[vsl m.x m.xs.length,vsl m.y m.ys.length,vsl m.z m.zs.length]
def Pg.r (p:Pg):List Value:=[vsl p.c p.code.length,vsl p.t p.tys.length,vsl p.u p.cus.length,vsl p.m p.mas.length,iv p.sz,vsl p.s5 p.f5.length,vsl p.s6 p.f6.length,vsl p.s7 p.f7.length,vsl p.s8 p.f8.length]
theorem wa (p:Pg):ze p.r= .agg [.v (vsl p.c p.code.length),.v (vsl p.t p.tys.length),.v (vsl p.u p.cus.length),.v (vsl p.m p.mas.length),.v (iv p.sz),.v (vsl p.s5 p.f5.length),.v (vsl p.s6 p.f6.length),.v (vsl p.s7 p.f7.length),.v (vsl p.s8 p.f8.length)]:=rfl
structure Pg.ok (H:Hp) (p:Pg):Prop where
 c:SlH H (vsl p.c p.code.length) 5 (p.code.map Ins.w)
 t:SlH H (vsl p.t p.tys.length) 10 (p.tys.map xD)
 u:SlH H (vsl p.u p.cus.length) 2 (p.cus.map o3)
 m:SlH H (vsl p.m p.mas.length) 3 (p.mas.map oT)
 cu:∀c∈p.cus,c.ok H
 ma:∀m∈p.mas,m.ok H
 i5:SlH H (vsl p.s5 p.f5.length) 1 (zT p.f5)
 i6:SlH H (vsl p.s6 p.f6.length) 1 (zT p.f6)
 i7:SlH H (vsl p.s7 p.f7.length) 1 (zT p.f7)
 i8:SlH H (vsl p.s8 p.f8.length) 1 (zT p.f8)
theorem Pg.ok.mono {H H':Hp}(h:H.le H'){p:Pg}(k:p.ok H):p.ok H':=
 ⟨k.c.mono h,k.t.mono h,k.u.mono h,k.m.mono h,fun c hc=>(k.cu c hc).mono h,fun m hm=>(k.ma m hm).mono h,k.i5.mono h,k.i6.mono h,k.i7.mono h,k.i8.mono h⟩
def lR (sz n:Int):Bool:=bif decide (n<0)then false else !decide (sz<=n)
def tA (sz:Int)(l:List Int):Bool:=bif decide (1000<l.length)then false else l.all (lR sz)
theorem lS {H:Hp}(p:Pg)(l:List Int)(s:Sv)(hs:SlH H (vsl s l.length) 1 (zT l)):CallH H KI 39 [ze p.r,.c (.v (vsl s l.length))] (Bo (tA p.sz l)):=by
 rw[wa]
 obtain⟨R,hRd⟩:∃R,R=tA p.sz l:=⟨_,rfl⟩
 rw[<-hRd]
 unfold tA at hRd
 refine kH func39 Rf ntmps39 fun C hR hP hH hL=>?_
 have hR:=hR C hL
 refine zB 100 (vv ?_)
 refine zY (fun hc=>?_) (fun hc=>?_)
 ·have e:decide (1000<l.length)=true:=by have:=of_decide_eq_true hc;exact yQ zA
  rw[e,cond_true]at hRd
  exact zu hR hRd.symm
 have hl:l.length<=1000:=by have:=of_decide_eq_false hc;omega
 have e:decide (1000<l.length)=false:=yZ zA
 rw[e,cond_false]at hRd
 refine vv ?_
 refine Sm.bringI (l:=l) 10 3 1 (hs.mono hH) rfl rfl ?_
 refine zL (α:={i:Nat//i<=l.length/\R=(l.drop i).all (lR p.sz)}) hP (fun i=>[(1,true,.c (.sl 10 0 l.length 1)),(2,true,.c (.p 100 0)),(5,true,I i.val)])
  (fun _=>[(10,⟨true,l.map iC,3⟩),(100,⟨false,[.v (vsl p.c p.code.length),.v (vsl p.t p.tys.length),.v (vsl p.u p.cus.length),.v (vsl p.m p.mas.length),.v (iv p.sz),.v (vsl p.s5 p.f5.length),.v (vsl p.s6 p.f6.length),.v (vsl p.s7 p.f7.length),.v (vsl p.s8 p.f8.length)],28⟩)]) (fun i=>l.length-i.val) ⟨0,zA,by rw[M5];exact hRd⟩ (fun _=>zD (by simp only[Nj,zZ (yD _)];rfl)) (fun _=>zP rfl) [(10,10),(100,100)] ?_ ?_
 ·exact zk
 rintro⟨i,hi,hd⟩ J hj
 simp only at hj hi hd⊢
 refine zB 200 (vv ?_)
 refine zY (fun hc=>?_) (fun hc=>?_)
 ·have hc:=zI hc
  rw[Np hc,Nj]at hd
  have hov:(l.map iC)[i]?=some (iC l[i]):=by simp[hc]
  have hwi:IntKind.i64.wrap ((i:Int)+1)=((i+1:Nat):Int):=wS zA
  have hll:(l.map iC).length=l.length:=Ni _
  generalize l[i]=z at*
  refine Sm.dg 210 12 zw ?_
  simp only[go_sem,hov,hll,Mi,Int.toNat_natCast]
  refine⟨⟨zA,zA⟩,fun h=>⟨h,h,zA,zA⟩,?_⟩
  have hcl:(bif decide (z<0)then true else decide (p.sz<=z))= !lR p.sz z:=by unfold lR;cases decide (z<0)<;>simp
  rw[hcl]
  cases hz:lR p.sz z with
  |false=>
   rw[hz,Mw]at hd
   exact zu hR hd.symm
  |true=>
   rw[hz,MY]at hd
   simp only[LD]
   refine zB 220 ?_
   simp only[go_sem,hwi]
   exact hj _ _ ⟨i+1,hc,hd⟩ [(10,10),(100,100)] yK zk
 ·have hc:=zJ hi hc
  subst hc
  rw[Ny]at hd
  refine vv ?_
  exact zu hR hd.symm
def mN (op:Int):Bool:=bif op==9 then true else op==10
def iw (op:Int):Bool:=bif op==13 then true else op==14
def c8 (p:Pg)(i:Ins):Bool:=
 bif decide ((p.tys.length:Int)<=i.k/16384)then false else bif !mN i.op&&decide ((p.tys.length:Int)<=i.k/128%128)then false else !(!iw i.op&&decide ((p.tys.length:Int)<=i.k%128))
def vl:Ft:=⟨0,false,0,0,0,0,0,0,0,0⟩
def xx (p:Pg)(j:Int):Ft:=p.tys.getD j.toNat vl
def Tl (p:Pg)(i:Ins):V:=bif c8 p i then .tup [.agg (xR (xx p (i.k/16384))),.agg (xR (bif mN i.op then vl else xx p (i.k/128%128))),.agg (xR (bif iw i.op then vl else xx p (i.k%128))),.c (.v (.bool true))]
 else .tup [.agg (xR vl),.agg (xR vl),.agg (xR vl),.c (.v (.bool false))]
theorem aT {H:Hp}(p:Pg)(hp:p.ok H)(i:Ins)(h0:0<=i.k)(h1:i.k<2097152)(hn:p.tys.length<=1000):CallH H KI 162 [ze p.r,ze i.w] (Tl p i):=by
 rw[wa,xl]
 refine kH func162 V8 ntmps162 fun C hR hP hH hL=>?_
 have hR:=hR C hL
 refine zB 100 (vv ?_)
 refine CallQ.pure 110 (iz i.k) rfl (vv ?_)
 have e2:(bif i.op==9 then true else i.op==10)=mN i.op:=rfl
 have e3:(bif i.op==13 then true else i.op==14)=iw i.op:=rfl
 simp only[e2,e3]
 have hz:(bif bif decide ((p.tys.length:Int)<=i.k/16384)then true else bif !mN i.op then decide ((p.tys.length:Int)<=i.k/128%128)else false then true else bif !iw i.op then decide ((p.tys.length:Int)<=i.k%128)else false)= !c8 p i:=by
  unfold c8
  cases decide ((p.tys.length:Int)<=i.k/16384)<;>cases mN i.op<;>cases iw i.op<;>cases decide ((p.tys.length:Int)<=i.k/128%128)<;>cases decide ((p.tys.length:Int)<=i.k%128)<;>rfl
 have sc:∀A B:Bool,(A=false->A=false/\(B=false->(!A&& !B)=true)):=fun A B h=>⟨h,fun h2=>by rw[h,h2];rfl⟩
 refine⟨sc _ _,sc _ _,?_⟩
 rw[hz]
 unfold Tl at hR
 by_cases hq:¬c8 p i=true
 ·have hq:=Mu.2 hq
  rw[hq,cond_false]at hR
  rw[hq]
  refine Sm.dgW [102,103,104] 120 5 zw (vv ?_)
  refine DOpQ.look (nx':=120) (sc:=True) (v:= .agg (xR vl)) [(102,⟨false,xR vl,55⟩)] 120 ?_ trivial ⟨rfl,trivial⟩ rfl ?_
  ·simp only[go_sem]
  refine vv ?_
  refine DOpQ.look (nx':=120) (sc:=True) (v:= .agg (xR vl)) [(103,⟨false,xR vl,55⟩)] 120 ?_ trivial ⟨rfl,trivial⟩ rfl ?_
  ·simp only[go_sem]
  refine vv ?_
  refine DOpQ.look (nx':=120) (sc:=True) (v:= .agg (xR vl)) [(104,⟨false,xR vl,55⟩)] 120 ?_ trivial ⟨rfl,trivial⟩ rfl ?_
  ·simp only[go_sem]
  refine vv ?_
  exact yM hR ClM.nil
 have hq:=M6.1 hq
 rw[hq,cond_true]at hR
 rw[hq]
 have hf:i.k/16384<p.tys.length/\(mN i.op=false->i.k/128%128<p.tys.length)/\(iw i.op=false->i.k%128<p.tys.length):=by
  unfold c8 at hq
  cases h2:mN i.op<;>cases h3:iw i.op<;>rw[h2,h3]at hq<;>simp only[MK,decide_eq_true_eq,LD,L8,Mw,MY]at hq<;>grind
 obtain⟨f1,f2,f3⟩:=hf
 have hlen:(p.tys.map xD).length=p.tys.length:=Ni _
 have hsz:=zS (r:=xD) (k:=10) (fun _=>rfl) p.tys
 have ht:=(hp.mono hH).t
 have key:∀j:Int,0<=j->j<p.tys.length->((zC (p.tys.map xD)).drop (j.toNat*10)).take 10=(xD (xx p j)).map Cv.v:=fun j h0 h1=>by
  have hj:j.toNat<p.tys.length:=zA
  rw[zX (r:=xD) (k:=10) (fun _=>rfl) p.tys j.toNat hj]
  unfold xx
  rw[Nl,No hj];rfl
 have k1:=key (i.k/16384) zA f1
 generalize hA:xx p (i.k/16384)=ta at*
 simp only[LD]
 refine zB 130 (vv ?_)
 refine Sm.bringR 12 55 65 ht rfl rfl ?_
 simp only[hlen]
 refine zB 140 ?_
 simp only[go_sem,k1,hsz,xD,Nk,Nm]
 refine⟨⟨zA,zA⟩,zA,?_⟩
 cases h2:mN i.op with
 |true=>
  rw[h2,cond_true]at hR
  simp only[LD]
  cases h3:iw i.op with
  |true=>
   rw[h3,cond_true]at hR
   simp only[LD]
   refine zB 170 (vv ?_)
   refine Sm.dgW [102,103,104] 180 5 zw (vv ?_)
   refine DOpQ.look (nx':=180) (sc:=True) (v:= .agg (xR ta)) [(102,⟨false,xR ta,55⟩)] 180 ?_ trivial ⟨rfl,trivial⟩ rfl ?_
   ·simp only[go_sem]
   refine vv ?_
   refine DOpQ.look (nx':=180) (sc:=True) (v:= .agg (xR vl)) [(103,⟨false,xR vl,55⟩)] 180 ?_ trivial ⟨rfl,trivial⟩ rfl ?_
   ·simp only[go_sem]
   refine vv ?_
   refine DOpQ.look (nx':=180) (sc:=True) (v:= .agg (xR vl)) [(104,⟨false,xR vl,55⟩)] 180 ?_ trivial ⟨rfl,trivial⟩ rfl ?_
   ·simp only[go_sem]
   refine vv ?_
   exact yM hR ClM.nil
  |false=>
   rw[h3,cond_false]at hR
   have g3:=f3 h3
   have k3:=key (i.k%128) zA g3
   generalize hC:xx p (i.k%128)=tc at*
   simp only[L8]
   refine zB 170 (vv ?_)
   refine Sm.bringR 14 55 79 ht rfl rfl ?_
   simp only[hlen]
   refine zB 175 ?_
   simp only[go_sem,k3,hsz,xD,Nk,Nm]
   refine⟨⟨zA,zA⟩,zA,?_⟩
   refine Sm.dgW [102,103,104] 180 5 zw (vv ?_)
   refine DOpQ.look (nx':=180) (sc:=True) (v:= .agg (xR ta)) [(102,⟨false,xR ta,55⟩)] 180 ?_ trivial ⟨rfl,trivial⟩ rfl ?_
   ·simp only[go_sem]
   refine vv ?_
   refine DOpQ.look (nx':=180) (sc:=True) (v:= .agg (xR vl)) [(103,⟨false,xR vl,55⟩)] 180 ?_ trivial ⟨rfl,trivial⟩ rfl ?_
   ·simp only[go_sem]
   refine vv ?_
   refine DOpQ.look (nx':=180) (sc:=True) (v:= .agg (xR tc)) [(104,⟨false,xR tc,55⟩)] 180 ?_ trivial ⟨rfl,trivial⟩ rfl ?_
   ·simp only[go_sem]
   refine vv ?_
   exact yM hR ClM.nil
 |false=>
  rw[h2,cond_false]at hR
  have g2:=f2 h2
  have k2:=key (i.k/128%128) zA g2
  generalize hB:xx p (i.k/128%128)=tb at*
  simp only[L8]
  refine zB 150 (vv ?_)
  refine Sm.bringR 13 55 72 ht rfl rfl ?_
  simp only[hlen]
  refine zB 160 ?_
  simp only[go_sem,k2,hsz,xD,Nk,Nm]
  refine⟨⟨zA,zA⟩,zA,?_⟩
  cases h3:iw i.op with
  |true=>
   rw[h3,cond_true]at hR
   simp only[LD]
   refine zB 170 (vv ?_)
   refine Sm.dgW [102,103,104] 180 5 zw (vv ?_)
   refine DOpQ.look (nx':=180) (sc:=True) (v:= .agg (xR ta)) [(102,⟨false,xR ta,55⟩)] 180 ?_ trivial ⟨rfl,trivial⟩ rfl ?_
   ·simp only[go_sem]
   refine vv ?_
   refine DOpQ.look (nx':=180) (sc:=True) (v:= .agg (xR tb)) [(103,⟨false,xR tb,55⟩)] 180 ?_ trivial ⟨rfl,trivial⟩ rfl ?_
   ·simp only[go_sem]
   refine vv ?_
   refine DOpQ.look (nx':=180) (sc:=True) (v:= .agg (xR vl)) [(104,⟨false,xR vl,55⟩)] 180 ?_ trivial ⟨rfl,trivial⟩ rfl ?_
   ·simp only[go_sem]
   refine vv ?_
   exact yM hR ClM.nil
  |false=>
   rw[h3,cond_false]at hR
   have g3:=f3 h3
   have k3:=key (i.k%128) zA g3
   generalize hC:xx p (i.k%128)=tc at*
   simp only[L8]
   refine zB 170 (vv ?_)
   refine Sm.bringR 14 55 79 ht rfl rfl ?_
   simp only[hlen]
   refine zB 175 ?_
   simp only[go_sem,k3,hsz,xD,Nk,Nm]
   refine⟨⟨zA,zA⟩,zA,?_⟩
   refine Sm.dgW [102,103,104] 180 5 zw (vv ?_)
   refine DOpQ.look (nx':=180) (sc:=True) (v:= .agg (xR ta)) [(102,⟨false,xR ta,55⟩)] 180 ?_ trivial ⟨rfl,trivial⟩ rfl ?_
   ·simp only[go_sem]
   refine vv ?_
   refine DOpQ.look (nx':=180) (sc:=True) (v:= .agg (xR tb)) [(103,⟨false,xR tb,55⟩)] 180 ?_ trivial ⟨rfl,trivial⟩ rfl ?_
   ·simp only[go_sem]
   refine vv ?_
   refine DOpQ.look (nx':=180) (sc:=True) (v:= .agg (xR tc)) [(104,⟨false,xR tc,55⟩)] 180 ?_ trivial ⟨rfl,trivial⟩ rfl ?_
   ·simp only[go_sem]
   refine vv ?_
   exact yM hR ClM.nil
end Go.Proofs.YtbnkiacicnnmkaaGreat.Fx
namespace Go.Proofs.YtbnkiacicnnmkaaGreat
namespace Vg
theorem iJ {P:Program}{o:Oper}{e:Env}{M:Mem}(nm:Nat){x:Operand}{t el:TypeId}{n len:Nat}{b:Bk}(ho:o.op= .convert t t x)(hx:rd e x=some (true,.c (.sl n 0 len 1)))
  (hb:M.get n=some b) (hr:b.ro=false) (hc:b.cells≠[]) (hsl:yV P t=some (el,1)) (hk:wu P el=some .u8) (hn:M.get nm=none):
  Stp P o e M (.c (.sl nm 0 len 1)) [(nm,⟨true,b.cells,b.elem⟩),(n,dead b.elem)]:=by
 intro S w0 β M' a w hsub hfr hrel hok K Q hkk
 obtain⟨hb',hnu,ho0,junk,hh,hz⟩:=hrel.rw hsub hb hr hc
 have hn':M'.get nm=none:=by
  rcases hfr nm (by simp[Mem.get])with h|h
  ·rw[hn]at h;cases h
  ·exact h
 obtain⟨hud,_,_⟩:=yX hsl
 have hue:P.underlying el=some (.int .u8):=by
  unfold wu at hk
  split at hk<;>simp at hk
  rename_i k' hq
  rw[hq,hk]
 have hex:=hok β (zG _ _) x (by simp[ho,Op.operands]) _ hx
 simp only[gv,V.g,cond_true]at hex
 have hex':a.eval x= .slice (some ⟨(β n).blk,0,none⟩) len ((β n).siz/1):=by rw[hex];simp[Cv.g,hnu,ho0]
 have hsh:w.shape? (β n).blk=some (b.elem,(b.cells.map (Cv.g β)++junk).toArray.size):=by unfold World.shape?;rw[hh]
 let w':=w.freeze ⟨(β n).blk,(b.cells.map (Cv.g β)++junk).toArray.size,none⟩ 1
 have hrun:(Go.convert t t (.slice (some ⟨(β n).blk,0,none⟩) len ((β n).siz/1))).run P w= .ok (.slice (some ⟨(β n).blk,0,none⟩) len ((β n).siz/1)) w':=by
  simp[Go.convert,run_underlying hud,run_underlying hue,markStringish,hsh,w']
 unfold Oper.wp execOp
 simp only[ho,hex',Sem.run_bind,hrun,Result.andThen_ok,Sem.run_pure]
 have hmark:=hrel.mark (w':=w') hb' hr hnu hn' (by simp[w',World.freeze]) (by simp[w',World.freeze]) (by simp[w',World.freeze]) (by simp[w',World.freeze]) (fun a=>oE w _ _ a) (fun k hk=>by
  simp only[w',World.freeze]
  rw[if_neg xW]
  simp only[Array.getElem?_modify]
  rw[if_neg (fun hh=>hk hh.symm)])
 refine hkk _ _ w' (fun j hj=>if_neg (fun hh=>by rw[hh,hn']at hj;cases hj)) hmark (fun β'' hag=>?_)
 have:=hag nm (by simp[Mem.get])
 simp only[V.g,Cv.g,this,if_true,hnu,ho0,MH,false_and,if_false,Nat.sub_zero,Mq]
end Vg
end Go.Proofs.YtbnkiacicnnmkaaGreat
namespace Go.Proofs.YtbnkiacicnnmkaaGreat.Fx
open Vg Tf
def gP (f:Str)(c:UInt8)(n:Int):Bool:=decide (0<=n/\n<16/\(n=0\/0<=Lib.indexByte f c))
theorem md (f:Str)(c:UInt8)(n:Int):(bif bif decide (n<0)then true else decide (16<=n)then true else bif n !=0 then decide (Lib.indexByte f c<0)else false)= !gP f c n:=by
 unfold gP
 rw[MD];simp only[MK,decide_eq_true_eq,bne_iff_ne,M7,decide_eq_false_iff_not];grind
theorem gO {A:Bool}{n:Int}:(A=false->A=false/\((n !=0)=true->(!A&&n !=0)=true)):=fun h=>⟨h,fun h2=>by rw[h,h2];rfl⟩
def ei (f:Str):Bool:=bif decide (([75]:Str).length<=f.length)then f.drop (f.length-([75]:Str).length)==[75]else false
theorem nY (op:Int):(ya op).length<=4:=by
 unfold ya
 repeat' (first|(show List.length (cond _ _ _)<=4;rw[MK];split)|(simp;done))
def rO (i:Ins):Bool:=
 bif decide (1<=i.op/\i.op<=22)then
  bif gP (ya i.op) 65 i.a then bif gP (ya i.op) 66 i.b then bif gP (ya i.op) 67 i.c then
   bif ei (ya i.op)then wQ i.op i.k else i.k==0
  else false else false else false
 else false
theorem d8 (i:Ins):CallOk KI 160 [ze i.w] [] (Bo (rO i)) []:=by
 have hfi:=fun c=>Zb i c
 have hco:=jq i
 have hfa:CallOk KI 216 [ze i.w,U8 65] [] (I i.a) []:=hfi 65
 have hfb:CallOk KI 216 [ze i.w,U8 66] [] (I i.b) []:=hfi 66
 have hfc:CallOk KI 216 [ze i.w,U8 67] [] (I i.c) []:=hfi 67
 clear hfi
 rw[xl]at hfa hfb hfc hco⊢
 refine kN 100 func160 Va ntmps160 fun C hR hP=>?_
 refine vv ?_
 refine CallQ.pure 110 (ZS i.op) rfl (vv ?_)
 by_cases hn:¬(1<=i.op/\i.op<=22)
 ·have e1:(bif decide (1<=i.op)then decide (i.op<=22)else false)=false:=by rw[Mu];simp only[MK,decide_eq_true_eq];grind
  have e2:decide (1<=i.op/\i.op<=22)=false:=by simpa using hn
  simp only[go_sem,e1]
  exact RetQ.bool hR rfl y6 (by unfold rO;rw[e2,cond_false])
 have hk:1<=i.op/\i.op<=22:=M6.1 hn
 have e1:(bif decide (1<=i.op)then decide (i.op<=22)else false)=true:=by simp only[MK,decide_eq_true_eq];grind
 have e2:decide (1<=i.op/\i.op<=22)=true:=by simpa using hk
 simp only[go_sem,e1]
 refine Sm.dg 120 6 zw (vv ?_)
 refine DCallQ.xn 130 (fun _=>ZG.toX (H:=C.hp)) (zN _) ClM.nil (fun _=>rfl) trivial rfl rfl rfl (.inl rfl) (vv ?_)
 refine⟨zA,?_⟩
 have hon:(i.op.toNat:Int)=i.op:=zA
 have htk:=mb i.op.toNat zA
 have hfl:=gK i.op.toNat zA zA
 rw[hon]at hfl
 have hl3:i.op.toNat*3+3<=69:=zA
 generalize gL.getD i.op.toNat ([],[],0)=rw at*
 refine DOpQ.look (nx':=140) (sc:=True) (v:= .agg (gM rw)) [(1,⟨false,nF,107⟩)] 140 ?_ trivial ⟨rfl,trivial⟩ rfl ?_
 ·simp only[go_sem,htk,jZ,hl3]
 unfold gM
 simp only[go_sem,hfl,List.range_zero,Nu,Nt,Nk,Nm,M4,MR]
 clear htk hl3 e1
 refine z6 150 rfl rfl (.inl rfl) (fun _=>(iJ 149 rfl rfl rfl rfl zd Y4 (vv trivial) rfl).toC) (vv ?_)
 refine zi 4 (zB 150 ?_)
 have r65:Nat.toUInt8 65=65:=rfl
 have r66:Nat.toUInt8 66=66:=rfl
 have r67:Nat.toUInt8 67=67:=rfl
 simp only[go_sem,M4,MR]
 refine CallQ.pure 160 hfa rfl (vv ?_)
 refine CallQ.guard 165 (fun _=>lG (ya i.op) 65) (fun h=>by rw[h];rfl) (vv ?_)
 refine⟨gO,?_⟩
 rw[r65,md]
 by_cases ha:¬gP (ya i.op) 65 i.a=true
 ·have ha:=Mu.2 ha
  rw[ha]
  exact RetQ.bool hR rfl y6 (by unfold rO;simp only[e2,ha,cond_true,cond_false])
 have ha:=M6.1 ha
 rw[ha]
 simp only[go_sem,M4,MR]
 refine CallQ.pure 170 hfb rfl (vv ?_)
 refine CallQ.guard 175 (fun _=>lG (ya i.op) 66) (fun h=>by rw[h];rfl) (vv ?_)
 refine⟨gO,?_⟩
 rw[r66,md]
 by_cases hb:¬gP (ya i.op) 66 i.b=true
 ·have hb:=Mu.2 hb
  rw[hb]
  exact RetQ.bool hR rfl y6 (by unfold rO;simp only[e2,ha,hb,cond_true,cond_false])
 have hb:=M6.1 hb
 rw[hb]
 simp only[go_sem,M4,MR]
 refine CallQ.pure 180 hfc rfl (vv ?_)
 refine CallQ.guard 185 (fun _=>lG (ya i.op) 67) (fun h=>by rw[h];rfl) (vv ?_)
 refine⟨gO,?_⟩
 rw[r67,md]
 by_cases hc:¬gP (ya i.op) 67 i.c=true
 ·have hc:=Mu.2 hc
  rw[hc]
  exact RetQ.bool hR rfl y6 (by unfold rO;simp only[e2,ha,hb,hc,cond_true,cond_false])
 have hc:=M6.1 hc
 rw[hc]
 refine vv ?_
 have hsl:=nY i.op
 refine CallQ.pure 190 (SC (ya i.op) [75] zA xW) rfl (vv ?_)
 have hsf:(bif decide (1<=List.length (ya i.op))then List.drop (List.length (ya i.op)-1) (ya i.op)==[75]else false)=ei (ya i.op):=rfl
 rw[hsf]
 have hF:rO i=bif ei (ya i.op)then wQ i.op i.k else i.k==0:=by unfold rO;simp only[e2,ha,hb,hc,cond_true]
 rw[hF]at hR
 cases hs:ei (ya i.op)with
 |false=>
  rw[hs,cond_false]at hR
  exact zu hR rfl
 |true=>
  rw[hs,cond_true]at hR
  simp only[LD]
  refine CallQ.pure 200 hco rfl (vv ?_)
  exact zu hR rfl
end Go.Proofs.YtbnkiacicnnmkaaGreat.Fx
