/-  -/
import Derived.Test.YtbnkiacicnnmkaaGreatXI4
open Go.Proofs.Tryz
open Go.Proofs.Tryz renaming prog→HT
set_option linter.unusedSimpArgs false
set_option linter.unusedVariables false
set_option maxRecDepth 100000
set_option maxHeartbeats 4000000
namespace Go.Proofs.YtbnkiacicnnmkaaGreat.Fx
open Vg Tf
theorem Ye (a b:Ft)(h:wL a.m a.kg a.s a.a a.k=true)(hu:wL b.m b.kg b.s b.a b.k=true):CallOk HT 92 [I 3,sr a,sr b] [] (bif qJ 1 a b then .tup [.agg [ci (a.m+1*b.m),ci (a.kg+1*b.kg),ci (a.s+1*b.s),ci (a.a+1*b.a),ci (a.k+1*b.k)],.c (.v (.bool true))]else .tup [.agg [ci 0,ci 0,ci 0,ci 0,ci 0],.c (.v (.bool false))]) []:=by
 have hc:=oZ a b 1 (.inl rfl) h hu
 refine kO 100 func92 WC ntmps92 (by simp[ClV,V.g,Cv.g,sr,ci]) fun C hR=>?_
 refine vv ?_
 refine CallQ.pure 106 hc rfl ?_
 cases h5:qJ 1 a b<;>rw[h5]at hR<;>simp only[cond_true,cond_false]at hR⊢
 ·simp only[go_sem]
  exact RetQ.pure hR rfl (vv trivial) xz (zG rfl)
 ·simp only[go_sem]
  exact RetQ.pure hR rfl (vv trivial) xz (zG rfl)
theorem Yd (a b:Ft)(h:wL a.m a.kg a.s a.a a.k=true)(hu:wL b.m b.kg b.s b.a b.k=true):CallOk HT 92 [I 4,sr a,sr b] [] (bif qJ (-1) a b then .tup [.agg [ci (a.m+ -1*b.m),ci (a.kg+ -1*b.kg),ci (a.s+ -1*b.s),ci (a.a+ -1*b.a),ci (a.k+ -1*b.k)],.c (.v (.bool true))]else .tup [.agg [ci 0,ci 0,ci 0,ci 0,ci 0],.c (.v (.bool false))]) []:=by
 have hc:=oZ a b (-1) (.inr rfl) h hu
 refine kO 100 func92 WC ntmps92 (by simp[ClV,V.g,Cv.g,sr,ci]) fun C hR=>?_
 refine vv ?_
 refine CallQ.pure 106 hc rfl ?_
 cases h5:qJ (-1) a b<;>rw[h5]at hR<;>simp only[cond_true,cond_false]at hR⊢
 ·simp only[go_sem]
  exact RetQ.pure hR rfl (vv trivial) xz (zG rfl)
 ·simp only[go_sem]
  exact RetQ.pure hR rfl (vv trivial) xz (zG rfl)
theorem fl (op:Int)(a b:Ft)(h3:op≠3)(h4:op≠4):CallOk HT 92 [I op,sr a,sr b] [] (.tup [.agg [ci a.m,ci a.kg,ci a.s,ci a.a,ci a.k],.c (.v (.bool (uS a b)))]) []:=by
 refine kO 100 func92 WC ntmps92 (by simp[ClV,V.g,Cv.g,sr,ci]) fun C hR=>?_
 refine vv ?_
 have e3:(op==3)=false:=by simpa using h3
 have e4:(op==4)=false:=by simpa using h4
 simp only[e3,e4]
 refine Sm.dgW [102] 110 5 zi (vv ?_)
 exact RetQ.pure hR rfl (vv trivial) xz (zG rfl)
def uA (s:Int)(a b:Ft):Ft:=⟨0,false,0,0,0,a.m+s*b.m,a.kg+s*b.kg,a.s+s*b.s,a.a+s*b.a,a.k+s*b.k⟩
def gm (op:Int)(a b c:Ft):Bool:=
 bif op==7 then(bif qJ 1 a b then uS (uA 1 a b) c else false)else bif op==8 then(bif qJ (-1) a b then uS (uA (-1) a b) c else false)else
 bif op==9 then uS a c else bif op==10 then uS a c else bif op==13 then uS a b else bif op==14 then uS a b else(bif uS a b then uS a c else false)
theorem vC (op:Int)(h:wZ op=true):op=5\/op=6\/op=7\/op=8\/op=9\/op=10\/op=13\/op=14:=by
 unfold wZ at h
 simp only[JT,decide_eq_true_eq,beq_iff_eq]at h
 grind
theorem fp (a b:Ft)(x:Bool):(bif uS a b then x else false)=(uS a b&&x):=by cases uS a b<;>rfl
theorem aH (i:Ins)(a b c:Ft)(h:wZ i.op=true)(ha:wL a.m a.kg a.s a.a a.k=true)(hb:wL b.m b.kg b.s b.a b.k=true):CallOk HT 163 [z3 i.w,fx a,fx b,fx c] [] (Bo (gm i.op a b c)) []:=by
 have hm:=Zy a b ha hb
 have hd:=Wj a b ha hb
 have ht:=vC i.op h
 clear h
 obtain⟨op,ia,ib,ic,ik⟩:=i
 rw[yx]
 unfold fx
 unfold sr at hm hd
 simp only at*
 refine kN 100 func163 S7 ntmps163 fun C hR hP=>?_
 rcases ht with rfl|rfl|rfl|rfl|rfl|rfl|rfl|rfl
 ·simp only[go_sem]
  exact zp hR rfl
 ·simp only[go_sem]
  exact zp hR rfl
 ·simp only[go_sem]
  refine CallQ.pure 110 hm rfl ?_
  cases h5:qJ 1 a b<;>rw[h5]at hm<;>simp only[cond_true,cond_false]at hm⊢
  ·simp only[go_sem]
   refine zp hR ?_
   unfold gm;rw[h5];rfl
  ·simp only[go_sem]
   refine zp hR ?_
   unfold gm;rw[h5];rfl
 ·simp only[go_sem]
  refine CallQ.pure 110 hd rfl ?_
  cases h5:qJ (-1) a b<;>rw[h5]at hd<;>simp only[cond_true,cond_false]at hd⊢
  ·simp only[go_sem]
   refine zp hR ?_
   unfold gm;rw[h5];rfl
  ·simp only[go_sem]
   refine zp hR ?_
   unfold gm;rw[h5];rfl
 all_goals simp only[go_sem]
 all_goals refine zp hR ?_
 all_goals rfl
theorem bX (op:Int)(a b:Ft)(h:op=7\/op=8\/op=5\/op=6)(ha:wL a.m a.kg a.s a.a a.k=true)(hb:wL b.m b.kg b.s b.a b.k=true)(c:Ft):
  ∃u:Ft,∃z:Bool,(bif z then uS u c else false)=gm op a b c/\CallOk HT 92 [I (op-4),sr a,sr b] [] (.tup [.agg [ci u.m,ci u.kg,ci u.s,ci u.a,ci u.k],.c (.v (.bool z))]) []:=by
 have h3:=Ye a b ha hb
 have h4:=Yd a b ha hb
 rcases h with rfl|rfl|rfl|rfl
 ·cases h5:qJ 1 a b<;>rw[h5]at h3<;>simp only[cond_true,cond_false]at h3
  ·exact⟨⟨0,false,0,0,0,0,0,0,0,0⟩,false,by unfold gm;rw[h5];rfl,h3⟩
  ·exact⟨uA 1 a b,true,by unfold gm;rw[h5];rfl,h3⟩
 ·cases h5:qJ (-1) a b<;>rw[h5]at h4<;>simp only[cond_true,cond_false]at h4
  ·exact⟨⟨0,false,0,0,0,0,0,0,0,0⟩,false,by unfold gm;rw[h5];rfl,h4⟩
  ·exact⟨uA (-1) a b,true,by unfold gm;rw[h5];rfl,h4⟩
 ·exact⟨a,uS a b,by unfold gm;rfl,fl 1 a b yp yp⟩
 ·exact⟨a,uS a b,by unfold gm;rfl,fl 2 a b yp yp⟩
structure Pg where
 code:List Ins
 tys:List Ft
 cus:List CuL
 mas:List MpL
 sz:Int
 f5:List Int
 f6:List Int
 f7:List Int
 f8:List Int
 c:Sv
 t:Sv
 u:Sv
 m:Sv
 s5:Sv
 s6:Sv
 s7:Sv
 s8:Sv
def pf (c:CuL):List Value:=[vsl c.x c.c.xs.length,vsl c.y c.c.ys.length]
def pK (m:MpL):List Value:=[vsl m.x m.xs.length,vsl m.y m.ys.length,vsl m.z m.zs.length]
def Pg.r (p:Pg):List Value:=[vsl p.c p.code.length,vsl p.t p.tys.length,vsl p.u p.cus.length,vsl p.m p.mas.length,iv p.sz,vsl p.s5 p.f5.length,vsl p.s6 p.f6.length,vsl p.s7 p.f7.length,vsl p.s8 p.f8.length]
theorem x6 (p:Pg):z3 p.r= .agg [.v (vsl p.c p.code.length),.v (vsl p.t p.tys.length),.v (vsl p.u p.cus.length),.v (vsl p.m p.mas.length),.v (iv p.sz),.v (vsl p.s5 p.f5.length),.v (vsl p.s6 p.f6.length),.v (vsl p.s7 p.f7.length),.v (vsl p.s8 p.f8.length)]:=rfl
structure Pg.ok (H:Hp) (p:Pg):Prop where
 c:SlH H (vsl p.c p.code.length) 5 (p.code.map Ins.w)
 t:SlH H (vsl p.t p.tys.length) 10 (p.tys.map xN)
 u:SlH H (vsl p.u p.cus.length) 2 (p.cus.map pf)
 m:SlH H (vsl p.m p.mas.length) 3 (p.mas.map pK)
 cu:∀c∈p.cus,c.ok H
 ma:∀m∈p.mas,m.ok H
 i5:SlH H (vsl p.s5 p.f5.length) 1 (zP p.f5)
 i6:SlH H (vsl p.s6 p.f6.length) 1 (zP p.f6)
 i7:SlH H (vsl p.s7 p.f7.length) 1 (zP p.f7)
 i8:SlH H (vsl p.s8 p.f8.length) 1 (zP p.f8)
theorem Pg.ok.mono {H H':Hp}(h:H.le H'){p:Pg}(k:p.ok H):p.ok H':=
 ⟨k.c.mono h,k.t.mono h,k.u.mono h,k.m.mono h,fun c hc=>(k.cu c hc).mono h,fun m hm=>(k.ma m hm).mono h,k.i5.mono h,k.i6.mono h,k.i7.mono h,k.i8.mono h⟩
def j9 (sz n:Int):Bool:=bif decide (n<0)then false else !decide (sz<=n)
def tS (sz:Int)(l:List Int):Bool:=bif decide (1000<l.length)then false else l.all (j9 sz)
theorem ja {H:Hp}(p:Pg)(l:List Int)(s:Sv)(hs:SlH H (vsl s l.length) 1 (zP l)):CallH H HT 39 [z3 p.r,.c (.v (vsl s l.length))] (Bo (tS p.sz l)):=by
 rw[x6]
 obtain⟨R,hRd⟩:∃R,R=tS p.sz l:=⟨_,rfl⟩
 rw[<-hRd]
 unfold tS at hRd
 refine kH func39 Oc ntmps39 fun C hR hP hH hL=>?_
 have hR:=hR C hL
 refine zB 100 (vv ?_)
 refine zV (fun hc=>?_) (fun hc=>?_)
 ·have e:decide (1000<l.length)=true:=by have:=of_decide_eq_true hc;exact yS zA
  rw[e,cond_true]at hRd
  exact zp hR hRd.symm
 have hl:l.length<=1000:=by have:=of_decide_eq_false hc;omega
 have e:decide (1000<l.length)=false:=yZ zA
 rw[e,cond_false]at hRd
 refine vv ?_
 refine Sm.bringI (l:=l) 10 3 1 (hs.mono hH) rfl rfl ?_
 refine zK (α:={i:Nat//i<=l.length/\R=(l.drop i).all (j9 p.sz)}) hP (fun i=>[(1,true,.c (.sl 10 0 l.length 1)),(2,true,.c (.p 100 0)),(5,true,I i.val)])
  (fun _=>[(10,⟨true,l.map iC,3⟩),(100,⟨false,[.v (vsl p.c p.code.length),.v (vsl p.t p.tys.length),.v (vsl p.u p.cus.length),.v (vsl p.m p.mas.length),.v (iv p.sz),.v (vsl p.s5 p.f5.length),.v (vsl p.s6 p.f6.length),.v (vsl p.s7 p.f7.length),.v (vsl p.s8 p.f8.length)],28⟩)]) (fun i=>l.length-i.val) ⟨0,zA,by rw[Jb];exact hRd⟩ (fun _=>zD (by simp only[Kw,z6 (zq _)];rfl)) (fun _=>zO rfl) [(10,10),(100,100)] ?_ ?_
 ·exact zh
 rintro⟨i,hi,hd⟩ J hj
 simp only at hj hi hd⊢
 refine zB 200 (vv ?_)
 refine zV (fun hc=>?_) (fun hc=>?_)
 ·have hc:=zH hc
  rw[JC hc,Kw]at hd
  have hov:(l.map iC)[i]?=some (iC l[i]):=by simp[hc]
  have hwi:IntKind.i64.wrap ((i:Int)+1)=((i+1:Nat):Int):=wS zA
  have hll:(l.map iC).length=l.length:=Kv _
  generalize l[i]=z at*
  refine Sm.dg 210 12 zi ?_
  simp only[go_sem,hov,hll,Jr,Int.toNat_natCast]
  refine⟨⟨zA,zA⟩,fun h=>⟨h,h,zA,zA⟩,?_⟩
  have hcl:(bif decide (z<0)then true else decide (p.sz<=z))= !j9 p.sz z:=by unfold j9;cases decide (z<0)<;>simp
  rw[hcl]
  cases hz:j9 p.sz z with
  |false=>
   rw[hz,IB]at hd
   exact zp hR hd.symm
  |true=>
   rw[hz,Jd]at hd
   simp only[IT]
   refine zB 220 ?_
   simp only[go_sem,hwi]
   exact hj _ _ ⟨i+1,hc,hd⟩ [(10,10),(100,100)] yL zh
 ·have hc:=zI hi hc
  subst hc
  rw[JI]at hd
  refine vv ?_
  exact zp hR hd.symm
def o3 (op:Int):Bool:=bif op==9 then true else op==10
def js (op:Int):Bool:=bif op==13 then true else op==14
def jr (p:Pg)(i:Ins):Bool:=
 bif decide ((p.tys.length:Int)<=i.k/16384)then false else bif !o3 i.op&&decide ((p.tys.length:Int)<=i.k/128%128)then false else !(!js i.op&&decide ((p.tys.length:Int)<=i.k%128))
def vX:Ft:=⟨0,false,0,0,0,0,0,0,0,0⟩
def xS (p:Pg)(j:Int):Ft:=p.tys.getD j.toNat vX
def QR (p:Pg)(i:Ins):V:=bif jr p i then .tup [.agg (xT (xS p (i.k/16384))),.agg (xT (bif o3 i.op then vX else xS p (i.k/128%128))),.agg (xT (bif js i.op then vX else xS p (i.k%128))),.c (.v (.bool true))]
 else .tup [.agg (xT vX),.agg (xT vX),.agg (xT vX),.c (.v (.bool false))]
theorem fq {H:Hp}(p:Pg)(hp:p.ok H)(i:Ins)(h0:0<=i.k)(h1:i.k<2097152)(hn:p.tys.length<=1000):CallH H HT 162 [z3 p.r,z3 i.w] (QR p i):=by
 rw[x6,yx]
 refine kH func162 S8 ntmps162 fun C hR hP hH hL=>?_
 have hR:=hR C hL
 refine zB 100 (vv ?_)
 refine CallQ.pure 110 (fw i.k) rfl (vv ?_)
 have e2:(bif i.op==9 then true else i.op==10)=o3 i.op:=rfl
 have e3:(bif i.op==13 then true else i.op==14)=js i.op:=rfl
 simp only[e2,e3]
 have hz:(bif bif decide ((p.tys.length:Int)<=i.k/16384)then true else bif !o3 i.op then decide ((p.tys.length:Int)<=i.k/128%128)else false then true else bif !js i.op then decide ((p.tys.length:Int)<=i.k%128)else false)= !jr p i:=by
  unfold jr
  cases decide ((p.tys.length:Int)<=i.k/16384)<;>cases o3 i.op<;>cases js i.op<;>cases decide ((p.tys.length:Int)<=i.k/128%128)<;>cases decide ((p.tys.length:Int)<=i.k%128)<;>rfl
 have sc:∀A B:Bool,(A=false->A=false/\(B=false->(!A&& !B)=true)):=fun A B h=>⟨h,fun h2=>by rw[h,h2];rfl⟩
 refine⟨sc _ _,sc _ _,?_⟩
 rw[hz]
 unfold QR at hR
 by_cases hq:¬jr p i=true
 ·have hq:=IA.2 hq
  rw[hq,cond_false]at hR
  rw[hq]
  refine Sm.dgW [102,103,104] 120 5 zi (vv ?_)
  refine DOpQ.look (nx':=120) (sc:=True) (v:= .agg (xT vX)) [(102,⟨false,xT vX,55⟩)] 120 ?_ trivial ⟨rfl,trivial⟩ rfl ?_
  ·simp only[go_sem]
  refine vv ?_
  refine DOpQ.look (nx':=120) (sc:=True) (v:= .agg (xT vX)) [(103,⟨false,xT vX,55⟩)] 120 ?_ trivial ⟨rfl,trivial⟩ rfl ?_
  ·simp only[go_sem]
  refine vv ?_
  refine DOpQ.look (nx':=120) (sc:=True) (v:= .agg (xT vX)) [(104,⟨false,xT vX,55⟩)] 120 ?_ trivial ⟨rfl,trivial⟩ rfl ?_
  ·simp only[go_sem]
  refine vv ?_
  exact yN hR ClM.nil
 have hq:=Jg.1 hq
 rw[hq,cond_true]at hR
 rw[hq]
 have hf:i.k/16384<p.tys.length/\(o3 i.op=false->i.k/128%128<p.tys.length)/\(js i.op=false->i.k%128<p.tys.length):=by
  unfold jr at hq
  cases h2:o3 i.op<;>cases h3:js i.op<;>rw[h2,h3]at hq<;>simp only[JT,decide_eq_true_eq,IT,Ic,IB,Jd]at hq<;>grind
 obtain⟨f1,f2,f3⟩:=hf
 have hlen:(p.tys.map xN).length=p.tys.length:=Kv _
 have hsz:=zQ (r:=xN) (k:=10) (fun _=>rfl) p.tys
 have ht:=(hp.mono hH).t
 have key:∀j:Int,0<=j->j<p.tys.length->((zC (p.tys.map xN)).drop (j.toNat*10)).take 10=(xN (xS p j)).map Cv.v:=fun j h0 h1=>by
  have hj:j.toNat<p.tys.length:=zA
  rw[zW (r:=xN) (k:=10) (fun _=>rfl) p.tys j.toNat hj]
  unfold xS
  rw[Kx,JA hj];rfl
 have k1:=key (i.k/16384) zA f1
 generalize hA:xS p (i.k/16384)=ta at*
 simp only[IT]
 refine zB 130 (vv ?_)
 refine Sm.bringR 12 55 65 ht rfl rfl ?_
 simp only[hlen]
 refine zB 140 ?_
 simp only[go_sem,k1,hsz,xN,Ky,Kz]
 refine⟨⟨zA,zA⟩,zA,?_⟩
 cases h2:o3 i.op with
 |true=>
  rw[h2,cond_true]at hR
  simp only[IT]
  cases h3:js i.op with
  |true=>
   rw[h3,cond_true]at hR
   simp only[IT]
   refine zB 170 (vv ?_)
   refine Sm.dgW [102,103,104] 180 5 zi (vv ?_)
   refine DOpQ.look (nx':=180) (sc:=True) (v:= .agg (xT ta)) [(102,⟨false,xT ta,55⟩)] 180 ?_ trivial ⟨rfl,trivial⟩ rfl ?_
   ·simp only[go_sem]
   refine vv ?_
   refine DOpQ.look (nx':=180) (sc:=True) (v:= .agg (xT vX)) [(103,⟨false,xT vX,55⟩)] 180 ?_ trivial ⟨rfl,trivial⟩ rfl ?_
   ·simp only[go_sem]
   refine vv ?_
   refine DOpQ.look (nx':=180) (sc:=True) (v:= .agg (xT vX)) [(104,⟨false,xT vX,55⟩)] 180 ?_ trivial ⟨rfl,trivial⟩ rfl ?_
   ·simp only[go_sem]
   refine vv ?_
   exact yN hR ClM.nil
  |false=>
   rw[h3,cond_false]at hR
   have g3:=f3 h3
   have k3:=key (i.k%128) zA g3
   generalize hC:xS p (i.k%128)=tc at*
   simp only[Ic]
   refine zB 170 (vv ?_)
   refine Sm.bringR 14 55 79 ht rfl rfl ?_
   simp only[hlen]
   refine zB 175 ?_
   simp only[go_sem,k3,hsz,xN,Ky,Kz]
   refine⟨⟨zA,zA⟩,zA,?_⟩
   refine Sm.dgW [102,103,104] 180 5 zi (vv ?_)
   refine DOpQ.look (nx':=180) (sc:=True) (v:= .agg (xT ta)) [(102,⟨false,xT ta,55⟩)] 180 ?_ trivial ⟨rfl,trivial⟩ rfl ?_
   ·simp only[go_sem]
   refine vv ?_
   refine DOpQ.look (nx':=180) (sc:=True) (v:= .agg (xT vX)) [(103,⟨false,xT vX,55⟩)] 180 ?_ trivial ⟨rfl,trivial⟩ rfl ?_
   ·simp only[go_sem]
   refine vv ?_
   refine DOpQ.look (nx':=180) (sc:=True) (v:= .agg (xT tc)) [(104,⟨false,xT tc,55⟩)] 180 ?_ trivial ⟨rfl,trivial⟩ rfl ?_
   ·simp only[go_sem]
   refine vv ?_
   exact yN hR ClM.nil
 |false=>
  rw[h2,cond_false]at hR
  have g2:=f2 h2
  have k2:=key (i.k/128%128) zA g2
  generalize hB:xS p (i.k/128%128)=tb at*
  simp only[Ic]
  refine zB 150 (vv ?_)
  refine Sm.bringR 13 55 72 ht rfl rfl ?_
  simp only[hlen]
  refine zB 160 ?_
  simp only[go_sem,k2,hsz,xN,Ky,Kz]
  refine⟨⟨zA,zA⟩,zA,?_⟩
  cases h3:js i.op with
  |true=>
   rw[h3,cond_true]at hR
   simp only[IT]
   refine zB 170 (vv ?_)
   refine Sm.dgW [102,103,104] 180 5 zi (vv ?_)
   refine DOpQ.look (nx':=180) (sc:=True) (v:= .agg (xT ta)) [(102,⟨false,xT ta,55⟩)] 180 ?_ trivial ⟨rfl,trivial⟩ rfl ?_
   ·simp only[go_sem]
   refine vv ?_
   refine DOpQ.look (nx':=180) (sc:=True) (v:= .agg (xT tb)) [(103,⟨false,xT tb,55⟩)] 180 ?_ trivial ⟨rfl,trivial⟩ rfl ?_
   ·simp only[go_sem]
   refine vv ?_
   refine DOpQ.look (nx':=180) (sc:=True) (v:= .agg (xT vX)) [(104,⟨false,xT vX,55⟩)] 180 ?_ trivial ⟨rfl,trivial⟩ rfl ?_
   ·simp only[go_sem]
   refine vv ?_
   exact yN hR ClM.nil
  |false=>
   rw[h3,cond_false]at hR
   have g3:=f3 h3
   have k3:=key (i.k%128) zA g3
   generalize hC:xS p (i.k%128)=tc at*
   simp only[Ic]
   refine zB 170 (vv ?_)
   refine Sm.bringR 14 55 79 ht rfl rfl ?_
   simp only[hlen]
   refine zB 175 ?_
   simp only[go_sem,k3,hsz,xN,Ky,Kz]
   refine⟨⟨zA,zA⟩,zA,?_⟩
   refine Sm.dgW [102,103,104] 180 5 zi (vv ?_)
   refine DOpQ.look (nx':=180) (sc:=True) (v:= .agg (xT ta)) [(102,⟨false,xT ta,55⟩)] 180 ?_ trivial ⟨rfl,trivial⟩ rfl ?_
   ·simp only[go_sem]
   refine vv ?_
   refine DOpQ.look (nx':=180) (sc:=True) (v:= .agg (xT tb)) [(103,⟨false,xT tb,55⟩)] 180 ?_ trivial ⟨rfl,trivial⟩ rfl ?_
   ·simp only[go_sem]
   refine vv ?_
   refine DOpQ.look (nx':=180) (sc:=True) (v:= .agg (xT tc)) [(104,⟨false,xT tc,55⟩)] 180 ?_ trivial ⟨rfl,trivial⟩ rfl ?_
   ·simp only[go_sem]
   refine vv ?_
   exact yN hR ClM.nil
end Go.Proofs.YtbnkiacicnnmkaaGreat.Fx
namespace Go.Proofs.YtbnkiacicnnmkaaGreat
namespace Vg
theorem fQ {P:Program}{o:Oper}{e:Env}{M:Mem}(nm:Nat){x:Operand}{t el:TypeId}{n len:Nat}{b:Bk}(ho:o.op= .convert t t x)(hx:rd e x=some (true,.c (.sl n 0 len 1)))
  (hb:M.get n=some b) (hr:b.ro=false) (hc:b.cells≠[]) (hsl:yX P t=some (el,1)) (hk:vB P el=some .u8) (hn:M.get nm=none):
  Stp P o e M (.c (.sl nm 0 len 1)) [(nm,⟨true,b.cells,b.elem⟩),(n,dead b.elem)]:=by
 intro S w0 β M' a w hsub hfr hrel hok K Q hkk
 obtain⟨hb',hnu,ho0,junk,hh,hz⟩:=hrel.rw hsub hb hr hc
 have hn':M'.get nm=none:=by
  rcases hfr nm (by simp[Mem.get])with h|h
  ·rw[hn]at h;cases h
  ·exact h
 obtain⟨hud,_,_⟩:=yW hsl
 have hue:P.underlying el=some (.int .u8):=by
  unfold vB at hk
  split at hk<;>simp at hk
  rename_i k' hq
  rw[hq,hk]
 have hex:=hok β (Agree.refl _ _) x (by simp[ho,Op.operands]) _ hx
 simp only[gv,V.g,cond_true]at hex
 have hex':a.eval x= .slice (some ⟨(β n).blk,0,none⟩) len ((β n).siz/1):=by rw[hex];simp[Cv.g,hnu,ho0]
 have hsh:w.shape? (β n).blk=some (b.elem,(b.cells.map (Cv.g β)++junk).toArray.size):=by unfold World.shape?;rw[hh]
 let w':=w.freeze ⟨(β n).blk,(b.cells.map (Cv.g β)++junk).toArray.size,none⟩ 1
 have hrun:(Go.convert t t (.slice (some ⟨(β n).blk,0,none⟩) len ((β n).siz/1))).run P w= .ok (.slice (some ⟨(β n).blk,0,none⟩) len ((β n).siz/1)) w':=by
  simp[Go.convert,run_underlying hud,run_underlying hue,markStringish,hsh,w']
 unfold Oper.wp execOp
 simp only[ho,hex',Sem.run_bind,hrun,Result.andThen_ok,Sem.run_pure]
 have hmark:=hrel.mark (w':=w') hb' hr hnu hn' (by simp[w',World.freeze]) (by simp[w',World.freeze]) (by simp[w',World.freeze]) (by simp[w',World.freeze]) (fun a=>nv w _ _ a) (fun k hk=>by
  simp only[w',World.freeze]
  rw[if_neg yp]
  simp only[Array.getElem?_modify]
  rw[if_neg (fun hh=>hk hh.symm)])
 refine hkk _ _ w' (fun j hj=>if_neg (fun hh=>by rw[hh,hn']at hj;cases hj)) hmark (fun β'' hag=>?_)
 have:=hag nm (by simp[Mem.get])
 simp only[V.g,Cv.g,this,if_true,hnu,ho0,JS,false_and,if_false,Nat.sub_zero,Jx]
end Vg
end Go.Proofs.YtbnkiacicnnmkaaGreat
namespace Go.Proofs.YtbnkiacicnnmkaaGreat.Fx
open Vg Tf
def eR (f:Str)(c:UInt8)(n:Int):Bool:=decide (0<=n/\n<16/\(n=0\/0<=Lib.indexByte f c))
theorem km (f:Str)(c:UInt8)(n:Int):(bif bif decide (n<0)then true else decide (16<=n)then true else bif n !=0 then decide (Lib.indexByte f c<0)else false)= !eR f c n:=by
 unfold eR
 rw[JP];simp only[JT,decide_eq_true_eq,bne_iff_ne,Jh,decide_eq_false_iff_not];grind
theorem eQ {A:Bool}{n:Int}:(A=false->A=false/\((n !=0)=true->(!A&&n !=0)=true)):=fun h=>⟨h,fun h2=>by rw[h,h2];rfl⟩
def fy (f:Str):Bool:=bif decide (([75]:Str).length<=f.length)then f.drop (f.length-([75]:Str).length)==[75]else false
theorem lP (op:Int):(yb op).length<=4:=by
 unfold yb
 repeat' (first|(show List.length (cond _ _ _)<=4;rw[JT];split)|(simp;done))
def ss (i:Ins):Bool:=
 bif decide (1<=i.op/\i.op<=22)then
  bif eR (yb i.op) 65 i.a then bif eR (yb i.op) 66 i.b then bif eR (yb i.op) 67 i.c then
   bif fy (yb i.op)then xp i.op i.k else i.k==0
  else false else false else false
 else false
theorem ag (i:Ins):CallOk HT 160 [z3 i.w] [] (Bo (ss i)) []:=by
 have hfi:=fun c=>Xv i c
 have hco:=fF i
 have hfa:CallOk HT 216 [z3 i.w,U8 65] [] (I i.a) []:=hfi 65
 have hfb:CallOk HT 216 [z3 i.w,U8 66] [] (I i.b) []:=hfi 66
 have hfc:CallOk HT 216 [z3 i.w,U8 67] [] (I i.c) []:=hfi 67
 clear hfi
 rw[yx]at hfa hfb hfc hco⊢
 refine kN 100 func160 Sa ntmps160 fun C hR hP=>?_
 refine vv ?_
 refine CallQ.pure 110 (X9 i.op) rfl (vv ?_)
 by_cases hn:¬(1<=i.op/\i.op<=22)
 ·have e1:(bif decide (1<=i.op)then decide (i.op<=22)else false)=false:=by rw[IA];simp only[JT,decide_eq_true_eq];grind
  have e2:decide (1<=i.op/\i.op<=22)=false:=by simpa using hn
  simp only[go_sem,e1]
  exact RetQ.bool hR rfl yI (by unfold ss;rw[e2,cond_false])
 have hk:1<=i.op/\i.op<=22:=Jg.1 hn
 have e1:(bif decide (1<=i.op)then decide (i.op<=22)else false)=true:=by simp only[JT,decide_eq_true_eq];grind
 have e2:decide (1<=i.op/\i.op<=22)=true:=by simpa using hk
 simp only[go_sem,e1]
 refine Sm.dg 120 6 zi (vv ?_)
 refine DCallQ.xn 130 (fun _=>dA.toX (H:=C.hp)) (Hp.le.refl _) ClM.nil (fun _=>rfl) trivial rfl rfl rfl (.inl rfl) (vv ?_)
 refine⟨zA,?_⟩
 have hon:(i.op.toNat:Int)=i.op:=zA
 have htk:=pA i.op.toNat zA
 have hfl:=eN i.op.toNat zA zA
 rw[hon]at hfl
 have hl3:i.op.toNat*3+3<=69:=zA
 generalize qE.getD i.op.toNat ([],[],0)=rw at*
 refine DOpQ.look (nx':=140) (sc:=True) (v:= .agg (eP rw)) [(1,⟨false,tz,107⟩)] 140 ?_ trivial ⟨rfl,trivial⟩ rfl ?_
 ·simp only[go_sem,htk,ga,hl3]
 unfold eP
 simp only[go_sem,hfl,List.range_zero,JG,JF,Ky,Kz,Je,J5]
 clear htk hl3 e1
 refine z4 150 rfl rfl (.inl rfl) (fun _=>(fQ 149 rfl rfl rfl rfl z9 Wx (vv trivial) rfl).toC) (vv ?_)
 refine zf 4 (zB 150 ?_)
 have r65:Nat.toUInt8 65=65:=rfl
 have r66:Nat.toUInt8 66=66:=rfl
 have r67:Nat.toUInt8 67=67:=rfl
 simp only[go_sem,Je,J5]
 refine CallQ.pure 160 hfa rfl (vv ?_)
 refine CallQ.guard 165 (fun _=>jT (yb i.op) 65) (fun h=>by rw[h];rfl) (vv ?_)
 refine⟨eQ,?_⟩
 rw[r65,km]
 by_cases ha:¬eR (yb i.op) 65 i.a=true
 ·have ha:=IA.2 ha
  rw[ha]
  exact RetQ.bool hR rfl yI (by unfold ss;simp only[e2,ha,cond_true,cond_false])
 have ha:=Jg.1 ha
 rw[ha]
 simp only[go_sem,Je,J5]
 refine CallQ.pure 170 hfb rfl (vv ?_)
 refine CallQ.guard 175 (fun _=>jT (yb i.op) 66) (fun h=>by rw[h];rfl) (vv ?_)
 refine⟨eQ,?_⟩
 rw[r66,km]
 by_cases hb:¬eR (yb i.op) 66 i.b=true
 ·have hb:=IA.2 hb
  rw[hb]
  exact RetQ.bool hR rfl yI (by unfold ss;simp only[e2,ha,hb,cond_true,cond_false])
 have hb:=Jg.1 hb
 rw[hb]
 simp only[go_sem,Je,J5]
 refine CallQ.pure 180 hfc rfl (vv ?_)
 refine CallQ.guard 185 (fun _=>jT (yb i.op) 67) (fun h=>by rw[h];rfl) (vv ?_)
 refine⟨eQ,?_⟩
 rw[r67,km]
 by_cases hc:¬eR (yb i.op) 67 i.c=true
 ·have hc:=IA.2 hc
  rw[hc]
  exact RetQ.bool hR rfl yI (by unfold ss;simp only[e2,ha,hb,hc,cond_true,cond_false])
 have hc:=Jg.1 hc
 rw[hc]
 refine vv ?_
 have hsl:=lP i.op
 refine CallQ.pure 190 (PF (yb i.op) [75] zA yp) rfl (vv ?_)
 have hsf:(bif decide (1<=List.length (yb i.op))then List.drop (List.length (yb i.op)-1) (yb i.op)==[75]else false)=fy (yb i.op):=rfl
 rw[hsf]
 have hF:ss i=bif fy (yb i.op)then xp i.op i.k else i.k==0:=by unfold ss;simp only[e2,ha,hb,hc,cond_true]
 rw[hF]at hR
 cases hs:fy (yb i.op)with
 |false=>
  rw[hs,cond_false]at hR
  exact zp hR rfl
 |true=>
  rw[hs,cond_true]at hR
  simp only[IT]
  refine CallQ.pure 200 hco rfl (vv ?_)
  exact zp hR rfl
end Go.Proofs.YtbnkiacicnnmkaaGreat.Fx
