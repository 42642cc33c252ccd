/-  -/
import Derived.Test.YtkciabfilokfiaaGreatTQ
set_option linter.unusedSimpArgs false
set_option linter.unusedVariables false
set_option maxRecDepth 100000
set_option maxHeartbeats 4000000
namespace Go.Proofs.YtkciabfilokfiaaGreat.Fx
open Vg Tf
def LQ:Sg:=⟨[],dW,(0,0)⟩
def dq (l:List Sg)(s:Str):Option Sg:=l.find? (fun x=>x.nm==s)
attribute [go_sem] Sg.w
@[reducible] def Mq:List Cv:=[.v (.string ⟨#[]⟩),.v (.int .i64 0),.v (.bool false),.v (.int .i64 0),.v (.int .i64 0),.v (.int .i64 0),.v (.int .i64 0),.v (.int .i64 0),.v (.int .i64 0),.v (.int .i64 0),.v (.int .i64 0),.v (.int .i64 0),.v (.int .i64 0)]
theorem cW (g:Sg)(l:List Sg)(s:Str):dq (g::l) s=bif g.nm==s then some g else dq l s:=by
 unfold dq;rw[List.find?_cons];cases g.nm==s<;>rfl
theorem eh {H:Hp}(c:CkL)(hc:c.ok H)(s:Str)(hl:c.sg.length<=1000000000000000):CallH H Tryz.prog 39 [yD c.r,S s] (.tup [W.agg (((dq c.sg s).getD LQ).w.map Cv.v),ZG (dq c.sg s).isSome]):=by
 have hz:=zP (r:=Sg.w) (k:=13) (fun _=>rfl) c.sg
 have hlm:(c.sg.map Sg.w).length=c.sg.length:=Ku _
 have hcr:yD c.r= .agg [.v (sv c.d.nm),.v (vsl c.d.ty c.d.tys.length),.v (vsl c.d.cu c.d.cus.length),.v (vsl c.d.ma c.d.mas.length),.v (vsl c.d.i c.d.ins.length),.v (vsl c.d.bl c.d.bls.length),.v (vsl c.d.ou c.d.ous.length),.v (vsl c.s c.sg.length),.v (vsl c.o c.od.length)]:=rfl
 rw[hcr]
 refine kH Tryz.func39 Ox Tryz.ntmps39 fun C hR hP hH hL=>?_
 refine zB 100 (vv ?_)
 refine Sm.bringR 5 47 9 (hc.s.mono hH) rfl rfl ?_
 rw[hlm]
 refine zG (M0:=[]) (α:={i:Nat//i<=c.sg.length/\dq c.sg s=dq (c.sg.drop i) s}) hP (fun i=>[(1,true,S s),(4,true,.c (.p 4 0)),(9,true,.c (.sl 5 0 c.sg.length 13)),(10,true,I c.sg.length),(11,true,I i.val)])
  (fun _=>[(4,⟨false,Mq,47⟩),(5,⟨true,zD (c.sg.map Sg.w),47⟩)]) (fun i=>c.sg.length-i.val) ⟨0,zA,rfl⟩ (fun _=>cM) (fun _=>zO rfl) [(4,101),(5,5)] ?_ ?_
 ·exact z9
 rintro⟨i,hi,hx⟩ J hj
 simp only at hj hi hx⊢
 refine zB 110 (vv ?_)
 refine zU (fun hc2=>?_) (fun hc2=>?_)
 ·have hc2:=zH hc2
  have htk:=z6 (r:=Sg.w) (k:=13) (fun _=>rfl) c.sg i hc2
  rw[JA hc2,cW]at hx
  generalize c.sg[i]=g at*
  simp only[go_sem,htk,hz]
  refine⟨⟨zA,zA⟩,zA,?_⟩
  refine zU (fun hg=>?_) (fun hg=>?_)
  ·rw[hg,cond_true]at hx
   rw[hx]at hR
   exact yI (hR C hL) ClM.nil
  ·rw[hg,cond_false]at hx
   refine zB 120 ?_
   simp only[go_sem,yT (i:=i)]
   exact hj _ _ ⟨i+1,hc2,hx⟩ [(4,4),(5,5)] yF z9
 ·have hc2:=zL hi hc2
  rw[hc2,JL]at hx
  have hx:dq c.sg s=none:=hx
  rw[hx]at hR
  exact yI (hR C hL) ClM.nil
theorem UY {H:Hp}(x:CkL)(hx:x.ok H)(h:x.c=nX):CallH H Tryz.prog 14 [yD x.r] (Bo true):=by
 unfold CkL.c nX at h
 injection h with hd hsg hod
 have q:=XS x.d qv hx.d (eR H) hd ⟨yg,by simp[qv],by simp[qv],by simp[qv],by simp[qv],by simp[qv],by simp[qv]⟩ (by simp[qv])
 have hl:x.sg.length=0:=by rw[hsg];rfl
 have ho:x.od.length=0:=by rw[hod];rfl
 have er:yD x.r= .agg [.v (sv x.d.nm),.v (vsl x.d.ty x.d.tys.length),.v (vsl x.d.cu x.d.cus.length),.v (vsl x.d.ma x.d.mas.length),.v (vsl x.d.i x.d.ins.length),.v (vsl x.d.bl x.d.bls.length),.v (vsl x.d.ou x.d.ous.length),.v (vsl x.s 0),.v (vsl x.o 0)]:=by unfold CkL.r;rw[hl,ho];rfl
 rw[er]
 refine kH Tryz.func14 NF Tryz.ntmps14 fun C hR hP hH hL=>?_
 refine zB 100 (vv ?_)
 refine zt 110 (fun _=>q) hH (fun _=>rfl) (vv ?_)
 exact yL (hR C hL) rfl
theorem lN (r:Int×Int):∀(l:List (Int×Int)) (q:Int×Int),q.1<=q.2->(pU r l q).1<=(pU r l q).2
 |[],_,h=>h
 |n::l,q,h=>by
  unfold pU
  cases (bif decide (r.1<n.1)then decide (n.1<r.2)else false)with
  |false=>exact lN r l q h
  |true=>
   refine lN r l _ ?_
   show min q.1 n.2<=max q.2 n.2
   omega
theorem Zw (c:Cu)(r:Int×Int):(rH c r).1.1<=(rH c r).1.2:=by
 unfold rH
 cases (bif !vq c.xs c.ys then true else decide (r.2<r.1))with
 |true=>exact JW _
 |false=>
  refine lN _ _ _ ?_
  show min _ _<=max _ _
  omega
theorem gC:∀(l:List Int) (a:Int),pV a l<=a/\∀z∈l,pV a l<=z
 |[],a=>⟨JW _,fun z hz=>by cases hz⟩
 |x::l,a=>by
  obtain⟨h1,h2⟩:=gC l (min a x)
  unfold pV
  refine⟨zA,fun z hz=>?_⟩
  rcases JZ.1 hz with rfl|hz
  ·omega
  ·exact h2 z hz
theorem hG:∀(l:List Int) (a:Int),a<=rM a l/\∀z∈l,z<=rM a l
 |[],a=>⟨JW _,fun z hz=>by cases hz⟩
 |x::l,a=>by
  obtain⟨h1,h2⟩:=hG l (max a x)
  unfold rM
  refine⟨zA,fun z hz=>?_⟩
  rcases JZ.1 hz with rfl|hz
  ·omega
  ·exact h2 z hz
def PC (l:List Int):Int:=pV (l.getD 0 0) (l.drop 1)
def Qz (l:List Int):Int:=rM (l.getD 0 0) (l.drop 1)
theorem bo {l:List Int}{z:Int}(h:z∈l):PC l<=z/\z<=Qz l:=by
 cases l with
 |nil=>cases h
 |cons x l=>
  rcases JZ.1 h with rfl|h
  ·exact⟨(gC l z).1,(hG l z).1⟩
  ·exact⟨(gC l x).2 z h,(hG l x).2 z h⟩
theorem aL (l:List Int){j:Nat}(h:j<l.length):l.getD j 0∈l:=by
 rw[Kw,Kz h]
 exact JE _
theorem fG {m:Mp}(k:MaOk m){i j:Nat}(hi:i<m.xs.length)(hj:j<m.ys.length):nZ m i j∈v7 m:=by
 have hi2:i<m.zs.length:=by rw[k.zl];exact hi
 have hr:=k.zr i hi2
 have hm:m.zs.getD i []∈m.zs:=by rw[Kw,Kz hi2];exact JE hi2
 unfold nZ v7
 rw[List.mem_flatten]
 refine⟨_,hm,?_⟩
 exact aL _ (by rw[hr];exact hj)
theorem Q9 {m:Mp}(k:MaOk m)(x y:Int):PC (v7 m)<=r9 m x y/\r9 m x y<=Qz (v7 m):=by
 obtain⟨_,_,x3,x4,x5⟩:=uG k.x2 k.xi x
 obtain⟨_,_,y3,y4,y5⟩:=uG k.y2 k.yi y
 have al:∀j,j<m.ys.length->PC (v7 m)<=iZ m (vL m.xs x) (uX m.xs x) j/\iZ m (vL m.xs x) (uX m.xs x) j<=Qz (v7 m):=fun j hj=>by
  have h:=lZ (y0:=nZ m (vL m.xs x) j) (y1:=nZ m (vL m.xs x+1) j) x4 x5 (xE m.xs k.xi _ x3)
  have h1:=bo (fG k (show vL m.xs x<m.xs.length by omega) hj)
  have h2:=bo (fG k x3 hj)
  unfold iZ
  omega
 have h:=lZ (y0:=iZ m (vL m.xs x) (uX m.xs x) (vL m.ys y)) (y1:=iZ m (vL m.xs x) (uX m.xs x) (vL m.ys y+1)) y4 y5 (xE m.ys k.yi _ y3)
 have h1:=al (vL m.ys y) zA
 have h2:=al (vL m.ys y+1) y3
 unfold r9
 omega
theorem fW (m:Mp)(x v:Int):∀(l:List Int) {q:Int×Int},q.1<=v->v<=q.2->(qZ m x l q).1<=v/\v<=(qZ m x l q).2
 |[],_,h1,h2=>⟨h1,h2⟩
 |y::l,q,h1,h2=>fW m x v l (by unfold vn;simp only;omega) (by unfold vn;simp only;omega)
theorem fX (m:Mp)(ys:List Int)(v:Int):∀(l:List Int) {q:Int×Int},q.1<=v->v<=q.2->(tN m ys l q).1<=v/\v<=(tN m ys l q).2
 |[],_,h1,h2=>⟨h1,h2⟩
 |x::l,q,h1,h2=>by
  obtain⟨a,b⟩:=fW m x v ys h1 h2
  exact fX m ys v l a b
theorem Z0 (m:Mp)(r s:Int×Int):(rG m r s).1.1<=(rG m r s).1.2:=by
 unfold rG
 cases h:(bif (bif !wD m.xs m.ys m.zs then true else decide (r.2<r.1))then true else decide (s.2<s.1))with
 |true=>exact JW _
 |false=>
  have hok:wD m.xs m.ys m.zs=true:=by
   cases hk:wD m.xs m.ys m.zs with
   |true=>rfl
   |false=>rw[hk]at h;cases h
  have k:=pz hok
  have h1:=Q9 k r.1 s.1
  have h2:(rF m r s).1<=r9 m r.1 s.1/\r9 m r.1 s.1<=(rF m r s).2:=fX m _ _ _ (JW _) (JW _)
  unfold PC Qz at h1
  rw[cond_false]
  simp only
  omega
theorem cP (d:Dg):Mc d (xo d):=fun b _ _ rs _=>by
 have h:(jB d b (xP d rs b)).1<=(jB d b (xP d rs b)).2:=by
  unfold jB
  cases b.kd==[99,117,114,118,101]with
  |true=>exact Zw _ _
  |false=>exact Z0 _ _ _
 have h0:=YO (yB d.tys b.ty)
 unfold wQ xo qp
 unfold x9 at h0⊢
 simp only at h0⊢
 omega
end Go.Proofs.YtkciabfilokfiaaGreat.Fx
namespace Go.Proofs.YtkciabfilokfiaaGreat.Fx
theorem fc (d:Dg)(T:Bl->List (Int×Int)->Int×Int)(st:List (Int×Int)):∀(l:List Nat) (rs:List (Int×Int)),l.Nodup->(∀i∈l,d.ins.length+i<rs.length)->(yh d T st l rs).2=none->∀a i b,l=a++i::b->
  ∃rq,(yh d T st l rs).1.getD (d.ins.length+i) (0,0)=(wM d T rq st i).1/\∀k,k<d.ins.length\/(d.ins.length<=k/\k-d.ins.length∉i::b)->(yh d T st l rs).1.getD k (0,0)=rq.getD k (0,0)
 |[],rs,hn,hl,he,a,i,b,h=>by cases a<;>cases h
 |j::l,rs,hn,hl,he,a,i,b,h=>by
  obtain⟨hj,hn'⟩:=Ic.1 hn
  unfold yh at he⊢
  cases hc:(wM d T rs st j).2==0 with
  |false=>rw[hc]at he;cases he
  |true=>
   rw[hc,cond_true]at he
   rw[cond_true]
   have hl':∀i∈l,d.ins.length+i<(rs.set (d.ins.length+j) (wM d T rs st j).1).length:=fun i hi=>by rw[Jc];exact hl i (by simp[hi])
   have hg:=fun i=>(oN d T st l (rs.set (d.ins.length+j) (wM d T rs st j).1) hn' hl' he i).2
   cases a with
   |nil=>
    obtain⟨rfl,rfl⟩:=List.cons.inj h
    refine⟨rs,?_,fun k hk=>?_⟩
    ·rw[hg j hj,Kw,Iw (hl j zc)];rfl
    ·rcases hk with hk|⟨hk,hm⟩
     ·rw[cr d T st l _ k hk,Kw,Kw,Io zA]
     ·have h1:k-d.ins.length≠j:=fun hh=>hm (by simp[hh])
      have:=hg (k-d.ins.length) (fun hh=>hm (by simp[hh]))
      rw[show d.ins.length+(k-d.ins.length)=k by omega]at this
      rw[this,Kw,Kw,Io zA]
   |cons a0 a=>
    have h2:l=a++i::b:=(List.cons.inj (show j::l=a0::(a++i::b) from h)).2
    exact fc d T st l _ hn' hl' he a i b h2
theorem XB {d:Dg}{T:Bl->List (Int×Int)->Int×Int}{st:List (Int×Int)}{od:List Nat}(ho:OrdOk (yS d) d.bls.length od){rs:List (Int×Int)}(hrs:rs.length=d.ins.length+d.bls.length)(he:(yh d T st od rs).2=none){i:Nat}(hi:i∈od)(hd:((d.bls.getD i vh).kd==uW)=false):
  (yh d T st od rs).1.getD (d.ins.length+i) (0,0)=(zi (yB d.tys (d.bls.getD i vh).ty) (d.bls.getD i vh) (xP d (yh d T st od rs).1 (d.bls.getD i vh)) (xw d (d.bls.getD i vh)) (st.getD i (0,0)) (T (d.bls.getD i vh) (xP d (yh d T st od rs).1 (d.bls.getD i vh)))).1:=by
 obtain⟨o1,o2,o3⟩:=ho
 obtain⟨a,b,hab⟩:=List.append_of_mem hi
 obtain⟨rq,q1,q2⟩:=fc d T st od rs o1 (fun j hj=>by have:=o2 j hj;omega) he a i b hab
 have hlt:=o2 i hi
 have harg:xP d (yh d T st od rs).1 (d.bls.getD i vh)=xP d rq (d.bls.getD i vh):=by
  unfold xP
  refine JY fun s hs=>q2 _ ?_
  by_cases hk:d.ins.length<=xv (zQ d) s
  ·refine .inr ⟨hk,fun hm=>?_⟩
   have hb:xv (zQ d) s-d.ins.length∈yS d i:=by
    unfold yS
    rw[Kz hlt]
    rw[Kw,Kz hlt]at hd hs
    simp only[Option.getD_some]at hd hs
    unfold tm
    simp only
    rw[if_neg (by rw[hd];simp)]
    refine List.mem_flatMap.2 ⟨s,hs,?_⟩
    unfold wq
    rw[if_pos hk]
    exact ID.2 rfl
   have hba:=o3 a i b hab _ hb
   rw[hab]at o1
   exact(List.nodup_append.1 o1).2.2 _ hba _ hm rfl
  ·exact .inl zA
 rw[q1,harg]
 rfl
theorem eE {b:Bl}(hb:xI b=true)(h:b.kd=qq):b.ins.length=1:=by
 unfold xI at hb
 rw[h]at hb
 have:yY qq=some (1,1,0):=yg
 rw[this]at hb
 simp only[JG,decide_eq_true_eq]at hb
 exact hb.1
def nk (d:Dg)(rs:List (Int×Int))(s:Int×Int)(b:Bl):Int×Int:=
 bif b.kd==tZ||b.kd==qq then vp s (xf (rs.getD (xv (zQ d) (b.ins.getD 0 [])) (0,0)) (yU d (xv (zQ d) (b.ins.getD 0 []))) (yB d.tys b.ty))else s
theorem YD {d:Dg}(hbl:∀b∈d.bls,xI b=true){T:Bl->List (Int×Int)->Int×Int}{st:List (Int×Int)}{od:List Nat}(ho:OrdOk (yS d) d.bls.length od){rs:List (Int×Int)}(hrs:rs.length=d.ins.length+d.bls.length)(he:(yh d T st od rs).2=none){i:Nat}(hi:i∈od):
  tT d (yh d T st od rs).1 (st.getD i (0,0)) i=nk d (yh d T st od rs).1 (st.getD i (0,0)) (d.bls.getD i vh):=by
 have hlt:=ho.2.1 i hi
 have hm:d.bls.getD i vh∈d.bls:=by rw[Kw,Kz hlt];exact JE hlt
 have hok:=hbl _ hm
 have hf:=XB ho hrs he hi
 unfold tT nk nl
 cases h1:(d.bls.getD i vh).kd==tZ with
 |true=>rfl
 |false=>
  rw[cond_false,Iq]
  cases h2:(d.bls.getD i vh).kd==qq with
  |false=>rfl
  |true=>
   rw[cond_true,cond_true,hf h1,iD (eq_of_beq h2)]
   have hl:=eE hok (eq_of_beq h2)
   generalize d.bls.getD i vh=b at*
   obtain⟨s,hs⟩:=List.length_eq_one_iff.1 hl
   unfold xP xw
   rw[hs]
   rfl
open Vg Tf
theorem aN {d:Dg}(k:Chkd d){i:Nat}(h:i<d.ins.length+d.bls.length):yE (yU d i)=true:=by
 by_cases hi:i<d.ins.length
 ·rw[mw d i hi]
  have hm:d.ins.getD i ZO∈d.ins:=by rw[Kw,Kz hi];exact JE hi
  refine fN k fun hq=>?_
  have:=k.inp _ hm
  unfold wP at this
  rw[if_pos hq]at this
  cases this
 ·have hj:i-d.ins.length<d.bls.length:=zA
  have:=p9 d (i-d.ins.length) hj
  rw[show d.ins.length+(i-d.ins.length)=i by omega]at this
  rw[this]
  have hm:d.bls.getD (i-d.ins.length) vh∈d.bls:=by rw[Kw,Kz hj];exact JE hj
  exact k.bty hm
theorem WF {l:List Td}{s:Str}(h:vk l s≠none):vk l s=some (yB l s):=by
 unfold yB
 cases hq:vk l s with
 |none=>exact absurd hq h
 |some t=>rfl
theorem Chkd.tyq {d:Dg}(k:Chkd d){b:Bl}(hb:b∈d.bls):vk d.tys b.ty≠none:=fun h=>by
 have:=k.blk b hb
 unfold wG at this
 rw[if_pos h]at this
 cases this
theorem Chkd.uni {d:Dg}(k:Chkd d){b:Bl}(hb:b∈d.bls):nc b.kd (unT (yB d.tys b.ty)) (sw d b)=true:=by
 have:=k.fit b hb
 unfold uL at this
 split at this
 ·cases this
 ·rename_i h;simpa using h
theorem Chkd.tab {d:Dg}(k:Chkd d){b:Bl}(hb:b∈d.bls):cT (d.cus.any fun c=>c.nm==b.tb) (d.mas.any fun m=>m.nm==b.tb) b.kd=false:=by
 have:=k.blk b hb
 unfold wG at this
 rw[if_neg (k.tyq hb),k.arg hb]at this
 simp only at this
 split at this
 ·cases this
 ·rename_i h;simpa using h
theorem Vq (d:Dg)(b:Bl):sw d b=(xw d b).map unT:=by
 unfold sw xw
 rw[JJ];rfl
theorem UJ {H:Hp}(d:DgL)(hd:d.ok H)(k:Chkd d.c)(h0:d.tys.length<=1000000)(h1c:d.cus.length<=1000000)(h2c:d.mas.length<=1000000)(b:BlL)(hm:b∈d.bls)(rs:List (Int×Int))(ts:List Ft)(hrs:rs.length=b.c.ins.length)(hts:ts=xw d.c b.c)(hg:∀i,wQ (ts.getD i dW) (rs.getD i (0,0)))(pr:Int×Int):
  ud H d b rs ts pr (zi (yB d.tys b.c.ty) b.c rs ts pr (xo d.c b.c rs)):=by
 have hb:=hd.bls b hm
 have hbc:b.c∈d.c.bls:=IC hm
 have hok:=hd.bls
 have hbo:xI b.c=true:=by
  have h1:=k.ok
  unfold wV at h1
  simp only[JG,decide_eq_true_eq,JI]at h1
  obtain⟨_,_,_,_,_,_,_,hbo,_⟩:=h1
  exact hbo b.c hbc
 have hcuA:∀c∈d.c.cus,vq c.xs c.ys=true:=by
  have h1:=k.ok
  unfold wV at h1
  simp only[JG,decide_eq_true_eq,JI]at h1
  obtain⟨_,_,_,_,hc,_⟩:=h1
  exact fun c h=>(hc c h).2
 have hmaA:∀c∈d.c.mas,wD c.xs c.ys c.zs=true:=by
  have h1:=k.ok
  unfold wV at h1
  simp only[JG,decide_eq_true_eq,JI]at h1
  obtain⟨_,_,_,_,_,hc,_⟩:=h1
  exact fun c h=>(hc c h).2
 have hty:vk d.tys b.c.ty=some (yB d.tys b.c.ty):=WF (k.tyq hbc)
 have hbT:yE (yB d.tys b.c.ty)=true:=k.bty hbc
 have hun:nc b.c.kd (unT (yB d.tys b.c.ty)) (ts.map unT)=true:=by rw[hts,<-Vq];exact k.uni hbc
 have hnu:rI (yB d.tys b.c.ty) b.c=true:=k.num hbc
 have htb:=k.tab hbc
 have hfa:∀i,i<ts.length->yE (ts.getD i dW)=true:=fun i hi=>by
  rw[hts]at hi⊢
  unfold xw at hi⊢
  rw[Ku]at hi
  rw[Kw,JK,Kz hi]
  have:=k.arg hbc
  have hs:=pw this _ (JE hi)
  have hlt:=uF (d:=d) hs
  refine aN k ?_
  have e1:d.c.bls.length=d.bls.length:=Ku _
  rw[e1];exact hlt
 have htl:ts.length=b.c.ins.length:=by rw[hts];exact Ku _
 have htq:xo d.c b.c rs=qp (jB d.c b.c rs) (tC (yB d.tys b.c.ty)) (th (yB d.tys b.c.ty)):=by
  unfold xo
  have:(bif yE (yB d.c.tys b.c.ty)then tC (yB d.c.tys b.c.ty)else 0)=tC (yB d.tys b.c.ty):=by
   show(bif yE (yB d.tys b.c.ty)then _ else _)=_;rw[hbT];rfl
  have h2:(bif yE (yB d.c.tys b.c.ty)then th (yB d.c.tys b.c.ty)else 0)=th (yB d.tys b.c.ty):=by
   show(bif yE (yB d.tys b.c.ty)then _ else _)=_;rw[hbT];rfl
  rw[this,h2]
 generalize xo d.c b.c rs=tb at*
 generalize yB d.tys b.c.ty=T at*
 clear hts
 have hq:∃q,yY b.c.kd=some q:=by
  have h1:=hbo
  unfold xI at h1
  cases hq:yY b.c.kd with
  |none=>rw[hq]at h1;cases h1
  |some q=>exact⟨q,rfl⟩
 obtain⟨q,hq⟩:=hq
 have hkm:=vY hq
 have hlen:=fun kd (hk:b.c.kd=kd) a n t (hq:yY kd=some (a,n,t))=>xW hbo (show(b.c.kd==kd)=true by rw[hk];simp) hq
 simp only[kindT,JZ,IN,or_false,Ie]at hkm
 rcases hkm with⟨hkd,rfl⟩|⟨hkd,rfl⟩|⟨hkd,rfl⟩|⟨hkd,rfl⟩|⟨hkd,rfl⟩|⟨hkd,rfl⟩|⟨hkd,rfl⟩|⟨hkd,rfl⟩|⟨hkd,rfl⟩|⟨hkd,rfl⟩|⟨hkd,rfl⟩|⟨hkd,rfl⟩|⟨hkd,rfl⟩|⟨hkd,rfl⟩|⟨hkd,rfl⟩|⟨hkd,rfl⟩|⟨hkd,rfl⟩|⟨hkd,rfl⟩|⟨hkd,rfl⟩|⟨hkd,rfl⟩|⟨hkd,rfl⟩
 ·-- const
  obtain⟨g1,g2⟩:=hlen _ hkd 0 1 0 rfl
  rw[g1]at hrs htl
  obtain rfl:=tv hrs
  obtain rfl:=tv htl
  obtain⟨k0,hks⟩:=um g2
  exact dM d hd h0 b hb T hty hbT hkd k0 hks pr tb
 ·-- add
  obtain⟨g1,g2⟩:=hlen _ hkd 2 0 0 rfl
  rw[g1]at hrs htl
  obtain⟨r0,r1,rfl⟩:=vo hrs
  obtain⟨a0,a1,rfl⟩:=vo htl
  have hks:=tv g2
  exact Zn d hd h0 b hb T hty hbT hkd r0 r1 a0 a1 hks pr tb
 ·-- sub
  obtain⟨g1,g2⟩:=hlen _ hkd 2 0 0 rfl
  rw[g1]at hrs htl
  obtain⟨r0,r1,rfl⟩:=vo hrs
  obtain⟨a0,a1,rfl⟩:=vo htl
  have hks:=tv g2
  exact Zd d hd h0 b hb T hty hbT hkd r0 r1 a0 a1 hks pr tb
 ·-- mul
  obtain⟨g1,g2⟩:=hlen _ hkd 2 0 0 rfl
  rw[g1]at hrs htl
  obtain⟨r0,r1,rfl⟩:=vo hrs
  obtain⟨a0,a1,rfl⟩:=vo htl
  have hks:=tv g2
  exact Zg d hd h0 b hb T hty hbT hkd r0 r1 a0 a1 hks pr tb
 ·-- div
  obtain⟨g1,g2⟩:=hlen _ hkd 2 0 0 rfl
  rw[g1]at hrs htl
  obtain⟨r0,r1,rfl⟩:=vo hrs
  obtain⟨a0,a1,rfl⟩:=vo htl
  have hks:=tv g2
  exact Zl d hd h0 b hb T hty hbT hkd r0 r1 a0 a1 hks pr tb
 ·-- neg
  obtain⟨g1,g2⟩:=hlen _ hkd 1 0 0 rfl
  rw[g1]at hrs htl
  obtain⟨r0,rfl⟩:=um hrs
  obtain⟨a0,rfl⟩:=um htl
  have hks:=tv g2
  rw[hkd]at hun
  have hun:([unT a0]:List Un).all (fun u=>yb u (unT T))=true:=hun
  simp only[Ky,List.all_nil,JG,IY]at hun
  exact Zf d hd h0 b hb T hty hbT hkd r0 a0 hks pr tb (hfa 0 zc) (hg 0) hun
 ·-- min
  obtain⟨g1,g2⟩:=hlen _ hkd 2 0 0 rfl
  rw[g1]at hrs htl
  obtain⟨r0,r1,rfl⟩:=vo hrs
  obtain⟨a0,a1,rfl⟩:=vo htl
  have hks:=tv g2
  rw[hkd]at hun
  have hun:([unT a0,unT a1]:List Un).all (fun u=>yb u (unT T))=true:=hun
  simp only[Ky,List.all_nil,JG,IY]at hun
  exact Zh d hd h0 b hb T hty hbT hkd r0 r1 a0 a1 hks pr tb (hfa 0 zc) (hg 0) hun.1 (hfa 1 zc) (hg 1) hun.2
 ·-- max
  obtain⟨g1,g2⟩:=hlen _ hkd 2 0 0 rfl
  rw[g1]at hrs htl
  obtain⟨r0,r1,rfl⟩:=vo hrs
  obtain⟨a0,a1,rfl⟩:=vo htl
  have hks:=tv g2
  rw[hkd]at hun
  have hun:([unT a0,unT a1]:List Un).all (fun u=>yb u (unT T))=true:=hun
  simp only[Ky,List.all_nil,JG,IY]at hun
  exact Zi d hd h0 b hb T hty hbT hkd r0 r1 a0 a1 hks pr tb (hfa 0 zc) (hg 0) hun.1 (hfa 1 zc) (hg 1) hun.2
 ·-- limit
  obtain⟨g1,g2⟩:=hlen _ hkd 1 2 0 rfl
  rw[g1]at hrs htl
  obtain⟨r0,rfl⟩:=um hrs
  obtain⟨a0,rfl⟩:=um htl
  obtain⟨k0,k1,hks⟩:=vo g2
  rw[hkd]at hun
  have hun:([unT a0]:List Un).all (fun u=>yb u (unT T))=true:=hun
  simp only[Ky,List.all_nil,JG,IY]at hun
  have hk:k0<=k1:=by
   have hn:(pT T k0&&(pT T k1&&decide (k0<=k1)))=true:=by
    have h1:=hnu
    unfold rI at h1
    rw[hkd,hks]at h1
    exact h1
   simp only[JG,decide_eq_true_eq]at hn
   exact hn.2.2
  exact dI d hd h0 b hb T hty hbT hkd r0 a0 k0 k1 hks pr tb (hfa 0 zc) (hg 0) hun hk
 ·-- convert
  obtain⟨g1,g2⟩:=hlen _ hkd 1 0 0 rfl
  rw[g1]at hrs htl
  obtain⟨r0,rfl⟩:=um hrs
  obtain⟨a0,rfl⟩:=um htl
  have hks:=tv g2
  rw[hkd]at hun
  have hun:([unT a0]:List Un).all (fun u=>yb u (unT T))=true:=hun
  simp only[Ky,List.all_nil,JG,IY]at hun
  exact jW d hd h0 b hb T hty hbT hkd r0 a0 hks pr tb (hfa 0 zc) (hg 0) hun
 ·-- curve
  obtain⟨g1,g2⟩:=hlen _ hkd 1 0 1 rfl
  rw[g1]at hrs htl
  obtain⟨r0,rfl⟩:=um hrs
  obtain⟨a0,rfl⟩:=um htl
  have hks:=tv g2
  rw[hkd]at htb
  have htb:(d.c.cus.any fun c=>c.nm==b.c.tb)=true:=by
   cases hx:(d.c.cus.any fun c=>c.nm==b.c.tb)with
   |true=>rfl
   |false=>rw[hx]at htb;cases htb
  have he:(d.cus.map CuL.c).any (fun c=>c.nm==b.c.tb)=true:=htb
  rw[<-eT]at he
  obtain⟨c,hc⟩:=JF.1 he
  have hcm:c∈d.cus:=Jw hc
  have hk2:=hcuA c.c (IC hcm)
  have hcn:PG d.c b.c.tb=c.c:=by rw[Xm,hc];rfl
  have ht2:tb=qp (rH c.c r0).1 (tC T) (th T):=by
   rw[htq];unfold jB;rw[hkd,hcn];rfl
  exact dL d hd h0 b hb T hty hbT hkd r0 a0 hks pr tb c hc h1c (ek hk2) hk2 (hg 0) ht2
 ·-- map
  obtain⟨g1,g2⟩:=hlen _ hkd 2 0 2 rfl
  rw[g1]at hrs htl
  obtain⟨r0,r1,rfl⟩:=vo hrs
  obtain⟨a0,a1,rfl⟩:=vo htl
  have hks:=tv g2
  rw[hkd]at htb
  have htb:(d.c.mas.any fun c=>c.nm==b.c.tb)=true:=by
   cases hx:(d.c.mas.any fun c=>c.nm==b.c.tb)with
   |true=>rfl
   |false=>rw[hx]at htb;cases hy:(d.c.cus.any fun c=>c.nm==b.c.tb)<;>rw[hy]at htb<;>cases htb
  have he:(d.mas.map MpL.c).any (fun c=>c.nm==b.c.tb)=true:=htb
  rw[<-fy]at he
  obtain⟨c,hc⟩:=JF.1 he
  have hcm:c∈d.mas:=Jw hc
  have hk2:=hmaA c.c (IC hcm)
  have hcn:PD d.c b.c.tb=c.c:=by rw[X6,hc];rfl
  have ht2:tb=qp (rG c.c r0 r1).1 (tC T) (th T):=by
   rw[htq];unfold jB;rw[hkd,hcn];rfl
  exact Zj d hd h0 b hb T hty hbT hkd r0 r1 a0 a1 hks pr tb c hc h2c (pz hk2) hk2 (hg 0) (hg 1) ht2
 ·-- delay
  obtain⟨g1,g2⟩:=hlen _ hkd 1 1 0 rfl
  rw[g1]at hrs htl
  obtain⟨r0,rfl⟩:=um hrs
  obtain⟨a0,rfl⟩:=um htl
  obtain⟨k0,hks⟩:=um g2
  exact dK d hd h0 b hb T hty hbT hkd r0 a0 k0 hks pr tb
 ·-- lag
  obtain⟨g1,g2⟩:=hlen _ hkd 1 1 0 rfl
  rw[g1]at hrs htl
  obtain⟨r0,rfl⟩:=um hrs
  obtain⟨a0,rfl⟩:=um htl
  obtain⟨k0,hks⟩:=um g2
  rw[hkd]at hun
  have hun:([unT a0]:List Un).all (fun u=>yb u (unT T))=true:=hun
  simp only[Ky,List.all_nil,JG,IY]at hun
  exact Zk d hd h0 b hb T hty hbT hkd r0 a0 k0 hks pr tb (hfa 0 zc) (hg 0) hun
 ·-- switch
  obtain⟨g1,g2⟩:=hlen _ hkd 3 0 0 rfl
  rw[g1]at hrs htl
  obtain⟨r0,r1,r2,rfl⟩:=PE hrs
  obtain⟨a0,a1,a2,rfl⟩:=PE htl
  have hks:=tv g2
  rw[hkd]at hun
  have hun:(yb (unT a0) u0&&(yb (unT a1) (unT T)&&yb (unT a2) (unT T)))=true:=hun
  simp only[JG]at hun
  exact im d hd h0 b hb T hty hbT hkd r0 r1 r2 a0 a1 a2 hks pr tb (hfa 1 zc) (hg 1) hun.2.1 (hfa 2 zc) (hg 2) hun.2.2
 ·-- less
  obtain⟨g1,g2⟩:=hlen _ hkd 2 0 0 rfl
  rw[g1]at hrs htl
  obtain⟨r0,r1,rfl⟩:=vo hrs
  obtain⟨a0,a1,rfl⟩:=vo htl
  have hks:=tv g2
  rw[hkd]at hun
  have hun:(yb (unT a0) (unT a1)&&yb (unT T) u0)=true:=hun
  simp only[JG]at hun
  have hu:uS a0 a1=true:=hun.1
  exact bK d hd h0 b hb T hty hbT hkd r0 r1 a0 a1 hks pr tb (hfa 0 zc) (hfa 1 zc) (hg 0) (hg 1) hu
 ·-- equal
  obtain⟨g1,g2⟩:=hlen _ hkd 2 0 0 rfl
  rw[g1]at hrs htl
  obtain⟨r0,r1,rfl⟩:=vo hrs
  obtain⟨a0,a1,rfl⟩:=vo htl
  have hks:=tv g2
  rw[hkd]at hun
  have hun:(yb (unT a0) (unT a1)&&yb (unT T) u0)=true:=hun
  simp only[JG]at hun
  have hu:uS a0 a1=true:=hun.1
  have hw:uS a1 a0=true:=by
   have h1:yb (unT a0) (unT a1)=true:=hun.1
   have:=cE h1
   show yb (unT a1) (unT a0)=true
   rw[<-this]at h1⊢
   exact h1
  exact dJ d hd h0 b hb T hty hbT hkd r0 r1 a0 a1 hks pr tb (hfa 0 zc) (hfa 1 zc) (hg 0) (hg 1) hu hw
 ·-- and
  obtain⟨g1,g2⟩:=hlen _ hkd 2 0 0 rfl
  rw[g1]at hrs htl
  obtain⟨r0,r1,rfl⟩:=vo hrs
  obtain⟨a0,a1,rfl⟩:=vo htl
  have hks:=tv g2
  exact Zm d hd h0 b hb T hty hbT hkd r0 r1 a0 a1 hks pr tb
 ·-- or
  obtain⟨g1,g2⟩:=hlen _ hkd 2 0 0 rfl
  rw[g1]at hrs htl
  obtain⟨r0,r1,rfl⟩:=vo hrs
  obtain⟨a0,a1,rfl⟩:=vo htl
  have hks:=tv g2
  exact W0 d hd h0 b hb T hty hbT hkd r0 r1 a0 a1 hks pr tb
 ·-- not
  obtain⟨g1,g2⟩:=hlen _ hkd 1 0 0 rfl
  rw[g1]at hrs htl
  obtain⟨r0,rfl⟩:=um hrs
  obtain⟨a0,rfl⟩:=um htl
  have hks:=tv g2
  exact Ze d hd h0 b hb T hty hbT hkd r0 a0 hks pr tb
 ·-- hysteresis
  obtain⟨g1,g2⟩:=hlen _ hkd 1 2 0 rfl
  rw[g1]at hrs htl
  obtain⟨r0,rfl⟩:=um hrs
  obtain⟨a0,rfl⟩:=um htl
  obtain⟨k0,k1,hks⟩:=vo g2
  exact oQ d hd h0 b hb T hty hbT hkd r0 a0 k0 k1 hks pr tb (hg 0)
end Go.Proofs.YtkciabfilokfiaaGreat.Fx
