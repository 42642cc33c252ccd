/-  -/
import Derived.Test.YtkciabfilokfiaaGreatPS
import Derived.Test.YtkciabfilokfiaaGreatRL
namespace Go.Proofs.YtkciabfilokfiaaGreat.Fx
open Vg Tf
set_option linter.unusedSimpArgs false
set_option linter.unusedVariables false
set_option maxRecDepth 100000
set_option maxHeartbeats 4000000
theorem sg_of {m:Mp}(k:MaOk m)(x y:Int):nb (atQ m x y):=by
 obtain⟨_,_,x3,x4,x5⟩:=sgI_ok k.x2 k.xi x
 obtain⟨_,_,y3,y4,y5⟩:=sgI_ok k.y2 k.yi y
 exact itp_nb y4 y5 (incB_get m.ys k.yi _ y3) (al_nb k x3 (by omega) x4 x5) (al_nb k x3 y3 x4 x5)
def sovJ (m:Mp)(x:Int):List Int→Int×Int→Int×Int
 |[],q=>q
 |y::l,q=>sovJ m x l (putR q (atQ m x y))
def sovI (m:Mp)(ys:List Int):List Int→Int×Int→Int×Int
 |[],q=>q
 |x::l,q=>sovI m ys l (sovJ m x ys q)
def allZ (m:Mp):List Int:=m.zs.flatten
def sovR (m:Mp)(r s:Int×Int):Int×Int:=sovI m (ptsQ m.ys s) (ptsQ m.xs r) (atQ m r.1 s.1,atQ m r.1 s.1)
def sovQ (m:Mp)(r s:Int×Int):(Int×Int)×Int:=
 bif (bif (bif !maOk m.xs m.ys m.zs then true else decide (r.2<r.1))then true else decide (s.2<s.1))then((0,0),1)
 else((max ((sovR m r s).1-1) (mnG ((allZ m).getD 0 0) ((allZ m).drop 1)),min ((sovR m r s).2+1) (mxG ((allZ m).getD 0 0) ((allZ m).drop 1))),0)
theorem sovJ_nb {m:Mp}(k:MaOk m)(x:Int):∀(l:List Int) {q:Int×Int},nb q.1→nb q.2→nb (sovJ m x l q).1∧nb (sovJ m x l q).2
 |[],_,h1,h2=>⟨h1,h2⟩
 |y::l,q,h1,h2=>by
  have:=sg_of k x y
  unfold nb at h1 h2 this
  exact sovJ_nb k x l (by unfold putR nb;simp only;omega) (by unfold putR nb;simp only;omega)
theorem sovI_nb {m:Mp}(k:MaOk m)(ys:List Int):∀(l:List Int) {q:Int×Int},nb q.1→nb q.2→nb (sovI m ys l q).1∧nb (sovI m ys l q).2
 |[],_,h1,h2=>⟨h1,h2⟩
 |x::l,q,h1,h2=>by
  obtain⟨a,b⟩:=sovJ_nb k x ys h1 h2
  exact sovI_nb k ys l a b
theorem MaOk.all (m:Mp)(k:MaOk m):0<(allZ m).length∧(allZ m).length≤1024:=by
 have hlen:∀l:List (List Int),(∀z∈l,z.length=m.ys.length)→l.flatten.length=l.length*m.ys.length:=by
  intro l
  induction l with
  |nil=>intro _;simp
  |cons a l ih=>intro h;rw[List.flatten_cons,List.length_append,h a (by simp),ih fun z hz=>h z (by simp[hz]),List.length_cons,Nat.succ_mul,Nat.add_comm]
 have h1:=hlen m.zs (fun z hz=>by
  obtain⟨i,hi,rfl⟩:=List.getElem_of_mem hz
  have:=k.zr i hi
  rwa [List.getD_eq_getElem?_getD,List.getElem?_eq_getElem hi]at this)
 have h2:=k.x2
 have h3:=k.y2
 have h4:=k.x3
 have h5:=k.y3
 unfold allZ
 rw[h1,k.zl]
 have h6:2*2≤m.xs.length*m.ys.length:=Nat.mul_le_mul h2 h3
 have h7:m.xs.length*m.ys.length≤32*32:=Nat.mul_le_mul h4 h5
 omega
theorem pts_len (l:List Int)(r:Int×Int):(ptsQ l r).length≤l.length+2:=by
 unfold ptsQ
 rw[List.length_cons,List.length_cons]
 have:=List.length_filter_le (fun x=>decide (r.1<x)&&decide (x<r.2)) l
 omega
theorem sover_ {H:Hp}(m:MpL)(hm:m.ok H)(hl:∀v∈m.zs,v.2.length≤1000000000000000)(r s:Int×Int):CallH H Tryz.prog 241 [.agg (maV m),rA r,rA s] (rE (sovQ m.c r s)):=by
 have hval:=svalidM m hm hl
 refine CallH.mkS Tryz.func241 rfl en241 (by simp[Tryz.ntmps241]) (ClA.of rfl) fun C hR hP hH hL=>?_
 refine Sm.go 100 ?_
 refine vv ?_
 refine CallQ.h 110 hval hH rfl ?_
 refine vv ?_
 refine mtch (fun h0=>?_) (fun h0=>?_)
 ·have hq:sovQ m.c r s=((0,0),1):=by unfold sovQ;rw[show maOk m.c.xs m.c.ys m.c.zs=maOk m.xs m.ys (m.zs.map (·.2)) from rfl,h0];rfl
  rw[hq]at hR
  exact RetQ.of (hR C hL) rfl (vv trivial) rvv (Sub.nil _) ClM.nil (ClV.of rfl)
 have hok:maOk m.c.xs m.c.ys m.c.zs=true:=by
  show maOk m.xs m.ys (m.zs.map (·.2))=true
  cases hk:maOk m.xs m.ys (m.zs.map (·.2))with
  |true=>rfl
  |false=>rw[hk]at h0;cases h0
 have k:=MaOk.of hok
 have hq:sovQ m.c r s=((max ((sovR m.c r s).1-1) (mnG ((allZ m.c).getD 0 0) ((allZ m.c).drop 1)),min ((sovR m.c r s).2+1) (mxG ((allZ m.c).getD 0 0) ((allZ m.c).drop 1))),0):=by unfold sovQ;rw[show maOk m.c.xs m.c.ys m.c.zs=maOk m.xs m.ys (m.zs.map (·.2)) from rfl,h0];rfl
 rw[hq]at hR
 have kx3:m.xs.length≤32:=k.x3
 have ky3:m.ys.length≤32:=k.y3
 obtain⟨kz0,kz1⟩:=MaOk.all m.c k
 have hat:∀x y,CallH H Tryz.prog 263 [.agg (maV m),I x,I y] (I (atQ m.c x y)):=fun x y=>at_ m hm k x y
 have hn0:=sg_of k r.1 s.1
 have hnR:=sovI_nb k (ptsQ m.ys s) (ptsQ m.xs r) (q:=(atQ m.c r.1 s.1,atQ m.c r.1 s.1)) hn0 hn0
 have hRR:sovI m.c (ptsQ m.ys s) (ptsQ m.xs r) (atQ m.c r.1 s.1,atQ m.c r.1 s.1)=sovR m.c r s:=rfl
 rw[hRR]at hnR
 have lx:=pts_len m.xs r
 have ly:=pts_len m.ys s
 generalize sovR m.c r s=R at*
 refine CallQ.h 110 (hat r.1 s.1) hH rfl ?_
 refine vv ?_
 generalize atQ m.c r.1 s.1=v0 at*
 refine CallQ.hr [(1,130)] 140 (points_ m.x m.xs hm.x (by omega) r) hH ClM.nil rfl rfl trivial rfl (.inl rfl) ?_
 simp only[Mem.ren,List.map_cons,List.map_nil,renV (v_iC _),V.ren,Cv.ren,rn,Nat.reduceBEq,cond_true,cond_false]
 refine vv ?_
 generalize hX:ptsQ m.xs r=X at*
 generalize hY:ptsQ m.ys s=Y at*
 refine Sm.loopM (M0:=[]) (α:={z:Nat×(Int×Int)//z.1≤X.length∧sovI m.c Y (X.drop z.1) z.2=R}) hP (fun z=>[(3,true,.c (.p 3 0)),(4,true,.c (.p 4 0)),(5,true,.c (.p 5 0)),(6,true,.c (.p 6 0)),(9,true,.c (.p 9 0)),(46,true,.c (.sl 1 0 X.length 1)),(47,true,I X.length),(48,true,I z.val.1)])
  (fun z=>[(1,⟨false,X.map iC,3⟩),(9,⟨false,rC z.val.2,45⟩),(6,⟨false,rC (0,0),45⟩),(5,⟨false,rC s,45⟩),(4,⟨false,rC r,45⟩),(3,⟨false,maV m,89⟩)]) (fun z=>X.length-z.val.1) ⟨(0,(v0,v0)),by simp,hRR⟩ (fun _=>ClM.of (by simp only[List.all_cons,inMV (v_iC _)];rfl)) (fun _=>ClE.of rfl) [(1,130),(9,110),(6,103),(5,102),(4,101),(3,100)] ?_ ?_
 ·exact⟨rfl,trivial,⟨rfl,rfl,rfl,rfl,rfl,rfl,rfl,rfl,trivial⟩,⟨.inr ⟨_,rfl,.inl (renV (v_iC _))⟩,.inr ⟨_,rfl,.inl rfl⟩,.inr ⟨_,rfl,.inl rfl⟩,.inr ⟨_,rfl,.inl rfl⟩,.inr ⟨_,rfl,.inl rfl⟩,.inr ⟨_,rfl,.inl rfl⟩,trivial⟩⟩
 rintro⟨⟨i,q⟩,hi,hx⟩ J hj
 simp only at hj hi hx⊢
 refine Sm.go 150 ?_
 refine vv ?_
 refine mtch (fun hc=>?_) (fun hc=>?_)
 ·have hc:=lt_of_dec hc
  have hdz:X.drop i=X.getD i 0::X.drop (i+1):=by
   rw[List.drop_eq_getElem_cons hc,List.getD_eq_getElem?_getD,List.getElem?_eq_getElem hc];rfl
  rw[hdz,sovI]at hx
  have gx:=get_iD hc
  generalize X.getD i 0=x at*
  simp(maxSteps:=2000000) only[go_sem,gx]
  refine⟨⟨by omega,by omega⟩,?_⟩
  refine CallQ.hr [(1,160)] 170 (points_ m.y m.ys hm.y (by omega) s) hH ClM.nil rfl rfl trivial rfl (.inl rfl) ?_
  rw[hY]
  simp only[Mem.ren,List.map_cons,List.map_nil,renV (v_iC _),V.ren,Cv.ren,rn,Nat.reduceBEq,cond_true,cond_false]
  refine vv ?_
  refine Sm.loopM (M0:=[]) (α:={z:Nat×(Int×Int)//z.1≤Y.length∧sovI m.c Y (X.drop (i+1)) (sovJ m.c x (Y.drop z.1) z.2)=R}) hP (fun z=>[(3,true,.c (.p 3 0)),(4,true,.c (.p 4 0)),(5,true,.c (.p 5 0)),(6,true,.c (.p 6 0)),(9,true,.c (.p 9 0)),(46,true,.c (.sl 1 0 X.length 1)),(47,true,I X.length),(48,true,I i),(11,true,I x),(55,true,.c (.sl 2 0 Y.length 1)),(56,true,I Y.length),(57,true,I z.val.1)])
   (fun z=>[(1,⟨false,X.map iC,3⟩),(2,⟨false,Y.map iC,3⟩),(9,⟨false,rC z.val.2,45⟩),(6,⟨false,rC (0,0),45⟩),(5,⟨false,rC s,45⟩),(4,⟨false,rC r,45⟩),(3,⟨false,maV m,89⟩)]) (fun z=>Y.length-z.val.1) ⟨(0,q),by simp,hx⟩ (fun _=>ClM.of (by simp only[List.all_cons,inMV (v_iC _)];rfl)) (fun _=>ClE.of rfl) [(1,1),(2,160),(9,9),(6,6),(5,5),(4,4),(3,3)] ?_ ?_
  ·exact⟨rfl,trivial,⟨rfl,rfl,rfl,rfl,rfl,rfl,rfl,rfl,rfl,rfl,rfl,rfl,trivial⟩,⟨.inr ⟨_,rfl,.inl (renV (v_iC _))⟩,.inr ⟨_,rfl,.inl (renV (v_iC _))⟩,.inr ⟨_,rfl,.inl rfl⟩,.inr ⟨_,rfl,.inl rfl⟩,.inr ⟨_,rfl,.inl rfl⟩,.inr ⟨_,rfl,.inl rfl⟩,.inr ⟨_,rfl,.inl rfl⟩,trivial⟩⟩
  rintro⟨⟨n,p⟩,hn,hy⟩ J2 hj2
  simp only at hj2 hn hy⊢
  refine Sm.go 150 ?_
  refine vv ?_
  refine mtch (fun hd=>?_) (fun hd=>?_)
  ·have hd:=lt_of_dec hd
   have hdy:Y.drop n=Y.getD n 0::Y.drop (n+1):=by
    rw[List.drop_eq_getElem_cons hd,List.getD_eq_getElem?_getD,List.getElem?_eq_getElem hd];rfl
   rw[hdy,sovJ]at hy
   have gy:=get_iD hd
   generalize Y.getD n 0=y at*
   simp(maxSteps:=2000000) only[go_sem,gy]
   refine⟨⟨by omega,by omega⟩,?_⟩
   refine CallQ.h 170 (hat x y) hH rfl ?_
   simp(maxSteps:=2000000) only[go_sem,wS (show n≤1000000000000000000 by omega)]
   exact hj2 _ _ ⟨(n+1,putR p (atQ m.c x y)),hd,hy⟩ [(1,1),(2,2),(9,9),(6,6),(5,5),(4,4),(3,3)] (by simp only;omega) ⟨rfl,trivial,⟨rfl,rfl,rfl,rfl,rfl,rfl,rfl,rfl,rfl,rfl,rfl,rfl,trivial⟩,⟨.inr ⟨_,rfl,.inl (renV (v_iC _))⟩,.inr ⟨_,rfl,.inl (renV (v_iC _))⟩,.inr ⟨_,rfl,.inl rfl⟩,.inr ⟨_,rfl,.inl rfl⟩,.inr ⟨_,rfl,.inl rfl⟩,.inr ⟨_,rfl,.inl rfl⟩,.inr ⟨_,rfl,.inl rfl⟩,trivial⟩⟩
  ·have hd:=eq_of_dec hn hd
   rw[hd,List.drop_length,sovJ]at hy
   simp(maxSteps:=2000000) only[go_sem,wS (show i≤1000000000000000000 by omega)]
   exact hj _ _ ⟨(i+1,p),hc,hy⟩ [(1,1),(9,9),(6,6),(5,5),(4,4),(3,3)] (by simp only;omega) ⟨rfl,trivial,⟨rfl,rfl,rfl,rfl,rfl,rfl,rfl,rfl,trivial⟩,⟨.inr ⟨_,rfl,.inl (renV (v_iC _))⟩,.inr ⟨_,rfl,.inl rfl⟩,.inr ⟨_,rfl,.inl rfl⟩,.inr ⟨_,rfl,.inl rfl⟩,.inr ⟨_,rfl,.inl rfl⟩,.inr ⟨_,rfl,.inl rfl⟩,trivial⟩⟩
 ·have hc:=eq_of_dec hi hc
  rw[hc,List.drop_length,sovI]at hx
  subst hx
  have hmz:(m.zs.map (·.2)).flatten=allZ m.c:=rfl
  have hzl:m.zs.length≤1000000:=by
   have h1:=k.zl
   have e:m.c.zs.length=m.zs.length:=List.length_map _
   have e2:m.c.xs.length=m.xs.length:=rfl
   omega
  have hcc:=concat_ (H:=H) m.z m.zs hm.z hm.e (by rw[hmz];exact kz0) (by rw[hmz];omega) hzl
  rw[hmz]at hcc
  generalize allZ m.c=Z at*
  refine CallQ.hr [(1,180)] 190 hcc hH ClM.nil rfl rfl trivial rfl (.inl rfl) ?_
  simp only[Mem.ren,List.map_cons,List.map_nil,renV (v_iC _),V.ren,Cv.ren,rn,Nat.reduceBEq,cond_true,cond_false]
  refine vv ?_
  obtain⟨a1,a2⟩:=hnR
  unfold nb at a1 a2
  have w1:IntKind.i64.wrap (q.1-1)=q.1-1:=w64 (by omega) (by omega)
  have w2:IntKind.i64.wrap (q.2+1)=q.2+1:=w64 (by omega) (by omega)
  have hmin:=min_ Z kz0 (by omega)
  have hmax:=max_ Z kz0 (by omega)
  have hZ:ClM [(1,⟨true,Z.map iC,3⟩)]:=ClM.of (by simp only[List.all_cons,inMV (v_iC _)];rfl)
  have hrn:∀ρ,(Z.map iC).map (Cv.ren ρ)=Z.map iC:=fun ρ=>by rw[List.map_map];rfl
  refine Sm.dg 200 12 mix ?_
  simp(maxSteps:=2000000) only[go_sem,w1,w2]
  refine DCallQ.ren [(1,180)] 210 hmin hZ rfl rfl ⟨⟨_,rfl,.inr ⟨rfl,[],by show Z.map iC=(Z.map iC).map (Cv.ren _)++[];rw[hrn,List.append_nil]⟩⟩,trivial⟩ rfl (.inr rfl) rfl rfl ?_
  simp only[Mem.ren,List.map_nil,V.ren,Cv.ren]
  simp(maxSteps:=2000000) only[go_sem,w1,w2]
  refine DCallQ.ren [(1,180)] 220 hmax hZ rfl rfl ⟨⟨_,rfl,.inr ⟨rfl,[],by show Z.map iC=(Z.map iC).map (Cv.ren _)++[];rw[hrn,List.append_nil]⟩⟩,trivial⟩ rfl (.inr rfl) rfl rfl ?_
  simp only[Mem.ren,List.map_nil,V.ren,Cv.ren]
  simp(maxSteps:=2000000) only[go_sem,w1,w2]
  exact RetQ.of (hR C hL) rfl (vv trivial) rvv (Sub.nil _) ClM.nil (ClV.of rfl)
end Go.Proofs.YtkciabfilokfiaaGreat.Fx
