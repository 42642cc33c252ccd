/-  -/
import Derived.Test.YtbnkiacicnnmkaaGreatQA
open Go.Proofs.Tryz
set_option linter.unusedSimpArgs false
set_option linter.unusedVariables false
set_option maxRecDepth 100000
set_option maxHeartbeats 4000000
namespace Go.Proofs.YtbnkiacicnnmkaaGreat.Fx
open Vg Tf
theorem dL {l:List Str}{n N:Nat}(hl:l.length=n+N)(hN:0<N)(b:Bl):∀k∈qn l n b,k<N:=by
 intro k hk
 unfold qn at hk
 split at hk
 ·cases hk
 ·obtain⟨s,_,hs⟩:=List.mem_flatMap.1 hk
  unfold vM at hs
  split at hs
  ·rw[LG]at hs
   unfold wn at hs
   cases hq:qH s l 0 with
   |none=>rw[hq]at hs;simp at hs;omega
   |some i=>
    rw[hq]at hs
    have:=td s l 0 i hq
    simp at hs;omega
  ·cases hs
theorem uo (d:DgL):∀i,i<d.bls.length->∀k∈xF d.c i,k<d.bls.length:=fun i hi k hk=>by
 rw[tv hi]at hk
 exact dL (vX d) zA _ k hk
@[reducible] def bC (b:Bool):Cv:= .v (.bool b)
def yv (N:Nat)(l:List Nat):List Bool:=(List.range N).map fun i=>l.contains i
theorem wJ (N:Nat)(l:List Nat):(yv N l).length=N:=by simp[yv]
theorem zh (l:List Bool):(l.map bC).all Cv.isV=true:=by simp[Cv.isV]
theorem tO {l:List Bool}{i:Nat}(h:i<l.length):(l.map bC)[i]?=some (bC (l.getD i false)):=by
 rw[MC,Nl,No h];rfl
theorem rl {N:Nat}{l:List Nat}{i:Nat}(h:i<N):(yv N l).getD i false=l.contains i:=by
 rw[Nl,yv,MC,Mh h];rfl
theorem m6 {N:Nat}{l:List Nat}{i:Nat}(h:i<N):(yv N l).set i true=yv N (l++[i]):=by
 apply Mc
 intro j
 rw[LI]
 simp only[yv,Ni,Lh,MC]
 by_cases hj:i=j
 ·subst hj
  rw[if_pos rfl,if_pos h,Mh h]
  simp
 ·rw[if_neg hj]
  by_cases hjN:j<N
  ·rw[Mh hjN]
   simp only[M9,M8]
   rw[MD,LK,LK,LM,LG]
   exact⟨.inl,fun hh=>by rcases hh with hh|hh;exact hh;exact absurd hh.symm hj⟩
  ·rw[Ml (by simp;omega)];rfl
theorem oP {ρ:Nat->Nat}{l:List Cv}{t u:TypeId}{r:Bool}(h:l.all Cv.isV=true):Wk ((⟨true,l,t⟩:Bk).ren ρ) ⟨r,l,u⟩:= .inr ⟨by rw[zf h],[],by rw[zf h];simp⟩
@[reducible] def iZ (nm:Nat)(tk:List Bool):Nat×Bk:=(nm,⟨true,tk.map bC,4⟩)
@[reducible] def iY (nm t N:Nat):Nat×Bk:=(nm,⟨true,[.sl t 0 N 1],86⟩)
theorem O9 (tk:List Bool)(k:Nat)(h:k<tk.length):CallOk Tryz.prog 123 [I k,.c (.p 1 0)] [iY 1 2 tk.length,iZ 2 tk] (Bo (!tk.getD k false)) []:=by
 have hM:ClM [iY 1 2 tk.length,iZ 2 tk]:=zD (by simp only[Nj,zZ (zh _)];rfl)
 refine kN 100 func123 UE ntmps123 fun C hR hP=>?_
 simp only[go_sem,tO h]
 refine⟨⟨zA,zA⟩,?_⟩
 exact yM hR hM
theorem Sb (ks:List Nat)(hks:ks.length<=1000000000000000)(tk:List Bool)(hk:∀k∈ks,k<tk.length):CallOk Tryz.prog 164 [.c (.sl 1 0 ks.length 1),.c (.fn 123 [(2,0)])] [(1,⟨true,ks.map nC,3⟩),iY 2 3 tk.length,iZ 3 tk] (I (xu (fun k=> !tk.getD k false) ks 0)) []:=by
 have hM:ClM [(1,⟨true,ks.map nC,3⟩),iY 2 3 tk.length,iZ 3 tk]:=zD (by simp only[Nj,zZ (zh _),zZ (xO _)];rfl)
 have hM1:ClM [iY 1 2 tk.length,iZ 2 tk]:=zD (by simp only[Nj,zZ (zh _)];rfl)
 refine kN 100 func164 bp ntmps164 fun C hR hP=>?_
 refine vv ?_
 refine zL (M0:=[(1,⟨true,ks.map nC,3⟩),iY 2 3 tk.length,iZ 3 tk]) (α:={i:Nat//i<=ks.length/\xu (fun k=> !tk.getD k false) ks 0=xu (fun k=> !tk.getD k false) (ks.drop i) i}) hP (fun i=>[(0,true,.c (.sl 1 0 ks.length 1)),(1,true,.c (.fn 123 [(2,0)])),(7,true,I ks.length),(8,true,I i.val)])
  (fun _=>[(1,⟨true,ks.map nC,3⟩),iY 2 3 tk.length,iZ 3 tk]) (fun i=>ks.length-i.val) ⟨0,zA,rfl⟩ (fun _=>hM) (fun _=>zP rfl) [(1,1),(2,2),(3,3)] ?_ ?_
 ·exact zk
 ·rintro⟨i,hi,hx⟩ J hb
  simp only at hb hi hx⊢
  refine zB 120 (vv ?_)
  refine zY (fun hc=>?_) (fun hc=>?_)
  ·have hc:=zI hc
   rw[yW _ ks i hc]at hx
   simp only[go_sem,lL hc]
   refine⟨⟨zA,zA⟩,?_⟩
   have hk':=hk ks[i] (Nv hc)
   generalize ks[i]=k at*
   refine CallQ.ren [(1,2),(2,3)] 120 (O9 tk k hk') hM1 rfl rfl ⟨oS,oW (zf (zh _)),trivial⟩ rfl (.inr rfl) (vv ?_)
   refine zY (fun hd=>?_) (fun hd=>?_)
   ·rw[hd,cond_true]at hx
    exact zU hR rfl y6 (by rw[hx];rfl) (yl _) hM (zH rfl)
   ·rw[hd,cond_false]at hx
    simp only[yt (i:=i)]
    exact hb _ _ ⟨i+1,hc,hx⟩ [(1,1),(2,2),(3,3)] yK zk
  ·have hc:=zJ hi hc
   rw[hc,Ny]at hx
   exact zU hR rfl y6 (by rw[hx];rfl) (yl _) hM (zH rfl)
theorem QN (ks:List Nat)(hks:ks.length<=1000000000000000)(tk:List Bool)(hk:∀k∈ks,k<tk.length):CallOk Tryz.prog 77 [.c (.sl 1 0 ks.length 1),.c (.fn 123 [(2,0)])] [(1,⟨true,ks.map nC,3⟩),iY 2 3 tk.length,iZ 3 tk] (Bo (ks.any fun k=> !tk.getD k false)) []:=by
 have hM:ClM [(1,⟨true,ks.map nC,3⟩),iY 2 3 tk.length,iZ 3 tk]:=zD (by simp only[Nj,zZ (zh _),zZ (xO _)];rfl)
 refine kN 100 func77 Zi ntmps77 fun C hR hP=>?_
 refine vv ?_
 refine CallQ.ren [(1,1),(2,2),(3,3)] 120 (Sb ks hks tk hk) hM rfl rfl ⟨oW (zf (xO _)),oS,oW (zf (zh _)),trivial⟩ rfl (.inr rfl) (vv ?_)
 refine zU hR rfl y6 ?_ (yl _) hM (zH rfl)
 rw[<-yg _ ks 0 zA];rfl
theorem av {H:Hp}{cp:Value}{d:DgL}{bT bC' bM bS:Nat}(k:Ck H cp d bT bC' bM bS)(l:List Nat)(i:Nat)(hi:i<d.bls.length)(hl:d.bls[i].c.ins.length<=1000000):
  CallX H Tryz.prog 121 [I i,.c (.p 1 0),.c (.p 2 0)] [iY 1 3 d.bls.length,iZ 3 (yv d.bls.length l),(2,⟨true,[.v cp],115⟩)] (fun _:Unit=>Bo (kF (xF d.c) l i)) (fun _=>[]) (fun _ _=>True):=by
 have hM:ClM [iY 1 3 d.bls.length,iZ 3 (yv d.bls.length l),(2,⟨true,[.v cp],115⟩)]:=zD (by simp only[Nj,zZ (zh _)];rfl)
 have hg:((yv d.bls.length l).map bC)[i]?=some (bC (l.contains i)):=by rw[tO (by rw[wJ];exact hi),rl hi]
 have hbl:(xF d.c i).length<=1000000:=by
  rw[tv hi]
  unfold qn
  split
  ·simp
  ·refine LJ ?_ hl
   rw[List.length_flatMap]
   generalize d.bls[i].c.ins=q
   induction q with
   |nil=>simp
   |cons s q ih=>
    rw[Nk,List.sum_cons,MG]
    have:(vM (zW d.c) d.ins.length s).length<=1:=by unfold vM;split<;>simp
    omega
 refine kX func121 UH ntmps121 fun C hR hP hH hL=>?_
 have hR:=hR () C hL trivial
 have hrd:kF (xF d.c) l i=(!l.contains i&&(xF d.c i).all fun k=>l.contains k):=rfl
 refine zB 100 ?_
 cases hb:l.contains i with
 |true=>
  rw[hrd,hb]at hR
  rw[hb]at hg
  simp only[go_sem,hg]
  refine⟨⟨zA,zA⟩,?_⟩
  refine CallQ.guard (xs:=[]) (v:= .c (.v (.slice none 0 0))) 110 (fun h=>by cases h) (fun h=>by cases h) (vv ?_)
  refine CallQ.guard (xs:=[]) (v:=Bo true) 110 (fun h=>by cases h) (fun h=>by cases h) (vv ?_)
  exact yM hR hM
 |false=>
  rw[hrd,hb]at hR
  rw[hb]at hg
  simp only[go_sem,hg]
  refine⟨⟨zA,zA⟩,?_⟩
  refine CallQ.hr [(1,130)] 131 (jN k i hi hl) hH ClM.nil rfl rfl trivial rfl (.inl rfl) ?_
  simp only[Mem.ren,Nk,Nm,zf (xO _),V.ren,Cv.ren,rn,Nat.reduceBEq,cond_true,cond_false]
  refine vv ?_
  refine CallQ.ren [(1,130),(2,1),(3,3)] 140 (QN (xF d.c i) zA (yv d.bls.length l) (fun k hk=>by rw[wJ];exact uo d i hi k hk)) (zD (by simp only[Nj,zZ (zh _),zZ (xO _)];rfl)) rfl rfl ⟨⟨_,rfl,oP (xO _)⟩,⟨_,rfl,.inl (by rw[wJ];rfl)⟩,oW (zf (zh _)),trivial⟩ rfl (.inr rfl) (vv ?_)
  refine zU hR rfl y6 ?_ (SubS.sub ⟨oS,oS,oS,trivial⟩) hM (zH rfl)
  have hall:((xF d.c i).any fun k=> !(yv d.bls.length l).getD k false)= !((xF d.c i).all fun k=>l.contains k):=by
   rw[MI,KC]
   rw[MD,Lx,Lx]
   constructor
   ·rintro⟨x,hx,h⟩
    exact⟨x,hx,by rw[rl (uo d i hi x hx)]at h;exact h⟩
   ·rintro⟨x,hx,h⟩
    exact⟨x,hx,by rw[rl (uo d i hi x hx)];exact h⟩
  rw[hall,KC]
  rfl
theorem je {B:Nat->List Nat}{N:Nat}{l:List Nat}{i:Nat}(hi:i<N)(h:∀j,j<i->kF B l j=false)(hr:kF B l i=true):kZ B N l=some i:=by
 unfold kZ
 rw[List.find?_range_eq_some]
 exact⟨hr,Md.2 hi,fun j hj=>by rw[h j hj];rfl⟩
theorem gj {B:Nat->List Nat}{N:Nat}{l:List Nat}(h:∀j,j<N->kF B l j=false):kZ B N l=none:=by
 unfold kZ
 rw[L1]
 intro j hj
 rw[h j (Md.1 hj)];simp
theorem qA {B:Nat->List Nat}{N:Nat}{l:List Nat}(h:kZ B N l=none):∀r,vA B N r l=l
 |0=>rfl
 |r+1=>by rw[vA,h]
theorem wY:∀N:Nat,w9 N [Cv.v (.bool false)]=(yv N []).map bC:=by
 intro N
 have h:(yv N [])=List.replicate N false:=by
  apply Mc
  intro j
  rw[yv,MC,LO]
  by_cases hj:j<N
  ·rw[Mh hj,if_pos hj];rfl
  ·rw[Ml (by simp;omega),if_neg hj];rfl
 rw[h,List.map_replicate]
 induction N with
 |zero=>rfl
 |succ n ih=>rw[w9,ih (by
   apply Mc
   intro j
   rw[yv,MC,LO]
   by_cases hj:j<n
   ·rw[Mh hj,if_pos hj];rfl
   ·rw[Ml (by simp;omega),if_neg hj];rfl),List.replicate_succ];rfl
theorem ga {H:Hp}{cp:Value}{d:DgL}{bT bC' bM bS:Nat}(k:Ck H cp d bT bC' bM bS)(hl:∀b∈d.bls,b.c.ins.length<=1000000):
  CallX H Tryz.prog 51 [.c (.v cp)] [] (fun _:Unit=> .c (.sl 1 0 (wP (xF d.c) d.bls.length).length 1)) (fun _=>[Uw 1 (wP (xF d.c) d.bls.length)]) (fun _ _=>True):=by
 have hn2:=k.n2
 obtain⟨ca,rfl⟩:=vu k.c.p
 refine kX func51 R0 ntmps51 fun C hR hP hH hL=>?_
 have hR:=hR () C hL trivial
 have hpt:=k.c.p.mono hH
 refine zB 100 (vv ?_)
 refine z3 1 191 7 hpt rfl rfl (zB 110 ?_)
 simp only[go_sem,wY]
 refine⟨⟨zA,zA,zA⟩,?_⟩
 refine z3 2 191 15 hpt rfl rfl (zB 120 ?_)
 refine vv ?_
 refine xN 140 1 3 [3] [] rfl (vv ?_)
 generalize hB:xF d.c=B at*
 generalize hN:d.bls.length=N at*
 have hRd:∀l i,i<N->CallX H Tryz.prog 121 [I i,.c (.p 1 0),.c (.p 2 0)] [iY 1 3 N,iZ 3 (yv N l),(2,⟨true,[.v (.pointer ca)],115⟩)] (fun _:Unit=>Bo (kF B l i)) (fun _=>[]) (fun _ _=>True):=fun l i hi=>by
  have:=av k l i zA (hl _ (Nv _))
  rw[hB,hN]at this;exact this
 let Mm:List Nat->Mem:=fun l=>[(1,⟨false,[.v (.pointer ca)],115⟩),(4,⟨false,[.sl 5 0 N 1],86⟩),(5,⟨false,(yv N l).map bC,4⟩),Uw 6 l]
 have hcl:∀l,ClM (Mm l):=fun l=>zD (by simp only[Mm,Nj,zZ (zh _),zZ (xO _)];rfl)
 refine zL (M0:=[]) (α:={x:Nat×List Nat//x.1<=N/\x.2.length<=x.1/\wP B N=vA B N (N-x.1) x.2}) hP (fun x=>[(1,true,.c (.p 1 0)),(3,true,.c (.sl 6 0 x.val.2.length 1)),(4,true,.c (.p 4 0)),(5,true,.c (.fn 121 [(4,0),(1,0)])),(20,true,I N),(21,true,I x.val.1)])
  (fun x=>Mm x.val.2) (fun x=>N-x.val.1) ⟨(0,[]),zA,zd,rfl⟩ (fun _=>hcl _) (fun _=>zP rfl) [(1,100),(4,111),(5,110),(6,140)] ?_ ?_
 ·exact zk
 ·rintro⟨⟨j,l⟩,hj,hlj,hx⟩ J hb
  simp only at hb hj hlj hx⊢
  refine zB 150 ?_
  simp only[go_sem,Mm]
  refine zY (fun hc=>?_) (fun hc=>?_)
  ·have hc:=zI hc
   refine z3 2 191 23 hpt rfl rfl (zB 160 ?_)
   simp only[go_sem,hN]
   refine zL (M0:=[]) (α:={i:Nat//i<=N/\∀q,q<i->kF B l q=false}) hP (fun i=>[(1,true,.c (.p 1 0)),(3,true,.c (.sl 6 0 l.length 1)),(4,true,.c (.p 4 0)),(5,true,.c (.fn 121 [(4,0),(1,0)])),(20,true,I N),(21,true,I j),(28,true,I N),(29,true,I i.val)])
    (fun _=>Mm l) (fun i=>N-i.val) ⟨0,zA,fun q h=>zA⟩ (fun _=>hcl _) (fun _=>zP rfl) [(1,1),(4,4),(5,5),(6,6)] ?_ ?_
   ·exact zk
   ·rintro⟨i,hi,hq⟩ J' hb'
    simp only at hb' hi hq⊢
    refine zB 170 ?_
    simp only[go_sem,Mm]
    refine zY (fun hic=>?_) (fun hic=>?_)
    ·have hic:=zI hic
     refine CallQ.hr [(1,4),(3,5),(2,1)] 180 (hRd l i hic) hH (zD (by simp only[Nj,zZ (zh _)];rfl)) rfl rfl ⟨⟨_,rfl,.inr ⟨rfl,[],rfl⟩⟩,⟨_,rfl,oP (zh _)⟩,⟨_,rfl,.inr ⟨rfl,[],rfl⟩⟩,trivial⟩ rfl (.inr rfl) (vv ?_)
     cases hr:kF B l i with
     |true=>
      have hnx:=je hic hq hr
      refine zB 190 (vv ?_)
      refine Sm.dgW [6] 200 6 zw ?_
      simp only[go_sem,Mem.wo]
      have hlen:(l.map nC).length=l.length:=Ni _
      have hap:List.take l.length (l.map nC)++[nC i]=(l++[i]).map nC:=by rw[Nw zA,ME];rfl
      refine sI [(200,⟨false,[nC i],3⟩),(6,⟨false,l.map nC,3⟩)] 210 (by simp only[go_sem,hlen,hap]<;>rfl) ?_ rfl ⟨⟨rfl,rfl,rfl⟩,⟨rfl,rfl,rfl⟩,trivial⟩ rfl rfl ?_
      ·exact⟨zA,zA,zA⟩
      refine vv ?_
      have hst:((yv N l).map bC).set i (bC true)=(yv N (l++[i])).map bC:=by
       rw[<-m6 hic,Mv]
      simp only[Ni,wJ,hst]
      refine⟨⟨zA,zA⟩,zA,?_⟩
      refine zB 220 ?_
      simp only[go_sem,yt (i:=j)]
      have hx2:wP B N=vA B N (N-(j+1)) (l++[i]):=by
       rw[hx,show N-j=(N-(j+1))+1 by omega,vA,hnx]
      refine hb _ _ ⟨(j+1,l++[i]),hc,by simp only[MB,MG,MW];omega,hx2⟩ [(1,1),(4,4),(5,5),(6,210)] yK ?_
      simp only[MB,MG,MW]
      exact zk
     |false=>
      simp only[go_sem,yt (i:=i)]
      refine hb' _ _ ⟨i+1,hic,fun q h=>?_⟩ [(1,1),(4,4),(5,5),(6,6)] yK zk
      rcases Nat.lt_or_ge q i with h'|h'
      ·exact hq q h'
      ·rw[show q=i by omega];exact hr
    ·have hic:=zJ hi hic
     subst hic
     have hnx:=gj hq
     have hx2:wP B i=vA B i (i-(j+1)) l:=by rw[hx,qA hnx,qA hnx]
     simp only[go_sem,yt (i:=j)]
     refine hb _ _ ⟨(j+1,l),hc,by simp only;omega,hx2⟩ [(1,1),(4,4),(5,5),(6,6)] yK zk
  ·have hc:=zJ hj hc
   subst hc
   rw[LU]at hx
   have hx:wP B j=l:=hx
   rw[hx]at hR
   exact RetQ.ren [(1,6)] hR hP rfl y6 rfl rfl trivial ⟨oV (zf (xO _)),trivial⟩ (zD (by simp only[Nt,Nu,Nx,Nj,zZ (xO _)];rfl)) (zH rfl)
end Go.Proofs.YtbnkiacicnnmkaaGreat.Fx
