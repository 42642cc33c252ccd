/-  -/
import Derived.Test.YtlnpgbnhcondjaaGreatDoorPS
import Derived.Test.YtlnpgbnhcondjaaGreatDoorQR
import Derived.Test.YtlnpgbnhcondjaaGreatDoorSH
import Derived.Test.YtlnpgbnhcondjaaGreatDoorQ2
import Derived.Test.YtlnpgbnhcondjaaGreatDoorU6
namespace Go.Proofs.YtlnpgbnhcondjaaGreatDoor.Fx
open Vg Tf
set_option linter.unusedSimpArgs false
set_option linter.unusedVariables false
set_option maxRecDepth 100000
set_option maxHeartbeats 4000000
def STk (T:List Tk):Prop:=(T.map fun t=>t.s.length).sum≤100000
theorem sum_drop {T:List Tk}{i:Nat}(h:i<T.length):((T.drop i).map fun t=>t.s.length).sum=(T.getD i tk0).s.length+((T.drop (i+1)).map fun t=>t.s.length).sum:=by
 rw[List.drop_eq_getElem_cons h,List.getD_eq_getElem?_getD,List.getElem?_eq_getElem h];rfl
theorem sum_mem:∀(T:List Tk) (i:Nat),(T.getD i tk0).s.length≤(T.map fun t=>t.s.length).sum
 |[],i=>by simp[tk0]
 |t::T,0=>by simp
 |t::T,i+1=>by have:=sum_mem T i;simp only[List.getD_cons_succ,List.map_cons,List.sum_cons];omega
theorem STk.here {T:List Tk}(h:STk T)(p:Ps):(hereP T p).s.length≤100000:=Nat.le_trans (sum_mem T p.at_) h
@[reducible,go_sem] def pD (T:List Tk)(p:Ps)(cs:List Cv)(ty:TypeId):Mem:=[(1,⟨false,psC T p,96⟩),(3,⟨false,cs,ty⟩),(2,⟨true,rowsC (T.map Tk.r),57⟩)]
theorem pD_cl (T:List Tk)(p:Ps){cs:List Cv}(hv:cs.all Cv.isV=true)(ty:TypeId):ClM (pD T p cs ty):=ClM.of (by simp only[List.all_cons,inMV (rowsC_isV _),inMV hv];rfl)
theorem get_sh2 {n m:Nat}{b b' c c':Bk}{r:Mem}(k:Nat):Mem.get ((n,b)::(m,c)::(n,b')::(m,c')::r) k=Mem.get ((n,b)::(m,c)::r) k:=by
 simp only[Mem.get_cons]
 by_cases h1:k=n
 ·simp[h1]
 ·by_cases h2:k=m<;>simp[h1,h2]
theorem sub_sh2 {n m:Nat}{b b' c c':Bk}{r M:Mem}(h:Sub ((n,b)::(m,c)::r) M):Sub ((n,b)::(m,c)::(n,b')::(m,c')::r) M:=fun k x hk=>h k x (by rw[←get_sh2 (b':=b') (c':=c')];exact hk)
theorem clm_sh2 {n m:Nat}{b b' c c':Bk}{r:Mem}(h:ClM ((n,b)::(m,c)::r)):ClM ((n,b)::(m,c)::(n,b')::(m,c')::r):=fun β β' hag k x hk=>
 h β β' (fun k hn=>hag k (by rw[get_sh2];exact hn)) k x (by rw[←get_sh2 (b':=b') (c':=c')];exact hk)
theorem name_ (T:List Tk)(hT:T.length≤100000)(sT:STk T)(p:Ps)(h:p.at_<T.length)(cs:List Cv)(hv:cs.all Cv.isV=true)(off:Nat)(ho:off<cs.length)(ty:TypeId):
  CallOk Tryz.prog 149 [.c (.p 1 0),.c (.p 3 off)] (pD T p cs ty) (Bo (namP T p).1.isSome) ((1,⟨false,psC T (namP T p).2,96⟩)::(match (namP T p).1 with|some s=>[(3,⟨false,cs.set off (sC s),ty⟩)]|none=>[])):=by
 have hM:=pM_cl T p
 have hM2:=pM_cl T (namP T p).2
 have hD:=pD_cl T p hv ty
 have hh:=here_ T hT p h
 have hw:=wrong_ T hT p h
 have hnm:=name_ok (hereP T p).s (by have:=sT.here p;omega)
 have e1:((hereP T p).k==1)=(((hereP T p).k:Int)==1):=(kB _ 1).symm
 unfold namP at hM2⊢
 rw[e1]at hM2⊢
 cases hk:((hereP T p).k:Int)==1 with
 |false=>
  rw[hk]at hM2
  simp only[Bool.false_and,cond_false,Option.isSome_none]at hM2⊢
  have hD2:=pD_cl T (wrnP T p) hv ty
  refine CallOk.mkN 100 Tryz.func149 rfl en149 (by simp[Tryz.ntmps149]) (ClA.of rfl) rfl rfl fun C hR hP=>?_
  refine vv ?_
  refine CallQ.mio 100 hh hM rfl ⟨⟨_,rfl,.inl rfl⟩,⟨_,rfl,.inl rfl⟩,trivial⟩ rfl (.inr rfl) ?_
  simp(maxSteps:=2000000) only[go_sem,hk,bne]
  refine CallQ.guard 110 (fun _=>hnm) (fun h=>by cases h) ?_
  simp(maxSteps:=2000000) only[go_sem,hk,bne]
  refine CallQ.mio 110 hw hM rfl ⟨⟨_,rfl,.inl rfl⟩,⟨_,rfl,.inl rfl⟩,trivial⟩ rfl (.inl rfl) ?_
  refine vv ?_
  exact RetQ.of hR rfl scc rvv (sub_sh (SubS.sub ⟨⟨_,rfl,.inl rfl⟩,⟨_,rfl,.inl rfl⟩,⟨_,rfl,.inl rfl⟩,trivial⟩)) (clm_sh hD2) (ClV.of rfl)
 |true=>
  cases hn:nmOk (hereP T p).s with
  |false=>
   rw[hk,hn]at hM2
   simp only[Bool.and_false,cond_false,Option.isSome_none]at hM2⊢
   have hD2:=pD_cl T (wrnP T p) hv ty
   rw[hn]at hnm
   refine CallOk.mkN 100 Tryz.func149 rfl en149 (by simp[Tryz.ntmps149]) (ClA.of rfl) rfl rfl fun C hR hP=>?_
   refine vv ?_
   refine CallQ.mio 100 hh hM rfl ⟨⟨_,rfl,.inl rfl⟩,⟨_,rfl,.inl rfl⟩,trivial⟩ rfl (.inr rfl) ?_
   simp(maxSteps:=2000000) only[go_sem,hk,bne]
   refine CallQ.guard 110 (fun _=>hnm) (fun h=>by rw[h];rfl) ?_
   simp(maxSteps:=2000000) only[go_sem,hk,bne]
   refine CallQ.mio 100 hw hM rfl ⟨⟨_,rfl,.inl rfl⟩,⟨_,rfl,.inl rfl⟩,trivial⟩ rfl (.inl rfl) ?_
   refine vv ?_
   exact RetQ.of hR rfl scc rvv (sub_sh (SubS.sub ⟨⟨_,rfl,.inl rfl⟩,⟨_,rfl,.inl rfl⟩,⟨_,rfl,.inl rfl⟩,trivial⟩)) (clm_sh hD2) (ClV.of rfl)
  |true=>
   rw[hk,hn]at hM2
   simp only[Bool.and_true,cond_true,Option.isSome_some]at hM2⊢
   rw[hn]at hnm
   have hD2:=pD_cl T (advP p) (setV (i:=off) (v:= .string ⟨(hereP T p).s.toArray⟩) hv) ty
   refine CallOk.mkN 100 Tryz.func149 rfl en149 (by simp[Tryz.ntmps149]) (ClA.of rfl) rfl rfl fun C hR hP=>?_
   refine vv ?_
   refine CallQ.mio 100 hh hM rfl ⟨⟨_,rfl,.inl rfl⟩,⟨_,rfl,.inl rfl⟩,trivial⟩ rfl (.inr rfl) ?_
   simp(maxSteps:=2000000) only[go_sem,hk,bne]
   refine CallQ.guard 110 (fun _=>hnm) (fun h=>by rw[h];rfl) ?_
   simp(maxSteps:=2000000) only[go_sem,hk,bne]
   refine CallQ.mio 120 hh hM rfl ⟨⟨_,rfl,.inl rfl⟩,⟨_,rfl,.inl rfl⟩,trivial⟩ rfl (.inr rfl) ?_
   simp(maxSteps:=2000000) only[go_sem,ho,aP hT h]
   exact⟨ho,RetQ.of hR rfl scc rvv (sub_sh2 (SubS.sub ⟨⟨_,rfl,.inl rfl⟩,⟨_,rfl,.inl rfl⟩,⟨_,rfl,.inl rfl⟩,trivial⟩)) (clm_sh2 hD2) (ClV.of rfl)⟩
theorem integer_ (T:List Tk)(hT:T.length≤100000)(p:Ps)(h:p.at_<T.length)(hN:(hereP T p).k=2→CallOk Tryz.prog 266 [S (hereP T p).s] [] (.tup [Wi (nmbQ (hereP T p).s).1,Wi (nmbQ (hereP T p).s).2]) [])(cs:List Cv)(hv:cs.all Cv.isV=true)(off:Nat)(ho:off<cs.length)(ty:TypeId):
  CallOk Tryz.prog 231 [.c (.p 1 0),.c (.p 3 off)] (pD T p cs ty) (Bo (intP T p).1.isSome) ((1,⟨false,psC T (intP T p).2,96⟩)::(match (intP T p).1 with|some s=>[(3,⟨false,cs.set off (.v (.int .i64 s)),ty⟩)]|none=>[])):=by
 have hM:=pM_cl T p
 have hM2:=pM_cl T (intP T p).2
 have hD:=pD_cl T p hv ty
 have hh:=here_ T hT p h
 have hw:=wrong_ T hT p h
 have e1:((hereP T p).k==2)=(((hereP T p).k:Int)==2):=(kB _ 2).symm
 unfold intP at hM2⊢
 rw[e1]at hM2⊢
 cases hk:((hereP T p).k:Int)==2 with
 |false=>
  rw[hk]at hM2
  simp only[cond_false,Option.isSome_none]at hM2⊢
  have hD2:=pD_cl T (wrnP T p) hv ty
  refine CallOk.mkN 100 Tryz.func231 rfl en231 (by simp[Tryz.ntmps231]) (ClA.of rfl) rfl rfl fun C hR hP=>?_
  refine vv ?_
  refine CallQ.mio 100 hh hM rfl ⟨⟨_,rfl,.inl rfl⟩,⟨_,rfl,.inl rfl⟩,trivial⟩ rfl (.inr rfl) ?_
  simp(maxSteps:=2000000) only[go_sem,hk,bne]
  refine CallQ.mio 110 hw hM rfl ⟨⟨_,rfl,.inl rfl⟩,⟨_,rfl,.inl rfl⟩,trivial⟩ rfl (.inl rfl) ?_
  refine vv ?_
  exact RetQ.of hR rfl scc rvv (sub_sh (SubS.sub ⟨⟨_,rfl,.inl rfl⟩,⟨_,rfl,.inl rfl⟩,⟨_,rfl,.inl rfl⟩,trivial⟩)) (clm_sh hD2) (ClV.of rfl)
 |true=>
  rw[hk]at hM2
  simp only[cond_true,Option.isSome_some]at hM2⊢
  have hN:=hN (by have:=eq_of_beq hk;omega)
  have hD2:=pD_cl T (advP p) (setV (i:=off) (v:= .int .i64 (nmbQ (hereP T p).s).1) hv) ty
  refine CallOk.mkN 100 Tryz.func231 rfl en231 (by simp[Tryz.ntmps231]) (ClA.of rfl) rfl rfl fun C hR hP=>?_
  refine vv ?_
  refine CallQ.mio 100 hh hM rfl ⟨⟨_,rfl,.inl rfl⟩,⟨_,rfl,.inl rfl⟩,trivial⟩ rfl (.inr rfl) ?_
  simp(maxSteps:=2000000) only[go_sem,hk,bne]
  refine CallQ.mio 120 hh hM rfl ⟨⟨_,rfl,.inl rfl⟩,⟨_,rfl,.inl rfl⟩,trivial⟩ rfl (.inr rfl) ?_
  simp(maxSteps:=2000000) only[go_sem,ho]
  refine CallQ.pure 130 hN rfl ?_
  simp(maxSteps:=2000000) only[go_sem,ho,aP hT h]
  exact⟨ho,RetQ.of hR rfl scc rvv (sub_sh2 (SubS.sub ⟨⟨_,rfl,.inl rfl⟩,⟨_,rfl,.inl rfl⟩,⟨_,rfl,.inl rfl⟩,trivial⟩)) (clm_sh2 hD2) (ClV.of rfl)⟩
end Go.Proofs.YtlnpgbnhcondjaaGreatDoor.Fx
namespace Go.Proofs.YtlnpgbnhcondjaaGreatDoor.Fx
open Vg Tf
set_option linter.unusedSimpArgs false
set_option linter.unusedVariables false
set_option maxRecDepth 100000
set_option maxHeartbeats 4000000
def rdR (f:List UInt8):Nat×Nat×Bool:=match readF f with
 |none=>(0,0,false)
 |some (i,n)=>(i,n,true)
theorem rd5 (nm:List UInt8)(n:Nat):(match Option.map (fun i=>(i,n)) (ixU nm symT 0)with
  |none=>(0,0,false)
  |some (i,n)=>(i,n,true))=bif [109]==nm then(0,n,true)else bif [107,103]==nm then(1,n,true)else bif [115]==nm then(2,n,true)else bif [65]==nm then(3,n,true)else bif [75]==nm then(4,n,true)else((0,0,false):Nat×Nat×Bool):=by
 unfold symT
 simp only[ixU]
 by_cases h0:[109]=nm
 ·subst h0;rfl
 by_cases h1:[107,103]=nm
 ·subst h1;rfl
 by_cases h2:[115]=nm
 ·subst h2;rfl
 by_cases h3:[65]=nm
 ·subst h3;rfl
 by_cases h4:[75]=nm
 ·subst h4;rfl
 rw[beq_eq_false_iff_ne.2 h0,beq_eq_false_iff_ne.2 h1,beq_eq_false_iff_ne.2 h2,beq_eq_false_iff_ne.2 h3,beq_eq_false_iff_ne.2 h4]
 simp only[if_neg h0,if_neg h1,if_neg h2,if_neg h3,if_neg h4]
 rfl
theorem sg0:(symT.map cs1)[0]?=some (cs1 [109]):=rfl
theorem sg1:(symT.map cs1)[1]?=some (cs1 [107,103]):=rfl
theorem sg2:(symT.map cs1)[2]?=some (cs1 [115]):=rfl
theorem sg3:(symT.map cs1)[3]?=some (cs1 [65]):=rfl
theorem sg4:(symT.map cs1)[4]?=some (cs1 [75]):=rfl
theorem read_ (f:List UInt8)(hf:f.length≤1000000):CallOk Tryz.prog 281 [S f] [] (.tup [Wi (rdR f).1,Wi (rdR f).2.1,Wb1 (rdR f).2.2]) []:=by
 refine CallOk.mkN 100 Tryz.func281 rfl en281 (by simp[Tryz.ntmps281]) (ClA.of rfl) rfl rfl fun C hR hP=>?_
 refine vv ?_
 refine CallQ.pure 110 (sCut f 94 hf) rfl ?_
 have hrd:rdR f=match readF f with
  |none=>(0,0,false)
  |some (i,n)=>(i,n,true):=rfl
 unfold readF at hrd
 generalize cutB 94 f=q at*
 obtain⟨nm,d,b⟩:=q
 simp only at hrd⊢
 refine vv ?_
 cases b with
 |true=>
  refine vv ?_
  match d,hrd with
  |[],hrd=>
   rw[hrd]at hR
   refine vv ?_
   exact RetQ.of hR rfl (vv trivial) rvr (Sub.nil _) ClM.nil (ClV.of rfl)
  |x::y::d,hrd=>
   have h1:(((d.length+1+1:Nat):Int)!=1)=true:=by simp;omega
   rw[hrd]at hR
   simp(maxSteps:=2000000) only[go_sem,h1]
   exact RetQ.of hR rfl (vv trivial) rvr (Sub.nil _) ClM.nil (ClV.of rfl)
  |[x],hrd=>
   simp only[if_true]at hrd
   simp(maxSteps:=2000000) only[go_sem,show([x]:List UInt8).getD 0 0=x from rfl]
   by_cases hx:50≤x.toNat∧x.toNat≤57
   ·have h1:decide ((x.toNat:Int)<50)=false:=fal_of (by omega)
    have h2:decide (57<(x.toNat:Int))=false:=fal_of (by omega)
    have w1:IntKind.u8.wrap ((x.toNat:Int)-48)=((x.toNat-48:Nat):Int):=by rw[IntKind.wrap_u8];omega
    have w2:IntKind.i64.wrap ((x.toNat-48:Nat):Int)=((x.toNat-48:Nat):Int):=by rw[w64 (by omega) (by omega)]
    rw[if_pos hx]at hrd
    generalize x.toNat-48=n at*
    simp(maxSteps:=2000000) only[go_sem,h1,h2,w1,w2]
    refine CallQ.pure 120 symbols_ rfl ?_
    refine vv ?_
    refine Sm.unroll 6 (Sm.go 130 ?_)
    simp(maxSteps:=2000000) only[go_sem,sg0,sg1,sg2,sg3,sg4]
    rw[rd5]at hrd
    refine mtch (fun hq=>?_) (fun hq=>?_)
    ·rw[hq,cond_true]at hrd
     rw[hrd]at hR
     exact RetQ.of hR rfl (vv trivial) rvr (Sub.nil _) ClM.nil (ClV.of rfl)
    rw[hq,cond_false]at hrd
    refine mtch (fun hq=>?_) (fun hq=>?_)
    ·rw[hq,cond_true]at hrd
     rw[hrd]at hR
     exact RetQ.of hR rfl (vv trivial) rvr (Sub.nil _) ClM.nil (ClV.of rfl)
    rw[hq,cond_false]at hrd
    refine mtch (fun hq=>?_) (fun hq=>?_)
    ·rw[hq,cond_true]at hrd
     rw[hrd]at hR
     exact RetQ.of hR rfl (vv trivial) rvr (Sub.nil _) ClM.nil (ClV.of rfl)
    rw[hq,cond_false]at hrd
    refine mtch (fun hq=>?_) (fun hq=>?_)
    ·rw[hq,cond_true]at hrd
     rw[hrd]at hR
     exact RetQ.of hR rfl (vv trivial) rvr (Sub.nil _) ClM.nil (ClV.of rfl)
    rw[hq,cond_false]at hrd
    refine mtch (fun hq=>?_) (fun hq=>?_)
    ·rw[hq,cond_true]at hrd
     rw[hrd]at hR
     exact RetQ.of hR rfl (vv trivial) rvr (Sub.nil _) ClM.nil (ClV.of rfl)
    rw[hq,cond_false]at hrd
    rw[hrd]at hR
    exact RetQ.of hR rfl (vv trivial) rvr (Sub.nil _) ClM.nil (ClV.of rfl)
   ·rw[if_neg hx]at hrd
    rw[hrd]at hR
    have h1:(bif decide ((x.toNat:Int)<50)then true else decide (57<(x.toNat:Int)))=true:=by
     by_cases h:(x.toNat:Int)<50
     ·simp[h]
     ·simp[h];omega
    simp(maxSteps:=2000000) only[go_sem,h1]
    exact RetQ.of hR rfl (vv trivial) rvr (Sub.nil _) ClM.nil (ClV.of rfl)
 |false=>
  simp only[Bool.false_eq_true,if_false]at hrd
  refine vv ?_
  refine CallQ.pure 120 symbols_ rfl ?_
  refine vv ?_
  refine Sm.unroll 6 (Sm.go 130 ?_)
  simp(maxSteps:=2000000) only[go_sem,sg0,sg1,sg2,sg3,sg4]
  rw[rd5]at hrd
  refine mtch (fun hq=>?_) (fun hq=>?_)
  ·rw[hq,cond_true]at hrd
   rw[hrd]at hR
   exact RetQ.of hR rfl (vv trivial) rvr (Sub.nil _) ClM.nil (ClV.of rfl)
  rw[hq,cond_false]at hrd
  refine mtch (fun hq=>?_) (fun hq=>?_)
  ·rw[hq,cond_true]at hrd
   rw[hrd]at hR
   exact RetQ.of hR rfl (vv trivial) rvr (Sub.nil _) ClM.nil (ClV.of rfl)
  rw[hq,cond_false]at hrd
  refine mtch (fun hq=>?_) (fun hq=>?_)
  ·rw[hq,cond_true]at hrd
   rw[hrd]at hR
   exact RetQ.of hR rfl (vv trivial) rvr (Sub.nil _) ClM.nil (ClV.of rfl)
  rw[hq,cond_false]at hrd
  refine mtch (fun hq=>?_) (fun hq=>?_)
  ·rw[hq,cond_true]at hrd
   rw[hrd]at hR
   exact RetQ.of hR rfl (vv trivial) rvr (Sub.nil _) ClM.nil (ClV.of rfl)
  rw[hq,cond_false]at hrd
  refine mtch (fun hq=>?_) (fun hq=>?_)
  ·rw[hq,cond_true]at hrd
   rw[hrd]at hR
   exact RetQ.of hR rfl (vv trivial) rvr (Sub.nil _) ClM.nil (ClV.of rfl)
  rw[hq,cond_false]at hrd
  rw[hrd]at hR
  exact RetQ.of hR rfl (vv trivial) rvr (Sub.nil _) ClM.nil (ClV.of rfl)
end Go.Proofs.YtlnpgbnhcondjaaGreatDoor.Fx
namespace Go.Proofs.YtlnpgbnhcondjaaGreatDoor.Fx
open Vg Tf
set_option linter.unusedSimpArgs false
set_option linter.unusedVariables false
set_option maxRecDepth 100000
set_option maxHeartbeats 4000000
end Go.Proofs.YtlnpgbnhcondjaaGreatDoor.Fx
namespace Go.Proofs.YtlnpgbnhcondjaaGreatDoor.Fx
open Vg Tf
set_option linter.unusedSimpArgs false
set_option linter.unusedVariables false
set_option maxRecDepth 100000
set_option maxHeartbeats 4000000
theorem parse_named (l:List UInt8)(hl:l.length≤40)(hn:(nmd l).2=true):CallOk Tryz.prog 267 [S l] [] (.tup [Wuu (nmd l).1,Wi 0]) []:=by
 have h1:decide ((40:Int)<l.length)=false:=fal_of (by omega)
 refine CallOk.mkN 100 Tryz.func267 rfl en267 (by simp[Tryz.ntmps267]) (ClA.of rfl) rfl rfl fun C hR hP=>?_
 simp(maxSteps:=2000000) only[go_sem,h1]
 refine CallQ.pure 110 (named_ l) rfl ?_
 refine vv ?_
 rw[hn]
 refine vv ?_
 exact RetQ.of hR rfl (vv trivial) rvr (Sub.nil _) ClM.nil (ClV.of rfl)
def m2:Un:=⟨2,0,0,0,0⟩
def qt:Un:=⟨-1,1, -2,0,0⟩
end Go.Proofs.YtlnpgbnhcondjaaGreatDoor.Fx
