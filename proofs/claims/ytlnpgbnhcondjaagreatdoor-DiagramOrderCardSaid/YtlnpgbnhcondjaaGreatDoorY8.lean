/-  -/
import Derived.Test.YtlnpgbnhcondjaaGreatDoorTf
import Derived.Test.YtlnpgbnhcondjaaGreatDoorY5
import Derived.Shelf.LaysC
import Derived.Shelf.Strconv.AtoiAll
import Derived.Shelf.Strconv.ErrVarAll
import Derived.Test.YtlnpgbnhcondjaaGreatDoorProg
namespace Go.Proofs.YtlnpgbnhcondjaaGreatDoor.Fx
open Vg Tf
set_option linter.unusedSimpArgs false
set_option linter.unusedVariables false
set_option maxRecDepth 100000
set_option maxHeartbeats 4000000
theorem integer7_ (T:List Tk)(hT:T.length≤100000)(p:Ps)(h:p.at_<T.length)(hN:(hereP T p).k=2→CallOk Tryz.prog 266 [S (hereP T p).s] [] (.tup [Wi (nmbQ (hereP T p).s).1,Wi (nmbQ (hereP T p).s).2]) [])(cs:List Cv)(hv:cs.all Cv.isV=true)(off:Nat)(ho:off<cs.length)(ty:TypeId):
  CallOk Tryz.prog 231 [.c (.p 1 0),.c (.p 7 off)] [(1,⟨false,psC T p,96⟩),(7,⟨false,cs,ty⟩),(2,⟨true,rowsC (T.map Tk.r),57⟩)] (Bo (intP T p).1.isSome) ((1,⟨false,psC T (intP T p).2,96⟩)::(match (intP T p).1 with|some s=>[(7,⟨false,cs.set off (.v (.int .i64 s)),ty⟩)]|none=>[])):=by
 have h0:=(integer_ T hT p h hN cs hv off ho ty).ren (rn_inj [(3,7),(1,1),(2,2)] rfl)
 have hr1:Mem.ren (rn [(3,7),(1,1),(2,2)]) (pD T p cs ty)=[(1,⟨false,psC T p,96⟩),(7,⟨false,cs,ty⟩),(2,⟨true,rowsC (T.map Tk.r),57⟩)]:=by
  simp only[pD,Mem.ren,List.map_cons,List.map_nil,renV hv,renV (rowsC_isV _)];rfl
 rw[hr1]at h0
 cases hi:(intP T p).1 with
 |none=>rw[hi]at h0;exact h0
 |some s=>
  rw[hi]at h0
  simp only[Mem.ren,List.map_cons,List.map_nil,renV (setV hv)]at h0
  exact h0
theorem _root_.Go.Proofs.YtlnpgbnhcondjaaGreatDoor.Vg.Rel.eqc2 {S:Bs}{w0 w:World}{β:Vl}{M:Mem}(h:Rel S w0 β M w){n:Nat}{b:Bk}{cs:List Cv}(hb:M.get n=some b)(hg:∀β',Agree M β β'→cs.map (Cv.g β')=b.cells.map (Cv.g β')):Rel S w0 β ((n,⟨b.ro,cs,b.elem⟩)::M) w:=by
 have hl:cs.length=b.cells.length:=by have:=congrArg List.length (hg β (Agree.refl _ _));simpa using this
 have hs:∀k,(Mem.get ((n,⟨b.ro,cs,b.elem⟩)::M) k).isSome=(M.get k).isSome:=fun k=>by
  rw[Mem.get_cons]
  split
  ·rename_i hk;subst hk;rw[hb];rfl
  ·rfl
 have hq:∀k c,Mem.get ((n,⟨b.ro,cs,b.elem⟩)::M) k=some c→∃c0,M.get k=some c0∧c.ro=c0.ro∧c.elem=c0.elem∧c.cells.length=c0.cells.length∧∀β',Agree M β β'→c.cells.map (Cv.g β')=c0.cells.map (Cv.g β'):=fun k c hc=>by
  rw[Mem.get_cons]at hc
  split at hc
  ·rename_i hk;subst hk;cases hc;exact⟨b,hb,rfl,rfl,hl,hg⟩
  ·exact⟨c,hc,rfl,rfl,rfl,fun _ _=>rfl⟩
 refine⟨h.fr,⟨fun β' hag k c hc=>?_,fun k c hc hu=>?_,fun k m c c' hc hc' hne hr hv hu1 hu2=>?_⟩,fun k c hc hr hu hS=>?_,fun k l hk=>?_⟩
 ·obtain⟨c0,q1,q2,q3,q4,q5⟩:=hq k c hc
  have hag':Agree M β β':=fun j hj=>hag j (by rw[hs];exact hj)
  have h0:=h.mem.ok β' hag' k c0 q1
  unfold BkOk at h0⊢
  rw[q2,q3,q5 β' hag',q4]
  split at h0
  ·rename_i hh
   rw[if_pos hh]
   exact⟨List.length_eq_zero_iff.1 (by rw[q4,h0.1];rfl),h0.2⟩
  ·rename_i hh
   rw[if_neg hh];exact h0
 ·obtain⟨c0,q1,_⟩:=hq k c hc
  exact h.mem.there k c0 q1 hu
 ·obtain⟨c0,q1,q2,q3,q4,q5⟩:=hq k c hc
  obtain⟨d0,r1,r2,r3,r4,r5⟩:=hq m c' hc'
  refine h.mem.apart k m c0 d0 q1 r1 hne (by rw[←q2];exact hr) ?_ hu1 hu2
  rcases hv with hv|hv
  ·exact .inl (by rw[←r2];exact hv)
  ·exact .inr fun he=>hv (List.length_eq_zero_iff.1 (by rw[r4,he];rfl))
 ·obtain⟨c0,q1,q2,_⟩:=hq k c hc
  exact h.own k c0 q1 (by rw[←q2];exact hr) hu hS
 ·have:=h.pin k l hk
  exact⟨by rw[hs];exact this.1,this.2⟩
theorem _root_.Go.Proofs.YtlnpgbnhcondjaaGreatDoor.Vg.Sm.nilCell {P:Program}{nt:Nat}{C:Cx}{todo:List It}{e:Env}{M:Mem}(nm esz:Nat)(el:TypeId)(n i:Nat){b:Bk}(hn:M.get nm=none)(hb:M.get n=some b)(hi:b.cells[i]?=some (.v (.slice none 0 0)))
  (h:Sm P nt C todo e ((n,⟨b.ro,b.cells.set i (.sl nm 0 0 esz),b.elem⟩)::(nm,⟨false,[],el⟩)::M)):Sm P nt C todo e M:=fun β a w h1 h2 h3 h4=>by
 have r0:=h1.nil nm hn el
 have hne:¬n=nm:=fun hh=>by subst hh;rw[hn]at hb;cases hb
 have hbm:Mem.get ((nm,(⟨false,[],el⟩:Bk))::M) n=some b:=by rw[Mem.get_cons,if_neg hne];exact hb
 have r:=r0.eqc2 (cs:=b.cells.set i (.sl nm 0 0 esz)) hbm (fun β' hag=>by
  have hnu:=hag nm (by rw[Mem.get_cons,if_pos rfl];rfl)
  have e1:(Cv.sl nm 0 0 esz).g β'= .slice none 0 0:=by simp[Cv.g,hnu,Loc.emp]
  rw[List.map_set,e1]
  refine List.ext_getElem? fun k=>?_
  rw[List.getElem?_set]
  split
  ·rename_i hk
   subst hk
   have hlt:=(List.getElem?_eq_some_iff.1 hi).1
   rw[if_pos (by simpa using hlt),List.getElem?_map,hi];rfl
  ·rfl)
 refine h _ a w r ((h2.nil (b:=⟨false,[],el⟩) hn).on fun k hk=>?_) h3 h4
 refine⟨?_,rfl⟩
 rw[Mem.get_cons]
 split
 ·rfl
 ·exact hk
theorem mid_get (c0 c1:List Cv)(x:Cv):(c0++x::c1)[c0.length]?=some x:=by rw[List.getElem?_append_right (Nat.le_refl _),Nat.sub_self];rfl
theorem mid_set (c0 c1:List Cv)(x y:Cv):(c0++x::c1).set c0.length y=c0++y::c1:=by rw[List.set_append_right _ _ (Nat.le_refl _),Nat.sub_self];rfl
@[reducible,go_sem] def pL (T:List Tk)(p:Ps)(c0 c1:List Cv)(ty:TypeId)(l:List Int):Mem:=[(1,⟨false,psC T p,96⟩),(3,⟨false,c0++ .sl 6 0 l.length 1::c1,ty⟩),(2,⟨true,rowsC (T.map Tk.r),57⟩),(6,⟨false,l.map iC,3⟩)]
theorem v_iC2 (l:List Int):(l.map iC).all Cv.isV=true:=by simp[Cv.isV]
theorem pL_cl (T:List Tk)(p:Ps){c0 c1:List Cv}(v0:c0.all Cv.isV=true)(v1:c1.all Cv.isV=true)(ty:TypeId)(l:List Int):ClM (pL T p c0 c1 ty l):=ClM.of (by simp only[List.all_cons,List.all_append,inMV (rowsC_isV _),inMV v0,inMV v1,inMV (v_iC2 _)];rfl)
theorem ren_mid {ρ:Nat→Nat}{r:Bool}{c0 c1:List Cv}{x:Cv}{t:TypeId}(v0:c0.all Cv.isV=true)(v1:c1.all Cv.isV=true):(⟨r,c0++x::c1,t⟩:Bk).ren ρ=⟨r,c0++x.ren ρ::c1,t⟩:=by
 have h0:=renV (ρ:=ρ) (r:=r) (t:=t) v0
 have h1:=renV (ρ:=ρ) (r:=r) (t:=t) v1
 simp only[Bk.ren,Bk.mk.injEq,true_and,and_true]at h0 h1⊢
 rw[List.map_append,List.map_cons,h0,h1]
theorem get_sh3 {b1 b3 b6 b1' b3' b2:Bk}(k:Nat):Mem.get [(1,b1),(3,b3),(6,b6),(1,b1'),(3,b3'),(2,b2)] k=Mem.get [(1,b1),(3,b3),(2,b2),(6,b6)] k:=by
 simp only[Mem.get_cons]
 by_cases h1:k=1
 ·simp[h1]
 ·by_cases h2:k=3
  ·simp[h2]
  ·by_cases h3:k=6
   ·simp[h3]
   ·simp[h1,h2,h3]
theorem clm_sh3 {b1 b3 b6 b1' b3' b2:Bk}(h:ClM [(1,b1),(3,b3),(2,b2),(6,b6)]):ClM [(1,b1),(3,b3),(6,b6),(1,b1'),(3,b3'),(2,b2)]:=fun β β' hag k x hk=>
 h β β' (fun k hn=>hag k (by rw[get_sh3];exact hn)) k x (by rw[←get_sh3 (b1':=b1') (b3':=b3')];exact hk)
theorem integers_ {H:Hp}(T:List Tk)(hT:T.length≤40000)(g:GTk T)(p:Ps)(h:p.at_<T.length)(hN:∀q:Ps,(hereP T q).k=2→CallOk Tryz.prog 266 [S (hereP T q).s] [] (.tup [Wi (nmbQ (hereP T q).s).1,Wi (nmbQ (hereP T q).s).2]) [])(a b:Str)(c0 c1:List Cv)(v0:c0.all Cv.isV=true)(v1:c1.all Cv.isV=true)(ty:TypeId):
  CallX H Tryz.prog 234 [.c (.p 1 0),.c (.p 3 c0.length),S a,S b] (pD T p (c0++ .v (.slice none 0 0)::c1) ty) (fun _:List Int=>Bo (itsP T a b 40000 [] p).1.isSome) (fun x=>[(1,⟨false,psC T (itsP T a b 40000 [] p).2,96⟩),(3,⟨false,c0++ .sl 6 0 x.length 1::c1,ty⟩),(6,⟨false,x.map iC,3⟩)]) (fun x _=>∀l,(itsP T a b 40000 [] p).1=some l→x=l):=by
 have hcl7:∀q,ClM [(1,⟨false,psC T q,96⟩),(7,⟨false,[iC 0],3⟩),(2,⟨true,rowsC (T.map Tk.r),57⟩)]:=fun q=>ClM.of (by simp only[List.all_cons,inMV (rowsC_isV _)];rfl)
 have v_tk:∀T:List Tk,(rowsC (T.map Tk.r)).all Cv.isV=true:=fun _=>rowsC_isV _
 refine CallX.mkS Tryz.func234 rfl en234 (by simp[Tryz.ntmps234]) (ClA.of rfl) (fun _=>rfl) (fun _=>rfl) fun C hR hP hH hL=>?_
 refine Sm.go 100 ?_
 refine vv ?_
 refine Sm.nilCell 140 1 3 3 c0.length rfl rfl (mid_get _ _ _) ?_
 rw[mid_set]
 refine Sm.loopM (M0:=pD T p (c0++ .v (.slice none 0 0)::c1) ty) (α:={x:List Int×Ps//x.2.at_<T.length∧x.1.length≤x.2.at_∧∃f,T.length≤x.2.at_+f∧itsP T a b f x.1 x.2=itsP T a b 40000 [] p}) hP
  (fun x=>[(0,true,.c (.p 1 0)),(1,true,.c (.p 3 c0.length)),(2,true,S a),(3,true,S b)])
  (fun x=>pL T x.val.2 c0 c1 ty x.val.1) (fun x=>T.length-x.val.2.at_) ⟨([],p),h,by simp,40000,by omega,rfl⟩ (fun x=>pL_cl T _ v0 v1 ty _) (fun _=>ClE.of rfl) [(1,1),(2,2),(3,3),(6,140)] ?_ ?_
 ·exact⟨rfl,⟨⟨rfl,rfl⟩,⟨rfl,rfl⟩,⟨rfl,rfl⟩,trivial⟩,⟨rfl,rfl,rfl,rfl,trivial⟩,⟨oR,.inr ⟨_,rfl,.inl (ren_mid v0 v1)⟩,oV (renV (v_tk _)),oR,trivial⟩⟩
 ·rintro⟨⟨l,q⟩,hq,hll,f,hf1,hf2⟩ J hb
  simp only at hb hq hll hf1 hf2⊢
  obtain⟨f,rfl⟩:∃k,f=k+1:=⟨f-1,by omega⟩
  rw[itsP]at hf2
  have hMq:=pM_cl T q
  have hia:=is_ T (by omega) q hq a
  have hib:=is_ T (by omega) q hq b
  by_cases hl:l=[]
  ·have h0:decide ((0:Int)<(l.length:Int))=false:=by rw[hl];rfl
   have e0:(!l.isEmpty)=false:=by rw[hl];rfl
   rw[e0,Bool.false_and,cond_false]at hf2
   refine Sm.go 7 ?_
   simp(maxSteps:=2000000) only[go_sem,mid_get,h0]
   refine CallQ.guard (v:=Bo false) (xs:=[]) 20 (fun h=>by cases h) (fun h=>by cases h) ?_
   simp(maxSteps:=2000000) only[go_sem,mid_get,h0]
   refine CallQ.guard (v:=Bo false) (xs:=[]) 30 (fun h=>by cases h) (fun h=>by cases h) ?_
   simp(maxSteps:=2000000) only[go_sem,mid_get,h0]
   have hi:=integer7_ T (by omega) q hq (hN q) [iC 0] rfl 0 (by decide) 3
   have hon:=int_on g hq
   generalize intP T q=r at hi hon hf2
   obtain⟨o,q'⟩:=r
   cases o with
   |none=>
    have hf2:(none,q')=itsP T a b 40000 [] p:=hf2
    simp only[Option.isSome_none]at hi
    refine CallQ.mi 40 hi (hcl7 q) ⟨oS,oS,oS,trivial⟩ ?_
    refine vv ?_
    have hR:=hR l C hL (fun l' hl'=>by rw[←hf2]at hl';cases hl')
    rw[←hf2]at hR
    exact RetQ.of hR rfl scc rvv (fun k x hk=>(SubS.sub ⟨oS,oS,oS,oS,trivial⟩:Sub (pL T q' c0 c1 ty l) _) k x (by rw[←get_sh3];exact hk)) (clm_sh3 (pL_cl T q' v0 v1 ty l)) (ClV.of rfl)
   |some n=>
    have hf2:itsP T a b f (l++[n]) q'=itsP T a b 40000 [] p:=hf2
    simp only[Option.isSome_some]at hi
    refine CallQ.mi 40 hi (hcl7 q) ⟨oS,oS,oS,trivial⟩ ?_
    refine vv ?_
    refine Sm.dgW [6] 50 7 mix ?_
    simp(maxSteps:=2000000) only[go_sem,Mem.wo,mid_get]
    have hlen:(l.map iC).length=l.length:=List.length_map _
    have hap:List.take l.length (l.map iC)++[iC n]=(l++[n]).map iC:=by rw[List.take_of_length_le (by omega),List.map_append];rfl
    refine DOpQ.opy [(50,⟨false,[iC n],3⟩),(6,⟨false,l.map iC,3⟩)] 60 (by simp(maxSteps:=2000000) only[go_sem,hlen,hap]<;>rfl) ?_ rfl ⟨⟨rfl,rfl,rfl⟩,⟨rfl,rfl,rfl⟩,trivial⟩ rfl rfl ?_
    ·exact⟨by omega,by omega,by omega⟩
    simp(maxSteps:=2000000) only[go_sem,mid_get,mid_set]
    have hgo:q.at_<q'.at_:=hon.2 rfl
    have hq2:q'.at_<T.length:=hon.1.2
    have hL:(l++[n]).length=l.length+1:=by rw[List.length_append];rfl
    refine⟨by rw[List.length_append,List.length_cons];omega,?_⟩
    refine hb _ _ ⟨(l++[n],q'),hq2,by simp only[hL];omega,f,by simp only;omega,hf2⟩ [(1,1),(2,2),(3,3),(6,60)] (by simp only;omega) ?_
    exact⟨rfl,⟨⟨rfl,rfl⟩,⟨rfl,rfl⟩,⟨rfl,rfl⟩,trivial⟩,⟨rfl,rfl,rfl,rfl,trivial⟩,⟨oR,.inr ⟨_,rfl,.inl (by rw[ren_mid v0 v1,hL];rfl)⟩,oV (renV (v_tk _)),oV (renV (v_iC2 _)),trivial⟩⟩
  ·have h0:decide ((0:Int)<(l.length:Int))=true:=tru_of (by have:=List.length_pos_iff.2 hl;omega)
   have e0:(!l.isEmpty)=true:=by cases l with|nil=>exact absurd rfl hl|cons=>rfl
   rw[e0,Bool.true_and]at hf2
   cases ha:isP T a q with
   |true=>
    rw[ha]at hf2 hia
    rw[Bool.true_or,cond_true]at hf2
    refine Sm.go 7 ?_
    simp(maxSteps:=2000000) only[go_sem,mid_get,h0]
    refine CallQ.mi 20 hia hMq ⟨oS,oS,trivial⟩ ?_
    simp(maxSteps:=2000000) only[go_sem,mid_get,h0]
    refine CallQ.guard (v:=Bo false) (xs:=[]) 30 (fun h=>by cases h) (fun h=>by cases h) ?_
    simp(maxSteps:=2000000) only[go_sem,mid_get,h0]
    have hR:=hR l C hL (fun l' hl'=>by rw[←hf2]at hl';cases hl';rfl)
    rw[←hf2]at hR
    exact RetQ.of hR rfl scc rvv (fun k x hk=>(SubS.sub ⟨oS,oS,oS,oS,trivial⟩:Sub (pL T q c0 c1 ty l) _) k x (by rw[←get_sh3];exact hk)) (clm_sh3 (pL_cl T q v0 v1 ty l)) (ClV.of rfl)
   |false=>
    rw[ha]at hf2 hia
    rw[Bool.false_or]at hf2
    cases hbb:isP T b q with
    |true=>
     rw[hbb]at hf2 hib
     rw[cond_true]at hf2
     refine Sm.go 7 ?_
     simp(maxSteps:=2000000) only[go_sem,mid_get,h0]
     refine CallQ.mi 20 hia hMq ⟨oS,oS,trivial⟩ ?_
     simp(maxSteps:=2000000) only[go_sem,mid_get,h0]
     refine CallQ.mi 30 hib hMq ⟨oS,oS,trivial⟩ ?_
     simp(maxSteps:=2000000) only[go_sem,mid_get,h0]
     have hR:=hR l C hL (fun l' hl'=>by rw[←hf2]at hl';cases hl';rfl)
     rw[←hf2]at hR
     exact RetQ.of hR rfl scc rvv (fun k x hk=>(SubS.sub ⟨oS,oS,oS,oS,trivial⟩:Sub (pL T q c0 c1 ty l) _) k x (by rw[←get_sh3];exact hk)) (clm_sh3 (pL_cl T q v0 v1 ty l)) (ClV.of rfl)
    |false=>
     rw[hbb]at hf2 hib
     rw[cond_false]at hf2
     refine Sm.go 7 ?_
     simp(maxSteps:=2000000) only[go_sem,mid_get,h0]
     refine CallQ.mi 20 hia hMq ⟨oS,oS,trivial⟩ ?_
     simp(maxSteps:=2000000) only[go_sem,mid_get,h0]
     refine CallQ.mi 30 hib hMq ⟨oS,oS,trivial⟩ ?_
     simp(maxSteps:=2000000) only[go_sem,mid_get,h0]
     have hi:=integer7_ T (by omega) q hq (hN q) [iC 0] rfl 0 (by decide) 3
     have hon:=int_on g hq
     generalize intP T q=r at hi hon hf2
     obtain⟨o,q'⟩:=r
     cases o with
     |none=>
      have hf2:(none,q')=itsP T a b 40000 [] p:=hf2
      simp only[Option.isSome_none]at hi
      refine CallQ.mi 40 hi (hcl7 q) ⟨oS,oS,oS,trivial⟩ ?_
      refine vv ?_
      have hR:=hR l C hL (fun l' hl'=>by rw[←hf2]at hl';cases hl')
      rw[←hf2]at hR
      exact RetQ.of hR rfl scc rvv (fun k x hk=>(SubS.sub ⟨oS,oS,oS,oS,trivial⟩:Sub (pL T q' c0 c1 ty l) _) k x (by rw[←get_sh3];exact hk)) (clm_sh3 (pL_cl T q' v0 v1 ty l)) (ClV.of rfl)
     |some n=>
      have hf2:itsP T a b f (l++[n]) q'=itsP T a b 40000 [] p:=hf2
      simp only[Option.isSome_some]at hi
      refine CallQ.mi 40 hi (hcl7 q) ⟨oS,oS,oS,trivial⟩ ?_
      refine vv ?_
      refine Sm.dgW [6] 50 7 mix ?_
      simp(maxSteps:=2000000) only[go_sem,Mem.wo,mid_get]
      have hlen:(l.map iC).length=l.length:=List.length_map _
      have hap:List.take l.length (l.map iC)++[iC n]=(l++[n]).map iC:=by rw[List.take_of_length_le (by omega),List.map_append];rfl
      refine DOpQ.opy [(50,⟨false,[iC n],3⟩),(6,⟨false,l.map iC,3⟩)] 60 (by simp(maxSteps:=2000000) only[go_sem,hlen,hap]<;>rfl) ?_ rfl ⟨⟨rfl,rfl,rfl⟩,⟨rfl,rfl,rfl⟩,trivial⟩ rfl rfl ?_
      ·exact⟨by omega,by omega,by omega⟩
      simp(maxSteps:=2000000) only[go_sem,mid_get,mid_set]
      have hgo:q.at_<q'.at_:=hon.2 rfl
      have hq2:q'.at_<T.length:=hon.1.2
      have hL:(l++[n]).length=l.length+1:=by rw[List.length_append];rfl
      refine⟨by rw[List.length_append,List.length_cons];omega,?_⟩
      refine hb _ _ ⟨(l++[n],q'),hq2,by simp only[hL];omega,f,by simp only;omega,hf2⟩ [(1,1),(2,2),(3,3),(6,60)] (by simp only;omega) ?_
      exact⟨rfl,⟨⟨rfl,rfl⟩,⟨rfl,rfl⟩,⟨rfl,rfl⟩,trivial⟩,⟨rfl,rfl,rfl,rfl,trivial⟩,⟨oR,.inr ⟨_,rfl,.inl (by rw[ren_mid v0 v1,hL];rfl)⟩,oV (renV (v_tk _)),oV (renV (v_iC2 _)),trivial⟩⟩
theorem name7_ (T:List Tk)(hT:T.length≤100000)(sT:STk T)(p:Ps)(h:p.at_<T.length)(cs:List Cv)(hv:cs.all Cv.isV=true)(off:Nat)(ho:off<cs.length)(ty:TypeId):
  CallOk Tryz.prog 149 [.c (.p 1 0),.c (.p 7 off)] [(1,⟨false,psC T p,96⟩),(7,⟨false,cs,ty⟩),(2,⟨true,rowsC (T.map Tk.r),57⟩)] (Bo (namP T p).1.isSome) ((1,⟨false,psC T (namP T p).2,96⟩)::(match (namP T p).1 with|some s=>[(7,⟨false,cs.set off (sC s),ty⟩)]|none=>[])):=by
 have h0:=(name_ T hT sT p h cs hv off ho ty).ren (rn_inj [(3,7),(1,1),(2,2)] rfl)
 have hr1:Mem.ren (rn [(3,7),(1,1),(2,2)]) (pD T p cs ty)=[(1,⟨false,psC T p,96⟩),(7,⟨false,cs,ty⟩),(2,⟨true,rowsC (T.map Tk.r),57⟩)]:=by
  simp only[pD,Mem.ren,List.map_cons,List.map_nil,renV hv,renV (rowsC_isV _)];rfl
 rw[hr1]at h0
 cases hi:(namP T p).1 with
 |none=>rw[hi]at h0;exact h0
 |some s=>
  rw[hi]at h0
  simp only[Mem.ren,List.map_cons,List.map_nil,renV (setV hv)]at h0
  exact h0
@[reducible,go_sem] def pSs (T:List Tk)(p:Ps)(c0 c1:List Cv)(ty:TypeId)(l:List Str):Mem:=[(1,⟨false,psC T p,96⟩),(3,⟨false,c0++ .sl 6 0 l.length 1::c1,ty⟩),(2,⟨true,rowsC (T.map Tk.r),57⟩),(6,⟨false,l.map sC,9⟩)]
theorem v_sC2 (l:List Str):(l.map sC).all Cv.isV=true:=by simp[Cv.isV]
theorem pSs_cl (T:List Tk)(p:Ps){c0 c1:List Cv}(v0:c0.all Cv.isV=true)(v1:c1.all Cv.isV=true)(ty:TypeId)(l:List Str):ClM (pSs T p c0 c1 ty l):=ClM.of (by simp only[List.all_cons,List.all_append,inMV (rowsC_isV _),inMV v0,inMV v1,inMV (v_sC2 _)];rfl)
theorem names_ {H:Hp}(T:List Tk)(hT:T.length≤40000)(g:GTk T)(sT:STk T)(p:Ps)(h:p.at_<T.length)(a b:Str)(c0 c1:List Cv)(v0:c0.all Cv.isV=true)(v1:c1.all Cv.isV=true)(ty:TypeId):
  CallX H Tryz.prog 235 [.c (.p 1 0),.c (.p 3 c0.length),S a,S b] (pD T p (c0++ .v (.slice none 0 0)::c1) ty) (fun _:List Str=>Bo (nmsP T a b 40000 [] p).1.isSome) (fun x=>[(1,⟨false,psC T (nmsP T a b 40000 [] p).2,96⟩),(3,⟨false,c0++ .sl 6 0 x.length 1::c1,ty⟩),(6,⟨false,x.map sC,9⟩)]) (fun x _=>∀l,(nmsP T a b 40000 [] p).1=some l→x=l):=by
 have hcl7:∀q,ClM [(1,⟨false,psC T q,96⟩),(7,⟨false,[sC []],9⟩),(2,⟨true,rowsC (T.map Tk.r),57⟩)]:=fun q=>ClM.of (by simp only[List.all_cons,inMV (rowsC_isV _)];rfl)
 have v_tk:∀T:List Tk,(rowsC (T.map Tk.r)).all Cv.isV=true:=fun _=>rowsC_isV _
 refine CallX.mkS Tryz.func235 rfl en235 (by simp[Tryz.ntmps235]) (ClA.of rfl) (fun _=>rfl) (fun _=>rfl) fun C hR hP hH hL=>?_
 refine Sm.go 100 ?_
 refine vv ?_
 refine Sm.nilCell 140 1 9 3 c0.length rfl rfl (mid_get _ _ _) ?_
 rw[mid_set]
 refine Sm.loopM (M0:=pD T p (c0++ .v (.slice none 0 0)::c1) ty) (α:={x:List Str×Ps//x.2.at_<T.length∧x.1.length≤x.2.at_∧∃f,T.length≤x.2.at_+f∧nmsP T a b f x.1 x.2=nmsP T a b 40000 [] p}) hP
  (fun x=>[(0,true,.c (.p 1 0)),(1,true,.c (.p 3 c0.length)),(2,true,S a),(3,true,S b)])
  (fun x=>pSs T x.val.2 c0 c1 ty x.val.1) (fun x=>T.length-x.val.2.at_) ⟨([],p),h,by simp,40000,by omega,rfl⟩ (fun x=>pSs_cl T _ v0 v1 ty _) (fun _=>ClE.of rfl) [(1,1),(2,2),(3,3),(6,140)] ?_ ?_
 ·exact⟨rfl,⟨⟨rfl,rfl⟩,⟨rfl,rfl⟩,⟨rfl,rfl⟩,trivial⟩,⟨rfl,rfl,rfl,rfl,trivial⟩,⟨oR,.inr ⟨_,rfl,.inl (ren_mid v0 v1)⟩,oV (renV (v_tk _)),.inr ⟨_,rfl,.inl (rfl)⟩,trivial⟩⟩
 ·rintro⟨⟨l,q⟩,hq,hll,f,hf1,hf2⟩ J hb
  simp only at hb hq hll hf1 hf2⊢
  obtain⟨f,rfl⟩:∃k,f=k+1:=⟨f-1,by omega⟩
  rw[nmsP]at hf2
  have hi:=name7_ T (by omega) sT q hq [sC []] rfl 0 (by decide) 9
  have hon:=nam_on g hq
  generalize namP T q=r at hi hon hf2
  obtain⟨o,q'⟩:=r
  refine Sm.go 7 ?_
  simp(maxSteps:=2000000) only[go_sem,mid_get]
  cases o with
  |none=>
   have hf2:(none,q')=nmsP T a b 40000 [] p:=hf2
   simp only[Option.isSome_none]at hi
   refine CallQ.mi 40 hi (hcl7 q) ⟨oS,oS,oS,trivial⟩ ?_
   refine vv ?_
   have hR:=hR (l) C hL (fun l' hl'=>by rw[←hf2]at hl';cases hl')
   rw[←hf2]at hR
   exact RetQ.of hR rfl scc rvv (fun k x hk=>(SubS.sub ⟨oS,oS,oS,oS,trivial⟩:Sub (pSs T q' c0 c1 ty (l)) _) k x (by rw[←get_sh3];exact hk)) (clm_sh3 (pSs_cl T q' v0 v1 ty (l))) (ClV.of rfl)
  |some n=>
   have hf2:(bif isP T a q'||isP T b q' then(some (l++[n]),q')else bndB (takP T [44] q') fun p=>nmsP T a b f (l++[n]) p)=nmsP T a b 40000 [] p:=hf2
   simp only[Option.isSome_some]at hi
   refine CallQ.mi 40 hi (hcl7 q) ⟨oS,oS,oS,trivial⟩ ?_
   refine vv ?_
   refine Sm.dgW [6] 50 7 mix ?_
   simp(maxSteps:=2000000) only[go_sem,Mem.wo,mid_get]
   have hlen:(l.map sC).length=l.length:=List.length_map _
   have hap:List.take l.length (l.map sC)++[sC n]=(l++[n]).map sC:=by rw[List.take_of_length_le (by omega),List.map_append];rfl
   refine DOpQ.opy [(50,⟨false,[sC n],9⟩),(6,⟨false,l.map sC,9⟩)] 60 (by simp(maxSteps:=2000000) only[go_sem,hlen,hap]<;>rfl) ?_ rfl ⟨⟨rfl,rfl,rfl⟩,⟨rfl,rfl,rfl⟩,trivial⟩ rfl rfl ?_
   ·exact⟨by omega,by omega,by omega⟩
   simp(maxSteps:=2000000) only[go_sem,mid_get,mid_set]
   have hgo:q.at_<q'.at_:=hon.2 rfl
   have hq2:q'.at_<T.length:=hon.1.2
   have hL2:(l++[n]).length=l.length+1:=by rw[List.length_append];rfl
   refine⟨by rw[List.length_append,List.length_cons];omega,?_⟩
   have hMq:=pM_cl T q'
   have hia:=is_ T (by omega) q' hq2 a
   have hib:=is_ T (by omega) q' hq2 b
   cases ha:isP T a q' with
   |true=>
    rw[ha]at hf2 hia
    rw[Bool.true_or,cond_true]at hf2
    refine CallQ.mi 80 hia hMq ⟨oS,oS,trivial⟩ ?_
    simp(maxSteps:=2000000) only[go_sem,mid_get]
    refine CallQ.guard (v:=Bo false) (xs:=[]) 90 (fun h=>by cases h) (fun h=>by cases h) ?_
    simp(maxSteps:=2000000) only[go_sem,mid_get]
    have hR:=hR (l++[n]) C hL (fun l' hl'=>by rw[←hf2]at hl';cases hl';rfl)
    rw[←hf2]at hR
    exact RetQ.ren [(1,1),(3,3),(2,2),(6,60)] hR hP rfl scc rfl rfl ⟨⟨rfl,rfl⟩,⟨rfl,rfl⟩,⟨rfl,rfl⟩,trivial⟩ ⟨oR,.inr ⟨_,rfl,.inl (by rw[ren_mid v0 v1,hL2];rfl)⟩,oV (renV (v_sC2 _)),oL,oL,oV (renV (v_tk _)),trivial⟩ (clm_sh3 (pSs_cl T q' v0 v1 ty (l++[n]))) (ClV.of rfl)
   |false=>
    rw[ha]at hf2 hia
    rw[Bool.false_or]at hf2
    refine CallQ.mi 80 hia hMq ⟨oS,oS,trivial⟩ ?_
    simp(maxSteps:=2000000) only[go_sem,mid_get]
    cases hbb:isP T b q' with
    |true=>
     rw[hbb]at hf2 hib
     rw[cond_true]at hf2
     refine CallQ.mi 90 hib hMq ⟨oS,oS,trivial⟩ ?_
     simp(maxSteps:=2000000) only[go_sem,mid_get]
     have hR:=hR (l++[n]) C hL (fun l' hl'=>by rw[←hf2]at hl';cases hl';rfl)
     rw[←hf2]at hR
     exact RetQ.ren [(1,1),(3,3),(2,2),(6,60)] hR hP rfl scc rfl rfl ⟨⟨rfl,rfl⟩,⟨rfl,rfl⟩,⟨rfl,rfl⟩,trivial⟩ ⟨oR,.inr ⟨_,rfl,.inl (by rw[ren_mid v0 v1,hL2];rfl)⟩,oV (renV (v_sC2 _)),oL,oL,oV (renV (v_tk _)),trivial⟩ (clm_sh3 (pSs_cl T q' v0 v1 ty (l++[n]))) (ClV.of rfl)
    |false=>
     rw[hbb]at hf2 hib
     rw[cond_false]at hf2
     refine CallQ.mi 90 hib hMq ⟨oS,oS,trivial⟩ ?_
     simp(maxSteps:=2000000) only[go_sem,mid_get]
     have htk:=take_ T (by omega) q' hq2 [44]
     have hto:=tak_on g [44] hq2
     generalize takP T [44] q'=r2 at htk hto hf2
     obtain⟨o2,q2⟩:=r2
     have hq3:q2.at_<T.length:=hto.2
     have hgo2:q'.at_≤q2.at_:=hto.1
     cases o2 with
     |false=>
      have hf2:(none,q2)=nmsP T a b 40000 [] p:=hf2
      refine CallQ.mi 95 htk hMq ⟨oS,oS,trivial⟩ ?_
      simp(maxSteps:=2000000) only[go_sem,mid_get]
      have hR:=hR (l++[n]) C hL (fun l' hl'=>by rw[←hf2]at hl';cases hl')
      rw[←hf2]at hR
      exact RetQ.ren [(1,1),(3,3),(2,2),(6,60)] hR hP rfl scc rfl rfl ⟨⟨rfl,rfl⟩,⟨rfl,rfl⟩,⟨rfl,rfl⟩,trivial⟩ ⟨oR,.inr ⟨_,rfl,.inl (by rw[ren_mid v0 v1,hL2];rfl)⟩,oV (renV (v_sC2 _)),oL,oL,oV (renV (v_tk _)),trivial⟩ (clm_sh3 (pSs_cl T q2 v0 v1 ty (l++[n]))) (ClV.of rfl)
     |true=>
      have hf2:nmsP T a b f (l++[n]) q2=nmsP T a b 40000 [] p:=hf2
      refine CallQ.mi 95 htk hMq ⟨oS,oS,trivial⟩ ?_
      simp(maxSteps:=2000000) only[go_sem,mid_get]
      refine hb _ _ ⟨(l++[n],q2),hq3,by simp only[hL2];omega,f,by simp only;omega,hf2⟩ [(1,1),(2,2),(3,3),(6,60)] (by simp only;omega) ?_
      exact⟨rfl,⟨⟨rfl,rfl⟩,⟨rfl,rfl⟩,⟨rfl,rfl⟩,trivial⟩,⟨rfl,rfl,rfl,rfl,trivial⟩,⟨oR,.inr ⟨_,rfl,.inl (by rw[ren_mid v0 v1,hL2];rfl)⟩,oV (renV (v_tk _)),oV (renV (v_sC2 _)),trivial⟩⟩
end Go.Proofs.YtlnpgbnhcondjaaGreatDoor.Fx
namespace Go.Proofs
set_option linter.unusedSimpArgs false
set_option linter.unusedVariables false
open Go.Shelf
def Tryz.laysC172_ren:Go.Shelf.Ren:=⟨fun|172=>277|244=>285|245=>286|247=>290|279=>291|280=>292|281=>293|282=>294|287=>300|316=>301|171=>259|205=>302|321=>308|322=>309|243=>278|246=>287|283=>295|284=>296|285=>297|286=>298|129=>304|317=>303|318=>305|319=>306|320=>307|337=>310|338=>311|n=>n,fun|9=>9|3=>3|75=>59|76=>60|4=>4|5=>5|167=>298|37=>49|0=>0|85=>299|2=>2|168=>301|53=>279|175=>309|46=>245|210=>312|127=>130|145=>321|143=>319|21=>21|171=>304|173=>307|212=>315|51=>191|20=>20|213=>316|232=>323|233=>324|80=>63|n=>n,fun|15=>5|16=>6|17=>7|18=>8|19=>9|n=>n⟩
theorem Tryz.laysC172:Go.Proofs.LaysC.n172 Tryz.prog Tryz.laysC172_ren:={
 mixed:=by kernel_rfl
 f129:=Tryz.func304.trans (congrArg some (by kernel_rfl))
 f171:=Tryz.func259.trans (congrArg some (by kernel_rfl))
 f172:=Tryz.func277.trans (congrArg some (by kernel_rfl))
 f205:=Tryz.func302.trans (congrArg some (by kernel_rfl))
 f243:=Tryz.func278.trans (congrArg some (by kernel_rfl))
 f244:=Tryz.func285.trans (congrArg some (by kernel_rfl))
 f245:=Tryz.func286.trans (congrArg some (by kernel_rfl))
 f246:=Tryz.func287.trans (congrArg some (by kernel_rfl))
 f247:=Tryz.func290.trans (congrArg some (by kernel_rfl))
 f279:=Tryz.func291.trans (congrArg some (by kernel_rfl))
 f280:=Tryz.func292.trans (congrArg some (by kernel_rfl))
 f281:=Tryz.func293.trans (congrArg some (by kernel_rfl))
 f282:=Tryz.func294.trans (congrArg some (by kernel_rfl))
 f283:=Tryz.func295.trans (congrArg some (by kernel_rfl))
 f284:=Tryz.func296.trans (congrArg some (by kernel_rfl))
 f285:=Tryz.func297.trans (congrArg some (by kernel_rfl))
 f286:=Tryz.func298.trans (congrArg some (by kernel_rfl))
 f287:=Tryz.func300.trans (congrArg some (by kernel_rfl))
 f316:=Tryz.func301.trans (congrArg some (by kernel_rfl))
 f317:=Tryz.func303.trans (congrArg some (by kernel_rfl))
 f318:=Tryz.func305.trans (congrArg some (by kernel_rfl))
 f319:=Tryz.func306.trans (congrArg some (by kernel_rfl))
 f320:=Tryz.func307.trans (congrArg some (by kernel_rfl))
 f321:=Tryz.func308.trans (congrArg some (by kernel_rfl))
 f322:=Tryz.func309.trans (congrArg some (by kernel_rfl))
 f337:=Tryz.func310.trans (congrArg some (by kernel_rfl))
 f338:=Tryz.func311.trans (congrArg some (by kernel_rfl))
 t0:=Tryz.underlying0
 a0:=Tryz.isAgg0
 z0:=Tryz.sizeOf0
 v0:=Tryz.zeroValue0
 t2:=Tryz.underlying2
 a2:=Tryz.isAgg2
 z2:=Tryz.sizeOf2
 v2:=Tryz.zeroValue2
 t3:=Tryz.underlying3
 a3:=Tryz.isAgg3
 z3:=Tryz.sizeOf3
 v3:=Tryz.zeroValue3
 t4:=Tryz.underlying4
 a4:=Tryz.isAgg4
 z4:=Tryz.sizeOf4
 v4:=Tryz.zeroValue4
 t5:=Tryz.underlying5
 a5:=Tryz.isAgg5
 z5:=Tryz.sizeOf5
 v5:=Tryz.zeroValue5
 t9:=Tryz.underlying9
 a9:=Tryz.isAgg9
 z9:=Tryz.sizeOf9
 v9:=Tryz.zeroValue9
 t20:=Tryz.underlying20
 a20:=Tryz.isAgg20
 z20:=Tryz.sizeOf20
 v20:=Tryz.zeroValue20
 t21:=Tryz.underlying21
 a21:=Tryz.isAgg21
 z21:=Tryz.sizeOf21
 v21:=Tryz.zeroValue21
 t37:=Tryz.underlying49
 a37:=Tryz.isAgg49
 z37:=Tryz.sizeOf49
 v37:=Tryz.zeroValue49
 t46:=Tryz.underlying245
 a46:=Tryz.isAgg245
 z46:=Tryz.sizeOf245
 v46:=Tryz.zeroValue245
 t51:=Tryz.underlying191
 a51:=Tryz.isAgg191
 z51:=Tryz.sizeOf191
 v51:=Tryz.zeroValue191
 t53:=Tryz.underlying279
 a53:=Tryz.isAgg279
 z53:=Tryz.sizeOf279
 v53:=Tryz.zeroValue279
 t75:=Tryz.underlying59
 a75:=Tryz.isAgg59
 z75:=Tryz.sizeOf59
 v75:=Tryz.zeroValue59
 t76:=Tryz.underlying60
 a76:=Tryz.isAgg60
 z76:=Tryz.sizeOf60
 v76:=Tryz.zeroValue60
 t85:=Tryz.underlying299
 a85:=Tryz.isAgg299
 z85:=Tryz.sizeOf299
 v85:=Tryz.zeroValue299
 t127:=Tryz.underlying130
 a127:=Tryz.isAgg130
 z127:=Tryz.sizeOf130
 v127:=Tryz.zeroValue130
 t143:=Tryz.underlying319
 a143:=Tryz.isAgg319
 z143:=Tryz.sizeOf319
 v143:=Tryz.zeroValue319
 t145:=Tryz.underlying321
 a145:=Tryz.isAgg321
 z145:=Tryz.sizeOf321
 v145:=Tryz.zeroValue321
 t167:=Tryz.underlying298
 a167:=Tryz.isAgg298
 z167:=Tryz.sizeOf298
 v167:=Tryz.zeroValue298
 t168:=Tryz.underlying301
 a168:=Tryz.isAgg301
 z168:=Tryz.sizeOf301
 v168:=Tryz.zeroValue301
 t171:=Tryz.underlying304
 a171:=Tryz.isAgg304
 z171:=Tryz.sizeOf304
 v171:=Tryz.zeroValue304
 t173:=Tryz.underlying307
 a173:=Tryz.isAgg307
 z173:=Tryz.sizeOf307
 v173:=Tryz.zeroValue307
 t175:=Tryz.underlying309
 a175:=Tryz.isAgg309
 z175:=Tryz.sizeOf309
 v175:=Tryz.zeroValue309
 t210:=Tryz.underlying312
 a210:=Tryz.isAgg312
 z210:=Tryz.sizeOf312
 v210:=Tryz.zeroValue312
 t212:=Tryz.underlying315
 a212:=Tryz.isAgg315
 z212:=Tryz.sizeOf315
 v212:=Tryz.zeroValue315
 t213:=Tryz.underlying316
 a213:=Tryz.isAgg316
 z213:=Tryz.sizeOf316
 t232:=Tryz.underlying323
 a232:=Tryz.isAgg323
 z232:=Tryz.sizeOf323
 v232:=Tryz.zeroValue323
 t233:=Tryz.underlying324
 a233:=Tryz.isAgg324
 z233:=Tryz.sizeOf324
 v233:=Tryz.zeroValue324
 g15:=by kernel_rfl
 g16:=by kernel_rfl
 g17:=by kernel_rfl
 g18:=by kernel_rfl
 g19:=by kernel_rfl
 t80:=Tryz.underlying63
 a80:=Tryz.isAgg63
 z80:=Tryz.sizeOf63
 v80:=Tryz.zeroValue63
 i0:=by kernel_rfl
 i2:=by kernel_rfl
 i3:=by kernel_rfl
 i4:=by kernel_rfl
 i5:=by kernel_rfl
 i9:=by kernel_rfl
 i20:=by kernel_rfl
 i21:=by kernel_rfl
 i37:=by kernel_rfl
 i46:=by kernel_rfl
 i51:=by kernel_rfl
 i53:=by kernel_rfl
 i75:=by kernel_rfl
 i76:=by kernel_rfl
 i80:=by kernel_rfl
 i85:=by kernel_rfl
 i127:=by kernel_rfl
 i143:=by kernel_rfl
 i145:=by kernel_rfl
 i167:=by kernel_rfl
 i168:=by kernel_rfl
 i171:=by kernel_rfl
 i173:=by kernel_rfl
 i175:=by kernel_rfl
 i210:=by kernel_rfl
 i212:=by kernel_rfl
 i232:=by kernel_rfl
 i233:=by kernel_rfl
 m15:=by kernel_rfl
 m16:=by kernel_rfl
 m17:=by kernel_rfl
 m18:=by kernel_rfl
 m19:=by kernel_rfl
 c0:=by kernel_rfl
 c2:=by kernel_rfl
 c3:=by kernel_rfl
 c4:=by kernel_rfl
 c5:=by kernel_rfl
 c9:=by kernel_rfl
 c20:=by kernel_rfl
 c21:=by kernel_rfl
 c37:=by kernel_rfl
 c46:=by kernel_rfl
 c51:=by kernel_rfl
 c53:=by kernel_rfl
 c75:=by kernel_rfl
 c76:=by kernel_rfl
 c80:=by kernel_rfl
 c85:=by kernel_rfl
 c127:=by kernel_rfl
 c143:=by kernel_rfl
 c145:=by kernel_rfl
 c167:=by kernel_rfl
 c168:=by kernel_rfl
 c171:=by kernel_rfl
 c173:=by kernel_rfl
 c175:=by kernel_rfl
 c210:=by kernel_rfl
 c212:=by kernel_rfl
 c213:=by kernel_rfl
 c232:=by kernel_rfl
 c233:=by kernel_rfl}
open Go.RowKit in
theorem Tryz.strconv_Atoi_ok (s:ByteArray)(hmax:s.size≤9223372036854775806)(v:Int)(h:Lib.atoiAll s.data.toList= .ok v)(w:World):
  Calls Tryz.prog 277 #[.string s] w fun e w'=>e= .returned (.tuple #[.int .i64 v,.nilIface])∧(w'=w∨∃t,w'=Lib.bytesWorld w 5 t):=Any.strconv_Atoi_ok Tryz.laysC172 s hmax v h w
open Go.RowKit in
theorem Tryz.strconv_Atoi_range (s:ByteArray)(hlim:s.size≤281474976710656)(h:Lib.atoiAll s.data.toList= .range)(ev:Value)(w:World)(hv:w.cell? ⟨6,0,none⟩=some ev)(hev:ev= .nilIface∨∃te pe,ev= .iface te pe):
  Calls Tryz.prog 277 #[.string s] w fun e w'=>∃N,e= .returned (.tuple #[.int .i64 (Lib.atoiSat s.data.toList),.iface 301 (.pointer (some ⟨N,0,none⟩))])∧w.heap.size≤N∧w'.heap[N]?=some (.cells #[.string ⟨#[65,116,111,105]⟩,.string s,ev] 312 (0,0))∧Below w.heap.size w w':=Any.strconv_Atoi_range Tryz.laysC172 s hlim h ev w hv hev
end Go.Proofs
namespace Go.Proofs.YtlnpgbnhcondjaaGreatDoor.Fx
open Vg Tf Go.Sort
set_option linter.unusedSimpArgs false
set_option linter.unusedVariables false
set_option maxRecDepth 100000
set_option maxHeartbeats 4000000
def digA (a:Nat)(l:Str):Nat:=l.foldl (fun a c=>a*10+(c.toNat-48)) a
theorem digA_ge:∀(l:Str) (a:Nat),a≤digA a l
 |[],a=>Nat.le_refl _
 |c::l,a=>by
  have:=digA_ge l (a*10+(c.toNat-48))
  show a≤digA (a*10+(c.toNat-48)) l
  omega
theorem pu_digs:∀(l:Str) (a:Nat),a<18446744073709551616→l.all diB=true→Lib.parseUint10 a l=if digA a l<18446744073709551616 then .ok (digA a l)else .range
 |[],a,ha,_=>by rw[if_pos (by exact ha)];rfl
 |c::l,a,ha,h=>by
  rw[List.all_cons,Bool.and_eq_true]at h
  have hc:48≤c.toNat∧c.toNat≤57:=by have:=h.1;unfold diB at this;simpa using this
  have e:digA a (c::l)=digA (a*10+(c.toNat-48)) l:=rfl
  have hge:=digA_ge l (a*10+(c.toNat-48))
  rw[Lib.parseUint10,if_pos hc,e]
  by_cases h1:1844674407370955162≤a
  ·rw[if_pos h1,if_neg (by omega)]
  ·rw[if_neg h1]
   by_cases h2:18446744073709551616≤a*10+(c.toNat-48)
   ·rw[if_pos h2,if_neg (by omega)]
   ·rw[if_neg h2,pu_digs l _ (by omega) h.2]
theorem pm_digs {l:Str}(h0:l≠[])(h:l.all diB=true):Lib.parseMag l=if digV l<18446744073709551616 then .ok (digV l)else .range:=by
 rw[Lib.parseMag,if_neg h0,pu_digs l 0 (by omega) h];rfl
theorem atoi_num {s:Str}(h0:dgT s≠[])(h:(dgT s).all diB=true):Lib.atoiAll s=if-9223372036854775808≤numV s∧numV s≤9223372036854775807 then .ok (numV s)else .range:=by
 cases s with
 |nil=>exact absurd rfl h0
 |cons c r=>
  have hn:ngB (c::r)=(c==45):=rfl
  unfold numV
  rw[hn]at*
  have hd:dgT (c::r)=bif c==45 then r else c::r:=by unfold dgT;rw[hn];rfl
  rw[hd]at h0 h⊢
  unfold Lib.atoiAll
  cases hc:c==45 with
  |true=>
   rw[hc]at h0 h
   simp only[cond_true]at h0 h⊢
   have hc:c.toNat=45:=by rw[eq_of_beq hc];rfl
   simp only[hc,or_true,if_true,true_and,not_true_eq_false,false_and,if_false,cond_true]
   rw[pm_digs h0 h]
   by_cases h1:digV r<18446744073709551616
   ·rw[if_pos h1]
    simp only
    by_cases h2:9223372036854775808<digV r
    ·rw[if_pos h2,if_neg (by omega)]
    ·rw[if_neg h2,if_pos (by omega)]
   ·rw[if_neg h1,if_neg (by omega)]
  |false=>
   rw[hc]at h0 h
   simp only[cond_false]at h0 h⊢
   have hd2:diB c=true:=by rw[List.all_cons,Bool.and_eq_true]at h;exact h.1
   have hcc:48≤c.toNat∧c.toNat≤57:=by unfold diB at hd2;simpa using hd2
   have q1:¬c.toNat=43:=by omega
   have q2:¬c.toNat=45:=by omega
   simp only[q1,q2,or_false,if_false,not_false_eq_true,true_and,false_and,cond_false]
   rw[pm_digs h0 h]
   by_cases h1:digV (c::r)<18446744073709551616
   ·rw[if_pos h1]
    simp only
    by_cases h2:9223372036854775808≤digV (c::r)
    ·rw[if_pos h2,if_neg (by omega)]
    ·rw[if_neg h2,if_pos (by omega)]
   ·rw[if_neg h1,if_neg (by omega)]
end Go.Proofs.YtlnpgbnhcondjaaGreatDoor.Fx
