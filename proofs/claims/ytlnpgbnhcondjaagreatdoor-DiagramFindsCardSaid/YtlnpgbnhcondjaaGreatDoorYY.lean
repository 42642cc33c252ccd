/-  -/
import Derived.Test.YtlnpgbnhcondjaaGreatDoorPS
import Derived.Test.YtlnpgbnhcondjaaGreatDoorYX
import Derived.Test.YtlnpgbnhcondjaaGreatDoorSH
namespace Go.Proofs.YtlnpgbnhcondjaaGreatDoor.Fx
open Vg Tf
set_option linter.unusedSimpArgs false
set_option linter.unusedVariables false
set_option maxRecDepth 100000
set_option maxHeartbeats 4000000
theorem awake_ {H:Hp}(hE:ErR H):CallH H Tryz.prog 12 [] (Bo true):=by
 have hp:=dparse_ hE awT (by decide)
 rw[awP]at hp
 refine CallH.mkS Tryz.func12 rfl en12 (by simp[Tryz.ntmps12]) (ClA.of rfl) fun C hR hP hH hL=>?_
 refine Sm.go 100 ?_
 refine vv ?_
 refine CallQ.x 110 hL hp hH (Sub.nil _) ClM.nil (fun _=>Fresh.nil _ _) rfl rfl rfl (fun x C1 H1 l1 k1 j1 p1=>?_)
 obtain⟨px,ox⟩:=p1
 have ox:=ox.mono j1
 have hcr:x.r.map Cv.v=[.v (sv x.nm),.v (vsl x.ty x.tys.length),.v (vsl x.cu x.cus.length),.v (vsl x.ma x.mas.length),.v (vsl x.i x.ins.length),.v (vsl x.bl x.bls.length),.v (vsl x.ou x.ous.length)]:=rfl
 rw[hcr]
 have hb:x.bls.map BlL.c=awD.bls:=congrArg Dg.bls px
 have ht:x.tys=awD.tys:=congrArg Dg.tys px
 have hi:x.ins=awD.ins:=congrArg Dg.ins px
 have hbl:x.bls.length=2:=by have:=congrArg List.length hb;rw[List.length_map]at this;exact this
 have htl:x.tys.length=1:=by rw[ht];rfl
 have hfd:=pfind_ x ox [116,119,111] (by rw[hi];decide) (by rw[hbl];decide)
 rw[px]at hfd
 have hfv:fndQ (sigs awD) [116,119,111]=2:=by rfl
 rw[hfv]at hfd
 have hfd:CallH C1.hp Tryz.prog 32 [.agg [.v (sv x.nm),.v (vsl x.ty x.tys.length),.v (vsl x.cu x.cus.length),.v (vsl x.ma x.mas.length),.v (vsl x.i x.ins.length),.v (vsl x.bl x.bls.length),.v (vsl x.ou x.ous.length)],S [116,119,111]] (I 2):=hfd
 rw[hbl,htl]at hfd
 simp only[hbl,htl]
 refine vv ?_
 refine CallQ.h 120 hfd (Hp.le.refl _) rfl ?_
 refine vv ?_
 obtain⟨b0,b1,hb2⟩:∃b0 b1,x.bls=[b0,b1]:=by
  cases h1:x.bls with
  |nil=>rw[h1]at hbl;cases hbl
  |cons b0 r=>
   cases r with
   |nil=>rw[h1]at hbl;cases hbl
   |cons b1 r=>
    cases r with
    |nil=>exact⟨b0,b1,rfl⟩
    |cons b2 r=>rw[h1]at hbl;simp at hbl
 have hk:b1.c.kd=[99,111,110,115,116]:=by
  rw[hb2]at hb
  have h2:b1.c=⟨[116,119,111],[99,111,110,115,116],[117],[],[],[2]⟩:=(List.cons.inj (List.cons.inj hb).2).1
  rw[h2]
 refine Sm.bringR 211 82 24 (v:= .slice x.bl.o 2 x.bl.c) (sz:=6) (rows:=[b0.r,b1.r]) (by have:=ox.bl;rw[hb2]at this;exact this) rfl rfl ?_
 refine Sm.go 220 ?_
 simp(maxSteps:=2000000) only[go_sem,rowsC,List.flatten_cons,List.flatten_nil,List.append_nil,List.cons_append,List.nil_append,List.map_cons,List.map_nil,hk]
 refine Sm.bringR 212 93 38 (v:= .slice x.ty.o 1 x.ty.c) (sz:=11) (rows:=awD.tys.map Td.r) (by have:=ox.ty;rw[ht]at this;exact this) rfl rfl ?_
 have e1:rowsC (awD.tys.map Td.r)=[sC [116],iC 16,.v (.bool true),iC 1,iC 0,iC 4,iC 0,iC 0,iC (-1),iC 0,iC 0]:=rfl
 rw[e1]
 refine Sm.go 230 ?_
 refine vv ?_
 exact⟨by decide,RetQ.of (hR C1 l1) rfl ⟨rfl,trivial⟩ rfl (Sub.nil _) ClM.nil (ClV.of rfl)⟩
end Go.Proofs.YtlnpgbnhcondjaaGreatDoor.Fx
