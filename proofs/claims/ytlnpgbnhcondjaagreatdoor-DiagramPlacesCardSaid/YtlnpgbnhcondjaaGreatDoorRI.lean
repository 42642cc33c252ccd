/-  -/
import Derived.Test.YtlnpgbnhcondjaaGreatDoorPS
import Derived.Test.YtlnpgbnhcondjaaGreatDoorQW
import Derived.Test.YtlnpgbnhcondjaaGreatDoorQH
namespace Go.Proofs.YtlnpgbnhcondjaaGreatDoor.Fx
set_option linter.unusedVariables false
set_option linter.unusedSectionVars false
theorem firstF_no {α:Type}{f:α→Option (Str×Int)}:∀{l:List α},firstF f l=none↔∀x∈l,f x=none
 |[]=>by simp[firstF]
 |y::l=>by
  rw[firstF_cons]
  cases hy:f y with
  |some z=>simp[hy]
  |none=>rw[Option.none_or,firstF_no];simp[hy]
structure Chkd (d:Dg):Prop where
 ok:dgOk d=true
 dup:dupF [] (allN d)=none
 inp:∀p∈d.ins,inpE d.tys p=none
 blk:∀b∈d.bls,blkE d.tys d.cus d.mas (sigs d) b=none
 out:outE (sigs d) [] d.ous=none
 fit:∀b∈d.bls,fitE d b=none
theorem Chkd.of {d:Dg}(h:dgOk d=true)(h2:allE d=none):Chkd d:=by
 unfold allE at h2
 cases hd:dupF [] (allN d)with
 |some s=>rw[hd]at h2;cases h2
 |none=>
  rw[hd]at h2
  simp only[Option.or_eq_none_iff]at h2
  obtain⟨h3,h4,h5,h6⟩:=h2
  exact⟨h,hd,firstF_no.1 h3,firstF_no.1 h4,h5,firstF_no.1 h6⟩
theorem Chkd.num {d:Dg}(k:Chkd d){b:Bl}(hb:b∈d.bls):numB (tyN d.tys b.ty) b=true:=by
 have:=k.fit b hb
 unfold fitE at this
 split at this
 ·cases this
 ·split at this
  ·cases this
  ·rename_i h;simpa using h
theorem Chkd.inr {d:Dg}(k:Chkd d){p:Po}(hp:p∈d.ins):gdR (tyN d.tys p.ty) (p.lo,p.hi):=by
 have:=k.inp p hp
 unfold inpE at this
 split at this
 ·cases this
 ·split at this
  ·cases this
  ·rename_i h
   simp only[Bool.or_eq_true,decide_eq_true_eq,Bool.not_eq_true',not_or,Bool.not_eq_false]at h
   obtain⟨h1,h2,h3⟩:=h
   exact⟨(wi_lim h2).1,by show p.lo≤p.hi;omega,(wi_lim h3).2⟩
end Go.Proofs.YtlnpgbnhcondjaaGreatDoor.Fx
namespace Go.Proofs.YtlnpgbnhcondjaaGreatDoor.Fx
open Vg Tf
set_option linter.unusedSimpArgs false
set_option linter.unusedVariables false
set_option linter.unusedSectionVars false
set_option maxRecDepth 100000
set_option maxHeartbeats 4000000
end Go.Proofs.YtlnpgbnhcondjaaGreatDoor.Fx
namespace Go.Proofs.YtlnpgbnhcondjaaGreatDoor.Fx
open Vg Tf
set_option linter.unusedSimpArgs false
set_option linter.unusedVariables false
set_option linter.unusedSectionVars false
set_option maxRecDepth 100000
set_option maxHeartbeats 4000000
end Go.Proofs.YtlnpgbnhcondjaaGreatDoor.Fx
namespace Go.Proofs.YtlnpgbnhcondjaaGreatDoor.Fx
open Vg Tf
set_option linter.unusedSimpArgs false
set_option linter.unusedVariables false
set_option linter.unusedSectionVars false
set_option maxRecDepth 100000
set_option maxHeartbeats 4000000
theorem concV {L:List Nat}{β:Vl}{l:List Cv}(h:l.all Cv.isV=true):l.map (Cv.conc L β)=l:=by
 rw[List.all_eq_true]at h
 conv=>rhs;rw[←List.map_id l]
 refine List.map_congr_left fun c hc=>?_
 have:=h c hc
 cases c with
 |v x=>rfl
 |_=>cases this
@[go_sem] theorem mode_at:(Region.Mode.any==Region.Mode.text)=false:=rfl
theorem setV {cs:List Cv}{i:Nat}{v:Value}(h:cs.all Cv.isV=true):(cs.set i (.v v)).all Cv.isV=true:=by
 rw[List.all_eq_true]at h⊢
 intro x hx
 rcases List.mem_or_eq_of_mem_set hx with hx|rfl
 ·exact h x hx
 ·rfl
theorem _root_.Go.Proofs.YtlnpgbnhcondjaaGreatDoor.Vg.DCallQ.n1 {H:Hp}{P:Program}{nt:Nat}{C:Cx}{r:List It}{e e0:Env}{M M0 Mf:Mem}{id:Nat}{rg:Array Oper}{k:Nat}{T:List (Nat×Nat)}{i:Nat}{o:Oper}{l:List Oper}{f:FuncId}{vs:List (Option (Bool×V))}{dst:Option Nat}{xs:List V}{v:V}{n:Nat}{b:Bk}(nx:Nat)(hc:CallX H P f xs [] (fun _:Unit=>v) (fun _=>[(n,b)]) (fun _ _=>True))(hH:H.le C.hp)(hvs:vs=xs.map fun x=>some (true,x))
  (h0:M0.get n=none) (h1:M.get n=none) (hT:(T.all fun q=> !(q.1==n||q.1==n+1000000)||(aft o).contains q.2)=true)
  (h:runD P nt C id rg r e0 M0 Mf k (kontW P nt C (.ops rg (rg.toList.drop k)::r)) ((n,i)::T) (i+1) l (e.put dst true v) ((n,b)::M) nx):DCallQ P nt C id rg r e0 M0 Mf k T i o f vs true dst l e M:=
 ⟨[],[(n,b)],M0,v,xs,fun _=>hvs,fun _=> .inr (CallX.kx hc hH ClM.nil (fun _=>rfl) (fun _=>rfl)),Sub.nil _,ClM.nil,Fresh.of (by simp[Mem.get,h0]),.inl rfl,⟨fun _ _ h=> .inl h,snoc_hf (by simp[ownB,h0,h1]) (by simpa[touchB]using hT)⟩,DrS.go nx h⟩
@[reducible] def z7:List Cv:=[.v (.string ⟨#[]⟩),.v (.slice none 0 0),.v (.slice none 0 0),.v (.slice none 0 0),.v (.slice none 0 0),.v (.slice none 0 0),.v (.slice none 0 0)]
end Go.Proofs.YtlnpgbnhcondjaaGreatDoor.Fx
namespace Go.Proofs.YtlnpgbnhcondjaaGreatDoor.Fx
open Vg Tf
set_option linter.unusedSimpArgs false
set_option linter.unusedVariables false
set_option linter.unusedSectionVars false
set_option maxRecDepth 100000
set_option maxHeartbeats 4000000
@[go_sem ↓] theorem plS_1_13:plS 1 13=[(0,13)]:=rfl
structure Sg where
 nm:Str
 ty:Ft
 r:Int×Int
def Sg.w (s:Sg):List Value:=sv s.nm::(ftR s.ty++[iv s.r.1,iv s.r.2])
structure CkR where
 d:Dg
 sg:List Sg
 od:List Nat
structure CkL where
 d:DgL
 sg:List Sg
 od:List Nat
 s:Sv
 o:Sv
def CkL.r (c:CkL):List Value:=c.d.r++[vsl c.s c.sg.length,vsl c.o c.od.length]
def CkL.c (c:CkL):CkR:=⟨c.d.c,c.sg,c.od⟩
structure CkL.ok (H:Hp) (c:CkL):Prop where
 d:c.d.ok H
 s:SlH H (vsl c.s c.sg.length) 13 (c.sg.map Sg.w)
 o:SlH H (vsl c.o c.od.length) 1 (c.od.map fun n:Nat=>[iv n])
end Go.Proofs.YtlnpgbnhcondjaaGreatDoor.Fx
namespace Go.Proofs.YtlnpgbnhcondjaaGreatDoor.Fx
open Vg Tf
set_option linter.unusedSimpArgs false
set_option linter.unusedVariables false
set_option linter.unusedSectionVars false
set_option maxRecDepth 100000
set_option maxHeartbeats 4000000
theorem _root_.Go.Proofs.YtlnpgbnhcondjaaGreatDoor.Vg.Rel.bring {C:Cx}{M:Mem}{l:Vg.Loc}{cs:List Value}{β:Vl}{w:World}(nm:Nat)(el:TypeId)(h:LcH C.hp l cs)(hn:M.get nm=none)(h1:Rel C.S C.w0 β M w):Rel C.S C.w0 (fun k=>if k=nm then l else β k) ((nm,⟨true,cs.map .v,el⟩)::M) w:=by
 have hne:∀k b,M.get k=some b→k≠nm:=by rintro k b hk rfl;rw[hn]at hk;cases hk
 have hcells:∀β:Vl,(cs.map Cv.v).map (Cv.g β)=cs:=fun β=>by
  rw[List.map_map];conv=>rhs;rw[←List.map_id cs]
  exact List.map_congr_left fun _ _=>rfl
 have hag0:∀β',Agree ((nm,⟨true,cs.map .v,el⟩)::M) (fun k=>if k=nm then l else β k) β'→Agree M β β'∧β' nm=l:=fun β' hag=>by
  refine⟨fun j hj=>?_,by have:=hag nm (by rw[Mem.get_cons];simp);simpa using this⟩
  obtain⟨c,hc⟩:=Option.isSome_iff_exists.1 hj
  rw[hag j (by rw[Mem.get_cons];split<;>simp_all)]
  exact if_neg (hne j c hc)
 refine⟨h1.fr,⟨fun β' hag k b hb=>?_,fun k b hb hu=>?_,fun k m b b' hb hb' hkm hr hlv hu hu'=>?_⟩,fun k b hb hr hu hS=>?_,fun k q hq=>?_⟩
 ·obtain⟨g1,g2⟩:=hag0 β' hag
  rw[Mem.get_cons]at hb
  split at hb
  ·rename_i hk
   simp at hb;subst hb hk
   unfold BkOk
   rw[g2,hcells]
   cases hu:l.nul with
   |true=>simp only[if_true];rw[h.1 hu];exact⟨rfl,fun h=>by cases h⟩
   |false=>
    simp only[Bool.false_eq_true,if_false,if_true]
    obtain⟨c,el',mk,q1,q2⟩:=h.2.2 hu
    refine⟨fun j v hj=>?_,by simpa using h.2.1⟩
    simp[World.cell?,Cx.hp_now h1 q1,q2 j v hj]
  ·exact h1.mem.ok β' g1 k b hb
 ·rw[Mem.get_cons]at hb
  split at hb
  ·rename_i hk
   simp only[if_pos hk]at hu⊢
   obtain⟨c,el',mk,q1,q2⟩:=h.2.2 hu
   exact Nat.lt_of_lt_of_le (C.hp_lt q1) h1.fr.size
  ·rename_i hk;simp only[if_neg hk]at hu⊢;exact h1.mem.there k b hb hu
 ·rw[Mem.get_cons]at hb hb'
  split at hb
  ·simp at hb;subst hb;cases hr
  ·rename_i hk
   split at hb'
   ·rename_i hk'
    simp only[if_neg hk,if_pos hk']at hu hu'⊢
    obtain⟨c,el',mk,q1,q2⟩:=h.2.2 hu'
    exact fun hh=>Cx.hp_wrt h1 q1 ⟨k,b,hb,hr,hu,hh.symm⟩
   ·rename_i hk'
    simp only[if_neg hk,if_neg hk']at hu hu'⊢
    exact h1.mem.apart k m b b' hb hb' hkm hr hlv hu hu'
 ·rw[Mem.get_cons]at hb
  split at hb
  ·simp at hb;subst hb;cases hr
  ·rename_i hk;simp only[if_neg hk]at hu hS⊢;exact h1.own k b hb hr hu hS
 ·obtain⟨p1,p2⟩:=h1.pin k q hq
  have hkn:k≠nm:=by rintro rfl;rw[hn]at p1;cases p1
  exact⟨by rw[Mem.get_cons,if_neg hkn];exact p1,by simp only[if_neg hkn];exact p2⟩
theorem all_getD {p:Int→Bool}{l:List Int}(h:l.all p=true)(i:Nat)(hi:i<l.length):p (l.getD i 0)=true:=by
 rw[List.getD_eq_getElem?_getD,List.getElem?_eq_getElem hi]
 exact List.all_eq_true.1 h _ (List.getElem_mem hi)
theorem near_bd {n:Int}(h:nearB n=true): -1073741824≤n∧n≤1073741824:=of_decide_eq_true h
structure CuOk (c:Cu):Prop where
 len:c.xs.length=c.ys.length
 two:2≤c.xs.length
 big:c.xs.length≤32
 x:c.xs.all nearB=true
 y:c.ys.all nearB=true
 inc:incB c.xs=true
theorem CuOk.of {c:Cu}(h:cuOk c.xs c.ys=true):CuOk c:=by
 unfold cuOk axOk at h
 simp only[Bool.and_eq_true,decide_eq_true_eq]at h
 exact⟨h.1,h.2.1.1.1,h.2.1.1.2,h.2.1.2.1,h.2.2,h.2.1.2.2⟩
end Go.Proofs.YtlnpgbnhcondjaaGreatDoor.Fx
