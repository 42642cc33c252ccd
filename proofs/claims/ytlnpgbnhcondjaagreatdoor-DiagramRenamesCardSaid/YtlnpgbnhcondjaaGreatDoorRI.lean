/-  -/
import Derived.Test.YtlnpgbnhcondjaaGreatDoorPS
import Derived.Test.YtlnpgbnhcondjaaGreatDoorQH
import Derived.Test.YtlnpgbnhcondjaaGreatDoorQR
namespace Go.Proofs.YtlnpgbnhcondjaaGreatDoor.Fx
open Vg Tf
set_option linter.unusedSimpArgs false
set_option linter.unusedVariables false
set_option maxRecDepth 100000
set_option maxHeartbeats 4000000
structure DgB (d:DgL):Prop where
 tys:d.tys.length≤30
 cus:d.cus.length≤30
 mas:d.mas.length≤30
 ins:d.ins.length≤30
 bls:d.bls.length≤200
 ous:d.ous.length≤30
 cuO:∀c∈d.cus,cuOk c.c.xs c.c.ys=true
 maO:∀m∈d.mas,maOk m.xs m.ys (m.zs.map (·.2))=true
 blO:∀b∈d.bls,blOk b.c=true
 tyO:∀t∈d.tys,fok t.ty=true
theorem dgB {d:DgL}(h:dgOk d.c=true):DgB d:=by
 unfold dgOk at h
 simp only[Bool.and_eq_true,decide_eq_true_eq,List.all_eq_true]at h
 obtain⟨_,⟨n1,n2,n3,n4,n5⟩,n6,ht,hcu,hma,_,hbl,_⟩:=h
 refine⟨n1,by simpa[DgL.c]using n2,by simpa[DgL.c]using n3,n4,by simpa[DgL.c]using n6,n5,fun c hc=>(hcu c.c (List.mem_map.2 ⟨c,hc,rfl⟩)).2,fun m hm=>(hma m.c (List.mem_map.2 ⟨m,hm,rfl⟩)).2,fun b hb=>hbl b.c (List.mem_map.2 ⟨b,hb,rfl⟩),fun t h=>(ht t h).2⟩
theorem blO_in {b:Bl}(h:blOk b=true):b.ins.length≤3:=by
 have hq:∃q,kindQ b.kd=some q:=by
  have h1:=h
  unfold blOk at h1
  cases hq:kindQ b.kd with
  |none=>rw[hq]at h1;cases h1
  |some q=>exact⟨q,rfl⟩
 obtain⟨q,hq⟩:=hq
 have hm:(b.kd,q)∈kindT:=by
  have h2:=hq
  unfold kindQ at h2
  cases hf:kindT.find? (fun r=>r.1==b.kd)with
  |none=>rw[hf]at h2;cases h2
  |some r=>
   rw[hf]at h2
   have h3:=List.mem_of_find?_eq_some hf
   have h4:=List.find?_some hf
   have h5:r.1=b.kd:=by simpa using h4
   have h6:r.2=q:=by simpa using h2
   rw[←h5,←h6];exact h3
 unfold blOk at h
 rw[hq]at h
 simp only[Bool.and_eq_true,decide_eq_true_eq]at h
 have:∀x∈kindT,x.2.1≤3:=by decide
 have:=this _ hm
 simp only at this
 omega
end Go.Proofs.YtlnpgbnhcondjaaGreatDoor.Fx
namespace Go.Proofs.YtlnpgbnhcondjaaGreatDoor.Fx
open Vg Tf
set_option linter.unusedSimpArgs false
set_option linter.unusedVariables false
set_option maxRecDepth 100000
set_option maxHeartbeats 4000000
theorem concV {L:List Nat}{β:Vl}{l:List Cv}(h:l.all Cv.isV=true):l.map (Cv.conc L β)=l:=by
 rw[List.all_eq_true]at h
 conv=>rhs;rw[←List.map_id l]
 refine List.map_congr_left fun c hc=>?_
 have:=h c hc
 cases c with
 |v x=>rfl
 |_=>cases this
theorem one_rows (l:List (List Value))(h:∀r∈l,∀v∈r,v.oneCell'=true):(rowsC l).all Cv.one=true:=by
 rw[List.all_eq_true]
 intro c hc
 unfold rowsC at hc
 obtain⟨v,hv,rfl⟩:=List.mem_map.1 hc
 obtain⟨r,hr,hvr⟩:=List.mem_flatten.1 hv
 exact h r hr v hvr
@[go_sem] theorem mode_at:(Region.Mode.any==Region.Mode.text)=false:=rfl
theorem cok_set {L:List Nat}{cs:List Cv}{i:Nat}{c:Cv}(h:cs.all (Cv.cok L)=true)(hc:c.cok L=true):(cs.set i c).all (Cv.cok L)=true:=by
 rw[List.all_eq_true]at h⊢
 intro x hx
 rcases List.mem_or_eq_of_mem_set hx with hx|rfl
 ·exact h x hx
 ·exact hc
theorem setV {cs:List Cv}{i:Nat}{v:Value}(h:cs.all Cv.isV=true):(cs.set i (.v v)).all Cv.isV=true:=by
 rw[List.all_eq_true]at h⊢
 intro x hx
 rcases List.mem_or_eq_of_mem_set hx with hx|rfl
 ·exact h x hx
 ·rfl
theorem inM_set {M:Mem}{cs:List Cv}{i:Nat}{c:Cv}(h:cs.all (Cv.inM M)=true)(hc:c.inM M=true):(cs.set i c).all (Cv.inM M)=true:=by
 rw[List.all_eq_true]at h⊢
 intro x hx
 rcases List.mem_or_eq_of_mem_set hx with hx|rfl
 ·exact h x hx
 ·exact hc
theorem ren_set {ρ:Nat→Nat}{r:Bool}{l:List Cv}{t:TypeId}{i n a b c:Nat}(h:l.all Cv.isV=true)(hn:ρ n=n):(⟨r,l.set i (.sl n a b c),t⟩:Bk).ren ρ=⟨r,l.set i (.sl n a b c),t⟩:=by
 have h1:=renV (ρ:=ρ) (r:=r) (t:=t) h
 simp only[Bk.ren,Bk.mk.injEq,true_and,and_true]at h1⊢
 rw[List.map_set,h1]
 simp only[Cv.ren,hn]
def zR (v:Sv×List Int):List Value:=[vsl v.1 v.2.length]
theorem rowsC_set {k:Nat}(A B:List (List Value))(r:List Value)(hA:∀a∈A,a.length=k)(i:Nat)(hi:i<r.length)(v:Value):(rowsC (A++r::B)).set (A.length*k+i) (.v v)=rowsC (A++r.set i v::B):=by
 have hl:=rowsC_len (k:=k) A hA
 have e:∀x:List Value,rowsC (A++x::B)=rowsC A++(x.map .v++rowsC B):=fun x=>by simp[rowsC]
 rw[e,e,List.set_append_right _ _ (by omega),hl,Nat.add_sub_cancel_left,List.set_append_left _ _ (by simpa using hi),List.map_set]
def swp (a b:Nat)(n:Nat):Nat:=if n=a then b else if n=b then a else n
theorem swp_inj (a b:Nat):∀n m,swp a b n=swp a b m→n=m:=by
 intro n m h
 unfold swp at h
 split at h<;>split at h<;>(try split at h)<;>(try split at h)<;>omega
theorem clo_at {H:Hp}{f:FuncId}{v:Value}{len sz:Nat}{cells:List Cv}{ty:TypeId}(hv:cells.all Cv.isV=true)(h:CallX H Tryz.prog f [.c (.v v)] [] (fun _:Unit=> .c (.sl 2 0 len sz)) (fun _=>[(2,⟨false,cells,ty⟩)]) (fun _ _=>True))(n:Nat):
  CallX H Tryz.prog f [.c (.v v)] [] (fun _:Unit=> .c (.sl n 0 len sz)) (fun _=>[(n,⟨false,cells,ty⟩)]) (fun _ _=>True):=by
 have h2:=h.ren (ρ:=swp 2 n) (swp_inj 2 n)
 simp only[Mem.ren,List.map_cons,List.map_nil,V.ren,Cv.ren,renV hv]at h2
 have e:swp 2 n 2=n:=by simp[swp]
 simp only[e]at h2
 exact h2
theorem _root_.Go.Proofs.YtlnpgbnhcondjaaGreatDoor.Vg.DCallQ.n1 {H:Hp}{P:Program}{nt:Nat}{C:Cx}{r:List It}{e e0:Env}{M M0 Mf:Mem}{id:Nat}{rg:Array Oper}{k:Nat}{T:List (Nat×Nat)}{i:Nat}{o:Oper}{l:List Oper}{f:FuncId}{vs:List (Option (Bool×V))}{dst:Option Nat}{xs:List V}{v:V}{n:Nat}{b:Bk}(nx:Nat)(hc:CallX H P f xs [] (fun _:Unit=>v) (fun _=>[(n,b)]) (fun _ _=>True))(hH:H.le C.hp)(hvs:vs=xs.map fun x=>some (true,x))
  (h0:M0.get n=none) (h1:M.get n=none) (hT:(T.all fun q=> !(q.1==n||q.1==n+1000000)||(aft o).contains q.2)=true)
  (h:runD P nt C id rg r e0 M0 Mf k (kontW P nt C (.ops rg (rg.toList.drop k)::r)) ((n,i)::T) (i+1) l (e.put dst true v) ((n,b)::M) nx):DCallQ P nt C id rg r e0 M0 Mf k T i o f vs true dst l e M:=
 ⟨[],[(n,b)],M0,v,xs,fun _=>hvs,fun _=> .inr (CallX.kx hc hH ClM.nil (fun _=>rfl) (fun _=>rfl)),Sub.nil _,ClM.nil,Fresh.of (by simp[Mem.get,h0]),.inl rfl,⟨fun _ _ h=> .inl h,snoc_hf (by simp[ownB,h0,h1]) (by simpa[touchB]using hT)⟩,DrS.go nx h⟩
@[reducible] def z7:List Cv:=[.v (.string ⟨#[]⟩),.v (.slice none 0 0),.v (.slice none 0 0),.v (.slice none 0 0),.v (.slice none 0 0),.v (.slice none 0 0),.v (.slice none 0 0)]
end Go.Proofs.YtlnpgbnhcondjaaGreatDoor.Fx
namespace Go.Proofs.YtlnpgbnhcondjaaGreatDoor.Fx
open Vg Tf
set_option linter.unusedSimpArgs false
set_option linter.unusedVariables false
set_option maxRecDepth 100000
set_option maxHeartbeats 4000000
theorem _root_.Go.Proofs.YtlnpgbnhcondjaaGreatDoor.Vg.Rel.eqc {S:Bs}{w0 w:World}{β:Vl}{M:Mem}(h:Rel S w0 β M w){n:Nat}{b:Bk}{cs:List Cv}(hb:M.get n=some b)(hg:∀β',Agree M β β'→cs.map (Cv.g β')=b.cells.map (Cv.g β')):Rel S w0 β ((n,⟨b.ro,cs,b.elem⟩)::M) w:=by
 have hl:cs.length=b.cells.length:=by have:=congrArg List.length (hg β (Agree.refl _ _));simpa using this
 have hs:∀k,(Mem.get ((n,⟨b.ro,cs,b.elem⟩)::M) k).isSome=(M.get k).isSome:=fun k=>by
  rw[Mem.get_cons]
  split
  ·rename_i hk;subst hk;rw[hb];rfl
  ·rfl
 have hq:∀k c,Mem.get ((n,⟨b.ro,cs,b.elem⟩)::M) k=some c→∃c0,M.get k=some c0∧c.ro=c0.ro∧c.elem=c0.elem∧c.cells.length=c0.cells.length∧∀β',Agree M β β'→c.cells.map (Cv.g β')=c0.cells.map (Cv.g β'):=fun k c hc=>by
  rw[Mem.get_cons]at hc
  split at hc
  ·rename_i hk;subst hk;cases hc;exact⟨b,hb,rfl,rfl,hl,hg⟩
  ·exact⟨c,hc,rfl,rfl,rfl,fun _ _=>rfl⟩
 refine⟨h.fr,⟨fun β' hag k c hc=>?_,fun k c hc hu=>?_,fun k m c c' hc hc' hne hr hv hu1 hu2=>?_⟩,fun k c hc hr hu hS=>?_,fun k l hk=>?_⟩
 ·obtain⟨c0,q1,q2,q3,q4,q5⟩:=hq k c hc
  have hag':Agree M β β':=fun j hj=>hag j (by rw[hs];exact hj)
  have h0:=h.mem.ok β' hag' k c0 q1
  unfold BkOk at h0⊢
  rw[q2,q3,q5 β' hag',q4]
  split at h0
  ·rename_i hh
   rw[if_pos hh]
   exact⟨List.length_eq_zero_iff.1 (by rw[q4,h0.1];rfl),h0.2⟩
  ·rename_i hh
   rw[if_neg hh];exact h0
 ·obtain⟨c0,q1,_⟩:=hq k c hc
  exact h.mem.there k c0 q1 hu
 ·obtain⟨c0,q1,q2,q3,q4,q5⟩:=hq k c hc
  obtain⟨d0,r1,r2,r3,r4,r5⟩:=hq m c' hc'
  refine h.mem.apart k m c0 d0 q1 r1 hne (by rw[←q2];exact hr) ?_ hu1 hu2
  rcases hv with hv|hv
  ·exact .inl (by rw[←r2];exact hv)
  ·exact .inr fun he=>hv (List.length_eq_zero_iff.1 (by rw[r4,he];rfl))
 ·obtain⟨c0,q1,q2,_⟩:=hq k c hc
  exact h.own k c0 q1 (by rw[←q2];exact hr) hu hS
 ·have:=h.pin k l hk
  exact⟨by rw[hs];exact this.1,this.2⟩
@[go_sem ↓] theorem plS_1_13:plS 1 13=[(0,13)]:=rfl
structure Sg where
 nm:Str
 ty:Ft
 r:Int×Int
def Sg.w (s:Sg):List Value:=sv s.nm::(ftR s.ty++[iv s.r.1,iv s.r.2])
def dg0:Dg:=⟨[],[],[],[],[],[],[]⟩
def dgL0:DgL:=⟨[],[],[],[],[],[],[],⟨none,0⟩,⟨none,0⟩,⟨none,0⟩,⟨none,0⟩,⟨none,0⟩,⟨none,0⟩⟩
theorem dgL0_ok (H:Hp):dgL0.ok H:=⟨SlH.nil _,SlH.nil _,SlH.nil _,SlH.nil _,SlH.nil _,SlH.nil _,by simp[dgL0],by simp[dgL0],by simp[dgL0]⟩
structure CkR where
 d:Dg
 sg:List Sg
 od:List Nat
structure CkL where
 d:DgL
 sg:List Sg
 od:List Nat
 s:Sv
 o:Sv
def CkL.r (c:CkL):List Value:=c.d.r++[vsl c.s c.sg.length,vsl c.o c.od.length]
def CkL.c (c:CkL):CkR:=⟨c.d.c,c.sg,c.od⟩
structure CkL.ok (H:Hp) (c:CkL):Prop where
 d:c.d.ok H
 s:SlH H (vsl c.s c.sg.length) 13 (c.sg.map Sg.w)
 o:SlH H (vsl c.o c.od.length) 1 (c.od.map fun n:Nat=>[iv n])
end Go.Proofs.YtlnpgbnhcondjaaGreatDoor.Fx
namespace Go.Proofs.YtlnpgbnhcondjaaGreatDoor.Fx
open Vg Tf
set_option linter.unusedSimpArgs false
set_option linter.unusedVariables false
set_option maxRecDepth 100000
set_option maxHeartbeats 4000000
theorem _root_.Go.Proofs.YtlnpgbnhcondjaaGreatDoor.Vg.Rel.bring {C:Cx}{M:Mem}{l:Vg.Loc}{cs:List Value}{β:Vl}{w:World}(nm:Nat)(el:TypeId)(h:LcH C.hp l cs)(hn:M.get nm=none)(h1:Rel C.S C.w0 β M w):Rel C.S C.w0 (fun k=>if k=nm then l else β k) ((nm,⟨true,cs.map .v,el⟩)::M) w:=by
 have hne:∀k b,M.get k=some b→k≠nm:=by rintro k b hk rfl;rw[hn]at hk;cases hk
 have hcells:∀β:Vl,(cs.map Cv.v).map (Cv.g β)=cs:=fun β=>by
  rw[List.map_map];conv=>rhs;rw[←List.map_id cs]
  exact List.map_congr_left fun _ _=>rfl
 have hag0:∀β',Agree ((nm,⟨true,cs.map .v,el⟩)::M) (fun k=>if k=nm then l else β k) β'→Agree M β β'∧β' nm=l:=fun β' hag=>by
  refine⟨fun j hj=>?_,by have:=hag nm (by rw[Mem.get_cons];simp);simpa using this⟩
  obtain⟨c,hc⟩:=Option.isSome_iff_exists.1 hj
  rw[hag j (by rw[Mem.get_cons];split<;>simp_all)]
  exact if_neg (hne j c hc)
 refine⟨h1.fr,⟨fun β' hag k b hb=>?_,fun k b hb hu=>?_,fun k m b b' hb hb' hkm hr hlv hu hu'=>?_⟩,fun k b hb hr hu hS=>?_,fun k q hq=>?_⟩
 ·obtain⟨g1,g2⟩:=hag0 β' hag
  rw[Mem.get_cons]at hb
  split at hb
  ·rename_i hk
   simp at hb;subst hb hk
   unfold BkOk
   rw[g2,hcells]
   cases hu:l.nul with
   |true=>simp only[if_true];rw[h.1 hu];exact⟨rfl,fun h=>by cases h⟩
   |false=>
    simp only[Bool.false_eq_true,if_false,if_true]
    obtain⟨c,el',mk,q1,q2⟩:=h.2.2 hu
    refine⟨fun j v hj=>?_,by simpa using h.2.1⟩
    simp[World.cell?,Cx.hp_now h1 q1,q2 j v hj]
  ·exact h1.mem.ok β' g1 k b hb
 ·rw[Mem.get_cons]at hb
  split at hb
  ·rename_i hk
   simp only[if_pos hk]at hu⊢
   obtain⟨c,el',mk,q1,q2⟩:=h.2.2 hu
   exact Nat.lt_of_lt_of_le (C.hp_lt q1) h1.fr.size
  ·rename_i hk;simp only[if_neg hk]at hu⊢;exact h1.mem.there k b hb hu
 ·rw[Mem.get_cons]at hb hb'
  split at hb
  ·simp at hb;subst hb;cases hr
  ·rename_i hk
   split at hb'
   ·rename_i hk'
    simp only[if_neg hk,if_pos hk']at hu hu'⊢
    obtain⟨c,el',mk,q1,q2⟩:=h.2.2 hu'
    exact fun hh=>Cx.hp_wrt h1 q1 ⟨k,b,hb,hr,hu,hh.symm⟩
   ·rename_i hk'
    simp only[if_neg hk,if_neg hk']at hu hu'⊢
    exact h1.mem.apart k m b b' hb hb' hkm hr hlv hu hu'
 ·rw[Mem.get_cons]at hb
  split at hb
  ·simp at hb;subst hb;cases hr
  ·rename_i hk;simp only[if_neg hk]at hu hS⊢;exact h1.own k b hb hr hu hS
 ·obtain⟨p1,p2⟩:=h1.pin k q hq
  have hkn:k≠nm:=by rintro rfl;rw[hn]at p1;cases p1
  exact⟨by rw[Mem.get_cons,if_neg hkn];exact p1,by simp only[if_neg hkn];exact p2⟩
theorem _root_.Go.Proofs.YtlnpgbnhcondjaaGreatDoor.Vg.Sm.bringC {P:Program}{nt:Nat}{C:Cx}{todo:List It}{e:Env}{M:Mem}{v:Value}{sz:Nat}{rows:List (List Value)}(nm:Nat)(el:TypeId)(n i:Nat){b:Bk}(h:SlH C.hp v sz rows)(hn:M.get nm=none)(hb:M.get n=some b)(hi:b.cells[i]?=some (.v v))
  (k:Sm P nt C todo e ((n,⟨b.ro,b.cells.set i (.sl nm 0 rows.length sz),b.elem⟩)::(nm,⟨true,rowsC rows,el⟩)::M)):Sm P nt C todo e M:=fun β a w h1 h2 h3 h4=>by
 obtain⟨l,q1,q2,q3⟩:=h
 have r0:=h1.bring nm el q3 hn
 have hne:¬n=nm:=fun hh=>by subst hh;rw[hn]at hb;cases hb
 have hbm:Mem.get ((nm,(⟨true,rows.flatten.map .v,el⟩:Bk))::M) n=some b:=by rw[Mem.get_cons,if_neg hne];exact hb
 have r:=r0.eqc (cs:=b.cells.set i (.sl nm 0 rows.length sz)) hbm (fun β' hag=>by
  have hnu:=hag nm (by rw[Mem.get_cons,if_pos rfl];rfl)
  simp only[if_true]at hnu
  have e1:(Cv.sl nm 0 rows.length sz).g β'=v:=by rw[q1,slg hnu]
  rw[List.map_set,e1]
  refine List.ext_getElem? fun k=>?_
  rw[List.getElem?_set]
  split
  ·rename_i hk
   subst hk
   have hlt:=(List.getElem?_eq_some_iff.1 hi).1
   rw[if_pos (by simpa using hlt),List.getElem?_map,hi];rfl
  ·rfl)
 refine k _ a w r (h2.on fun k hk=>?_) h3 h4
 obtain⟨c,hc⟩:=Option.isSome_iff_exists.1 hk
 have hkn:¬k=nm:=fun hh=>by subst hh;rw[hn]at hc;cases hc
 refine⟨?_,if_neg hkn⟩
 rw[Mem.get_cons]
 split
 ·rfl
 ·rw[Mem.get_cons,if_neg hkn];exact hk
theorem all_getD {p:Int→Bool}{l:List Int}(h:l.all p=true)(i:Nat)(hi:i<l.length):p (l.getD i 0)=true:=by
 rw[List.getD_eq_getElem?_getD,List.getElem?_eq_getElem hi]
 exact List.all_eq_true.1 h _ (List.getElem_mem hi)
theorem near_bd {n:Int}(h:nearB n=true): -1073741824≤n∧n≤1073741824:=of_decide_eq_true h
structure CuOk (c:Cu):Prop where
 len:c.xs.length=c.ys.length
 two:2≤c.xs.length
 big:c.xs.length≤32
 x:c.xs.all nearB=true
 y:c.ys.all nearB=true
 inc:incB c.xs=true
theorem CuOk.of {c:Cu}(h:cuOk c.xs c.ys=true):CuOk c:=by
 unfold cuOk axOk at h
 simp only[Bool.and_eq_true,decide_eq_true_eq]at h
 exact⟨h.1,h.2.1.1.1,h.2.1.1.2,h.2.1.2.1,h.2.2,h.2.1.2.2⟩
end Go.Proofs.YtlnpgbnhcondjaaGreatDoor.Fx
