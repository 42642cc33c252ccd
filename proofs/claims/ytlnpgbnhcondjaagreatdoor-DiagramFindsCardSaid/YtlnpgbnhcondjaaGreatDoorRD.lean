/-  -/
import Derived.Test.YtlnpgbnhcondjaaGreatDoorPS
import Derived.Test.YtlnpgbnhcondjaaGreatDoorQN
import Derived.Test.YtlnpgbnhcondjaaGreatDoorQH
namespace Go.Proofs.YtlnpgbnhcondjaaGreatDoor.Fx
open Vg Tf
set_option linter.unusedSimpArgs false
set_option linter.unusedVariables false
set_option maxRecDepth 100000
set_option maxHeartbeats 4000000
theorem _root_.Go.Proofs.YtlnpgbnhcondjaaGreatDoor.Vg.Stp.idxV {P:Program}{o:Oper}{e:Env}{M:Mem}{ty el:TypeId}{x i:Operand}{b off len c sz:Nat}{ki:IntKind}{k:Int}(ho:o.op= .indexAddr ty x i)(hx:rd e x=some (true,.c (.v (.slice (some ⟨b,off,none⟩) len c))))(hi:rd e i=some (true,.c (.v (.int ki k))))
  (hsl:slOf P ty=some (el,sz)) (h0:0≤k) (hlt:k<len):Stp P o e M (.c (.v (.pointer (some ⟨b,off+k.toNat*sz,none⟩)))) []:=by
 obtain⟨hu,hsz,hsz0⟩:=slOf_ok hsl
 exact Stp.pure fun β a hop w=>by
  have hex:=hop x (by simp[ho,Op.operands]) _ hx
  have hei:=hop i (by simp[ho,Op.operands]) _ hi
  simp only[gv,V.g,Cv.g,cond_true]at hex hei
  unfold execOp
  simp[ho,hex,hei,Instr.indexAt,asIntOf,run_underlying hu,h0,hlt,run_sizeOf' hsz hsz0,V.g,Cv.g,Addr.add_lit]
theorem _root_.Go.Proofs.YtlnpgbnhcondjaaGreatDoor.Vg.SlH.at {H:Hp}{v:Value}{sz:Nat}{rows:List (List Value)}(h:SlH H v sz rows)(h0:rows.flatten≠[]):∃b o c,v= .slice (some ⟨b,o,none⟩) rows.length c∧∃cs el mk,H b (.cells cs el mk)∧∀i x,rows.flatten[i]?=some x→cs[o+i]?=some x:=by
 obtain⟨l,h1,h2,h3⟩:=h
 have hn:l.nul=false:=by
  cases hq:l.nul with
  |false=>rfl
  |true=>exact absurd (h3.1 hq) h0
 obtain⟨c,el,mk,q1,q2⟩:=h3.2.2 hn
 refine⟨l.blk,l.org,(l.siz-0)/sz,?_,c,el,mk,q1,q2⟩
 rw[h1]
 simp only[Cv.g,hn,Bool.false_eq_true,false_and,if_false,Nat.add_zero]
def delT:Str:=[100,101,108,97,121]
def lagT:Str:=[108,97,103]
def limT (t:Ft):Int×Int:=(bif fok t then flo t else 0,bif fok t then fhi t else 0)
def newB (d:Dg)(rs:List (Int×Int))(s:Int×Int)(i:Nat)(b:Bl):Int×Int:=
 bif b.kd==delT then hulR s (cnvR (rs.getD (sgN (sigs d) (b.ins.getD 0 [])) (0,0)) (tyAt d (sgN (sigs d) (b.ins.getD 0 []))) (tyN d.tys b.ty))
 else bif b.kd==lagT then rs.getD (d.ins.length+i) (0,0)else s
def newS (d:Dg)(rs:List (Int×Int))(s:Int×Int)(i:Nat):Int×Int:=newB d rs s i (d.bls.getD i bl0)
end Go.Proofs.YtlnpgbnhcondjaaGreatDoor.Fx
namespace Go.Proofs.YtlnpgbnhcondjaaGreatDoor.Fx
open Vg Tf
set_option linter.unusedSimpArgs false
set_option linter.unusedVariables false
set_option maxRecDepth 100000
set_option maxHeartbeats 4000000
def upto (f:Nat→Int×Int)(N i:Nat):List (Int×Int):=(List.range N).map fun j=>if j<i then f j else(0,0)
def po0:Po:=⟨[],[],0,0⟩
def inF (d:Dg)(j:Nat):Int×Int:=((d.ins.getD j po0).lo,(d.ins.getD j po0).hi)
def stF (d:Dg)(j:Nat):Int×Int:=let b:=d.bls.getD j bl0;bif b.kd==delT then(b.ks.getD 0 0,b.ks.getD 0 0)else(0,0)
def r0 (d:Dg):List (Int×Int):=upto (inF d) (d.ins.length+d.bls.length) d.ins.length
def s0 (d:Dg):List (Int×Int):=upto (stF d) d.bls.length d.bls.length
end Go.Proofs.YtlnpgbnhcondjaaGreatDoor.Fx
namespace Go.Proofs.YtlnpgbnhcondjaaGreatDoor.Fx
set_option linter.unusedVariables false
set_option maxHeartbeats 4000000
theorem lim0 (t:Ft):(limT t).1≤0∧0≤(limT t).2:=by
 unfold limT
 cases h:fok t with
 |true=>have:=flo_bd t h;simp only[cond_true];omega
 |false=>simp
def gdR (t:Ft)(r:Int×Int):Prop:=(limT t).1≤r.1∧r.1≤r.2∧r.2≤(limT t).2
theorem gd0 (t:Ft):gdR t (0,0):=⟨(lim0 t).1,Int.le_refl _,(lim0 t).2⟩
theorem wi_lim {t:Ft}{x:Int}(h:wiB t x=true):(limT t).1≤x∧x≤(limT t).2:=by
 unfold wiB at h
 rw[Bool.and_eq_true,decide_eq_true_eq,decide_eq_true_eq]at h
 exact h
end Go.Proofs.YtlnpgbnhcondjaaGreatDoor.Fx
namespace Go.Proofs.YtlnpgbnhcondjaaGreatDoor.Fx
set_option linter.unusedVariables false
end Go.Proofs.YtlnpgbnhcondjaaGreatDoor.Fx
namespace Go.Proofs.YtlnpgbnhcondjaaGreatDoor.Fx
set_option linter.unusedVariables false
theorem firstF_no {α:Type}{f:α→Option (Str×Int)}:∀{l:List α},firstF f l=none↔∀x∈l,f x=none
 |[]=>by simp[firstF]
 |y::l=>by
  rw[firstF_cons]
  cases hy:f y with
  |some z=>simp[hy]
  |none=>rw[Option.none_or,firstF_no];simp[hy]
structure Chkd (d:Dg):Prop where
 ok:dgOk d=true
 dup:dupF [] (allN d)=none
 inp:∀p∈d.ins,inpE d.tys p=none
 blk:∀b∈d.bls,blkE d.tys d.cus d.mas (sigs d) b=none
 out:outE (sigs d) [] d.ous=none
 fit:∀b∈d.bls,fitE d b=none
theorem Chkd.of {d:Dg}(h:dgOk d=true)(h2:allE d=none):Chkd d:=by
 unfold allE at h2
 cases hd:dupF [] (allN d)with
 |some s=>rw[hd]at h2;cases h2
 |none=>
  rw[hd]at h2
  simp only[Option.or_eq_none_iff]at h2
  obtain⟨h3,h4,h5,h6⟩:=h2
  exact⟨h,hd,firstF_no.1 h3,firstF_no.1 h4,h5,firstF_no.1 h6⟩
theorem Chkd.num {d:Dg}(k:Chkd d){b:Bl}(hb:b∈d.bls):numB (tyN d.tys b.ty) b=true:=by
 have:=k.fit b hb
 unfold fitE at this
 split at this
 ·cases this
 ·split at this
  ·cases this
  ·rename_i h;simpa using h
theorem Chkd.inr {d:Dg}(k:Chkd d){p:Po}(hp:p∈d.ins):gdR (tyN d.tys p.ty) (p.lo,p.hi):=by
 have:=k.inp p hp
 unfold inpE at this
 split at this
 ·cases this
 ·split at this
  ·cases this
  ·rename_i h
   simp only[Bool.or_eq_true,decide_eq_true_eq,Bool.not_eq_true',not_or,Bool.not_eq_false]at h
   obtain⟨h1,h2,h3⟩:=h
   exact⟨(wi_lim h2).1,by show p.lo≤p.hi;omega,(wi_lim h3).2⟩
end Go.Proofs.YtlnpgbnhcondjaaGreatDoor.Fx
namespace Go.Proofs.YtlnpgbnhcondjaaGreatDoor.Fx
open Vg Tf
set_option linter.unusedSimpArgs false
set_option linter.unusedVariables false
set_option maxRecDepth 100000
set_option maxHeartbeats 4000000
end Go.Proofs.YtlnpgbnhcondjaaGreatDoor.Fx
namespace Go.Proofs.YtlnpgbnhcondjaaGreatDoor.Fx
open Vg Tf
set_option linter.unusedSimpArgs false
set_option linter.unusedVariables false
set_option maxRecDepth 100000
set_option maxHeartbeats 4000000
structure DgB (d:DgL):Prop where
 tys:d.tys.length≤30
 cus:d.cus.length≤30
 mas:d.mas.length≤30
 ins:d.ins.length≤30
 bls:d.bls.length≤200
 ous:d.ous.length≤30
 cuO:∀c∈d.cus,cuOk c.c.xs c.c.ys=true
 maO:∀m∈d.mas,maOk m.xs m.ys (m.zs.map (·.2))=true
 blO:∀b∈d.bls,blOk b.c=true
 tyO:∀t∈d.tys,fok t.ty=true
theorem dgB {d:DgL}(h:dgOk d.c=true):DgB d:=by
 unfold dgOk at h
 simp only[Bool.and_eq_true,decide_eq_true_eq,List.all_eq_true]at h
 obtain⟨_,⟨n1,n2,n3,n4,n5⟩,n6,ht,hcu,hma,_,hbl,_⟩:=h
 refine⟨n1,by simpa[DgL.c]using n2,by simpa[DgL.c]using n3,n4,by simpa[DgL.c]using n6,n5,fun c hc=>(hcu c.c (List.mem_map.2 ⟨c,hc,rfl⟩)).2,fun m hm=>(hma m.c (List.mem_map.2 ⟨m,hm,rfl⟩)).2,fun b hb=>hbl b.c (List.mem_map.2 ⟨b,hb,rfl⟩),fun t h=>(ht t h).2⟩
theorem blO_in {b:Bl}(h:blOk b=true):b.ins.length≤3:=by
 have hq:∃q,kindQ b.kd=some q:=by
  have h1:=h
  unfold blOk at h1
  cases hq:kindQ b.kd with
  |none=>rw[hq]at h1;cases h1
  |some q=>exact⟨q,rfl⟩
 obtain⟨q,hq⟩:=hq
 have hm:(b.kd,q)∈kindT:=by
  have h2:=hq
  unfold kindQ at h2
  cases hf:kindT.find? (fun r=>r.1==b.kd)with
  |none=>rw[hf]at h2;cases h2
  |some r=>
   rw[hf]at h2
   have h3:=List.mem_of_find?_eq_some hf
   have h4:=List.find?_some hf
   have h5:r.1=b.kd:=by simpa using h4
   have h6:r.2=q:=by simpa using h2
   rw[←h5,←h6];exact h3
 unfold blOk at h
 rw[hq]at h
 simp only[Bool.and_eq_true,decide_eq_true_eq]at h
 have:∀x∈kindT,x.2.1≤3:=by decide
 have:=this _ hm
 simp only at this
 omega
end Go.Proofs.YtlnpgbnhcondjaaGreatDoor.Fx
namespace Go.Proofs.YtlnpgbnhcondjaaGreatDoor.Fx
open Vg Tf
set_option linter.unusedSimpArgs false
set_option linter.unusedVariables false
set_option maxRecDepth 100000
set_option maxHeartbeats 4000000
theorem concV {L:List Nat}{β:Vl}{l:List Cv}(h:l.all Cv.isV=true):l.map (Cv.conc L β)=l:=by
 rw[List.all_eq_true]at h
 conv=>rhs;rw[←List.map_id l]
 refine List.map_congr_left fun c hc=>?_
 have:=h c hc
 cases c with
 |v x=>rfl
 |_=>cases this
@[go_sem] theorem mode_at:(Region.Mode.any==Region.Mode.text)=false:=rfl
theorem setV {cs:List Cv}{i:Nat}{v:Value}(h:cs.all Cv.isV=true):(cs.set i (.v v)).all Cv.isV=true:=by
 rw[List.all_eq_true]at h⊢
 intro x hx
 rcases List.mem_or_eq_of_mem_set hx with hx|rfl
 ·exact h x hx
 ·rfl
def zR (v:Sv×List Int):List Value:=[vsl v.1 v.2.length]
theorem _root_.Go.Proofs.YtlnpgbnhcondjaaGreatDoor.Vg.DCallQ.n1 {H:Hp}{P:Program}{nt:Nat}{C:Cx}{r:List It}{e e0:Env}{M M0 Mf:Mem}{id:Nat}{rg:Array Oper}{k:Nat}{T:List (Nat×Nat)}{i:Nat}{o:Oper}{l:List Oper}{f:FuncId}{vs:List (Option (Bool×V))}{dst:Option Nat}{xs:List V}{v:V}{n:Nat}{b:Bk}(nx:Nat)(hc:CallX H P f xs [] (fun _:Unit=>v) (fun _=>[(n,b)]) (fun _ _=>True))(hH:H.le C.hp)(hvs:vs=xs.map fun x=>some (true,x))
  (h0:M0.get n=none) (h1:M.get n=none) (hT:(T.all fun q=> !(q.1==n||q.1==n+1000000)||(aft o).contains q.2)=true)
  (h:runD P nt C id rg r e0 M0 Mf k (kontW P nt C (.ops rg (rg.toList.drop k)::r)) ((n,i)::T) (i+1) l (e.put dst true v) ((n,b)::M) nx):DCallQ P nt C id rg r e0 M0 Mf k T i o f vs true dst l e M:=
 ⟨[],[(n,b)],M0,v,xs,fun _=>hvs,fun _=> .inr (CallX.kx hc hH ClM.nil (fun _=>rfl) (fun _=>rfl)),Sub.nil _,ClM.nil,Fresh.of (by simp[Mem.get,h0]),.inl rfl,⟨fun _ _ h=> .inl h,snoc_hf (by simp[ownB,h0,h1]) (by simpa[touchB]using hT)⟩,DrS.go nx h⟩
@[reducible] def z7:List Cv:=[.v (.string ⟨#[]⟩),.v (.slice none 0 0),.v (.slice none 0 0),.v (.slice none 0 0),.v (.slice none 0 0),.v (.slice none 0 0),.v (.slice none 0 0)]
end Go.Proofs.YtlnpgbnhcondjaaGreatDoor.Fx
namespace Go.Proofs.YtlnpgbnhcondjaaGreatDoor.Fx
open Vg Tf
set_option linter.unusedSimpArgs false
set_option linter.unusedVariables false
set_option maxRecDepth 100000
set_option maxHeartbeats 4000000
theorem _root_.Go.Proofs.YtlnpgbnhcondjaaGreatDoor.Vg.Rel.eqc {S:Bs}{w0 w:World}{β:Vl}{M:Mem}(h:Rel S w0 β M w){n:Nat}{b:Bk}{cs:List Cv}(hb:M.get n=some b)(hg:∀β',Agree M β β'→cs.map (Cv.g β')=b.cells.map (Cv.g β')):Rel S w0 β ((n,⟨b.ro,cs,b.elem⟩)::M) w:=by
 have hl:cs.length=b.cells.length:=by have:=congrArg List.length (hg β (Agree.refl _ _));simpa using this
 have hs:∀k,(Mem.get ((n,⟨b.ro,cs,b.elem⟩)::M) k).isSome=(M.get k).isSome:=fun k=>by
  rw[Mem.get_cons]
  split
  ·rename_i hk;subst hk;rw[hb];rfl
  ·rfl
 have hq:∀k c,Mem.get ((n,⟨b.ro,cs,b.elem⟩)::M) k=some c→∃c0,M.get k=some c0∧c.ro=c0.ro∧c.elem=c0.elem∧c.cells.length=c0.cells.length∧∀β',Agree M β β'→c.cells.map (Cv.g β')=c0.cells.map (Cv.g β'):=fun k c hc=>by
  rw[Mem.get_cons]at hc
  split at hc
  ·rename_i hk;subst hk;cases hc;exact⟨b,hb,rfl,rfl,hl,hg⟩
  ·exact⟨c,hc,rfl,rfl,rfl,fun _ _=>rfl⟩
 refine⟨h.fr,⟨fun β' hag k c hc=>?_,fun k c hc hu=>?_,fun k m c c' hc hc' hne hr hv hu1 hu2=>?_⟩,fun k c hc hr hu hS=>?_,fun k l hk=>?_⟩
 ·obtain⟨c0,q1,q2,q3,q4,q5⟩:=hq k c hc
  have hag':Agree M β β':=fun j hj=>hag j (by rw[hs];exact hj)
  have h0:=h.mem.ok β' hag' k c0 q1
  unfold BkOk at h0⊢
  rw[q2,q3,q5 β' hag',q4]
  split at h0
  ·rename_i hh
   rw[if_pos hh]
   exact⟨List.length_eq_zero_iff.1 (by rw[q4,h0.1];rfl),h0.2⟩
  ·rename_i hh
   rw[if_neg hh];exact h0
 ·obtain⟨c0,q1,_⟩:=hq k c hc
  exact h.mem.there k c0 q1 hu
 ·obtain⟨c0,q1,q2,q3,q4,q5⟩:=hq k c hc
  obtain⟨d0,r1,r2,r3,r4,r5⟩:=hq m c' hc'
  refine h.mem.apart k m c0 d0 q1 r1 hne (by rw[←q2];exact hr) ?_ hu1 hu2
  rcases hv with hv|hv
  ·exact .inl (by rw[←r2];exact hv)
  ·exact .inr fun he=>hv (List.length_eq_zero_iff.1 (by rw[r4,he];rfl))
 ·obtain⟨c0,q1,q2,_⟩:=hq k c hc
  exact h.own k c0 q1 (by rw[←q2];exact hr) hu hS
 ·have:=h.pin k l hk
  exact⟨by rw[hs];exact this.1,this.2⟩
@[go_sem ↓] theorem plS_1_13:plS 1 13=[(0,13)]:=rfl
structure Sg where
 nm:Str
 ty:Ft
 r:Int×Int
def Sg.w (s:Sg):List Value:=sv s.nm::(ftR s.ty++[iv s.r.1,iv s.r.2])
structure CkR where
 d:Dg
 sg:List Sg
 od:List Nat
structure CkL where
 d:DgL
 sg:List Sg
 od:List Nat
 s:Sv
 o:Sv
def CkL.r (c:CkL):List Value:=c.d.r++[vsl c.s c.sg.length,vsl c.o c.od.length]
def CkL.c (c:CkL):CkR:=⟨c.d.c,c.sg,c.od⟩
structure CkL.ok (H:Hp) (c:CkL):Prop where
 d:c.d.ok H
 s:SlH H (vsl c.s c.sg.length) 13 (c.sg.map Sg.w)
 o:SlH H (vsl c.o c.od.length) 1 (c.od.map fun n:Nat=>[iv n])
end Go.Proofs.YtlnpgbnhcondjaaGreatDoor.Fx
