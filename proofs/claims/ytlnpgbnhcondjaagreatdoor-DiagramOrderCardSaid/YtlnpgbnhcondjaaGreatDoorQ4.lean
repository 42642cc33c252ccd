/-  -/
import Derived.Test.YtlnpgbnhcondjaaGreatDoorTf
import Derived.Test.YtlnpgbnhcondjaaGreatDoorU6
import Derived.Test.YtlnpgbnhcondjaaGreatDoorMB
namespace Go.Proofs.YtlnpgbnhcondjaaGreatDoor.Fx
set_option linter.unusedSimpArgs false
set_option linter.unusedVariables false
set_option maxRecDepth 100000
set_option maxHeartbeats 4000000
def ixU (n:List UInt8):List (List UInt8)→Nat→Option Nat
 |[],_=>none
 |x::r,k=>if x=n then some k else ixU n r (k+1)
def readF (f:List UInt8):Option (Nat×Nat):=
 if (cutB 94 f).2.2=true then
  match (cutB 94 f).2.1 with
  |[d]=>if 50≤d.toNat∧d.toNat≤57 then(ixU (cutB 94 f).1 symT 0).map fun i=>(i,d.toNat-48)else none
  |_=>none
 else(ixU (cutB 94 f).1 symT 0).map fun i=>(i,1)
def uset (u:Un)(i:Nat)(v:Int):Un:=
 match i with
 |0=>{u with m:=v}
 |1=>{u with kg:=v}
 |2=>{u with s:=v}
 |3=>{u with a:=v}
 |_=>{u with k:=v}
def facsF (sg:Int):Un→List (List UInt8)→Option Un
 |u,[]=>some u
 |u,f::r=>match readF f with
  |none=>none
  |some (i,n)=>if ex u i=0 then facsF sg (uset u i (sg*n)) r else none
def partsF:Nat→Un→List (List UInt8)→Option Un
 |_,u,[]=>some u
 |k,u,p::r=>if k=0∧p=[49]then partsF (k+1) u r else
  match facsF (if k=0 then 1 else-1) u (if k=0 then splB 42 p else[p])with
  |none=>none
  |some u'=>partsF (k+1) u' r
def parseQ (l:List UInt8):Option Un:=partsF 0 u0 (splB 47 l)
theorem ixU_lt (n:List UInt8):∀(l:List (List UInt8)) (k i:Nat),ixU n l k=some i→i<k+l.length
 |[],_,_,h=>by cases h
 |x::l,k,i,h=>by
  unfold ixU at h
  split at h
  ·cases h;simp
  ·have:=ixU_lt n l (k+1) i h
   simp;omega
theorem readF_bd {f:List UInt8}{i n:Nat}(h:readF f=some (i,n)):i<5∧1≤n∧n≤9:=by
 unfold readF at h
 split at h
 ·split at h
  ·split at h
   ·rename_i d _ hd
    cases hi:ixU (cutB 94 f).1 symT 0 with
    |none=>rw[hi]at h;cases h
    |some j=>
     rw[hi]at h
     have:=ixU_lt _ _ _ _ hi
     simp only[Option.map_some,Option.some.injEq,Prod.mk.injEq]at h
     have hl:symT.length=5:=rfl
     omega
   ·cases h
  ·cases h
 ·cases hi:ixU (cutB 94 f).1 symT 0 with
  |none=>rw[hi]at h;cases h
  |some j=>
   rw[hi]at h
   have:=ixU_lt _ _ _ _ hi
   simp only[Option.map_some,Option.some.injEq,Prod.mk.injEq]at h
   have hl:symT.length=5:=rfl
   omega
theorem splB_no {c:UInt8}:∀{a:List UInt8},c∉a→splB c a=[a]
 |[],_=>rfl
 |x::a,h=>by
  have hx:¬x=c:=fun e=>h (by simp[e])
  rw[splB_cons,if_neg hx,splB_no (fun e=>h (by simp[e]))]
section
variable {u:Un} (hu:uokU u=true)
include hu
omit hu in
theorem facsF_cons (sg:Int)(v:Un)(f:List UInt8)(r:List (List UInt8)):facsF sg v (f::r)=(match readF f with
  |none=>none
  |some (i,n)=>if ex v i=0 then facsF sg (uset v i (sg*n)) r else none):=rfl
omit hu in
theorem partsF_cons (k:Nat)(v:Un)(p:List UInt8)(r:List (List UInt8)):partsF k v (p::r)=(if k=0∧p=[49]then partsF (k+1) v r else
  match facsF (if k=0 then 1 else-1) v (if k=0 then splB 42 p else[p])with
  |none=>none
  |some u'=>partsF (k+1) u' r):=rfl
end
def prs (l:List UInt8):Un×Int:=
 if 40<l.length then(u0,5)else
 if (nmd l).2=true then((nmd l).1,0)else
 match parseQ l with
 |none=>(u0,3)
 |some u=>if txt u=l then(u,0)else(u0,3)
open Vg Tf
abbrev Str:=List UInt8
abbrev sv (l:Str):Value:= .string ⟨l.toArray⟩
abbrev iv (n:Int):Value:= .int .i64 n
structure Td where
 nm:Str
 ty:Ft
structure Cu where
 nm:Str
 xs:List Int
 ys:List Int
structure Mp where
 nm:Str
 xs:List Int
 ys:List Int
 zs:List (List Int)
structure Po where
 nm:Str
 ty:Str
 lo:Int
 hi:Int
structure Bl where
 nm:Str
 kd:Str
 ty:Str
 ins:List Str
 tb:Str
 ks:List Int
structure Dg where
 nm:Str
 tys:List Td
 cus:List Cu
 mas:List Mp
 ins:List Po
 bls:List Bl
 ous:List Str
def leB (c:UInt8):Bool:=(decide (97≤c.toNat)&&decide (c.toNat≤122))||(decide (65≤c.toNat)&&decide (c.toNat≤90))
def diB (c:UInt8):Bool:=decide (48≤c.toNat)&&decide (c.toNat≤57)
def inB (c:UInt8):Bool:=leB c||(diB c||decide (c.toNat=95))
def kindT:List (Str×Nat×Nat×Nat):=[([99,111,110,115,116],0,1,0),([97,100,100],2,0,0),([115,117,98],2,0,0),([109,117,108],2,0,0),([100,105,118],2,0,0),([110,101,103],1,0,0),([109,105,110],2,0,0),([109,97,120],2,0,0),([108,105,109,105,116],1,2,0),([99,111,110,118,101,114,116],1,0,0),([99,117,114,118,101],1,0,1),([109,97,112],2,0,2),([100,101,108,97,121],1,1,0),([108,97,103],1,1,0),([115,119,105,116,99,104],3,0,0),([108,101,115,115],2,0,0),([101,113,117,97,108],2,0,0),([97,110,100],2,0,0),([111,114],2,0,0),([110,111,116],1,0,0),([104,121,115,116,101,114,101,115,105,115],1,2,0)]
def resT:List Str:=[[116,121,112,101],[105,110],[111,117,116],[98,108,111,99,107],[117,110,115,105,103,110,101,100],[115,105,103,110,101,100],[100,105,97,103,114,97,109]]
def kindQ (s:Str):Option (Nat×Nat×Nat):=(kindT.find? (fun r=>r.1==s)).map (·.2)
def resQ (s:Str):Bool:=(kindT.map (·.1)).contains s||resT.contains s
def nmOk (s:Str):Bool:= !(s==[])&&(decide (s.length≤24)&&(leB (s.getD 0 0)&&(s.all inB&& !resQ s)))
def nearB (n:Int):Bool:=decide (-1073741824≤n∧n≤1073741824)
def incB:List Int→Bool
 |[]=>true
 |[_]=>true
 |x::y::r=>decide (x<y)&&incB (y::r)
def axOk (l:List Int):Bool:=decide (2≤l.length∧l.length≤32)&&(l.all nearB&&incB l)
def cuOk (xs ys:List Int):Bool:=decide (xs.length=ys.length)&&(axOk xs&&ys.all nearB)
def maOk (xs ys:List Int)(zs:List (List Int)):Bool:=axOk xs&&(axOk ys&&(decide (zs.length=xs.length)&&zs.all (fun z=>decide (z.length=ys.length)&&z.all nearB)))
def fitB (n:Int):Bool:=decide (-1099511627776≤n∧n≤1099511627776)
def blOk (b:Bl):Bool:=match kindQ b.kd with
 |none=>false
 |some (a,k,t)=>decide (b.ins.length=a)&&(decide (b.ks.length=k)&&(nmOk b.nm&&(nmOk b.ty&&((if t=0 then b.tb==[]else nmOk b.tb)&&(b.ins.all nmOk&&b.ks.all fitB)))))
def poOk (p:Po):Bool:=nmOk p.nm&&(nmOk p.ty&&(fitB p.lo&&fitB p.hi))
def dgOk (d:Dg):Bool:=nmOk d.nm&&(decide (d.tys.length≤30∧d.cus.length≤30∧d.mas.length≤30∧d.ins.length≤30∧d.ous.length≤30)&&(decide (d.bls.length≤200)&&
 (d.tys.all (fun t=>nmOk t.nm&&fok t.ty)&&(d.cus.all (fun c=>nmOk c.nm&&cuOk c.xs c.ys)&&(d.mas.all (fun m=>nmOk m.nm&&maOk m.xs m.ys m.zs)&&(d.ins.all poOk&&(d.bls.all blOk&&d.ous.all nmOk)))))))
structure Sv where
 o:Option Addr
 c:Nat
@[reducible,go_sem] def vsl (s:Sv)(n:Nat):Value:= .slice s.o n s.c
structure CuL where
 c:Cu
 x:Sv
 y:Sv
structure MpL where
 nm:Str
 xs:List Int
 ys:List Int
 zs:List (Sv×List Int)
 x:Sv
 y:Sv
 z:Sv
def MpL.c (m:MpL):Mp:=⟨m.nm,m.xs,m.ys,m.zs.map (·.2)⟩
structure BlL where
 c:Bl
 i:Sv
 k:Sv
structure DgL where
 nm:Str
 tys:List Td
 cus:List CuL
 mas:List MpL
 ins:List Po
 bls:List BlL
 ous:List Str
 ty:Sv
 cu:Sv
 ma:Sv
 i:Sv
 bl:Sv
 ou:Sv
def DgL.c (d:DgL):Dg:=⟨d.nm,d.tys,d.cus.map CuL.c,d.mas.map MpL.c,d.ins,d.bls.map BlL.c,d.ous⟩
def intsR (l:List Int):List (List Value):=l.map fun n=>[iv n]
def strsR (l:List Str):List (List Value):=l.map fun s=>[sv s]
@[go_sem] def ftR (t:Ft):List Value:=[.int .i64 t.bits,.bool t.signed,.int .i64 t.num,.int .i64 t.off,.int .i64 t.den,.int .i64 t.m,.int .i64 t.kg,.int .i64 t.s,.int .i64 t.a,.int .i64 t.k]
@[go_sem] def Td.r (t:Td):List Value:= .string ⟨t.nm.toArray⟩::ftR t.ty
@[go_sem] def CuL.r (c:CuL):List Value:=[.string ⟨c.c.nm.toArray⟩,.slice c.x.o c.c.xs.length c.x.c,.slice c.y.o c.c.ys.length c.y.c]
@[go_sem] def MpL.r (m:MpL):List Value:=[.string ⟨m.nm.toArray⟩,.slice m.x.o m.xs.length m.x.c,.slice m.y.o m.ys.length m.y.c,.slice m.z.o m.zs.length m.z.c]
@[go_sem] def Po.r (p:Po):List Value:=[.string ⟨p.nm.toArray⟩,.string ⟨p.ty.toArray⟩,.int .i64 p.lo,.int .i64 p.hi]
@[go_sem] def BlL.r (b:BlL):List Value:=[.string ⟨b.c.nm.toArray⟩,.string ⟨b.c.kd.toArray⟩,.string ⟨b.c.ty.toArray⟩,.slice b.i.o b.c.ins.length b.i.c,.string ⟨b.c.tb.toArray⟩,.slice b.k.o b.c.ks.length b.k.c]
@[go_sem] def DgL.r (d:DgL):List Value:=[.string ⟨d.nm.toArray⟩,.slice d.ty.o d.tys.length d.ty.c,.slice d.cu.o d.cus.length d.cu.c,.slice d.ma.o d.mas.length d.ma.c,.slice d.i.o d.ins.length d.i.c,.slice d.bl.o d.bls.length d.bl.c,.slice d.ou.o d.ous.length d.ou.c]
@[go_sem] def rowV (r:List Value):V:= .agg (r.map .v)
structure CuL.ok (H:Hp) (c:CuL):Prop where
 x:SlH H (vsl c.x c.c.xs.length) 1 (intsR c.c.xs)
 y:SlH H (vsl c.y c.c.ys.length) 1 (intsR c.c.ys)
structure MpL.ok (H:Hp) (m:MpL):Prop where
 x:SlH H (vsl m.x m.xs.length) 1 (intsR m.xs)
 y:SlH H (vsl m.y m.ys.length) 1 (intsR m.ys)
 z:SlH H (vsl m.z m.zs.length) 1 (m.zs.map fun v=>[vsl v.1 v.2.length])
 e:∀v∈m.zs,SlH H (vsl v.1 v.2.length) 1 (intsR v.2)
structure BlL.ok (H:Hp) (b:BlL):Prop where
 i:SlH H (vsl b.i b.c.ins.length) 1 (strsR b.c.ins)
 k:SlH H (vsl b.k b.c.ks.length) 1 (intsR b.c.ks)
structure DgL.ok (H:Hp) (d:DgL):Prop where
 ty:SlH H (vsl d.ty d.tys.length) 11 (d.tys.map Td.r)
 cu:SlH H (vsl d.cu d.cus.length) 3 (d.cus.map CuL.r)
 ma:SlH H (vsl d.ma d.mas.length) 4 (d.mas.map MpL.r)
 i:SlH H (vsl d.i d.ins.length) 4 (d.ins.map Po.r)
 bl:SlH H (vsl d.bl d.bls.length) 6 (d.bls.map BlL.r)
 ou:SlH H (vsl d.ou d.ous.length) 1 (strsR d.ous)
 cus:∀c∈d.cus,c.ok H
 mas:∀m∈d.mas,m.ok H
 bls:∀b∈d.bls,b.ok H
theorem CuL.ok.mono {H H':Hp}(h:H.le H'){c:CuL}(k:c.ok H):c.ok H':=⟨k.x.mono h,k.y.mono h⟩
theorem MpL.ok.mono {H H':Hp}(h:H.le H'){c:MpL}(k:c.ok H):c.ok H':=⟨k.x.mono h,k.y.mono h,k.z.mono h,fun v hv=>(k.e v hv).mono h⟩
theorem BlL.ok.mono {H H':Hp}(h:H.le H'){c:BlL}(k:c.ok H):c.ok H':=⟨k.i.mono h,k.k.mono h⟩
theorem DgL.ok.mono {H H':Hp}(h:H.le H'){d:DgL}(k:d.ok H):d.ok H':=⟨k.ty.mono h,k.cu.mono h,k.ma.mono h,k.i.mono h,k.bl.mono h,k.ou.mono h,fun c hc=>(k.cus c hc).mono h,fun c hc=>(k.mas c hc).mono h,fun c hc=>(k.bls c hc).mono h⟩
def rowsC (l:List (List Value)):List Cv:=l.flatten.map .v
theorem rowsC_len {k:Nat}(l:List (List Value))(h:∀r∈l,r.length=k):(rowsC l).length=l.length*k:=by
 unfold rowsC
 rw[List.length_map]
 induction l with
 |nil=>simp
 |cons x l ih=>rw[List.flatten_cons,List.length_append,ih (fun r hr=>h r (by simp[hr])),h x (by simp),List.length_cons,Nat.succ_mul,Nat.add_comm]
theorem rowsC_take {k:Nat}:∀(l:List (List Value)),(∀r∈l,r.length=k)→∀(i:Nat) (h:i<l.length),((rowsC l).drop (i*k)).take k=l[i].map Cv.v
 |x::l,hk,0,_=>by
  have:=hk x (by simp)
  simp[rowsC,←this]
 |x::l,hk,i+1,h=>by
  have h0:=hk x (by simp)
  have ih:=rowsC_take l (fun r hr=>hk r (by simp[hr])) i (by simpa using h)
  have e:(i+1)*k=(x.map Cv.v).length+i*k:=by rw[List.length_map,h0,Nat.succ_mul,Nat.add_comm]
  have e2:rowsC (x::l)=x.map Cv.v++rowsC l:=by simp[rowsC]
  rw[e2,e,←List.drop_drop,List.drop_left,ih]
  rfl
theorem rowsC_get {k:Nat}(l:List (List Value))(h:∀r∈l,r.length=k)(i j:Nat)(hi:i<l.length)(hj:j<k):(rowsC l)[i*k+j]?=(l[i][j]?).map Cv.v:=by
 have h1:=rowsC_take l h i hi
 have:(rowsC l)[i*k+j]?=(((rowsC l).drop (i*k)).take k)[j]?:=by rw[List.getElem?_take_of_lt hj,List.getElem?_drop]
 rw[this,h1,List.getElem?_map]
theorem rowsC_isV (l:List (List Value)):(rowsC l).all Cv.isV=true:=by
 unfold rowsC
 rw[List.all_eq_true]
 intro c hc
 obtain⟨v,_,rfl⟩:=List.mem_map.1 hc
 rfl
open Vg Tf
theorem _root_.Go.Proofs.YtlnpgbnhcondjaaGreatDoor.Vg.CallX.mkS {H:Hp}{P:Program}{f:FuncId}{fn:Func}{body:Code}{args:List V}{M:Mem}{α:Type}{v:α→V}{N:α→Mem}{Q:α→Hp→Prop}(hf:P.funcs[f]?=some fn)(hb:fn.body=some body)(hent:Enters P f)(hnt:args.length≤fn.ntmps)(hcl:∀x∈args,ClV M x)
  (hN:∀x,(N x).all (fun p=> !p.2.ro||(M.get p.1).isSome)=true) (hU:∀x,(N x).all (fun p=>match M.get p.1 with|some b=> !b.ro|none=>true)=true)
  (h:∀C,(∀x Cn,Lf C Cn→Q x Cn.hp→RetOk P Cn fn (v x) (N x++M))→Pins C.S M→H.le C.hp→Lf C C→Sm P fn.ntmps C [.code body] (initE 0 args) M):CallX H P f args M v N Q:=
 CallX.intro hf hb hent hnt (fun x n b h h0=>by have:=List.all_eq_true.1 (hN x) (n,b) (Mem.mem_of_get h);simpa[h0]using this)
  (fun x n b b' h h'=>by have:=List.all_eq_true.1 (hU x) (n,b) (Mem.mem_of_get h);simp only[h']at this;simpa using this) hcl h
theorem _root_.Go.Proofs.YtlnpgbnhcondjaaGreatDoor.Vg.CallH.mkS {H:Hp}{P:Program}{f:FuncId}{fn:Func}{body:Code}{args:List V}{v:V}(hf:P.funcs[f]?=some fn)(hb:fn.body=some body)(hent:Enters P f)(hnt:args.length≤fn.ntmps)(hcl:∀x∈args,ClV [] x)
  (h:∀C,(∀Cn,Lf C Cn→RetOk P Cn fn v [])→Pins C.S []→H.le C.hp→Lf C C→Sm P fn.ntmps C [.code body] (initE 0 args) []):CallH H P f args v:=
 CallX.mkS hf hb hent hnt hcl (fun _=>rfl) (fun _=>rfl) fun C hR hP hH hL=>h C (fun Cn hl=>hR () Cn hl trivial) hP hH hL
theorem _root_.Go.Proofs.YtlnpgbnhcondjaaGreatDoor.Vg.CallOk.toX {H:Hp}{P:Program}{f:FuncId}{args:List V}{M N:Mem}{v:V}(h:CallOk P f args M v N):CallX H P f args M (fun _:Unit=>v) (fun _=>N) (fun _ _=>True):=by
 obtain⟨h1,h2,h3,h4⟩:=h
 refine⟨h1,fun _=>h2,fun _=>h3,fun β w Z hm _ _=>(h4 β w hm).mono ?_⟩
 rintro en w' ⟨β',k1,k2,k3,k4,k5⟩
 exact⟨(),β',fun _ _=>False,k1,k2,k3,k4,k5,fun _ _ h=>h.elim,trivial⟩
theorem _root_.Go.Proofs.YtlnpgbnhcondjaaGreatDoor.Vg.CallOk.toH {H:Hp}{P:Program}{f:FuncId}{args:List V}{v:V}(h:CallOk P f args [] v []):CallH H P f args v:=h.toX
theorem _root_.Go.Proofs.YtlnpgbnhcondjaaGreatDoor.Vg.Sm.bringR {P:Program}{nt:Nat}{C:Cx}{todo:List It}{e:Env}{M:Mem}{v:Value}{sz:Nat}{rows:List (List Value)}(nm:Nat)(el:TypeId)(t:Nat){g:Bool}(h:SlH C.hp v sz rows)(hn:M.get nm=none)(hx:e.get t=some (g,.c (.v v)))
  (k:Sm P nt C todo ((t,g,.c (.sl nm 0 rows.length sz))::e) ((nm,⟨true,rowsC rows,el⟩)::M)):Sm P nt C todo e M:=Sm.bring nm el t h hn hx k
theorem wS {i:Nat}(h:i≤1000000000000000000):IntKind.i64.wrap ((i:Int)+1)=((i+1:Nat):Int):=by rw[w64 (by omega) (by omega)];omega
theorem lt_of_dec {i n:Nat}(h:decide ((i:Int)<(n:Int))=true):i<n:=by have:=of_decide_eq_true h;omega
theorem eq_of_dec {i n:Nat}(hi:i≤n)(h:decide ((i:Int)<(n:Int))=false):i=n:=by have:=of_decide_eq_false h;omega
def ixF {α:Type}(p:α→Bool):List α→Int→Int
 |[],_=> -1
 |x::l,k=>bif p x then k else ixF p l (k+1)
theorem ixF_step {α:Type}(p:α→Bool)(l:List α)(i:Nat)(h:i<l.length)(k:Int):ixF p (l.drop i) k=bif p l[i]then k else ixF p (l.drop (i+1)) (k+1):=by
 rw[List.drop_eq_getElem_cons h];rfl
theorem ixF_any {α:Type}(p:α→Bool):∀(l:List α) (k:Int),0≤k→decide (0≤ixF p l k)=l.any p
 |[],k,_=>by simp[ixF]
 |x::l,k,h=>by
  rw[ixF,List.any_cons]
  cases p x with
  |true=>simp[h]
  |false=>rw[cond_false,Bool.false_or];exact ixF_any p l (k+1) (by omega)
@[reducible] def sC (s:Str):Cv:= .v (.string ⟨s.toArray⟩)
@[reducible] def iC (n:Int):Cv:= .v (.int .i64 n)
theorem strsC (l:List Str):rowsC (strsR l)=l.map sC:=by
 unfold rowsC strsR
 induction l with
 |nil=>rfl
 |cons x l ih=>simpa using ih
theorem intsC (l:List Int):rowsC (intsR l)=l.map iC:=by
 unfold rowsC intsR
 induction l with
 |nil=>rfl
 |cons x l ih=>simpa using ih
theorem v_sC (l:List Str):(l.map sC).all Cv.isV=true:=by simp[Cv.isV]
theorem v_iC (l:List Int):(l.map iC).all Cv.isV=true:=by simp[Cv.isV]
theorem get_sC {l:List Str}{i:Nat}(h:i<l.length):(l.map sC)[i]?=some (sC l[i]):=by simp[h]
theorem get_iC {l:List Int}{i:Nat}(h:i<l.length):(l.map iC)[i]?=some (iC l[i]):=by simp[h]
theorem _root_.Go.Proofs.YtlnpgbnhcondjaaGreatDoor.Vg.Sm.bringI {P:Program}{nt:Nat}{C:Cx}{todo:List It}{e:Env}{M:Mem}{v:Value}{l:List Int}(nm:Nat)(el:TypeId)(t:Nat){g:Bool}(h:SlH C.hp v 1 (intsR l))(hn:M.get nm=none)(hx:e.get t=some (g,.c (.v v)))
  (k:Sm P nt C todo ((t,g,.c (.sl nm 0 l.length 1))::e) ((nm,⟨true,l.map iC,el⟩)::M)):Sm P nt C todo e M:=by
 have hlen:(intsR l).length=l.length:=by simp[intsR]
 refine Sm.bringR nm el t h hn hx ?_
 rw[hlen,intsC];exact k
theorem _root_.Go.Proofs.YtlnpgbnhcondjaaGreatDoor.Vg.Sm.bringS {P:Program}{nt:Nat}{C:Cx}{todo:List It}{e:Env}{M:Mem}{v:Value}{l:List Str}(nm:Nat)(el:TypeId)(t:Nat){g:Bool}(h:SlH C.hp v 1 (strsR l))(hn:M.get nm=none)(hx:e.get t=some (g,.c (.v v)))
  (k:Sm P nt C todo ((t,g,.c (.sl nm 0 l.length 1))::e) ((nm,⟨true,l.map sC,el⟩)::M)):Sm P nt C todo e M:=by
 have hlen:(strsR l).length=l.length:=by simp[strsR]
 refine Sm.bringR nm el t h hn hx ?_
 rw[hlen,strsC];exact k
open Vg Tf
@[go_sem ↓] theorem plS_7_1:plS 7 1=[(0,1),(1,1),(2,1),(3,1),(4,1),(5,1),(6,1)]:=rfl
@[go_sem ↓] theorem plS_21_4:plS 21 4=[(0,4),(4,4),(8,4),(12,4),(16,4),(20,4),(24,4),(28,4),(32,4),(36,4),(40,4),(44,4),(48,4),(52,4),(56,4),(60,4),(64,4),(68,4),(72,4),(76,4),(80,4)]:=rfl
theorem band_ (a b:Bool):(bif a then b else false)=(a&&b):=by cases a<;>rfl
theorem bor_ (a b:Bool):(bif a then true else b)=(a||b):=by cases a<;>rfl
theorem letter_ (c:UInt8):CallOk Tryz.prog 184 [Y c.toNat] [] (Bo (leB c)) []:=by
 refine CallOk.mkN 100 Tryz.func184 rfl en184 (by simp[Tryz.ntmps184]) (ClA.of rfl) rfl rfl fun C hR hP=>?_
 refine vv ?_
 refine⟨fun h=>⟨h,fun h2=>by rw[h,h2];rfl⟩,?_⟩
 refine RetQ.bool hR rfl ⟨rfl,trivial⟩ ?_
 unfold leB
 simp only[band_,bor_]
 have e1:decide ((97:Int)≤(c.toNat:Int))=decide (97≤c.toNat):=by rw[decide_eq_decide];omega
 have e2:decide ((c.toNat:Int)≤122)=decide (c.toNat≤122):=by rw[decide_eq_decide];omega
 have e3:decide ((65:Int)≤(c.toNat:Int))=decide (65≤c.toNat):=by rw[decide_eq_decide];omega
 have e4:decide ((c.toNat:Int)≤90)=decide (c.toNat≤90):=by rw[decide_eq_decide];omega
 rw[e1,e2,e3,e4]
theorem digit_ (c:UInt8):CallOk Tryz.prog 187 [Y c.toNat] [] (Bo (diB c)) []:=by
 refine CallOk.mkN 100 Tryz.func187 rfl en187 (by simp[Tryz.ntmps187]) (ClA.of rfl) rfl rfl fun C hR hP=>?_
 refine vv ?_
 refine RetQ.bool hR rfl ⟨rfl,trivial⟩ ?_
 unfold diB
 simp only[band_,bor_]
 have e1:decide ((48:Int)≤(c.toNat:Int))=decide (48≤c.toNat):=by rw[decide_eq_decide];omega
 have e2:decide ((c.toNat:Int)≤57)=decide (c.toNat≤57):=by rw[decide_eq_decide];omega
 rw[e1,e2]
theorem inner_ (c:UInt8):CallOk Tryz.prog 186 [Y c.toNat] [] (Bo (inB c)) []:=by
 refine CallOk.mkN 100 Tryz.func186 rfl en186 (by simp[Tryz.ntmps186]) (ClA.of rfl) rfl rfl fun C hR hP=>?_
 refine vv ?_
 refine CallQ.pure 110 (letter_ c) rfl ?_
 refine vv ?_
 refine CallQ.guard 110 (fun _=>digit_ c) (fun h=>by rw[h];rfl) ?_
 refine vv ?_
 refine RetQ.bool hR rfl ⟨rfl,trivial⟩ ?_
 unfold inB
 simp only[band_,bor_]
 have e1:((c.toNat:Int)==95)=decide (c.toNat=95):=by
  rw[Bool.eq_iff_iff,beq_iff_eq,decide_eq_true_eq];omega
 rw[e1,Bool.or_assoc]
def runN (p:UInt8→Bool)(s:Str)(k:Nat):Nat:=((s.drop k).takeWhile p).length
theorem run_ (s:Str)(k:Nat)(hk:k≤s.length)(hs:s.length≤1000000000000000)(g:FuncId)(p:UInt8→Bool)(hp:∀c:UInt8,CallOk Tryz.prog g [Y c.toNat] [] (Bo (p c)) []):
  CallOk Tryz.prog 185 [S s,I k,.c (.v (.func (.func g) #[] #[]))] [] (I (runN p s k)) []:=by
 refine CallOk.mkN 100 Tryz.func185 rfl en185 (by simp[Tryz.ntmps185]) (ClA.of rfl) rfl rfl fun C hR hP=>?_
 refine vv ?_
 refine Sm.loopM (M0:=[]) (α:={n:Nat//n+k≤s.length∧runN p s k=n+((s.drop (k+n)).takeWhile p).length}) hP
  (fun n=>[(0,true,S s),(1,true,I k),(2,true,.c (.v (.func (.func g) #[] #[]))),(7,true,I n.val)]) (fun _=>[]) (fun n=>s.length-n.val) ⟨0,by omega,by rw[runN];simp⟩ (fun _=>ClM.nil) (fun _=>ClE.of rfl) [] ?_ ?_
 ·exact⟨rfl,trivial,⟨rfl,rfl,rfl,rfl,trivial⟩,trivial⟩
 ·rintro⟨n,hn,hx⟩ J hb
  simp only at hb hn hx⊢
  refine Sm.go 120 ?_
  have w1:IntKind.i64.wrap ((k:Int)+(n:Int))=((k+n:Nat):Int):=by rw[w64 (by omega) (by omega)];omega
  simp(maxSteps:=2000000) only[go_sem,w1]
  by_cases hlt:k+n<s.length
  ·have h1:decide (((k+n:Nat):Int)<(s.length:Int))=true:=tru_of (by omega)
   have hd:s.drop (k+n)=s.getD (k+n) 0::s.drop (k+(n+1)):=by
    rw[List.getD_eq_getElem?_getD,List.getElem?_eq_getElem hlt,List.drop_eq_getElem_cons hlt];rfl
   rw[hd,List.takeWhile_cons]at hx
   simp(maxSteps:=2000000) only[go_sem,h1]
   refine⟨⟨by omega,by omega⟩,?_⟩
   refine CallQ.pure 130 (hp (s.getD (k+n) 0)) rfl ?_
   refine vv ?_
   refine mtch (fun hc=>?_) (fun hc=>?_)
   ·rw[if_pos hc]at hx
    simp only[wS (show n≤1000000000000000000 by omega)]
    exact hb _ _ ⟨n+1,by omega,by rw[hx];simp;omega⟩ [] (by simp only;omega) ⟨rfl,trivial,⟨rfl,rfl,rfl,rfl,trivial⟩,trivial⟩
   ·rw[if_neg (by rw[hc];simp)]at hx
    exact RetQ.int hR rfl ⟨rfl,trivial⟩ (by rw[hx];simp)
  ·have h1:decide (((k+n:Nat):Int)<(s.length:Int))=false:=fal_of (by omega)
   rw[List.drop_eq_nil_of_le (by omega)]at hx
   simp(maxSteps:=2000000) only[go_sem,h1]
   refine CallQ.guard (xs:=[]) (v:=Bo true) 130 (fun h=>by cases h) (fun h=>by cases h) ?_
   refine vv ?_
   exact RetQ.int hR rfl ⟨rfl,trivial⟩ (by rw[hx];simp)
def kindR:List (List Value):=kindT.map fun r=>[sv r.1,iv r.2.1,iv r.2.2.1,iv r.2.2.2]
@[reducible] def bKR (nm:Nat):Nat×Bk:=(nm,⟨false,rowsC kindR,264⟩)
theorem rows_:CallOk Tryz.prog 256 [] [] (.c (.sl 1 0 21 4)) [bKR 1]:=by
 refine CallOk.mkN 100 Tryz.func256 rfl en256 (by simp[Tryz.ntmps256]) (ClA.of rfl) rfl rfl fun C hR hP=>?_
 refine vv ?_
 exact RetQ.ren [(1,100)] hR hP rfl (vv trivial) rfl rfl trivial ⟨oR,trivial⟩ (ClM.of rfl) (ClV.of rfl)
open Vg Tf
def kindN:List Str:=kindT.map (·.1)
theorem kindR_sz:∀r∈kindR,r.length=4:=by
 intro r hr
 obtain⟨x,_,rfl⟩:=List.mem_map.1 hr
 rfl
def kdT (i:Nat):Str×Nat×Nat×Nat:=kindT.getD i ([],0,0,0)
theorem kdT_get {i:Nat}(h:i<kindT.length):kindT[i]=kdT i:=by
 rw[kdT,List.getD_eq_getElem?_getD,List.getElem?_eq_getElem h];rfl
theorem kindR_take (i:Nat)(h:i<21):((rowsC kindR).drop (i*4)).take 4=[sC (kdT i).1,iC (kdT i).2.1,iC (kdT i).2.2.1,iC (kdT i).2.2.2]:=by
 rw[rowsC_take kindR kindR_sz i (by simpa[kindR,kindT]using h),←kdT_get (show i<kindT.length from h)]
 simp only[kindR,List.getElem_map]
 rfl
theorem kindR_len:(rowsC kindR).length=84:=rfl
theorem v_kR:(rowsC kindR).all Cv.isV=true:=rowsC_isV _
@[reducible] def bKN (nm:Nat):Nat×Bk:=(nm,⟨false,kindN.map sC,9⟩)
theorem kinds_:CallOk Tryz.prog 253 [] [] (.c (.sl 1 0 21 1)) [bKN 1]:=by
 refine CallOk.mkN 100 Tryz.func253 rfl en253 (by simp[Tryz.ntmps253]) (ClA.of rfl) rfl rfl fun C hR hP=>?_
 refine vv ?_
 refine CallQ.ren [(1,130)] 131 rows_ ClM.nil rfl rfl trivial rfl (.inl rfl) ?_
 simp only[Mem.ren,List.map_cons,List.map_nil,renV v_kR,V.ren,Cv.ren,rn,Nat.reduceBEq,cond_true]
 refine vv ?_
 refine Sm.nils 140 1 9 [1] [] rfl ?_
 refine vv ?_
 refine Sm.loopM (M0:=[]) (α:={i:Nat//i≤21}) hP (fun i=>[(1,true,.c (.sl 6 0 i.val 1)),(4,true,.c (.sl 5 0 21 4)),(5,true,I 21),(6,true,I i.val)])
  (fun i=>[bKR 5,(6,⟨false,(kindN.take i.val).map sC,9⟩)]) (fun i=>21-i.val) ⟨0,by omega⟩ (fun _=>ClM.of (by simp only[List.all_cons,inMV v_kR,inMV (v_sC _)];rfl)) (fun _=>ClE.of rfl) [(5,130),(6,140)] ?_ ?_
 ·exact⟨rfl,trivial,⟨rfl,rfl,rfl,rfl,trivial⟩,⟨oV (renV v_kR),oR,trivial⟩⟩
 ·rintro⟨i,hi⟩ J hb
  simp only at hb hi⊢
  refine Sm.go 150 ?_
  refine vv ?_
  refine mtch (fun hc=>?_) (fun hc=>?_)
  ·have hc:i<21:=by have:=of_decide_eq_true hc;omega
   simp only[kindR_take i hc,kindR_len]
   refine⟨⟨by omega,by omega⟩,by omega,?_⟩
   refine vv ?_
   have hlen:((kindN.take i).map sC).length=i:=by simp[kindN,kindT];omega
   have htk:List.take i ((kindN.take i).map sC)++[sC (kdT i).1]=(kindN.take (i+1)).map sC:=by
    rw[List.take_of_length_le (by omega),List.take_succ_eq_append_getElem (by simpa[kindN,kindT]using hc),List.map_append,←kdT_get (show i<kindT.length from hc)]
    simp only[kindN,List.getElem_map];rfl
   simp only[htk,hlen,wS (show i≤1000000000000000000 by omega)]
   refine⟨⟨by omega,by omega,by omega⟩,?_⟩
   exact hb _ _ ⟨i+1,hc⟩ [(5,5),(6,152)] (by simp only;omega) ⟨rfl,trivial,⟨rfl,rfl,rfl,rfl,trivial⟩,⟨oV (renV v_kR),oV (renV (v_sC _)),trivial⟩⟩
  ·have hc:i=21:=by have:=of_decide_eq_false hc;omega
   subst hc
   exact RetQ.ren [(1,6)] hR hP rfl (vv trivial) rfl rfl trivial ⟨oR,trivial⟩ (ClM.of rfl) (ClV.of rfl)
def kindF (s:Str):List (Str×Nat×Nat×Nat)→Option (Nat×Nat×Nat)
 |[]=>none
 |r::l=>bif r.1==s then some r.2 else kindF s l
theorem kindF_eq (s:Str):∀l,kindF s l=(l.find? (fun r=>r.1==s)).map (·.2)
 |[]=>rfl
 |r::l=>by
  rw[kindF,List.find?_cons,kindF_eq s l]
  cases r.1==s<;>rfl
theorem kind_ (s:Str):CallOk Tryz.prog 218 [S s] [] (.tup [Wi ((kindQ s).getD (0,0,0)).1,Wi ((kindQ s).getD (0,0,0)).2.1,Wi ((kindQ s).getD (0,0,0)).2.2,Wb1 (kindQ s).isSome]) []:=by
 have hq:kindQ s=kindF s kindT:=(kindF_eq s kindT).symm
 rw[hq]
 refine CallOk.mkN 100 Tryz.func218 rfl en218 (by simp[Tryz.ntmps218]) (ClA.of rfl) rfl rfl fun C hR hP=>?_
 refine vv ?_
 refine CallQ.ren [(1,130)] 131 rows_ ClM.nil rfl rfl trivial rfl (.inl rfl) ?_
 simp only[Mem.ren,List.map_cons,List.map_nil,renV v_kR,V.ren,Cv.ren,rn,Nat.reduceBEq,cond_true]
 refine vv ?_
 refine Sm.loopM (M0:=[]) (α:={i:Nat//i≤21∧kindF s kindT=kindF s (kindT.drop i)}) hP (fun i=>[(0,true,S s),(8,true,.c (.sl 5 0 21 4)),(9,true,I 21),(10,true,I i.val)])
  (fun i=>[bKR 5]) (fun i=>21-i.val) ⟨0,by omega,rfl⟩ (fun _=>ClM.of (by simp only[List.all_cons,inMV v_kR];rfl)) (fun _=>ClE.of rfl) [(5,130)] ?_ ?_
 ·exact⟨rfl,trivial,⟨rfl,rfl,rfl,rfl,trivial⟩,⟨oV (renV v_kR),trivial⟩⟩
 ·rintro⟨i,hi,hx⟩ J hb
  simp only at hb hi hx⊢
  refine Sm.go 150 ?_
  refine vv ?_
  refine mtch (fun hc=>?_) (fun hc=>?_)
  ·have hc:i<21:=by have:=of_decide_eq_true hc;omega
   have hc':i<kindT.length:=hc
   rw[List.drop_eq_getElem_cons hc',kindF,kdT_get]at hx
   simp only[kindR_take i hc,kindR_len]
   refine⟨⟨by omega,by omega⟩,by omega,?_⟩
   refine vv ?_
   refine mtch (fun hs=>?_) (fun hs=>?_)
   ·rw[hs,cond_true]at hx
    rw[hx]at hR
    refine Sm.dg 160 8 mix ?_
    refine vv ?_
    exact RetQ.of hR rfl (vv trivial) rvr (Sub.nil _) ClM.nil (ClV.of rfl)
   ·rw[hs,cond_false]at hx
    simp only[wS (show i≤1000000000000000000 by omega)]
    exact hb _ _ ⟨i+1,hc,hx⟩ [(5,5)] (by simp only;omega) ⟨rfl,trivial,⟨rfl,rfl,rfl,rfl,trivial⟩,⟨oV (renV v_kR),trivial⟩⟩
  ·have hc:i=21:=by have:=of_decide_eq_false hc;omega
   subst hc
   have hx:kindF s kindT=none:=hx
   rw[hx]at hR
   exact RetQ.of hR rfl (vv trivial) rvr (Sub.nil _) ClM.nil (ClV.of rfl)
@[reducible] def bSs (nm:Nat)(l:List Str):Nat×Bk:=(nm,⟨true,l.map sC,9⟩)
theorem indexS (l:List Str)(n:Nat)(hn:n≤l.length)(hl:n≤1000000000000000)(x:Str):CallOk Tryz.prog 118 [.c (.sl 1 0 n 1),S x] [bSs 1 l] (I (ixF (fun y=>x==y) (l.take n) 0)) []:=by
 have hM:ClM [bSs 1 l]:=ClM.v (by simp only[List.all_cons,v_sC];rfl)
 refine CallOk.mkN 100 Tryz.func118 rfl en118 (by simp[Tryz.ntmps118]) (ClA.of rfl) rfl rfl fun C hR hP=>?_
 refine vv ?_
 refine Sm.loopM (M0:=[bSs 1 l]) (α:={i:Nat//i≤n∧ixF (fun y=>x==y) (l.take n) 0=ixF (fun y=>x==y) ((l.take n).drop i) i}) hP (fun i=>[(0,true,.c (.sl 1 0 n 1)),(1,true,S x),(7,true,I n),(8,true,I i.val)]) (fun _=>[bSs 1 l]) (fun i=>n-i.val) ⟨0,by omega,rfl⟩ (fun _=>hM) (fun _=>ClE.of rfl) [(1,1)] ?_ ?_
 ·exact⟨rfl,⟨⟨rfl,rfl⟩,trivial⟩,⟨rfl,rfl,rfl,rfl,trivial⟩,⟨oV (renV (v_sC _)),trivial⟩⟩
 ·rintro⟨i,hi,hx⟩ J hb
  simp only at hb hi hx⊢
  refine Sm.go 120 ?_
  refine vv ?_
  refine mtch (fun hc=>?_) (fun hc=>?_)
  ·have hc:=lt_of_dec hc
   have hx':=ixF_step (fun y=>x==y) (l.take n) i (by simp;omega) (i:Int)
   rw[List.getElem_take]at hx'
   simp(maxSteps:=2000000) only[go_sem,get_sC (show i<l.length by omega)]
   refine⟨⟨by omega,by omega⟩,?_⟩
   refine mtch (fun hd=>?_) (fun hd=>?_)
   ·refine RetQ.of hR rfl ⟨rfl,trivial⟩ ?_ (Sub.refl _) hM (ClV.of rfl)
    rw[hx,hx',hd];rfl
   ·simp only[wS (show i≤1000000000000000000 by omega)]
    refine hb _ _ ⟨i+1,hc,?_⟩ [(1,1)] (by simp only;omega) ⟨rfl,⟨⟨rfl,rfl⟩,trivial⟩,⟨rfl,rfl,rfl,rfl,trivial⟩,⟨oV (renV (v_sC _)),trivial⟩⟩
    rw[hx,hx',hd];rfl
  ·have hc:=eq_of_dec hi hc
   refine RetQ.of hR rfl ⟨rfl,trivial⟩ ?_ (Sub.refl _) hM (ClV.of rfl)
   rw[hx,List.drop_eq_nil_of_le (by simp;omega)];rfl
theorem any_contains (l:List Str)(x:Str):(l.any fun y=>x==y)=l.contains x:=by
 induction l with
 |nil=>rfl
 |cons y l ih=>rw[List.any_cons,List.contains_cons,ih]
theorem containsS (l:List Str)(n:Nat)(hn:n≤l.length)(hl:n≤1000000000000000)(x:Str):CallOk Tryz.prog 43 [.c (.sl 1 0 n 1),S x] [bSs 1 l] (Bo ((l.take n).contains x)) []:=by
 have hM:ClM [bSs 1 l]:=ClM.v (by simp only[List.all_cons,v_sC];rfl)
 refine CallOk.mkN 100 Tryz.func43 rfl en43 (by simp[Tryz.ntmps43]) (ClA.of rfl) rfl rfl fun C hR hP=>?_
 refine vv ?_
 refine CallQ.ren [(1,1)] 120 (indexS l n hn hl x) hM rfl rfl ⟨oW (renV (v_sC _)),trivial⟩ rfl (.inr rfl) ?_
 refine vv ?_
 refine RetQ.of hR rfl ⟨rfl,trivial⟩ ?_ (Sub.refl _) hM (ClV.of rfl)
 rw[←any_contains,←ixF_any (fun y=>x==y) (l.take n) 0 (by omega)];rfl
theorem reserved_ (s:Str):CallOk Tryz.prog 204 [S s] [] (Bo (resQ s)) []:=by
 have hc:=containsS kindN 21 (by decide) (by decide) s
 have e1:(kindN.take 21).contains s=(kindT.map (·.1)).contains s:=rfl
 rw[e1]at hc
 refine CallOk.mkN 100 Tryz.func204 rfl en204 (by simp[Tryz.ntmps204]) (ClA.of rfl) rfl rfl fun C hR hP=>?_
 refine vv ?_
 refine CallQ.ren [(1,130)] 131 kinds_ ClM.nil rfl rfl trivial rfl (.inl rfl) ?_
 simp only[Mem.ren,List.map_cons,List.map_nil,Bk.ren,List.map_map,V.ren,W.ren,Cv.ren,rn,Nat.reduceBEq,cond_true,cond_false,Function.comp_def]
 refine vv ?_
 cases hk:(kindT.map (·.1)).contains s with
 |true=>
  have e2:resQ s=true:=by rw[resQ,hk];rfl
  rw[hk]at hc
  refine CallQ.ren [(1,130)] 140 hc (ClM.v rfl) rfl rfl ⟨⟨_,rfl,.inr ⟨rfl,[],rfl⟩⟩,trivial⟩ rfl (.inr rfl) ?_
  refine vv ?_
  refine CallQ.guard (xs:=[]) (v:=Bo true) 150 (fun h=>by cases h) (fun h=>by cases h) ?_
  refine vv ?_
  exact RetQ.bool hR rfl ⟨rfl,trivial⟩ e2.symm
 |false=>
  have e2:resQ s=resT.contains s:=by rw[resQ,hk];rfl
  rw[hk]at hc
  refine CallQ.ren [(1,130)] 140 hc (ClM.v rfl) rfl rfl ⟨⟨_,rfl,.inr ⟨rfl,[],rfl⟩⟩,trivial⟩ rfl (.inr rfl) ?_
  refine vv ?_
  refine CallQ.ren [(1,140)] 150 (containsS resT 7 (by decide) (by decide) s) (ClM.v rfl) rfl rfl ⟨⟨_,rfl,.inr ⟨rfl,[],rfl⟩⟩,trivial⟩ rfl (.inr rfl) ?_
  refine vv ?_
  exact RetQ.bool hR rfl ⟨rfl,trivial⟩ e2.symm
theorem runN_all (p:UInt8→Bool)(s:Str):((runN p s 0:Int)==(s.length:Int))=s.all p:=by
 unfold runN
 rw[List.drop_zero,Bool.eq_iff_iff,beq_iff_eq]
 induction s with
 |nil=>simp
 |cons c s ih=>
  rw[List.takeWhile_cons,List.all_cons]
  cases hp:p c with
  |false=>simp;omega
  |true=>simp only[if_true,List.length_cons,Bool.true_and];rw[←ih];omega
theorem name_ok (s:Str)(hs:s.length≤1000000000000000):CallOk Tryz.prog 98 [S s] [] (Bo (nmOk s)) []:=by
 cases s with
 |nil=>
  refine CallOk.mkN 100 Tryz.func98 rfl en98 (by simp[Tryz.ntmps98]) (ClA.of rfl) rfl rfl fun C hR hP=>?_
  refine vv ?_
  refine CallQ.guard (xs:=[]) (v:=Bo true) 150 (fun h=>by cases h) (fun h=>by cases h) ?_
  refine vv ?_
  refine CallQ.guard (xs:=[]) (v:=I 0) 150 (fun h=>by cases h) (fun h=>by cases h) ?_
  refine vv ?_
  refine CallQ.guard (xs:=[]) (v:=Bo true) 150 (fun h=>by cases h) (fun h=>by cases h) ?_
  refine vv ?_
  exact RetQ.bool hR rfl ⟨rfl,trivial⟩ rfl
 |cons c r=>
  have hne:((c::r)==([]:Str))=false:=rfl
  have hlen:decide (((c::r).length:Int)≤24)=decide ((c::r).length≤24):=by rw[decide_eq_decide];omega
  have h0:(0:Int)<((c::r).length:Int):=by simp only[List.length_cons];omega
  have hnm:nmOk (c::r)=(decide ((c::r).length≤24)&&(leB ((c::r).getD 0 0)&&((c::r).all inB&& !resQ (c::r)))):=rfl
  rw[hnm]
  generalize c::r=s at*
  refine CallOk.mkN 100 Tryz.func98 rfl en98 (by simp[Tryz.ntmps98]) (ClA.of rfl) rfl rfl fun C hR hP=>?_
  simp(maxSteps:=2000000) only[go_sem,hlen,hne,bne]
  refine⟨fun h=>⟨h,h0⟩,?_⟩
  have hrn:=runN_all inB s
  cases hl:decide (s.length≤24)with
  |false=>
   rw[hl]at hR
   refine CallQ.guard (xs:=[]) (v:=Bo true) 150 (fun h=>by cases h) (fun h=>by cases h) ?_
   refine vv ?_
   refine CallQ.guard (xs:=[]) (v:=I 0) 150 (fun h=>by cases h) (fun h=>by cases h) ?_
   refine vv ?_
   refine CallQ.guard (xs:=[]) (v:=Bo true) 150 (fun h=>by cases h) (fun h=>by cases h) ?_
   refine vv ?_
   exact RetQ.bool hR rfl ⟨rfl,trivial⟩ rfl
  |true=>
   rw[hl]at hR
   refine CallQ.pure 150 (letter_ (s.getD 0 0)) rfl ?_
   refine vv ?_
   refine CallQ.guard 150 (fun _=>run_ s 0 (by omega) hs 186 inB inner_) (fun h=>by rw[h];rfl) ?_
   simp(maxSteps:=2000000) only[go_sem,hrn]
   refine CallQ.guard 150 (fun _=>reserved_ s) (fun h=>by rw[h];rfl) ?_
   refine vv ?_
   refine RetQ.bool hR rfl ⟨rfl,trivial⟩ ?_
   cases leB (s.getD 0 0)<;>cases s.all inB<;>rfl
open Vg Tf
@[go_sem] def unR (u:Un):List Value:=[.int .i64 u.m,.int .i64 u.kg,.int .i64 u.s,.int .i64 u.a,.int .i64 u.k]
theorem rows_take {α:Type}{r:α→List Value}{k:Nat}(hk:∀x,(r x).length=k)(l:List α)(i:Nat)(h:i<l.length):((rowsC (l.map r)).drop (i*k)).take k=(r l[i]).map Cv.v:=by
 rw[rowsC_take (l.map r) (fun x hx=>by obtain⟨y,_,rfl⟩:=List.mem_map.1 hx;exact hk y) i (by simpa using h)]
 simp
theorem rows_len {α:Type}{r:α→List Value}{k:Nat}(hk:∀x,(r x).length=k)(l:List α):(rowsC (l.map r)).length=l.length*k:=by
 rw[rowsC_len (k:=k) (l.map r) (fun x hx=>by obtain⟨y,_,rfl⟩:=List.mem_map.1 hx;exact hk y)]
 simp
theorem caps_ok (x:V)(caps:List Value):[some (true,x)]++caps.map (fun c=>some (true,cst c))=(x::caps.map cst).map fun x=>some (true,x):=by simp
abbrev Fv (g:FuncId)(caps:Array Value):V:= .c (.v (.func (.func g) #[] caps))
theorem ixfPo {H:Hp}(s:Sv)(l:List Po)(hs:SlH H (vsl s l.length) 4 (l.map Po.r))(hl:l.length≤1000000000000000)(g:FuncId)(caps:Array Value)(p:Po→Bool)(hp:∀x∈l,CallH H Tryz.prog g ((rowV (Po.r x))::caps.toList.map cst) (Bo (p x))):
  CallH H Tryz.prog 87 [.c (.v (vsl s l.length)),Fv g caps] (I (ixF p l 0)):=by
 have hlen:(l.map Po.r).length=l.length:=List.length_map _
 have hsz:=rows_len (r:=Po.r) (k:=4) (fun _=>rfl) l
 refine CallH.mkS Tryz.func87 rfl en87 (by simp[Tryz.ntmps87]) (ClA.of rfl) fun C hR hP hH hL=>?_
 refine Sm.go 100 ?_
 refine vv ?_
 refine Sm.bringR 1 118 0 (hs.mono hH) rfl rfl ?_
 simp only[hlen]
 refine Sm.loopM (M0:=[]) (α:={i:Nat//i≤l.length∧ixF p l 0=ixF p (l.drop i) i}) hP (fun i=>[(0,true,.c (.sl 1 0 l.length 4)),(1,true,Fv g caps),(7,true,I l.length),(8,true,I i.val)]) (fun _=>[(1,⟨true,rowsC (l.map Po.r),118⟩)]) (fun i=>l.length-i.val) ⟨0,by omega,rfl⟩ (fun _=>ClM.v (by simp only[List.all_cons,rowsC_isV];rfl)) (fun _=>ClE.of rfl) [(1,1)] ?_ ?_
 ·exact⟨rfl,trivial,⟨rfl,rfl,rfl,rfl,trivial⟩,⟨oV (renV (rowsC_isV _)),trivial⟩⟩
 ·rintro⟨i,hi,hx⟩ J hb
  simp only at hb hi hx⊢
  refine Sm.go 110 ?_
  refine vv ?_
  refine mtch (fun hc=>?_) (fun hc=>?_)
  ·have hc:=lt_of_dec hc
   rw[ixF_step p l i hc]at hx
   have htk:=rows_take (r:=Po.r) (k:=4) (fun _=>rfl) l i hc
   simp only[htk,hsz]
   refine⟨⟨by omega,by omega⟩,by omega,?_⟩
   refine CallQ.h 120 (hp l[i] (List.getElem_mem hc)) hH (caps_ok _ _) ?_
   refine vv ?_
   refine mtch (fun hd=>?_) (fun hd=>?_)
   ·rw[hd,cond_true]at hx
    exact RetQ.int (hR C hL) rfl ⟨rfl,trivial⟩ hx.symm
   ·rw[hd,cond_false]at hx
    simp only[wS (show i≤1000000000000000000 by omega)]
    exact hb _ _ ⟨i+1,hc,hx⟩ [(1,1)] (by simp only;omega) ⟨rfl,trivial,⟨rfl,rfl,rfl,rfl,trivial⟩,⟨oV (renV (rowsC_isV _)),trivial⟩⟩
  ·have hc:=eq_of_dec hi hc
   rw[hc,List.drop_length]at hx
   exact RetQ.int (hR C hL) rfl ⟨rfl,trivial⟩ hx.symm
theorem ixfBl {H:Hp}(s:Sv)(l:List BlL)(hs:SlH H (vsl s l.length) 6 (l.map BlL.r))(hl:l.length≤1000000000000000)(g:FuncId)(caps:Array Value)(p:BlL→Bool)(hp:∀x∈l,CallH H Tryz.prog g ((rowV (BlL.r x))::caps.toList.map cst) (Bo (p x))):
  CallH H Tryz.prog 89 [.c (.v (vsl s l.length)),Fv g caps] (I (ixF p l 0)):=by
 have hlen:(l.map BlL.r).length=l.length:=List.length_map _
 have hsz:=rows_len (r:=BlL.r) (k:=6) (fun _=>rfl) l
 refine CallH.mkS Tryz.func89 rfl en89 (by simp[Tryz.ntmps89]) (ClA.of rfl) fun C hR hP hH hL=>?_
 refine Sm.go 100 ?_
 refine vv ?_
 refine Sm.bringR 1 82 0 (hs.mono hH) rfl rfl ?_
 simp only[hlen]
 refine Sm.loopM (M0:=[]) (α:={i:Nat//i≤l.length∧ixF p l 0=ixF p (l.drop i) i}) hP (fun i=>[(0,true,.c (.sl 1 0 l.length 6)),(1,true,Fv g caps),(7,true,I l.length),(8,true,I i.val)]) (fun _=>[(1,⟨true,rowsC (l.map BlL.r),82⟩)]) (fun i=>l.length-i.val) ⟨0,by omega,rfl⟩ (fun _=>ClM.v (by simp only[List.all_cons,rowsC_isV];rfl)) (fun _=>ClE.of rfl) [(1,1)] ?_ ?_
 ·exact⟨rfl,trivial,⟨rfl,rfl,rfl,rfl,trivial⟩,⟨oV (renV (rowsC_isV _)),trivial⟩⟩
 ·rintro⟨i,hi,hx⟩ J hb
  simp only at hb hi hx⊢
  refine Sm.go 110 ?_
  refine vv ?_
  refine mtch (fun hc=>?_) (fun hc=>?_)
  ·have hc:=lt_of_dec hc
   rw[ixF_step p l i hc]at hx
   have htk:=rows_take (r:=BlL.r) (k:=6) (fun _=>rfl) l i hc
   simp only[htk,hsz]
   refine⟨⟨by omega,by omega⟩,by omega,?_⟩
   refine CallQ.h 120 (hp l[i] (List.getElem_mem hc)) hH (caps_ok _ _) ?_
   refine vv ?_
   refine mtch (fun hd=>?_) (fun hd=>?_)
   ·rw[hd,cond_true]at hx
    exact RetQ.int (hR C hL) rfl ⟨rfl,trivial⟩ hx.symm
   ·rw[hd,cond_false]at hx
    simp only[wS (show i≤1000000000000000000 by omega)]
    exact hb _ _ ⟨i+1,hc,hx⟩ [(1,1)] (by simp only;omega) ⟨rfl,trivial,⟨rfl,rfl,rfl,rfl,trivial⟩,⟨oV (renV (rowsC_isV _)),trivial⟩⟩
  ·have hc:=eq_of_dec hi hc
   rw[hc,List.drop_length]at hx
   exact RetQ.int (hR C hL) rfl ⟨rfl,trivial⟩ hx.symm
theorem ixfI {H:Hp}(s:Sv)(l:List Int)(hs:SlH H (vsl s l.length) 1 (intsR l))(hl:l.length≤1000000000000000)(g:FuncId)(caps:Array Value)(p:Int→Bool)(hp:∀x∈l,CallH H Tryz.prog g ((.c (iC x))::caps.toList.map cst) (Bo (p x))):
  CallH H Tryz.prog 255 [.c (.v (vsl s l.length)),Fv g caps] (I (ixF p l 0)):=by
 refine CallH.mkS Tryz.func255 rfl en255 (by simp[Tryz.ntmps255]) (ClA.of rfl) fun C hR hP hH hL=>?_
 refine Sm.go 100 ?_
 refine vv ?_
 refine Sm.bringI 1 3 0 (hs.mono hH) rfl rfl ?_
 refine Sm.loopM (M0:=[]) (α:={i:Nat//i≤l.length∧ixF p l 0=ixF p (l.drop i) i}) hP (fun i=>[(0,true,.c (.sl 1 0 l.length 1)),(1,true,Fv g caps),(7,true,I l.length),(8,true,I i.val)]) (fun _=>[(1,⟨true,l.map iC,3⟩)]) (fun i=>l.length-i.val) ⟨0,by omega,rfl⟩ (fun _=>ClM.v (by simp only[List.all_cons,v_iC];rfl)) (fun _=>ClE.of rfl) [(1,1)] ?_ ?_
 ·exact⟨rfl,trivial,⟨rfl,rfl,rfl,rfl,trivial⟩,⟨oV (renV (v_iC _)),trivial⟩⟩
 ·rintro⟨i,hi,hx⟩ J hb
  simp only at hb hi hx⊢
  refine Sm.go 110 ?_
  refine vv ?_
  refine mtch (fun hc=>?_) (fun hc=>?_)
  ·have hc:=lt_of_dec hc
   rw[ixF_step p l i hc]at hx
   simp(maxSteps:=2000000) only[go_sem,get_iC hc]
   refine⟨⟨by omega,by omega⟩,?_⟩
   refine CallQ.h 120 (hp l[i] (List.getElem_mem hc)) hH (caps_ok _ _) ?_
   refine vv ?_
   refine mtch (fun hd=>?_) (fun hd=>?_)
   ·rw[hd,cond_true]at hx
    exact RetQ.int (hR C hL) rfl ⟨rfl,trivial⟩ hx.symm
   ·rw[hd,cond_false]at hx
    simp only[wS (show i≤1000000000000000000 by omega)]
    exact hb _ _ ⟨i+1,hc,hx⟩ [(1,1)] (by simp only;omega) ⟨rfl,trivial,⟨rfl,rfl,rfl,rfl,trivial⟩,⟨oV (renV (v_iC _)),trivial⟩⟩
  ·have hc:=eq_of_dec hi hc
   rw[hc,List.drop_length]at hx
   exact RetQ.int (hR C hL) rfl ⟨rfl,trivial⟩ hx.symm
theorem cofI {H:Hp}(s:Sv)(l:List Int)(hs:SlH H (vsl s l.length) 1 (intsR l))(hl:l.length≤1000000000000000)(g:FuncId)(caps:Array Value)(p:Int→Bool)(hp:∀x∈l,CallH H Tryz.prog g ((.c (iC x))::caps.toList.map cst) (Bo (p x))):
  CallH H Tryz.prog 209 [.c (.v (vsl s l.length)),Fv g caps] (Bo (l.any p)):=by
 refine CallH.mkS Tryz.func209 rfl en209 (by simp[Tryz.ntmps209]) (ClA.of rfl) fun C hR hP hH hL=>?_
 refine Sm.go 100 ?_
 refine vv ?_
 refine CallQ.h 110 (ixfI s l hs hl g caps p hp) hH rfl ?_
 refine vv ?_
 exact RetQ.bool (hR C hL) rfl ⟨rfl,trivial⟩ (ixF_any p l 0 (by omega))
end Go.Proofs.YtlnpgbnhcondjaaGreatDoor.Fx
