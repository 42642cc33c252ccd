/-  -/
import Derived.Test.YtlnpgbnhcondjaaGreatDoorPS
import Derived.Test.YtlnpgbnhcondjaaGreatDoorU6
import Derived.Test.YtlnpgbnhcondjaaGreatDoorU5
import Derived.Test.YtlnpgbnhcondjaaGreatDoorMB
namespace Go.Proofs.YtlnpgbnhcondjaaGreatDoor.Fx
set_option linter.unusedSimpArgs false
set_option linter.unusedVariables false
set_option maxRecDepth 100000
set_option maxHeartbeats 4000000
def ixU (n:List UInt8):List (List UInt8)→Nat→Option Nat
 |[],_=>none
 |x::r,k=>if x=n then some k else ixU n r (k+1)
def readF (f:List UInt8):Option (Nat×Nat):=
 if (cutB 94 f).2.2=true then
  match (cutB 94 f).2.1 with
  |[d]=>if 50≤d.toNat∧d.toNat≤57 then(ixU (cutB 94 f).1 symT 0).map fun i=>(i,d.toNat-48)else none
  |_=>none
 else(ixU (cutB 94 f).1 symT 0).map fun i=>(i,1)
def uset (u:Un)(i:Nat)(v:Int):Un:=
 match i with
 |0=>{u with m:=v}
 |1=>{u with kg:=v}
 |2=>{u with s:=v}
 |3=>{u with a:=v}
 |_=>{u with k:=v}
def facsF (sg:Int):Un→List (List UInt8)→Option Un
 |u,[]=>some u
 |u,f::r=>match readF f with
  |none=>none
  |some (i,n)=>if ex u i=0 then facsF sg (uset u i (sg*n)) r else none
def partsF:Nat→Un→List (List UInt8)→Option Un
 |_,u,[]=>some u
 |k,u,p::r=>if k=0∧p=[49]then partsF (k+1) u r else
  match facsF (if k=0 then 1 else-1) u (if k=0 then splB 42 p else[p])with
  |none=>none
  |some u'=>partsF (k+1) u' r
def parseQ (l:List UInt8):Option Un:=partsF 0 u0 (splB 47 l)
theorem ixU_lt (n:List UInt8):∀(l:List (List UInt8)) (k i:Nat),ixU n l k=some i→i<k+l.length
 |[],_,_,h=>by cases h
 |x::l,k,i,h=>by
  unfold ixU at h
  split at h
  ·cases h;simp
  ·have:=ixU_lt n l (k+1) i h
   simp;omega
theorem readF_bd {f:List UInt8}{i n:Nat}(h:readF f=some (i,n)):i<5∧1≤n∧n≤9:=by
 unfold readF at h
 split at h
 ·split at h
  ·split at h
   ·rename_i d _ hd
    cases hi:ixU (cutB 94 f).1 symT 0 with
    |none=>rw[hi]at h;cases h
    |some j=>
     rw[hi]at h
     have:=ixU_lt _ _ _ _ hi
     simp only[Option.map_some,Option.some.injEq,Prod.mk.injEq]at h
     have hl:symT.length=5:=rfl
     omega
   ·cases h
  ·cases h
 ·cases hi:ixU (cutB 94 f).1 symT 0 with
  |none=>rw[hi]at h;cases h
  |some j=>
   rw[hi]at h
   have:=ixU_lt _ _ _ _ hi
   simp only[Option.map_some,Option.some.injEq,Prod.mk.injEq]at h
   have hl:symT.length=5:=rfl
   omega
section
variable {u:Un} (hu:uokU u=true)
include hu
omit hu in
theorem facsF_cons (sg:Int)(v:Un)(f:List UInt8)(r:List (List UInt8)):facsF sg v (f::r)=(match readF f with
  |none=>none
  |some (i,n)=>if ex v i=0 then facsF sg (uset v i (sg*n)) r else none):=rfl
omit hu in
theorem partsF_cons (k:Nat)(v:Un)(p:List UInt8)(r:List (List UInt8)):partsF k v (p::r)=(if k=0∧p=[49]then partsF (k+1) v r else
  match facsF (if k=0 then 1 else-1) v (if k=0 then splB 42 p else[p])with
  |none=>none
  |some u'=>partsF (k+1) u' r):=rfl
end
end Go.Proofs.YtlnpgbnhcondjaaGreatDoor.Fx
namespace Go.Proofs.YtlnpgbnhcondjaaGreatDoor.Fx
set_option linter.unusedSimpArgs false
set_option linter.unusedVariables false
set_option maxRecDepth 100000
set_option maxHeartbeats 4000000
def prs (l:List UInt8):Un×Int:=
 if 40<l.length then(u0,5)else
 if (nmd l).2=true then((nmd l).1,0)else
 match parseQ l with
 |none=>(u0,3)
 |some u=>if txt u=l then(u,0)else(u0,3)
end Go.Proofs.YtlnpgbnhcondjaaGreatDoor.Fx
namespace Go.Proofs.YtlnpgbnhcondjaaGreatDoor.Fx
open Vg Tf
set_option linter.unusedSimpArgs false
set_option linter.unusedVariables false
set_option maxRecDepth 100000
set_option maxHeartbeats 4000000
abbrev Str:=List UInt8
abbrev sv (l:Str):Value:= .string ⟨l.toArray⟩
abbrev iv (n:Int):Value:= .int .i64 n
structure Td where
 nm:Str
 ty:Ft
structure Cu where
 nm:Str
 xs:List Int
 ys:List Int
structure Mp where
 nm:Str
 xs:List Int
 ys:List Int
 zs:List (List Int)
structure Po where
 nm:Str
 ty:Str
 lo:Int
 hi:Int
structure Bl where
 nm:Str
 kd:Str
 ty:Str
 ins:List Str
 tb:Str
 ks:List Int
structure Dg where
 nm:Str
 tys:List Td
 cus:List Cu
 mas:List Mp
 ins:List Po
 bls:List Bl
 ous:List Str
def leB (c:UInt8):Bool:=(decide (97≤c.toNat)&&decide (c.toNat≤122))||(decide (65≤c.toNat)&&decide (c.toNat≤90))
def diB (c:UInt8):Bool:=decide (48≤c.toNat)&&decide (c.toNat≤57)
def inB (c:UInt8):Bool:=leB c||(diB c||decide (c.toNat=95))
def kindT:List (Str×Nat×Nat×Nat):=[([99,111,110,115,116],0,1,0),([97,100,100],2,0,0),([115,117,98],2,0,0),([109,117,108],2,0,0),([100,105,118],2,0,0),([110,101,103],1,0,0),([109,105,110],2,0,0),([109,97,120],2,0,0),([108,105,109,105,116],1,2,0),([99,111,110,118,101,114,116],1,0,0),([99,117,114,118,101],1,0,1),([109,97,112],2,0,2),([100,101,108,97,121],1,1,0),([108,97,103],1,1,0),([115,119,105,116,99,104],3,0,0),([108,101,115,115],2,0,0),([101,113,117,97,108],2,0,0),([97,110,100],2,0,0),([111,114],2,0,0),([110,111,116],1,0,0),([104,121,115,116,101,114,101,115,105,115],1,2,0)]
def resT:List Str:=[[116,121,112,101],[105,110],[111,117,116],[98,108,111,99,107],[117,110,115,105,103,110,101,100],[115,105,103,110,101,100],[100,105,97,103,114,97,109]]
def kindQ (s:Str):Option (Nat×Nat×Nat):=(kindT.find? (fun r=>r.1==s)).map (·.2)
def resQ (s:Str):Bool:=(kindT.map (·.1)).contains s||resT.contains s
def nmOk (s:Str):Bool:= !(s==[])&&(decide (s.length≤24)&&(leB (s.getD 0 0)&&(s.all inB&& !resQ s)))
def nearB (n:Int):Bool:=decide (-1073741824≤n∧n≤1073741824)
def incB:List Int→Bool
 |[]=>true
 |[_]=>true
 |x::y::r=>decide (x<y)&&incB (y::r)
def axOk (l:List Int):Bool:=decide (2≤l.length∧l.length≤32)&&(l.all nearB&&incB l)
def cuOk (xs ys:List Int):Bool:=decide (xs.length=ys.length)&&(axOk xs&&ys.all nearB)
def maOk (xs ys:List Int)(zs:List (List Int)):Bool:=axOk xs&&(axOk ys&&(decide (zs.length=xs.length)&&zs.all (fun z=>decide (z.length=ys.length)&&z.all nearB)))
def fitB (n:Int):Bool:=decide (-1099511627776≤n∧n≤1099511627776)
def blOk (b:Bl):Bool:=match kindQ b.kd with
 |none=>false
 |some (a,k,t)=>decide (b.ins.length=a)&&(decide (b.ks.length=k)&&(nmOk b.nm&&(nmOk b.ty&&((if t=0 then b.tb==[]else nmOk b.tb)&&(b.ins.all nmOk&&b.ks.all fitB)))))
def poOk (p:Po):Bool:=nmOk p.nm&&(nmOk p.ty&&(fitB p.lo&&fitB p.hi))
def dgOk (d:Dg):Bool:=nmOk d.nm&&(decide (d.tys.length≤30∧d.cus.length≤30∧d.mas.length≤30∧d.ins.length≤30∧d.ous.length≤30)&&(decide (d.bls.length≤200)&&
 (d.tys.all (fun t=>nmOk t.nm&&fok t.ty)&&(d.cus.all (fun c=>nmOk c.nm&&cuOk c.xs c.ys)&&(d.mas.all (fun m=>nmOk m.nm&&maOk m.xs m.ys m.zs)&&(d.ins.all poOk&&(d.bls.all blOk&&d.ous.all nmOk)))))))
structure Sv where
 o:Option Addr
 c:Nat
@[reducible,go_sem] def vsl (s:Sv)(n:Nat):Value:= .slice s.o n s.c
structure CuL where
 c:Cu
 x:Sv
 y:Sv
structure MpL where
 nm:Str
 xs:List Int
 ys:List Int
 zs:List (Sv×List Int)
 x:Sv
 y:Sv
 z:Sv
def MpL.c (m:MpL):Mp:=⟨m.nm,m.xs,m.ys,m.zs.map (·.2)⟩
structure BlL where
 c:Bl
 i:Sv
 k:Sv
structure DgL where
 nm:Str
 tys:List Td
 cus:List CuL
 mas:List MpL
 ins:List Po
 bls:List BlL
 ous:List Str
 ty:Sv
 cu:Sv
 ma:Sv
 i:Sv
 bl:Sv
 ou:Sv
def DgL.c (d:DgL):Dg:=⟨d.nm,d.tys,d.cus.map CuL.c,d.mas.map MpL.c,d.ins,d.bls.map BlL.c,d.ous⟩
def intsR (l:List Int):List (List Value):=l.map fun n=>[iv n]
def strsR (l:List Str):List (List Value):=l.map fun s=>[sv s]
@[go_sem] def ftR (t:Ft):List Value:=[.int .i64 t.bits,.bool t.signed,.int .i64 t.num,.int .i64 t.off,.int .i64 t.den,.int .i64 t.m,.int .i64 t.kg,.int .i64 t.s,.int .i64 t.a,.int .i64 t.k]
@[go_sem] def Td.r (t:Td):List Value:= .string ⟨t.nm.toArray⟩::ftR t.ty
@[go_sem] def CuL.r (c:CuL):List Value:=[.string ⟨c.c.nm.toArray⟩,.slice c.x.o c.c.xs.length c.x.c,.slice c.y.o c.c.ys.length c.y.c]
@[go_sem] def MpL.r (m:MpL):List Value:=[.string ⟨m.nm.toArray⟩,.slice m.x.o m.xs.length m.x.c,.slice m.y.o m.ys.length m.y.c,.slice m.z.o m.zs.length m.z.c]
@[go_sem] def Po.r (p:Po):List Value:=[.string ⟨p.nm.toArray⟩,.string ⟨p.ty.toArray⟩,.int .i64 p.lo,.int .i64 p.hi]
@[go_sem] def BlL.r (b:BlL):List Value:=[.string ⟨b.c.nm.toArray⟩,.string ⟨b.c.kd.toArray⟩,.string ⟨b.c.ty.toArray⟩,.slice b.i.o b.c.ins.length b.i.c,.string ⟨b.c.tb.toArray⟩,.slice b.k.o b.c.ks.length b.k.c]
@[go_sem] def DgL.r (d:DgL):List Value:=[.string ⟨d.nm.toArray⟩,.slice d.ty.o d.tys.length d.ty.c,.slice d.cu.o d.cus.length d.cu.c,.slice d.ma.o d.mas.length d.ma.c,.slice d.i.o d.ins.length d.i.c,.slice d.bl.o d.bls.length d.bl.c,.slice d.ou.o d.ous.length d.ou.c]
@[go_sem] def rowV (r:List Value):V:= .agg (r.map .v)
structure CuL.ok (H:Hp) (c:CuL):Prop where
 x:SlH H (vsl c.x c.c.xs.length) 1 (intsR c.c.xs)
 y:SlH H (vsl c.y c.c.ys.length) 1 (intsR c.c.ys)
structure MpL.ok (H:Hp) (m:MpL):Prop where
 x:SlH H (vsl m.x m.xs.length) 1 (intsR m.xs)
 y:SlH H (vsl m.y m.ys.length) 1 (intsR m.ys)
 z:SlH H (vsl m.z m.zs.length) 1 (m.zs.map fun v=>[vsl v.1 v.2.length])
 e:∀v∈m.zs,SlH H (vsl v.1 v.2.length) 1 (intsR v.2)
structure BlL.ok (H:Hp) (b:BlL):Prop where
 i:SlH H (vsl b.i b.c.ins.length) 1 (strsR b.c.ins)
 k:SlH H (vsl b.k b.c.ks.length) 1 (intsR b.c.ks)
structure DgL.ok (H:Hp) (d:DgL):Prop where
 ty:SlH H (vsl d.ty d.tys.length) 11 (d.tys.map Td.r)
 cu:SlH H (vsl d.cu d.cus.length) 3 (d.cus.map CuL.r)
 ma:SlH H (vsl d.ma d.mas.length) 4 (d.mas.map MpL.r)
 i:SlH H (vsl d.i d.ins.length) 4 (d.ins.map Po.r)
 bl:SlH H (vsl d.bl d.bls.length) 6 (d.bls.map BlL.r)
 ou:SlH H (vsl d.ou d.ous.length) 1 (strsR d.ous)
 cus:∀c∈d.cus,c.ok H
 mas:∀m∈d.mas,m.ok H
 bls:∀b∈d.bls,b.ok H
theorem CuL.ok.mono {H H':Hp}(h:H.le H'){c:CuL}(k:c.ok H):c.ok H':=⟨k.x.mono h,k.y.mono h⟩
theorem MpL.ok.mono {H H':Hp}(h:H.le H'){c:MpL}(k:c.ok H):c.ok H':=⟨k.x.mono h,k.y.mono h,k.z.mono h,fun v hv=>(k.e v hv).mono h⟩
theorem BlL.ok.mono {H H':Hp}(h:H.le H'){c:BlL}(k:c.ok H):c.ok H':=⟨k.i.mono h,k.k.mono h⟩
theorem DgL.ok.mono {H H':Hp}(h:H.le H'){d:DgL}(k:d.ok H):d.ok H':=⟨k.ty.mono h,k.cu.mono h,k.ma.mono h,k.i.mono h,k.bl.mono h,k.ou.mono h,fun c hc=>(k.cus c hc).mono h,fun c hc=>(k.mas c hc).mono h,fun c hc=>(k.bls c hc).mono h⟩
def rowsC (l:List (List Value)):List Cv:=l.flatten.map .v
theorem rowsC_len {k:Nat}(l:List (List Value))(h:∀r∈l,r.length=k):(rowsC l).length=l.length*k:=by
 unfold rowsC
 rw[List.length_map]
 induction l with
 |nil=>simp
 |cons x l ih=>rw[List.flatten_cons,List.length_append,ih (fun r hr=>h r (by simp[hr])),h x (by simp),List.length_cons,Nat.succ_mul,Nat.add_comm]
theorem rowsC_take {k:Nat}:∀(l:List (List Value)),(∀r∈l,r.length=k)→∀(i:Nat) (h:i<l.length),((rowsC l).drop (i*k)).take k=l[i].map Cv.v
 |x::l,hk,0,_=>by
  have:=hk x (by simp)
  simp[rowsC,←this]
 |x::l,hk,i+1,h=>by
  have h0:=hk x (by simp)
  have ih:=rowsC_take l (fun r hr=>hk r (by simp[hr])) i (by simpa using h)
  have e:(i+1)*k=(x.map Cv.v).length+i*k:=by rw[List.length_map,h0,Nat.succ_mul,Nat.add_comm]
  have e2:rowsC (x::l)=x.map Cv.v++rowsC l:=by simp[rowsC]
  rw[e2,e,←List.drop_drop,List.drop_left,ih]
  rfl
theorem rowsC_get {k:Nat}(l:List (List Value))(h:∀r∈l,r.length=k)(i j:Nat)(hi:i<l.length)(hj:j<k):(rowsC l)[i*k+j]?=(l[i][j]?).map Cv.v:=by
 have h1:=rowsC_take l h i hi
 have:(rowsC l)[i*k+j]?=(((rowsC l).drop (i*k)).take k)[j]?:=by rw[List.getElem?_take_of_lt hj,List.getElem?_drop]
 rw[this,h1,List.getElem?_map]
theorem rowsC_isV (l:List (List Value)):(rowsC l).all Cv.isV=true:=by
 unfold rowsC
 rw[List.all_eq_true]
 intro c hc
 obtain⟨v,_,rfl⟩:=List.mem_map.1 hc
 rfl
end Go.Proofs.YtlnpgbnhcondjaaGreatDoor.Fx
