/-  -/
import Derived.Test.YtbnkiacicnnmkaaGreatU2
open Go.Proofs.Tryz
open Go.Proofs.Tryz renaming prog→HT
set_option linter.unusedSimpArgs false
set_option linter.unusedVariables false
set_option maxRecDepth 100000
set_option maxHeartbeats 4000000
namespace Go.Proofs.YtbnkiacicnnmkaaGreat.Fx
open Vg Tf
abbrev Str:=List UInt8
abbrev sv (l:Str):Value:= .string ⟨l.toArray⟩
abbrev iv (n:Int):Value:= .int .i64 n
structure Td where
 nm:Str
 ty:Ft
structure Cu where
 nm:Str
 xs:List Int
 ys:List Int
structure Mp where
 nm:Str
 xs:List Int
 ys:List Int
 zs:List (List Int)
structure Po where
 nm:Str
 ty:Str
 lo:Int
 hi:Int
structure Bl where
 nm:Str
 kd:Str
 ty:Str
 ins:List Str
 tb:Str
 ks:List Int
structure Dg where
 nm:Str
 tys:List Td
 cus:List Cu
 mas:List Mp
 ins:List Po
 bls:List Bl
 ous:List Str
def Wc (c:UInt8):Bool:=(decide (97<=c.toNat)&&decide (c.toNat<=122))||(decide (65<=c.toNat)&&decide (c.toNat<=90))
def ND (c:UInt8):Bool:=decide (48<=c.toNat)&&decide (c.toNat<=57)
def Xk (c:UInt8):Bool:=Wc c||(ND c||decide (c.toNat=95))
def kindT:List (Str×Nat×Nat×Nat):=[([99,111,110,115,116],0,1,0),([97,100,100],2,0,0),([115,117,98],2,0,0),([109,117,108],2,0,0),([100,105,118],2,0,0),([110,101,103],1,0,0),([109,105,110],2,0,0),([109,97,120],2,0,0),([108,105,109,105,116],1,2,0),([99,111,110,118,101,114,116],1,0,0),([99,117,114,118,101],1,0,1),([109,97,112],2,0,2),([100,101,108,97,121],1,1,0),([108,97,103],1,1,0),([115,119,105,116,99,104],3,0,0),([108,101,115,115],2,0,0),([101,113,117,97,108],2,0,0),([97,110,100],2,0,0),([111,114],2,0,0),([110,111,116],1,0,0),([104,121,115,116,101,114,101,115,105,115],1,2,0)]
def Yy:List Str:=[[116,121,112,101],[105,110],[111,117,116],[98,108,111,99,107],[117,110,115,105,103,110,101,100],[115,105,103,110,101,100],[100,105,97,103,114,97,109]]
def ym (s:Str):Option (Nat×Nat×Nat):=(kindT.find? (fun r=>r.1==s)).map (·.2)
def kq (s:Str):Bool:=(kindT.map (·.1)).contains s||Yy.contains s
def xK (s:Str):Bool:= !(s==[])&&(decide (s.length<=24)&&(Wc (s.getD 0 0)&&(s.all Xk&& !kq s)))
def yA (n:Int):Bool:=decide (-1073741824<=n/\n<=1073741824)
def tR:List Int->Bool
 |[]=>true
 |[_]=>true
 |x::y::r=>decide (x<y)&&tR (y::r)
def xX (l:List Int):Bool:=decide (2<=l.length/\l.length<=32)&&(l.all yA&&tR l)
def wN (xs ys:List Int):Bool:=decide (xs.length=ys.length)&&(xX xs&&ys.all yA)
def xM (xs ys:List Int)(zs:List (List Int)):Bool:=xX xs&&(xX ys&&(decide (zs.length=xs.length)&&zs.all (fun z=>decide (z.length=ys.length)&&z.all yA)))
def vZ (n:Int):Bool:=decide (-1099511627776<=n/\n<=1099511627776)
def xj (b:Bl):Bool:=match ym b.kd with
 |none=>false
 |some (a,k,t)=>decide (b.ins.length=a)&&(decide (b.ks.length=k)&&(xK b.nm&&(xK b.ty&&((if t=0 then b.tb==[]else xK b.tb)&&(b.ins.all xK&&b.ks.all vZ)))))
def eY (p:Po):Bool:=xK p.nm&&(xK p.ty&&(vZ p.lo&&vZ p.hi))
def sY (d:Dg):Bool:=xK d.nm&&(decide (d.tys.length<=30/\d.cus.length<=30/\d.mas.length<=30/\d.ins.length<=30/\d.ous.length<=30)&&(decide (d.bls.length<=200)&&
 (d.tys.all (fun t=>xK t.nm&&fok t.ty)&&(d.cus.all (fun c=>xK c.nm&&wN c.xs c.ys)&&(d.mas.all (fun m=>xK m.nm&&xM m.xs m.ys m.zs)&&(d.ins.all eY&&(d.bls.all xj&&d.ous.all xK)))))))
structure Sv where
 o:Option Addr
 c:Nat
@[reducible,go_sem] def vsl (s:Sv)(n:Nat):Value:= .slice s.o n s.c
structure CuL where
 c:Cu
 x:Sv
 y:Sv
structure MpL where
 nm:Str
 xs:List Int
 ys:List Int
 zs:List (Sv×List Int)
 x:Sv
 y:Sv
 z:Sv
def MpL.c (m:MpL):Mp:=⟨m.nm,m.xs,m.ys,m.zs.map (·.2)⟩
structure BlL where
 c:Bl
 i:Sv
 k:Sv
structure DgL where
 nm:Str
 tys:List Td
 cus:List CuL
 mas:List MpL
 ins:List Po
 bls:List BlL
 ous:List Str
 ty:Sv
 cu:Sv
 ma:Sv
 i:Sv
 bl:Sv
 ou:Sv
def DgL.c (d:DgL):Dg:=⟨d.nm,d.tys,d.cus.map CuL.c,d.mas.map MpL.c,d.ins,d.bls.map BlL.c,d.ous⟩
def zP (l:List Int):List (List Value):=l.map fun n=>[iv n]
def yH (l:List Str):List (List Value):=l.map fun s=>[sv s]
@[go_sem] def xN (t:Ft):List Value:=[.int .i64 t.bits,.bool t.signed,.int .i64 t.num,.int .i64 t.off,.int .i64 t.den,.int .i64 t.m,.int .i64 t.kg,.int .i64 t.s,.int .i64 t.a,.int .i64 t.k]
@[go_sem] def Td.r (t:Td):List Value:= .string ⟨t.nm.toArray⟩::xN t.ty
@[go_sem] def CuL.r (c:CuL):List Value:=[.string ⟨c.c.nm.toArray⟩,.slice c.x.o c.c.xs.length c.x.c,.slice c.y.o c.c.ys.length c.y.c]
@[go_sem] def MpL.r (m:MpL):List Value:=[.string ⟨m.nm.toArray⟩,.slice m.x.o m.xs.length m.x.c,.slice m.y.o m.ys.length m.y.c,.slice m.z.o m.zs.length m.z.c]
@[go_sem] def Po.r (p:Po):List Value:=[.string ⟨p.nm.toArray⟩,.string ⟨p.ty.toArray⟩,.int .i64 p.lo,.int .i64 p.hi]
@[go_sem] def BlL.r (b:BlL):List Value:=[.string ⟨b.c.nm.toArray⟩,.string ⟨b.c.kd.toArray⟩,.string ⟨b.c.ty.toArray⟩,.slice b.i.o b.c.ins.length b.i.c,.string ⟨b.c.tb.toArray⟩,.slice b.k.o b.c.ks.length b.k.c]
@[go_sem] def DgL.r (d:DgL):List Value:=[.string ⟨d.nm.toArray⟩,.slice d.ty.o d.tys.length d.ty.c,.slice d.cu.o d.cus.length d.cu.c,.slice d.ma.o d.mas.length d.ma.c,.slice d.i.o d.ins.length d.i.c,.slice d.bl.o d.bls.length d.bl.c,.slice d.ou.o d.ous.length d.ou.c]
@[go_sem] def z3 (r:List Value):V:= .agg (r.map .v)
structure CuL.ok (H:Hp) (c:CuL):Prop where
 x:SlH H (vsl c.x c.c.xs.length) 1 (zP c.c.xs)
 y:SlH H (vsl c.y c.c.ys.length) 1 (zP c.c.ys)
structure MpL.ok (H:Hp) (m:MpL):Prop where
 x:SlH H (vsl m.x m.xs.length) 1 (zP m.xs)
 y:SlH H (vsl m.y m.ys.length) 1 (zP m.ys)
 z:SlH H (vsl m.z m.zs.length) 1 (m.zs.map fun v=>[vsl v.1 v.2.length])
 e:∀v∈m.zs,SlH H (vsl v.1 v.2.length) 1 (zP v.2)
structure BlL.ok (H:Hp) (b:BlL):Prop where
 i:SlH H (vsl b.i b.c.ins.length) 1 (yH b.c.ins)
 k:SlH H (vsl b.k b.c.ks.length) 1 (zP b.c.ks)
structure DgL.ok (H:Hp) (d:DgL):Prop where
 ty:SlH H (vsl d.ty d.tys.length) 11 (d.tys.map Td.r)
 cu:SlH H (vsl d.cu d.cus.length) 3 (d.cus.map CuL.r)
 ma:SlH H (vsl d.ma d.mas.length) 4 (d.mas.map MpL.r)
 i:SlH H (vsl d.i d.ins.length) 4 (d.ins.map Po.r)
 bl:SlH H (vsl d.bl d.bls.length) 6 (d.bls.map BlL.r)
 ou:SlH H (vsl d.ou d.ous.length) 1 (yH d.ous)
 cus:∀c∈d.cus,c.ok H
 mas:∀m∈d.mas,m.ok H
 bls:∀b∈d.bls,b.ok H
theorem CuL.ok.mono {H H':Hp}(h:H.le H'){c:CuL}(k:c.ok H):c.ok H':=⟨k.x.mono h,k.y.mono h⟩
theorem MpL.ok.mono {H H':Hp}(h:H.le H'){c:MpL}(k:c.ok H):c.ok H':=⟨k.x.mono h,k.y.mono h,k.z.mono h,fun v hv=>(k.e v hv).mono h⟩
theorem BlL.ok.mono {H H':Hp}(h:H.le H'){c:BlL}(k:c.ok H):c.ok H':=⟨k.i.mono h,k.k.mono h⟩
theorem DgL.ok.mono {H H':Hp}(h:H.le H'){d:DgL}(k:d.ok H):d.ok H':=⟨k.ty.mono h,k.cu.mono h,k.ma.mono h,k.i.mono h,k.bl.mono h,k.ou.mono h,fun c hc=>(k.cus c hc).mono h,fun c hc=>(k.mas c hc).mono h,fun c hc=>(k.bls c hc).mono h⟩
def zC (l:List (List Value)):List Cv:=l.flatten.map .v
theorem yQ {k:Nat}(l:List (List Value))(h:∀r∈l,r.length=k):(zC l).length=l.length*k:=by
 unfold zC
 rw[Kv]
 induction l with
 |nil=>simp
 |cons x l ih=>rw[List.flatten_cons,JM,ih (fun r hr=>h r (by simp[hr])),h x z9,JQ,Iz,Nat.add_comm]
theorem uH {k:Nat}:∀(l:List (List Value)),(∀r∈l,r.length=k)->∀(i:Nat) (h:i<l.length),((zC l).drop (i*k)).take k=l[i].map Cv.v
 |x::l,hk,0,_=>by
  have:=hk x z9
  simp[zC,<-this]
 |x::l,hk,i+1,h=>by
  have h0:=hk x z9
  have ih:=uH l (fun r hr=>hk r (by simp[hr])) i (by simpa using h)
  have e:(i+1)*k=(x.map Cv.v).length+i*k:=by rw[Kv,h0,Iz,Nat.add_comm]
  have e2:zC (x::l)=x.map Cv.v++zC l:=by simp[zC]
  rw[e2,e,<-HR,List.drop_left,ih]
  rfl
theorem yR {k:Nat}(l:List (List Value))(h:∀r∈l,r.length=k)(i j:Nat)(hi:i<l.length)(hj:j<k):(zC l)[i*k+j]?=(l[i][j]?).map Cv.v:=by
 have h1:=uH l h i hi
 have:(zC l)[i*k+j]?=(((zC l).drop (i*k)).take k)[j]?:=by rw[List.getElem?_take_of_lt hj,Is]
 rw[this,h1,JO]
theorem zJ (l:List (List Value)):(zC l).all Cv.isV=true:=by
 unfold zC
 rw[JD]
 intro c hc
 obtain⟨v,_,rfl⟩:=JL.1 hc
 rfl
theorem oX {A:Prop}{ρ:Nat->Nat}{r:Bool}{l:List (List Value)}{t:TypeId}{o:Option Bk}(h:o=some ⟨r,zC l,t⟩:=by exact rfl):A\/∃b',o=some b'/\Wk ((⟨r,zC l,t⟩:Bk).ren ρ) b':=oV (yD (zJ _)) h
theorem oY {ρ:Nat->Nat}{r:Bool}{l:List (List Value)}{t:TypeId}{o:Option Bk}(h:o=some ⟨r,zC l,t⟩:=by exact rfl):∃b',o=some b'/\Wk ((⟨r,zC l,t⟩:Bk).ren ρ) b':=oW (yD (zJ _)) h
theorem LI {α:Type}{f:α->Cv}(h:∀a,(f a).isV=true){l:List α}:(l.map f).all Cv.isV=true:=by rw[List.all_map];exact JD.2 fun a _=>h a
theorem zh {p:Prop}(h:p:=by exact⟨rfl,by repeat(first|exact trivial|refine⟨⟨rfl,rfl⟩,?_⟩),by repeat(first|exact trivial|refine⟨rfl,?_⟩),by repeat(first|exact trivial|refine⟨oX,?_⟩|refine⟨oV (yD (LI fun _=>rfl)),?_⟩|refine⟨oR,?_⟩)⟩):p:=h
theorem iR {M:Mem}{l:List (List Value)}:(zC l).all (Cv.inM M)=true:=z6 (zJ _)
theorem cM {M:Mem}(h:M.all (fun p=>p.2.cells.all (Cv.inM M))=true:=by first|exact rfl|(simp only[JF,JG,Kw,iR];rfl)):ClM M:=zD h
theorem _root_.Go.Proofs.YtbnkiacicnnmkaaGreat.Vg.CallX.mkS {H:Hp}{P:Program}{f:FuncId}{fn:Func}{body:Code}{args:List V}{M:Mem}{α:Type}{v:α->V}{N:α->Mem}{Q:α->Hp->Prop}(hf:P.funcs[f]?=some fn)(hb:fn.body=some body)(hent:Enters P f)(hnt:args.length<=fn.ntmps)(hcl:∀x∈args,ClV M x)
  (hN:∀x,(N x).all (fun p=> !p.2.ro||(M.get p.1).isSome)=true) (hU:∀x,(N x).all (fun p=>match M.get p.1 with|some b=> !b.ro|none=>true)=true)
  (h:∀C,(∀x Cn,Lf C Cn->Q x Cn.hp->yr P Cn fn (v x) (N x++M))->Pins C.S M->H.le C.hp->Lf C C->Sm P fn.ntmps C [.code body] (wB 0 args) M):CallX H P f args M v N Q:=
 CallX.intro hf hb hent hnt (fun x n b h h0=>by have:=JD.1 (hN x) (n,b) (zk h);simpa[h0]using this)
  (fun x n b b' h h'=>by have:=JD.1 (hU x) (n,b) (zk h);simp only[h']at this;simpa using this) hcl h
theorem _root_.Go.Proofs.YtbnkiacicnnmkaaGreat.Vg.CallH.mkS {H:Hp}{P:Program}{f:FuncId}{fn:Func}{body:Code}{args:List V}{v:V}(hf:P.funcs[f]?=some fn)(hb:fn.body=some body)(hent:Enters P f)(hnt:args.length<=fn.ntmps)(hcl:∀x∈args,ClV [] x)
  (h:∀C,(∀Cn,Lf C Cn->yr P Cn fn v [])->Pins C.S []->H.le C.hp->Lf C C->Sm P fn.ntmps C [.code body] (wB 0 args) []):CallH H P f args v:=
 CallX.mkS hf hb hent hnt hcl (fun _=>rfl) (fun _=>rfl) fun C hR hP hH hL=>h C (fun Cn hl=>hR () Cn hl trivial) hP hH hL
theorem _root_.Go.Proofs.YtbnkiacicnnmkaaGreat.Vg.kX {H:Hp}{P:Program}{f:FuncId}{fn:Func}{body:Code}{args:List V}{M:Mem}{α:Type}{v:α->V}{N:α->Mem}{Q:α->Hp->Prop}{k:Nat}(hf:P.funcs[f]?=some fn)(hent:Enters P f)(hk:fn.ntmps=k)
 (h:∀C,(∀x Cn,Lf C Cn->Q x Cn.hp->yr P Cn fn (v x) (N x++M))->Pins C.S M->H.le C.hp->Lf C C->Sm P fn.ntmps C [.code body] (wB 0 args) M)(hb:fn.body=some body:=by exact rfl)(hnt:args.length<=k:=by exact Nat.le_of_ble_eq_true rfl)(hcl:∀x∈args,ClV M x:=by exact v8 rfl)
 (hN:∀x,(N x).all (fun p=> !p.2.ro||(M.get p.1).isSome)=true:=by exact fun _=>rfl)(hU:∀x,(N x).all (fun p=>match M.get p.1 with|some b=> !b.ro|none=>true)=true:=by exact fun _=>rfl):CallX H P f args M v N Q:=CallX.mkS hf hb hent (hk▸hnt) hcl hN hU h
theorem _root_.Go.Proofs.YtbnkiacicnnmkaaGreat.Vg.kH {H:Hp}{P:Program}{f:FuncId}{fn:Func}{body:Code}{args:List V}{v:V}{k:Nat}(hf:P.funcs[f]?=some fn)(hent:Enters P f)(hk:fn.ntmps=k)
 (h:∀C,(∀Cn,Lf C Cn->yr P Cn fn v [])->Pins C.S []->H.le C.hp->Lf C C->Sm P fn.ntmps C [.code body] (wB 0 args) [])(hb:fn.body=some body:=by exact rfl)(hnt:args.length<=k:=by exact Nat.le_of_ble_eq_true rfl)(hcl:∀x∈args,ClV [] x:=by exact v8 rfl):CallH H P f args v:=CallH.mkS hf hb hent (hk▸hnt) hcl h
theorem _root_.Go.Proofs.YtbnkiacicnnmkaaGreat.Vg.CallOk.toX {H:Hp}{P:Program}{f:FuncId}{args:List V}{M N:Mem}{v:V}(h:CallOk P f args M v N):CallX H P f args M (fun _:Unit=>v) (fun _=>N) (fun _ _=>True):=by
 obtain⟨h1,h2,h3,h4⟩:=h
 refine⟨h1,fun _=>h2,fun _=>h3,fun β w Z hm _ _=>(h4 β w hm).mono ?_⟩
 rintro en w' ⟨β',k1,k2,k3,k4,k5⟩
 exact⟨(),β',fun _ _=>False,k1,k2,k3,k4,k5,fun _ _ h=>h.elim,trivial⟩
theorem _root_.Go.Proofs.YtbnkiacicnnmkaaGreat.Vg.CallOk.toH {H:Hp}{P:Program}{f:FuncId}{args:List V}{v:V}(h:CallOk P f args [] v []):CallH H P f args v:=h.toX
theorem _root_.Go.Proofs.YtbnkiacicnnmkaaGreat.Vg.CallX.mono {H H':Hp}{P:Program}{f:FuncId}{args:List V}{M:Mem}{α:Type}{v:α->V}{N:α->Mem}{Q:α->Hp->Prop}(h:CallX H P f args M v N Q)(hl:H.le H'):CallX H' P f args M v N Q:=
 ⟨h.1,h.2.1,h.2.2.1,fun β w Z hm hH hZ=>h.2.2.2 β w Z hm (fun b o hb=>hH b o (hl b o hb)) hZ⟩
theorem _root_.Go.Proofs.YtbnkiacicnnmkaaGreat.Vg.Sm.bringR {P:Program}{nt:Nat}{C:Cx}{todo:List It}{e:Env}{M:Mem}{v:Value}{sz:Nat}{rows:List (List Value)}(nm:Nat)(el:TypeId)(t:Nat){g:Bool}(h:SlH C.hp v sz rows)(hn:M.get nm=none)(hx:e.get t=some (g,.c (.v v)))
  (k:Sm P nt C todo ((t,g,.c (.sl nm 0 rows.length sz))::e) ((nm,⟨true,zC rows,el⟩)::M)):Sm P nt C todo e M:=Sm.bring nm el t h hn hx k
theorem wS {i:Nat}(h:i<=1000000000000000000):IntKind.i64.wrap ((i:Int)+1)=((i+1:Nat):Int):=by rw[y6 zA zA];omega
theorem yu {i:Nat}(h:i<=1000000000000000000:=by omega):IntKind.i64.wrap ((i:Int)+1)=((i+1:Nat):Int):=wS h
theorem zH {i n:Nat}(h:decide ((i:Int)<(n:Int))=true):i<n:=by have:=of_decide_eq_true h;omega
theorem zI {i n:Nat}(hi:i<=n)(h:decide ((i:Int)<(n:Int))=false):i=n:=by have:=of_decide_eq_false h;omega
def xy {α:Type}(p:α->Bool):List α->Int->Int
 |[],_=> -1
 |x::l,k=>bif p x then k else xy p l (k+1)
theorem yU {α:Type}(p:α->Bool)(l:List α)(i:Nat)(h:i<l.length)(k:Int):xy p (l.drop i) k=bif p l[i]then k else xy p (l.drop (i+1)) (k+1):=by
 rw[JC h];rfl
theorem yj {α:Type}(p:α->Bool):∀(l:List α) (k:Int),0<=k->decide (0<=xy p l k)=l.any p
 |[],k,_=>by simp[xy]
 |x::l,k,h=>by
  rw[xy,List.any_cons]
  cases p x with
  |true=>simp[h]
  |false=>rw[cond_false,Ip];exact yj p l (k+1) zA
@[reducible] def sC (s:Str):Cv:= .v (.string ⟨s.toArray⟩)
@[reducible] def iC (n:Int):Cv:= .v (.int .i64 n)
theorem m8 (l:List Str):zC (yH l)=l.map sC:=by
 unfold zC yH
 induction l with
 |nil=>rfl
 |cons x l ih=>simpa using ih
theorem wj (l:List Int):zC (zP l)=l.map iC:=by
 unfold zC zP
 induction l with
 |nil=>rfl
 |cons x l ih=>simpa using ih
theorem y8 (l:List Str):(l.map sC).all Cv.isV=true:=by simp[Cv.isV]
theorem zq (l:List Int):(l.map iC).all Cv.isV=true:=by simp[Cv.isV]
theorem vV {l:List Str}{i:Nat}(h:i<l.length):(l.map sC)[i]?=some (sC l[i]):=by simp[h]
theorem wC {l:List Int}{i:Nat}(h:i<l.length):(l.map iC)[i]?=some (iC l[i]):=by simp[h]
theorem _root_.Go.Proofs.YtbnkiacicnnmkaaGreat.Vg.Sm.bringI {P:Program}{nt:Nat}{C:Cx}{todo:List It}{e:Env}{M:Mem}{v:Value}{l:List Int}(nm:Nat)(el:TypeId)(t:Nat){g:Bool}(h:SlH C.hp v 1 (zP l))(hn:M.get nm=none)(hx:e.get t=some (g,.c (.v v)))
  (k:Sm P nt C todo ((t,g,.c (.sl nm 0 l.length 1))::e) ((nm,⟨true,l.map iC,el⟩)::M)):Sm P nt C todo e M:=by
 have hlen:(zP l).length=l.length:=by simp[zP]
 refine Sm.bringR nm el t h hn hx ?_
 rw[hlen,wj];exact k
theorem _root_.Go.Proofs.YtbnkiacicnnmkaaGreat.Vg.Sm.bringS {P:Program}{nt:Nat}{C:Cx}{todo:List It}{e:Env}{M:Mem}{v:Value}{l:List Str}(nm:Nat)(el:TypeId)(t:Nat){g:Bool}(h:SlH C.hp v 1 (yH l))(hn:M.get nm=none)(hx:e.get t=some (g,.c (.v v)))
  (k:Sm P nt C todo ((t,g,.c (.sl nm 0 l.length 1))::e) ((nm,⟨true,l.map sC,el⟩)::M)):Sm P nt C todo e M:=by
 have hlen:(yH l).length=l.length:=by simp[yH]
 refine Sm.bringR nm el t h hn hx ?_
 rw[hlen,m8];exact k
@[go_sem ↓] theorem QU:rm 7 1=[(0,1),(1,1),(2,1),(3,1),(4,1),(5,1),(6,1)]:=rfl
@[go_sem ↓] theorem VM:rm 21 4=[(0,4),(4,4),(8,4),(12,4),(16,4),(20,4),(24,4),(28,4),(32,4),(36,4),(40,4),(44,4),(48,4),(52,4),(56,4),(60,4),(64,4),(68,4),(72,4),(76,4),(80,4)]:=rfl
theorem xg (a b:Bool):(bif a then b else false)=(a&&b):=by cases a<;>rfl
theorem lc (a b:Bool):(bif a then true else b)=(a||b):=by cases a<;>rfl
theorem ij (c:UInt8):CallOk HT 179 [Y c.toNat] [] (Bo (Wc c)) []:=by
 refine kN 100 func179 SS ntmps179 fun C hR hP=>?_
 refine vv ?_
 refine⟨fun h=>⟨h,fun h2=>by rw[h,h2];rfl⟩,?_⟩
 refine zp hR ?_
 unfold Wc
 simp only[xg,lc]
 have e1:decide ((97:Int)<=(c.toNat:Int))=decide (97<=c.toNat):=by rw[decide_eq_decide];omega
 have e2:decide ((c.toNat:Int)<=122)=decide (c.toNat<=122):=by rw[decide_eq_decide];omega
 have e3:decide ((65:Int)<=(c.toNat:Int))=decide (65<=c.toNat):=by rw[decide_eq_decide];omega
 have e4:decide ((c.toNat:Int)<=90)=decide (c.toNat<=90):=by rw[decide_eq_decide];omega
 rw[e1,e2,e3,e4]
theorem WL (c:UInt8):CallOk HT 239 [Y c.toNat] [] (Bo (ND c)) []:=by
 refine kN 100 func239 TU ntmps239 fun C hR hP=>?_
 refine vv ?_
 refine zp hR ?_
 unfold ND
 simp only[xg,lc]
 have e1:decide ((48:Int)<=(c.toNat:Int))=decide (48<=c.toNat):=by rw[decide_eq_decide];omega
 have e2:decide ((c.toNat:Int)<=57)=decide (c.toNat<=57):=by rw[decide_eq_decide];omega
 rw[e1,e2]
theorem Xi (c:UInt8):CallOk HT 181 [Y c.toNat] [] (Bo (Xk c)) []:=by
 refine kN 100 func181 SP ntmps181 fun C hR hP=>?_
 refine vv ?_
 refine CallQ.pure 110 (ij c) rfl (vv ?_)
 refine CallQ.guard 110 (fun _=>WL c) (fun h=>by rw[h];rfl) (vv ?_)
 refine zp hR ?_
 unfold Xk
 simp only[xg,lc]
 have e1:((c.toNat:Int)==95)=decide (c.toNat=95):=by
  rw[JP,beq_iff_eq,decide_eq_true_eq];omega
 rw[e1,Bool.or_assoc]
def eK (p:UInt8->Bool)(s:Str)(k:Nat):Nat:=((s.drop k).takeWhile p).length
theorem PH (s:Str)(k:Nat)(hk:k<=s.length)(hs:s.length<=1000000000000000)(g:FuncId)(p:UInt8->Bool)(hp:∀c:UInt8,CallOk HT g [Y c.toNat] [] (Bo (p c)) []):
  CallOk HT 180 [S s,I k,.c (.v (.func (.func g) #[] #[]))] [] (I (eK p s k)) []:=by
 refine kN 100 func180 SQ ntmps180 fun C hR hP=>?_
 refine vv ?_
 refine zK (M0:=[]) (α:={n:Nat//n+k<=s.length/\eK p s k=n+((s.drop (k+n)).takeWhile p).length}) hP
  (fun n=>[(0,true,S s),(1,true,I k),(2,true,.c (.v (.func (.func g) #[] #[]))),(7,true,I n.val)]) (fun _=>[]) (fun n=>s.length-n.val) ⟨0,zA,by rw[eK];simp⟩ (fun _=>ClM.nil) (fun _=>zO rfl) [] ?_ ?_
 ·exact zh
 ·rintro⟨n,hn,hx⟩ J hb
  simp only at hb hn hx⊢
  refine zB 120 ?_
  have w1:IntKind.i64.wrap ((k:Int)+(n:Int))=((k+n:Nat):Int):=by rw[y6 zA zA];omega
  simp only[go_sem,w1]
  by_cases hlt:k+n<s.length
  ·have h1:decide (((k+n:Nat):Int)<(s.length:Int))=true:=yS zA
   have hd:s.drop (k+n)=s.getD (k+n) 0::s.drop (k+(n+1)):=by
    rw[Kx,JA hlt,JC hlt];rfl
   rw[hd,List.takeWhile_cons]at hx
   simp only[go_sem,h1]
   refine⟨⟨zA,zA⟩,?_⟩
   refine CallQ.pure 130 (hp (s.getD (k+n) 0)) rfl (vv ?_)
   refine zV (fun hc=>?_) (fun hc=>?_)
   ·rw[if_pos hc]at hx
    simp only[yu (i:=n)]
    exact hb _ _ ⟨n+1,zA,by rw[hx];simp;omega⟩ [] yL zh
   ·rw[if_neg (by rw[hc];simp)]at hx
    exact RetQ.int hR rfl ⟨rfl,trivial⟩ (by rw[hx];simp)
  ·have h1:decide (((k+n:Nat):Int)<(s.length:Int))=false:=yZ zA
   rw[Iv zA]at hx
   simp only[go_sem,h1]
   refine CallQ.guard (xs:=[]) (v:=Bo true) 130 (fun h=>by cases h) (fun h=>by cases h) (vv ?_)
   exact RetQ.int hR rfl ⟨rfl,trivial⟩ (by rw[hx];simp)
def rt:List (List Value):=kindT.map fun r=>[sv r.1,iv r.2.1,iv r.2.2.1,iv r.2.2.2]
@[reducible] def NR (nm:Nat):Nat×Bk:=(nm,⟨false,zC rt,303⟩)
theorem Zh:CallOk HT 243 [] [] (.c (.sl 1 0 21 4)) [NR 1]:=by
 refine kN 100 func243 TP ntmps243 fun C hR hP=>?_
 refine vv ?_
 exact RetQ.ren [(1,100)] hR hP rfl (vv trivial) rfl rfl trivial ⟨oR,trivial⟩ (zD rfl) (zG rfl)
def tU:List Str:=kindT.map (·.1)
theorem dP:∀r∈rt,r.length=4:=by
 intro r hr
 obtain⟨x,_,rfl⟩:=JL.1 hr
 rfl
def Xd (i:Nat):Str×Nat×Nat×Nat:=kindT.getD i ([],0,0,0)
theorem nh {i:Nat}(h:i<kindT.length):kindT[i]=Xd i:=by
 rw[Xd,Kx,JA h];rfl
theorem pP (i:Nat)(h:i<21):((zC rt).drop (i*4)).take 4=[sC (Xd i).1,iC (Xd i).2.1,iC (Xd i).2.2.1,iC (Xd i).2.2.2]:=by
 rw[uH rt dP i (by simpa[rt,kindT]using h),<-nh (show i<kindT.length from h)]
 simp only[rt,If]
 rfl
theorem og:(zC rt).length=84:=rfl
theorem mV:(zC rt).all Cv.isV=true:=zJ _
@[reducible] def KU (nm:Nat):Nat×Bk:=(nm,⟨false,tU.map sC,9⟩)
theorem Xc:CallOk HT 240 [] [] (.c (.sl 1 0 21 1)) [KU 1]:=by
 refine kN 100 func240 TS ntmps240 fun C hR hP=>?_
 refine vv ?_
 refine CallQ.ren [(1,130)] 131 Zh ClM.nil rfl rfl trivial rfl (.inl rfl) ?_
 simp only[Mem.ren,Ky,Kz,yD mV,V.ren,Cv.ren,rn,Nat.reduceBEq,cond_true]
 refine vv ?_
 refine x9 140 1 9 [1] [] rfl (vv ?_)
 refine zK (M0:=[]) (α:={i:Nat//i<=21}) hP (fun i=>[(1,true,.c (.sl 6 0 i.val 1)),(4,true,.c (.sl 5 0 21 4)),(5,true,I 21),(6,true,I i.val)])
  (fun i=>[NR 5,(6,⟨false,(tU.take i.val).map sC,9⟩)]) (fun i=>21-i.val) ⟨0,zA⟩ (fun _=>zD (by simp only[Kw,z6 mV,z6 (y8 _)];rfl)) (fun _=>zO rfl) [(5,130),(6,140)] ?_ ?_
 ·exact⟨rfl,trivial,⟨rfl,rfl,rfl,rfl,trivial⟩,⟨oV (yD mV),oR,trivial⟩⟩
 ·rintro⟨i,hi⟩ J hb
  simp only at hb hi⊢
  refine zB 150 (vv ?_)
  refine zV (fun hc=>?_) (fun hc=>?_)
  ·have hc:i<21:=by have:=of_decide_eq_true hc;omega
   simp only[pP i hc,og]
   refine⟨⟨zA,zA⟩,zA,?_⟩
   refine vv ?_
   have hlen:((tU.take i).map sC).length=i:=by simp[tU,kindT];omega
   have htk:List.take i ((tU.take i).map sC)++[sC (Xd i).1]=(tU.take (i+1)).map sC:=by
    rw[JJ zA,JR (by simpa[tU,kindT]using hc),JN,<-nh (show i<kindT.length from hc)]
    simp only[tU,If];rfl
   simp only[htk,hlen,yu (i:=i)]
   refine⟨⟨zA,zA,zA⟩,?_⟩
   exact hb _ _ ⟨i+1,hc⟩ [(5,5),(6,152)] yL ⟨rfl,trivial,⟨rfl,rfl,rfl,rfl,trivial⟩,⟨oV (yD mV),oV (yD (y8 _)),trivial⟩⟩
  ·have hc:i=21:=by have:=of_decide_eq_false hc;omega
   subst hc
   exact RetQ.ren [(1,6)] hR hP rfl (vv trivial) rfl rfl trivial ⟨oR,trivial⟩ (zD rfl) (zG rfl)
def ru (s:Str):List (Str×Nat×Nat×Nat)->Option (Nat×Nat×Nat)
 |[]=>none
 |r::l=>bif r.1==s then some r.2 else ru s l
theorem lJ (s:Str):∀l,ru s l=(l.find? (fun r=>r.1==s)).map (·.2)
 |[]=>rfl
 |r::l=>by
  rw[ru,List.find?_cons,lJ s l]
  cases r.1==s<;>rfl
theorem Vj (s:Str):CallOk HT 194 [S s] [] (.tup [Wi ((ym s).getD (0,0,0)).1,Wi ((ym s).getD (0,0,0)).2.1,Wi ((ym s).getD (0,0,0)).2.2,Y1 (ym s).isSome]) []:=by
 have hq:ym s=ru s kindT:=(lJ s kindT).symm
 rw[hq]
 refine kN 100 func194 SG ntmps194 fun C hR hP=>?_
 refine vv ?_
 refine CallQ.ren [(1,130)] 131 Zh ClM.nil rfl rfl trivial rfl (.inl rfl) ?_
 simp only[Mem.ren,Ky,Kz,yD mV,V.ren,Cv.ren,rn,Nat.reduceBEq,cond_true]
 refine vv ?_
 refine zK (M0:=[]) (α:={i:Nat//i<=21/\ru s kindT=ru s (kindT.drop i)}) hP (fun i=>[(0,true,S s),(8,true,.c (.sl 5 0 21 4)),(9,true,I 21),(10,true,I i.val)])
  (fun i=>[NR 5]) (fun i=>21-i.val) ⟨0,zA,rfl⟩ (fun _=>zD (by simp only[Kw,z6 mV];rfl)) (fun _=>zO rfl) [(5,130)] ?_ ?_
 ·exact⟨rfl,trivial,⟨rfl,rfl,rfl,rfl,trivial⟩,⟨oV (yD mV),trivial⟩⟩
 ·rintro⟨i,hi,hx⟩ J hb
  simp only at hb hi hx⊢
  refine zB 150 (vv ?_)
  refine zV (fun hc=>?_) (fun hc=>?_)
  ·have hc:i<21:=by have:=of_decide_eq_true hc;omega
   have hc':i<kindT.length:=hc
   rw[JC hc',ru,nh]at hx
   simp only[pP i hc,og]
   refine⟨⟨zA,zA⟩,zA,?_⟩
   refine vv ?_
   refine zV (fun hs=>?_) (fun hs=>?_)
   ·rw[hs,cond_true]at hx
    rw[hx]at hR
    refine Sm.dg 160 8 zi (vv ?_)
    exact zN hR rfl (vv trivial) xz (Sub.nil _) ClM.nil (zG rfl)
   ·rw[hs,cond_false]at hx
    simp only[yu (i:=i)]
    exact hb _ _ ⟨i+1,hc,hx⟩ [(5,5)] yL ⟨rfl,trivial,⟨rfl,rfl,rfl,rfl,trivial⟩,⟨oV (yD mV),trivial⟩⟩
  ·have hc:i=21:=by have:=of_decide_eq_false hc;omega
   subst hc
   have hx:ru s kindT=none:=hx
   rw[hx]at hR
   exact zN hR rfl (vv trivial) xz (Sub.nil _) ClM.nil (zG rfl)
@[reducible] def bA (nm:Nat)(l:List Str):Nat×Bk:=(nm,⟨true,l.map sC,9⟩)
theorem Xj (l:List Str)(n:Nat)(hn:n<=l.length)(hl:n<=1000000000000000)(x:Str):CallOk HT 246 [.c (.sl 1 0 n 1),S x] [bA 1 l] (I (xy (fun y=>x==y) (l.take n) 0)) []:=by
 have hM:ClM [bA 1 l]:=ClM.v (by simp only[Kw,y8];rfl)
 refine kN 100 func246 TM ntmps246 fun C hR hP=>?_
 refine vv ?_
 refine zK (M0:=[bA 1 l]) (α:={i:Nat//i<=n/\xy (fun y=>x==y) (l.take n) 0=xy (fun y=>x==y) ((l.take n).drop i) i}) hP (fun i=>[(0,true,.c (.sl 1 0 n 1)),(1,true,S x),(7,true,I n),(8,true,I i.val)]) (fun _=>[bA 1 l]) (fun i=>n-i.val) ⟨0,zA,rfl⟩ (fun _=>hM) (fun _=>zO rfl) [(1,1)] ?_ ?_
 ·exact zh
 ·rintro⟨i,hi,hx⟩ J hb
  simp only at hb hi hx⊢
  refine zB 120 (vv ?_)
  refine zV (fun hc=>?_) (fun hc=>?_)
  ·have hc:=zH hc
   have hx':=yU (fun y=>x==y) (l.take n) i (by simp;omega) (i:Int)
   rw[List.getElem_take]at hx'
   simp only[go_sem,vV (show i<l.length by omega)]
   refine⟨⟨zA,zA⟩,?_⟩
   refine zV (fun hd=>?_) (fun hd=>?_)
   ·refine zN hR rfl ⟨rfl,trivial⟩ ?_ (Sub.refl _) hM (zG rfl)
    rw[hx,hx',hd];rfl
   ·simp only[yu (i:=i)]
    refine hb _ _ ⟨i+1,hc,?_⟩ [(1,1)] yL zh
    rw[hx,hx',hd];rfl
  ·have hc:=zI hi hc
   refine zN hR rfl ⟨rfl,trivial⟩ ?_ (Sub.refl _) hM (zG rfl)
   rw[hx,Iv (by simp;omega)];rfl
theorem mA (l:List Str)(x:Str):(l.any fun y=>x==y)=l.contains x:=by
 induction l with
 |nil=>rfl
 |cons y l ih=>rw[List.any_cons,J0,ih]
theorem rO (l:List Str)(n:Nat)(hn:n<=l.length)(hl:n<=1000000000000000)(x:Str):CallOk HT 205 [.c (.sl 1 0 n 1),S x] [bA 1 l] (Bo ((l.take n).contains x)) []:=by
 have hM:ClM [bA 1 l]:=ClM.v (by simp only[Kw,y8];rfl)
 refine kN 100 func205 Tw ntmps205 fun C hR hP=>?_
 refine vv ?_
 refine CallQ.ren [(1,1)] 120 (Xj l n hn hl x) hM rfl rfl ⟨oW (yD (y8 _)),trivial⟩ rfl (.inr rfl) (vv ?_)
 refine zN hR rfl ⟨rfl,trivial⟩ ?_ (Sub.refl _) hM (zG rfl)
 rw[<-mA,<-yj (fun y=>x==y) (l.take n) 0 zA];rfl
theorem ge (s:Str):CallOk HT 182 [S s] [] (Bo (kq s)) []:=by
 have hc:=rO tU 21 yp yp s
 have e1:(tU.take 21).contains s=(kindT.map (·.1)).contains s:=rfl
 rw[e1]at hc
 refine kN 100 func182 SO ntmps182 fun C hR hP=>?_
 refine vv ?_
 refine CallQ.ren [(1,130)] 131 Xc ClM.nil rfl rfl trivial rfl (.inl rfl) ?_
 simp only[Mem.ren,Ky,Kz,Bk.ren,Ja,V.ren,W.ren,Cv.ren,rn,Nat.reduceBEq,cond_true,cond_false,Function.comp_def]
 refine vv ?_
 cases hk:(kindT.map (·.1)).contains s with
 |true=>
  have e2:kq s=true:=by rw[kq,hk];rfl
  rw[hk]at hc
  refine CallQ.ren [(1,130)] 140 hc (ClM.v rfl) rfl rfl ⟨⟨_,rfl,.inr ⟨rfl,[],rfl⟩⟩,trivial⟩ rfl (.inr rfl) (vv ?_)
  refine CallQ.guard (xs:=[]) (v:=Bo true) 150 (fun h=>by cases h) (fun h=>by cases h) (vv ?_)
  exact zp hR e2.symm
 |false=>
  have e2:kq s=Yy.contains s:=by rw[kq,hk];rfl
  rw[hk]at hc
  refine CallQ.ren [(1,130)] 140 hc (ClM.v rfl) rfl rfl ⟨⟨_,rfl,.inr ⟨rfl,[],rfl⟩⟩,trivial⟩ rfl (.inr rfl) (vv ?_)
  refine CallQ.ren [(1,140)] 150 (rO Yy 7 yp yp s) (ClM.v rfl) rfl rfl ⟨⟨_,rfl,.inr ⟨rfl,[],rfl⟩⟩,trivial⟩ rfl (.inr rfl) (vv ?_)
  exact zp hR e2.symm
theorem eJ (p:UInt8->Bool)(s:Str):((eK p s 0:Int)==(s.length:Int))=s.all p:=by
 unfold eK
 rw[Jb,JP,beq_iff_eq]
 induction s with
 |nil=>simp
 |cons c s ih=>
  rw[List.takeWhile_cons,Kw]
  cases hp:p c with
  |false=>simp;omega
  |true=>simp only[if_true,JQ,Jd];rw[<-ih];omega
theorem xm (s:Str)(hs:s.length<=1000000000000000):CallOk HT 99 [S s] [] (Bo (xK s)) []:=by
 cases s with
 |nil=>
  refine kN 100 func99 UY ntmps99 fun C hR hP=>?_
  refine vv ?_
  refine CallQ.guard (xs:=[]) (v:=Bo true) 150 (fun h=>by cases h) (fun h=>by cases h) (vv ?_)
  refine CallQ.guard (xs:=[]) (v:=I 0) 150 (fun h=>by cases h) (fun h=>by cases h) (vv ?_)
  refine CallQ.guard (xs:=[]) (v:=Bo true) 150 (fun h=>by cases h) (fun h=>by cases h) (vv ?_)
  exact zp hR rfl
 |cons c r=>
  have hne:((c::r)==([]:Str))=false:=rfl
  have hlen:decide (((c::r).length:Int)<=24)=decide ((c::r).length<=24):=by rw[decide_eq_decide];omega
  have h0:(0:Int)<((c::r).length:Int):=by simp only[JQ];omega
  have hnm:xK (c::r)=(decide ((c::r).length<=24)&&(Wc ((c::r).getD 0 0)&&((c::r).all Xk&& !kq (c::r)))):=rfl
  rw[hnm]
  generalize c::r=s at*
  refine kN 100 func99 UY ntmps99 fun C hR hP=>?_
  simp only[go_sem,hlen,hne,bne]
  refine⟨fun h=>⟨h,h0⟩,?_⟩
  have hrn:=eJ Xk s
  cases hl:decide (s.length<=24)with
  |false=>
   rw[hl]at hR
   refine CallQ.guard (xs:=[]) (v:=Bo true) 150 (fun h=>by cases h) (fun h=>by cases h) (vv ?_)
   refine CallQ.guard (xs:=[]) (v:=I 0) 150 (fun h=>by cases h) (fun h=>by cases h) (vv ?_)
   refine CallQ.guard (xs:=[]) (v:=Bo true) 150 (fun h=>by cases h) (fun h=>by cases h) (vv ?_)
   exact zp hR rfl
  |true=>
   rw[hl]at hR
   refine CallQ.pure 150 (ij (s.getD 0 0)) rfl (vv ?_)
   refine CallQ.guard 150 (fun _=>PH s 0 zA hs 181 Xk Xi) (fun h=>by rw[h];rfl) ?_
   simp only[go_sem,hrn]
   refine CallQ.guard 150 (fun _=>ge s) (fun h=>by rw[h];rfl) (vv ?_)
   refine zp hR ?_
   cases Wc (s.getD 0 0)<;>cases s.all Xk<;>rfl
end Go.Proofs.YtbnkiacicnnmkaaGreat.Fx
