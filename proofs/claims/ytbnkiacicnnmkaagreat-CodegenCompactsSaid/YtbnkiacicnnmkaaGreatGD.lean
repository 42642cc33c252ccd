/-  -/
import Derived.Test.YtbnkiacicnnmkaaGreatGC
set_option linter.unusedSimpArgs false
set_option linter.unusedVariables false
set_option maxRecDepth 100000
set_option maxHeartbeats 4000000
namespace Go.Proofs.YtbnkiacicnnmkaaGreat.Fx
open Vg Tf
def gB (l:List Bool)(n:Int):Bool:=l.getD n.toNat false
def sB (l:List Bool)(n:Int)(b:Bool):List Bool:=l.set n.toNat b
def uB (op:Int):Bool:= !(op==1||op==2||op==3)
def uC (op:Int):Bool:=(decide (5<=op)&&decide (op<=8))||(decide (11<=op)&&decide (op<=17))||op==19||op==21
def rR (i:Ins)(R C:List Bool):Bool:=
 bif i.op==3 then gB C i.k else bif i.op==22 then(bif gB R i.a then true else bif gB C (i.k/32)then true else gB C (i.k/32+1))else bif i.op==8 then true else gB R i.a
def nF (i:Ins)(R:List Bool):List Bool:=
 bif i.op==3 then sB R i.a true else
 (fun R3=>bif i.op==19 then sB R3 i.k true else R3) ((fun R2=>bif uC i.op then sB R2 i.c true else R2) ((fun R1=>bif uB i.op then sB R1 i.b true else R1) (sB R i.a false)))
def qY (i:Ins)(C:List Bool):List Bool:=
 bif i.op==3 then sB C i.k false else bif i.op==2 then sB C i.k true else bif i.op==22 then sB (sB C (i.k/32) true) (i.k/32+1) true else C
def ps:List Ins->Nat->List Bool->List Bool×List Bool×List Int
 |[],_,C=>(List.replicate 16 false,C,[])
 |i::t,j,C=>
  (fun z=>bif rR i z.1 z.2.1 then(nF i z.1,qY i z.2.1,(j:Int)::z.2.2)else z) (ps t (j+1) C)
theorem yM (l:List Bool)(n:Int)(b:Bool):(sB l n b).length=l.length:=J8 ..
theorem ZT (i:Ins)(R:List Bool):(nF i R).length=R.length:=by
 unfold nF
 cases i.op==3<;>cases i.op==19<;>cases uC i.op<;>cases uB i.op<;>simp[yM]
theorem ZU (i:Ins)(C:List Bool):(qY i C).length=C.length:=by
 unfold qY
 cases i.op==3<;>cases i.op==2<;>cases i.op==22<;>simp[yM]
theorem pH:∀(l:List Ins) (j:Nat) (C:List Bool),(ps l j C).1.length=16/\(ps l j C).2.1.length=C.length
 |[],_,_=>⟨by simp[ps],rfl⟩
 |i::t,j,C=>by
  have h:=pH t (j+1) C
  unfold ps
  dsimp only
  cases rR i (ps t (j+1) C).1 (ps t (j+1) C).2.1 with
  |true=>rw[cond_true];exact⟨(ZT _ _).trans h.1,(ZU _ _).trans h.2⟩
  |false=>exact h
theorem pG:∀(l:List Ins) (j:Nat) (C:List Bool),(ps l j C).2.2.length<=l.length/\∀n∈(ps l j C).2.2,(j:Int)<=n/\n<(j:Int)+l.length
 |[],_,_=>⟨JZ _,fun n h=>by cases h⟩
 |i::t,j,C=>by
  have h:=pG t (j+1) C
  unfold ps
  have e:∀n∈(ps t (j+1) C).2.2,(j:Int)<=n/\n<(j:Int)+(i::t).length:=fun n hn=>by
   have:=h.2 n hn
   simp only[JQ]
   omega
  dsimp only
  cases rR i (ps t (j+1) C).1 (ps t (j+1) C).2.1 with
  |true=>
   refine⟨by simp only[cond_true,JQ];have:=h.1;omega,fun n hn=>?_⟩
   simp only[cond_true,J3]at hn
   rcases hn with rfl|hn
   ·simp only[JQ];omega
   ·exact e n hn
  |false=>exact⟨by simp only[cond_false,JQ];have:=h.1;omega,fun n hn=>e n hn⟩
def sG (code:List Ins)(C:List Bool)(k:Nat):List Bool×List Bool×List Int:=ps (code.drop k) k C
theorem bw (code:List Ins)(C:List Bool):sG code C code.length=(List.replicate 16 false,C,[]):=by
 unfold sG;rw[JI];rfl
theorem eX (code:List Ins)(C:List Bool)(k:Nat)(h:k<code.length):
  sG code C k=(fun z=>bif rR code[k] z.1 z.2.1 then(nF code[k] z.1,qY code[k] z.2.1,(k:Int)::z.2.2)else z) (sG code C (k+1)):=by
 unfold sG
 rw[JC h]
 rfl
theorem iQ (code:List Ins)(C:List Bool)(k:Nat):(sG code C k).1.length=16/\(sG code C k).2.1.length=C.length:=pH _ _ _
theorem iP (code:List Ins)(C:List Bool)(k:Nat):∀n∈(sG code C k).2.2,(0:Int)<=n/\n<code.length:=fun n hn=>by
 have h:=(pG (code.drop k) k C).2 n hn
 rw[List.length_drop]at h
 by_cases hk:k<=code.length
 ·omega
 ·have:code.drop k=[]:=Iv zA
  unfold sG at hn
  rw[this]at hn
  cases hn
def jV (f5:List Int)(E X:List Bool)(c:Nat):Bool:=bif gB X c then(bif gB E c then false else !f5.contains (c:Int))else false
def rJ (f5:List Int)(E X:List Bool):Nat->List Bool
 |0=>E
 |k+1=>bif jV f5 E X k then sB (rJ f5 E X k) k true else rJ f5 E X k
def kK (f5:List Int)(E X:List Bool):Nat->Bool
 |0=>false
 |k+1=>bif jV f5 E X k then true else kK f5 E X k
theorem sR (f5:List Int)(E X:List Bool):∀k,(rJ f5 E X k).length=E.length
 |0=>rfl
 |k+1=>by
  unfold rJ
  cases jV f5 E X k with
  |true=>rw[cond_true,yM];exact sR f5 E X k
  |false=>exact sR f5 E X k
theorem UB (l:List Bool)(n m:Int)(b:Bool)(hm:0<=m)(hn:0<=n)(h:m≠n):gB (sB l n b) m=gB l m:=by
 unfold gB sB
 rw[Kx,Kx,List.getElem?_set_ne zA]
theorem nj (f5:List Int)(E X:List Bool)(m:Nat):∀k,k<=m->gB (rJ f5 E X k) m=gB E m
 |0,_=>rfl
 |k+1,h=>by
  have ih:=nj f5 E X m k zA
  unfold rJ
  cases jV f5 E X k with
  |true=>rw[cond_true,UB _ _ _ _ zA zA zA];exact ih
  |false=>exact ih
def kP (l:List Bool):Nat:=l.countP (fun b=> !b)
theorem gH:∀(l:List Bool) (n:Nat),n<l.length->l.getD n false=false->kP (l.set n true)<kP l
 |[],n,h,_=>by cases h
 |b::t,0,_,h=>by
  simp at h
  subst h
  simp[kP]
 |b::t,n+1,h,hb=>by
  have ih:=gH t n (by simpa using h) (by simpa using hb)
  simp only[kP,List.set_cons_succ,List.countP_cons]at ih⊢
  omega
theorem qV (f5:List Int)(E X:List Bool):∀k,k<=E.length->kP (rJ f5 E X k)<=kP E/\(kK f5 E X k=true->kP (rJ f5 E X k)<kP E)
 |0,_=>⟨JZ _,fun h=>by cases h⟩
 |k+1,h=>by
  have ih:=qV f5 E X k zA
  unfold rJ kK
  cases hg:jV f5 E X k with
  |true=>
   have hE:gB E k=false:=by
    unfold jV at hg
    cases hE:gB E k with
    |false=>rfl
    |true=>rw[hE]at hg;simp at hg
   have hs:kP (sB (rJ f5 E X k) k true)<kP (rJ f5 E X k):=gH _ _ (by rw[sR];omega) (by
    have:=nj f5 E X k k (JZ _)
    rw[hE]at this
    exact this)
   rw[cond_true,cond_true]
   exact⟨zA,fun _=>zA⟩
  |false=>exact ih
def cS (code:List Ins)(f5:List Int):Nat->List Bool->List Int
 |0,_=>[]
 |n+1,E=>(fun z=>bif kK f5 E z.2.1 E.length then cS code f5 n (rJ f5 E z.2.1 E.length)else z.2.2) (sG code E 0)
def ap (E:List Bool)(f7:List Int):List Bool:=f7.foldl (fun l c=>sB l c true) E
def qX (r:Int):List Bool:=(List.range 16).map fun k=>r.toNat.testBit k
theorem sZ (r:Int):(qX r).length=16:=by simp[qX]
theorem ny (r:Int){a:Int}(h0:0<=a)(h1:a<16):gB (qX r) a=r.toNat.testBit a.toNat:=by
 unfold gB qX
 rw[Kx,JO,Jp zA]
 rfl
theorem cJ {l:List Bool}(hl:l.length=16){r:Int}(h:∀k:Nat,k<16->l.getD k false=r.toNat.testBit k):qX r=l:=by
 refine List.ext_getElem (by rw[sZ,hl]) fun k h1 h2=>?_
 have:=h k zA
 rw[Kx,JA h2]at this
 simp[qX]
 exact this.symm
theorem bK {n:Nat}(h:n<65536):IntKind.u16.wrap (n:Int)=n:=by
 show((n:Int)%65536)=n
 omega
theorem Ze {a:Int}(h0:0<=a)(h1:a<16):IntKind.u16.wrap (1*2^min a.toNat 16)=((2^a.toNat:Nat):Int):=by
 rw[show min a.toNat 16=a.toNat by omega,Int.one_mul,show(2:Int)^a.toNat=((2^a.toNat:Nat):Int) by simp]
 exact bK (Nat.pow_lt_pow_right (a:=2) (n:=16) yp (show a.toNat<16 by omega))
theorem fB {r:Int}(h0:0<=r)(h1:r<65536):(BitVec.ofInt 16 r).toNat=r.toNat:=by rw[BitVec.toNat_ofInt];omega
theorem QH {r:Int}(h0:0<=r)(h1:r<65536)(m:Nat)(hm:m<65536):bits .and .u16 r m=((r.toNat&&& m:Nat):Int):=by
 show IntKind.u16.wrap ((BitVec.ofInt 16 r&&& BitVec.ofInt 16 (m:Int)).toNat:Int)=_
 rw[bK (BitVec.isLt _),BitVec.toNat_and,fB h0 h1,fB zA zA,Int.toNat_natCast]
theorem PJ {r:Int}(h0:0<=r)(h1:r<65536)(m:Nat)(hm:m<65536):bits .or .u16 r m=((r.toNat|||m:Nat):Int):=by
 show IntKind.u16.wrap ((BitVec.ofInt 16 r|||BitVec.ofInt 16 (m:Int)).toNat:Int)=_
 rw[bK (BitVec.isLt _),BitVec.toNat_or,fB h0 h1,fB zA zA,Int.toNat_natCast]
theorem WZ {r:Int}(h0:0<=r)(h1:r<65536)(m:Nat)(hm:m<65536):bits .andNot .u16 r m=((r.toNat&&& (65535-m):Nat):Int):=by
 show IntKind.u16.wrap ((BitVec.ofInt 16 r&&& ~~~BitVec.ofInt 16 (m:Int)).toNat:Int)=_
 rw[bK (BitVec.isLt _),BitVec.toNat_and,BitVec.toNat_not,fB h0 h1,fB zA zA,Int.toNat_natCast]
theorem QC {r a:Int}(h0:0<=r)(h1:r<65536)(ha:0<=a)(ha1:a<16):(bits .and .u16 (r.fdiv (2^min a.toNat 16)) 1==1)=gB (qX r) a:=by
 rw[ny r ha ha1,Nat.testBit_eq_decide_div_mod_eq,show min a.toNat 16=a.toNat by omega,show r.fdiv (2^a.toNat)=((r.toNat/2^a.toNat:Nat):Int) by
  rw[Js _ (Int.le_of_lt (Int.pow_pos yp))]
  obtain⟨n,rfl⟩:=Int.eq_ofNat_of_zero_le h0
  simp]
 have hlt:r.toNat/2^a.toNat<65536:=Nat.lt_of_le_of_lt (Nat.div_le_self _ _) zA
 generalize r.toNat/2^a.toNat=q at*
 have:=QH (r:=(q:Int)) zA zA 1 yp
 rw[show((1:Nat):Int)=1 from rfl]at this
 rw[this]
 simp only[Int.toNat_natCast,Nat.and_one_is_mod]
 rw[JP];simp only[beq_iff_eq,decide_eq_true_eq];omega
theorem QA {r a:Int}(h0:0<=r)(h1:r<65536)(ha:0<=a)(ha1:a<16):(0<=bits .or .u16 r (IntKind.u16.wrap (1*2^min a.toNat 16))/\bits .or .u16 r (IntKind.u16.wrap (1*2^min a.toNat 16))<65536)/\qX (bits .or .u16 r (IntKind.u16.wrap (1*2^min a.toNat 16)))=sB (qX r) a true:=by
 have hp:2^a.toNat<2^16:=Nat.pow_lt_pow_right yp (show a.toNat<16 by omega)
 rw[Ze ha ha1,PJ h0 h1 _ hp]
 have hb:r.toNat|||2^a.toNat<2^16:=Nat.or_lt_two_pow zA hp
 refine⟨zA,cJ (by rw[yM,sZ]) fun k hk=>?_⟩
 have hg:=ny r (a:=(k:Int)) zA zA
 unfold gB at hg
 rw[Int.toNat_natCast]at hg⊢
 unfold sB
 rw[Nat.testBit_or,Nat.testBit_two_pow,Kx,IJ]
 by_cases he:a.toNat=k
 ·rw[if_pos he,if_pos (by rw[sZ];omega)]
  simp[he]
 ·rw[if_neg he,<-Kx,hg]
  simp[he]
theorem QB {r a:Int}(h0:0<=r)(h1:r<65536)(ha:0<=a)(ha1:a<16):(0<=bits .andNot .u16 r (IntKind.u16.wrap (1*2^min a.toNat 16))/\bits .andNot .u16 r (IntKind.u16.wrap (1*2^min a.toNat 16))<65536)/\qX (bits .andNot .u16 r (IntKind.u16.wrap (1*2^min a.toNat 16)))=sB (qX r) a false:=by
 have hp:2^a.toNat<2^16:=Nat.pow_lt_pow_right yp (show a.toNat<16 by omega)
 rw[Ze ha ha1,WZ h0 h1 _ hp]
 have hb:r.toNat&&& (65535-2^a.toNat)<2^16:=Nat.lt_of_le_of_lt Nat.and_le_left zA
 refine⟨zA,cJ (by rw[yM,sZ]) fun k hk=>?_⟩
 have hg:=ny r (a:=(k:Int)) zA zA
 unfold gB at hg
 rw[Int.toNat_natCast]at hg⊢
 unfold sB
 rw[Nat.testBit_and,show 65535-2^a.toNat=2^16-(2^a.toNat+1) by omega,Nat.testBit_two_pow_sub_succ hp,Nat.testBit_two_pow,Kx,IJ]
 by_cases he:a.toNat=k
 ·rw[if_pos he,if_pos (by rw[sZ];omega)]
  simp[he]
 ·rw[if_neg he,<-Kx,hg]
  simp[he,hk]
theorem Xm {H:Hp}:CallH H Tryz.prog 165 [.c (.v (.slice none 0 0)),I 0] (.c (.v (.slice none 0 0))):=by
 refine kH Tryz.func165 YO Tryz.ntmps165 fun C hR hP hH hL=>?_
 refine zB 100 (vv ?_)
 refine uW rfl rfl ⟨[],_,fun _=>Stp.capNil rfl tP rfl,.inl rfl,zB 110 ?_⟩
 refine vv ?_
 exact RetQ.pure (hR C hL) rfl yI rfl (zG rfl)
theorem cG {H:Hp}(v s1 s2:Sv)(hz:SlH H (vsl v 2) 1 [[vsl s1 0],[vsl s2 0]])(h1:SlH H (vsl s1 0) 1 (zP []))(h2:SlH H (vsl s2 0) 1 (zP [])):
  CallX H Tryz.prog 79 [.c (.v (vsl v 2))] [] (fun _:Unit=> .c (.sl 1 0 0 1)) (fun _=>[(1,⟨false,[],3⟩)]) (fun _ _=>True):=by
 refine kX Tryz.func79 WD Tryz.ntmps79 fun C hR hP hH hL=>?_
 refine zB 100 (vv ?_)
 refine Sm.bringR 1 26 9 (rows:=[[vsl s1 0],[vsl s2 0]]) (by have:=hz.mono hH;exact this) rfl rfl ?_
 have g0:(zC [[vsl s1 0],[vsl s2 0]])[0]?=some (.v (vsl s1 0)):=rfl
 have g1:(zC [[vsl s1 0],[vsl s2 0]])[1]?=some (.v (vsl s2 0)):=rfl
 generalize zC [[vsl s1 0],[vsl s2 0]]=K at*
 refine zf 3 (zB 110 ?_)
 simp only[go_sem,g0,g1]
 refine zM 120 Xm hH rfl (vv ?_)
 refine Sm.bringR 8 26 25 (rows:=[[vsl s1 0],[vsl s2 0]]) (by have:=hz.mono hH;exact this) rfl rfl ?_
 have g0:(zC [[vsl s1 0],[vsl s2 0]])[0]?=some (.v (vsl s1 0)):=rfl
 have g1:(zC [[vsl s1 0],[vsl s2 0]])[1]?=some (.v (vsl s2 0)):=rfl
 generalize zC [[vsl s1 0],[vsl s2 0]]=K1 at*
 refine zf 3 (yP 19 _ _ _ 150 ?_)
 simp only[go_sem,g0,g1]
 refine Sm.bringI (l:=[]) 140 3 32 (h1.mono hH) rfl rfl (yP 27 _ _ _ 150 ?_)
 simp only[go_sem,g0,g1,Kz,List.take_nil,List.all_nil]
 refine Sm.bringI (l:=[]) 141 3 32 (h2.mono hH) rfl rfl (zB 160 ?_)
 simp only[go_sem,g0,g1,Kz,List.take_nil,List.all_nil]
 exact RetQ.ren [(1,160)] (hR () C hL trivial) hP rfl yI rfl rfl trivial ⟨oR,trivial⟩ (zD rfl) (zG rfl)
theorem cF {H:Hp}(v s1 s2:Sv)(l1 l2:List Int)(hz:SlH H (vsl v 2) 1 [[vsl s1 l1.length],[vsl s2 l2.length]])(h1:SlH H (vsl s1 l1.length) 1 (zP l1))(h2:SlH H (vsl s2 l2.length) 1 (zP l2))(hn:l1.length+l2.length<=1000000):
  CallX H Tryz.prog 79 [.c (.v (vsl v 2))] [] (fun _:Unit=> .c (.sl 1 0 (l1++l2).length 1)) (fun _=>[(1,⟨false,(l1++l2).map iC,3⟩)]) (fun _ _=>True):=by
 by_cases h0:0<(l1++l2).length
 ·have h:=gG (H:=H) v [(s1,l1),(s2,l2)] hz (by
   intro z hz
   simp only[J3,IS,or_false]at hz
   rcases hz with rfl|rfl
   ·exact h1
   ·exact h2) (by simpa using h0) (by simpa using hn) z9
  simpa only[Ky,Kz,List.flatten_cons,List.flatten_nil,JK,JQ,J9]using h
 ·obtain⟨rfl,rfl⟩:l1=[]/\l2=[]:=by
   rw[JM]at h0
   exact⟨JX.1 zA,JX.1 zA⟩
  exact cG v s1 s2 hz h1 h2
theorem Zt {L:List Int}(h:∀n∈L,0<=n){i:Nat}(hi:i<L.length):((L.take i).map Int.toNat).contains (L[i]).toNat=decide (L[i]∈L.take i):=by
 rw[JP,IG,decide_eq_true_eq,JL]
 constructor
 ·rintro⟨a,ha,he⟩
  have h1:=h a (List.mem_of_mem_take ha)
  have h2:=h L[i] (JH _)
  rw[show L[i]=a by omega]
  exact ha
 ·exact fun hm=>⟨_,hm,rfl⟩
theorem Zp {L:List Int}{i:Nat}(hi:i<L.length)(h:L[i]∈L.take i):¬L.Nodup:=fun hn=>by
 rw[<-Ii i L,List.nodup_append]at hn
 exact hn.2.2 _ h L[i] (by rw[JC hi];exact Ig ..) rfl
theorem i9 {L:List Int}{i:Nat}(hi:i<L.length)(hn:(L.take i).Nodup)(h:¬L[i]∈L.take i):(L.take (i+1)).Nodup:=by
 rw[JR hi,List.nodup_append]
 exact⟨hn,z9,fun a ha b hb hab=>by rw[IM]at hb;rw[hab,hb]at ha;exact h ha⟩
theorem xt {sz:Int}{l:List Int}(h:tS sz l=true):l.length<=1000/\∀n∈l,0<=n/\n<sz:=by
 unfold tS at h
 simp only[Bool.cond_false_left,JB,Jh,decide_eq_false_iff_not]at h
 refine⟨zA,fun n hn=>?_⟩
 have:=JD.1 h.2 n hn
 unfold j9 at this
 simp only[Bool.cond_false_left,JB,Jh,decide_eq_false_iff_not]at this
 omega
theorem mh {α:Type}{r:α->List Value}{k:Nat}(hk:∀x,(r x).length=k)(l:List α)(i j:Nat)(h:i<l.length)(hj:j<k):(zC (l.map r))[i*k+j]?=((r l[i])[j]?).map Cv.v:=by
 have h1:=zW hk l i h
 have:(zC (l.map r))[i*k+j]?=(((zC (l.map r)).drop (i*k)).take k)[j]?:=by rw[List.getElem?_take_of_lt hj,Is]
 rw[this,h1,JO]
@[reducible,go_sem] def Kq (d:DgL):List Cv:=[.v (sv d.nm),.v (vsl d.ty d.tys.length),.v (vsl d.cu d.cus.length),.v (vsl d.ma d.mas.length),.sl 4 0 d.ins.length 4,.sl 5 0 d.bls.length 6,.v (vsl d.ou d.ous.length)]
@[reducible,go_sem] def Kr (d:DgL):Mem:=[(4,⟨true,zC (d.ins.map Po.r),60⟩),(5,⟨true,zC (d.bls.map BlL.r),64⟩)]
theorem _root_.Go.Proofs.YtbnkiacicnnmkaaGreat.Vg.Stp.mkF {P:Program}{o:Oper}{e:Env}{M:Mem}{f:FuncId}{x:Operand}{v:Value}(ho:o.op= .makeFunc (.func f) #[] #[x])(hx:rd e x=some (true,.c (.v v))):Stp P o e M (Fv f #[v]) []:=
 Stp.pure fun β a hop w=>by
  have hex:=hop x (by simp[ho,Op.operands]) _ hx
  simp only[gv,V.g,Cv.g,cond_true]at hex
  unfold execOp
  simp[ho,hex,Instr.makeFunc,V.g,Cv.g]
theorem _root_.Go.Proofs.YtbnkiacicnnmkaaGreat.Vg.Stp.mkF2 {P:Program}{o:Oper}{e:Env}{M:Mem}{f:FuncId}{x y:Operand}{v u:Value}(ho:o.op= .makeFunc (.func f) #[] #[x,y])(hx:rd e x=some (true,.c (.v v)))(hy:rd e y=some (true,.c (.v u))):Stp P o e M (Fv f #[v,u]) []:=
 Stp.pure fun β a hop w=>by
  have hex:=hop x (by simp[ho,Op.operands]) _ hx
  have hey:=hop y (by simp[ho,Op.operands]) _ hy
  simp only[gv,V.g,Cv.g,cond_true]at hex hey
  unfold execOp
  simp[ho,hex,hey,Instr.makeFunc,V.g,Cv.g]
theorem uK {H:Hp}(p:Pg)(hp:p.ok H)(hc1:∀c∈p.cus,c.c.xs.length<=1000000000000000/\c.c.ys.length<=1000000000000000)(hm1:∀m∈p.mas,∀v∈m.zs,v.2.length<=1000000000000000):CallH H Tryz.prog 27 [z3 p.r] (Bo (wP p)):=by
 rw[x6]
 refine kH Tryz.func27 Oo Tryz.ntmps27 fun C hR hP hH hL=>?_
 refine zB 100 (vv ?_)
 refine zV (fun hc=>?_) (fun hc=>?_)
 ·have:wP p=false:=by
   have:iV p=false:=by
    rw[IA];intro h
    unfold iV at h
    simp only[JB,decide_eq_true_eq]at h
    simp only[Jv,I8,decide_eq_true_eq,bne_iff_ne]at hc
    omega
   unfold wP;rw[this,IB]
  rw[this]at hR
  exact zp (hR C hL) rfl
 have hS:iV p=true:=by
  unfold iV
  simp only[JB,decide_eq_true_eq]
  simp only[Jv,IZ,decide_eq_false_iff_not,bne_eq_false_iff_eq]at hc
  omega
 clear hc
 refine vv ?_
 have hlt:p.code.length<=4000/\p.tys.length<=100/\p.cus.length<=100/\p.mas.length<=100:=by
  unfold iV at hS
  simp only[JB,decide_eq_true_eq]at hS
  omega
 refine CallQ.letgo (xs:=[_,_]) (M0:=[]) [101,100] hL hP rfl rfl rfl U0 rfl rfl (fun β Cn l1 l2 l3=>?_)
 have hp1:PtH Cn.hp (xl β 101 0) [.func (.func 66) #[] #[]]:=(l3 101 _ rfl rfl rfl).pt z9
 have hp0:PtH Cn.hp (xl β 100 0) p.r:=(l3 100 _ rfl rfl rfl).pt z9
 have hpc:=(hp.mono hH).mono l2
 have hxs:List.map (V.conc [101,100] β) [V.c (Cv.v (Value.slice p.t.o p.tys.length p.t.c)),V.c (Cv.fn 68 [(101,0)])]=[.c (.v (vsl p.t p.tys.length)),Fv 68 #[xl β 101 0]]:=rfl
 rw[hxs]
 refine yO 110 l1 (Rk p.t p.tys hpc.t zA 68 #[xl β 101 0] (fun t=> !fok t) (fun t _=>Qm t _ hp1)) (Hp.le.refl _) rfl (fun C1 m1 m2=>?_)
 clear l3 hxs
 simp only[Env.conc,Ky,Kz,V.conc,Cv.conc,cond_true,cond_false,J0,List.contains_nil]
 have hp1:PtH Cn.hp (y7 β (.p 101 0)) [.func (.func 66) #[] #[]]:=hp1
 have hp0:PtH Cn.hp (y7 β (.p 100 0)) p.r:=hp0
 have e3:y7 β (.fn 68 [(101,0)])= .func (.func 68) #[] #[y7 β (.p 101 0)]:=rfl
 rw[e3]
 generalize y7 β (.p 101 0)=v1 at*
 generalize y7 β (.p 100 0)=v0 at*
 obtain⟨b0,o0,rfl,c0,el0,mk0,hc0,hcc⟩:=PtH.at hp0
 obtain⟨b1,o1,rfl,_⟩:=PtH.at hp1
 have hN:∀q:Bool,p.tys.all fok=q->(p.tys.any fun t=> !fok t)= !q:=fun q h=>by
  rw[<-h];simp[IK]
 cases hA:p.tys.all fok with
 |false=>
  have hV:wP p=false:=by unfold wP;rw[hA];simp
  rw[hV]at hR
  simp only[go_sem,hN _ hA,Ic]
  refine z4 (v:= .agg []) 120 rfl rfl (.inr rfl) (fun h=>by cases h) (vv ?_)
  refine z4 (v:= .agg []) 120 rfl rfl (.inr rfl) (fun h=>by cases h) (vv ?_)
  refine z4 (v:= .agg []) 120 rfl rfl (.inr rfl) (fun h=>by cases h) (vv ?_)
  refine CallQ.guard (xs:=[]) (v:=Bo false) 130 (fun h=>by cases h) (fun h=>by cases h) (vv ?_)
  refine z4 (v:= .agg []) 120 rfl rfl (.inr rfl) (fun h=>by cases h) (vv ?_)
  refine z4 (v:= .agg []) 120 rfl rfl (.inr rfl) (fun h=>by cases h) (vv ?_)
  refine z4 (v:= .agg []) 120 rfl rfl (.inr rfl) (fun h=>by cases h) (vv ?_)
  refine CallQ.guard (xs:=[]) (v:=Bo false) 130 (fun h=>by cases h) (fun h=>by cases h) (vv ?_)
  exact zp (hR C1 m1) rfl
 |true=>
  simp only[go_sem,hN _ hA,IT]
  refine z4 120 rfl rfl (.inl rfl) (fun _=>(zT (k:=2) rfl rfl rfl).toC) (vv ?_)
  have hpd:=hpc.mono m2
  have hp1':=hp1.mono m2
  refine z4 120 rfl rfl (.inl rfl) (fun _=>zS (m2 _ _ hc0) (hcc 2 _ rfl) rfl rfl rfl) (vv ?_)
  refine z4 120 rfl rfl (.inl rfl) (fun _=>(Stp.mkF rfl rfl).toC) (vv ?_)
  have hcu:=YW p.u p.cus hpd.u zA 70 #[.pointer (some ⟨b1,o1,none⟩)] (fun c=> !wN c.c.xs c.c.ys) (fun c hc=>Ql c (hpd.cu c hc) (hc1 c hc).1 (hc1 c hc).2 _ hp1')
  generalize hAC:(p.cus.any fun c=> !wN c.c.xs c.c.ys)=AC at*
  have hCU:p.cus.all (fun c=>wN c.c.xs c.c.ys)= !AC:=by rw[<-hAC];simp[IK]
  refine zM 130 hcu (Hp.le.refl _) rfl ?_
  cases AC with
  |true=>
   have hV:wP p=false:=by unfold wP;rw[hCU];simp
   rw[hV]at hR
   refine vv ?_
   refine z4 (v:= .agg []) 120 rfl rfl (.inr rfl) (fun h=>by cases h) (vv ?_)
   refine z4 (v:= .agg []) 120 rfl rfl (.inr rfl) (fun h=>by cases h) (vv ?_)
   refine z4 (v:= .agg []) 120 rfl rfl (.inr rfl) (fun h=>by cases h) (vv ?_)
   refine CallQ.guard (xs:=[]) (v:=Bo false) 130 (fun h=>by cases h) (fun h=>by cases h) (vv ?_)
   exact zp (hR C1 m1) rfl
  |false=>
   refine vv ?_
   refine z4 120 rfl rfl (.inl rfl) (fun _=>(zT (k:=3) rfl rfl rfl).toC) (vv ?_)
   refine z4 120 rfl rfl (.inl rfl) (fun _=>zS (m2 _ _ hc0) (hcc 3 _ rfl) rfl rfl rfl) (vv ?_)
   refine z4 120 rfl rfl (.inl rfl) (fun _=>(Stp.mkF rfl rfl).toC) (vv ?_)
   have hma:=YV p.m p.mas hpd.m zA 72 #[.pointer (some ⟨b1,o1,none⟩)] (fun m:MpL=> !xM m.xs m.ys (m.zs.map fun v:Sv×List Int=>v.2)) (fun m hm=>Qk m (hpd.ma m hm) (hm1 m hm) _ hp1')
   generalize hAM:(p.mas.any fun m:MpL=> !xM m.xs m.ys (m.zs.map fun v:Sv×List Int=>v.2))=AM at*
   have hMA:p.mas.all (fun m:MpL=>xM m.xs m.ys (m.zs.map fun v:Sv×List Int=>v.2))= !AM:=by rw[<-hAM];simp[IK]
   refine zM 130 hma (Hp.le.refl _) rfl ?_
   cases AM with
   |true=>
    have hV:wP p=false:=by unfold wP;rw[hMA];simp
    rw[hV]at hR
    refine vv ?_
    exact zp (hR C1 m1) rfl
   |false=>
    refine vv ?_
    have hTY:∀t∈p.tys,fok t=true:=JD.1 hA
    refine z4 120 rfl rfl (.inl rfl) (fun _=>(zT (k:=0) rfl rfl rfl).toC) (vv ?_)
    refine z4 120 rfl rfl (.inl rfl) (fun _=>zS (m2 _ _ hc0) (hcc 0 _ rfl) rfl rfl rfl) (vv ?_)
    refine z4 120 rfl rfl (.inl rfl) (fun _=>(Stp.mkF2 rfl rfl rfl).toC) (vv ?_)
    have hin:=Rj p.c p.code hpd.c zA 75 #[.pointer (some ⟨b1,o1,none⟩),.pointer (some ⟨b0,o0,none⟩)] (fun i:Ins=> !ua p i) (fun i hi=>Qj p hpd hTY zA i _ _ hp1' (hp0.mono m2))
    generalize hAI:(p.code.any fun i:Ins=> !ua p i)=AI at*
    have hCO:p.code.all (ua p)= !AI:=by rw[<-hAI];simp[IK]
    refine zM 130 hin (Hp.le.refl _) rfl ?_
    cases AI with
    |true=>
     have hV:wP p=false:=by unfold wP;rw[hCO];simp
     rw[hV]at hR
     refine vv ?_
     exact zp (hR C1 m1) rfl
    |false=>
     refine vv ?_
     refine z4 130 rfl rfl (.inl rfl) (fun _=>(zT (k:=5) rfl rfl rfl).toC) (vv ?_)
     refine z4 130 rfl rfl (.inl rfl) (fun _=>zS (m2 _ _ hc0) (hcc 5 _ rfl) rfl rfl rfl) (vv ?_)
     refine z4 130 rfl rfl (.inl rfl) (fun _=>(zT (k:=7) rfl rfl rfl).toC) (vv ?_)
     refine z4 130 rfl rfl (.inl rfl) (fun _=>zS (m2 _ _ hc0) (hcc 7 _ rfl) rfl rfl rfl) (vv ?_)
     refine z4 130 rfl rfl (.inl rfl) (fun _=>(zT (k:=6) rfl rfl rfl).toC) (vv ?_)
     refine z4 130 rfl rfl (.inl rfl) (fun _=>zS (m2 _ _ hc0) (hcc 6 _ rfl) rfl rfl rfl) ?_
     simp only[go_sem,List.range_zero,JG,JF,Ky,Kz,Je,J5]
     refine zf 4 (zB 140 ?_)
     simp only[go_sem,Je,J5]
     have hd5:=hpd.i5
     cases hB5:decide (1000<(p.f5.length:Int))with
     |true=>
      have hV:wP p=false:=by
       have:tS p.sz p.f5=false:=by
        unfold tS
        rw[show decide (1000<p.f5.length)=true by have:=of_decide_eq_true hB5;exact yS zA,cond_true]
       unfold wP;rw[this];simp
      rw[hV]at hR
      simp only[go_sem,hB5]
      refine z4 (v:= .agg []) 150 rfl rfl (.inr rfl) (fun h=>by cases h) (vv ?_)
      refine CallQ.guard (xs:=[]) (v:=Bo false) 160 (fun h=>by cases h) (fun h=>by cases h) (vv ?_)
      exact yN (hR C1 m1) ClM.nil
     |false=>
     have hl5:p.f5.length<=1000:=by have:=of_decide_eq_false hB5;omega
     simp only[go_sem,hB5]
     refine z4 150 rfl rfl (.inl rfl) (fun _=>(Stp.mkF rfl rfl).toC) (vv ?_)
     have hi5:=lZ p.s5 p.f5 hd5 zA 78 #[.pointer (some ⟨b0,o0,none⟩)] (fun n:Int=> !j9 p.sz n) (fun n _=>Ya p n _ (hp0.mono m2))
     generalize hA5:(p.f5.any fun n:Int=> !j9 p.sz n)=A5 at*
     have hC5:tS p.sz p.f5= !A5:=by
      unfold tS
      rw[show decide (1000<p.f5.length)=false from yZ zA,cond_false,<-hA5];simp[IK]
     refine zM 160 hi5 (Hp.le.refl _) rfl ?_
     cases A5 with
     |true=>
      have hV:wP p=false:=by unfold wP;rw[hC5];simp
      rw[hV]at hR
      refine vv ?_
      exact yN (hR C1 m1) ClM.nil
     |false=>
     simp only[go_sem,Je,J5]
     have hd7:=hpd.i7
     cases hB7:decide (1000<(p.f7.length:Int))with
     |true=>
      have hV:wP p=false:=by
       have:tS p.sz p.f7=false:=by
        unfold tS
        rw[show decide (1000<p.f7.length)=true by have:=of_decide_eq_true hB7;exact yS zA,cond_true]
       unfold wP;rw[this];simp
      rw[hV]at hR
      simp only[go_sem,hB7]
      refine z4 (v:= .agg []) 150 rfl rfl (.inr rfl) (fun h=>by cases h) (vv ?_)
      refine CallQ.guard (xs:=[]) (v:=Bo false) 160 (fun h=>by cases h) (fun h=>by cases h) (vv ?_)
      exact yN (hR C1 m1) ClM.nil
     |false=>
     have hl7:p.f7.length<=1000:=by have:=of_decide_eq_false hB7;omega
     simp only[go_sem,hB7]
     refine z4 150 rfl rfl (.inl rfl) (fun _=>(Stp.mkF rfl rfl).toC) (vv ?_)
     have hi7:=lZ p.s7 p.f7 hd7 zA 78 #[.pointer (some ⟨b0,o0,none⟩)] (fun n:Int=> !j9 p.sz n) (fun n _=>Ya p n _ (hp0.mono m2))
     generalize hA7:(p.f7.any fun n:Int=> !j9 p.sz n)=A7 at*
     have hC7:tS p.sz p.f7= !A7:=by
      unfold tS
      rw[show decide (1000<p.f7.length)=false from yZ zA,cond_false,<-hA7];simp[IK]
     refine zM 160 hi7 (Hp.le.refl _) rfl ?_
     cases A7 with
     |true=>
      have hV:wP p=false:=by unfold wP;rw[hC7];simp
      rw[hV]at hR
      refine vv ?_
      exact yN (hR C1 m1) ClM.nil
     |false=>
     simp only[go_sem,Je,J5]
     have hd6:=hpd.i6
     cases hB6:decide (1000<(p.f6.length:Int))with
     |true=>
      have hV:wP p=false:=by
       have:tS p.sz p.f6=false:=by
        unfold tS
        rw[show decide (1000<p.f6.length)=true by have:=of_decide_eq_true hB6;exact yS zA,cond_true]
       unfold wP;rw[this];simp
      rw[hV]at hR
      simp only[go_sem,hB6]
      refine z4 (v:= .agg []) 150 rfl rfl (.inr rfl) (fun h=>by cases h) (vv ?_)
      refine CallQ.guard (xs:=[]) (v:=Bo false) 160 (fun h=>by cases h) (fun h=>by cases h) (vv ?_)
      exact yN (hR C1 m1) ClM.nil
     |false=>
     have hl6:p.f6.length<=1000:=by have:=of_decide_eq_false hB6;omega
     simp only[go_sem,hB6]
     refine z4 150 rfl rfl (.inl rfl) (fun _=>(Stp.mkF rfl rfl).toC) (vv ?_)
     have hi6:=lZ p.s6 p.f6 hd6 zA 78 #[.pointer (some ⟨b0,o0,none⟩)] (fun n:Int=> !j9 p.sz n) (fun n _=>Ya p n _ (hp0.mono m2))
     generalize hA6:(p.f6.any fun n:Int=> !j9 p.sz n)=A6 at*
     have hC6:tS p.sz p.f6= !A6:=by
      unfold tS
      rw[show decide (1000<p.f6.length)=false from yZ zA,cond_false,<-hA6];simp[IK]
     refine zM 160 hi6 (Hp.le.refl _) rfl ?_
     cases A6 with
     |true=>
      have hV:wP p=false:=by unfold wP;rw[hC6];simp
      rw[hV]at hR
      refine vv ?_
      exact yN (hR C1 m1) ClM.nil
     |false=>
     simp only[go_sem,Je,J5]
     refine z4 170 rfl rfl (.inl rfl) (fun _=>(zT (k:=4) rfl rfl rfl).toC) (vv ?_)
     refine z4 170 rfl rfl (.inl rfl) (fun _=>zS (m2 _ _ hc0) (hcc 4 _ rfl) rfl rfl rfl) (vv ?_)
     have hsz:0<=p.sz/\p.sz<=1000:=by
      unfold iV at hS
      simp only[JB,decide_eq_true_eq]at hS
      omega
     refine⟨zA,?_⟩
     refine zB 180 (vv ?_)
     refine z4 180 rfl rfl (.inl rfl) (fun _=>(zT (k:=5) rfl rfl rfl).toC) (vv ?_)
     refine z4 180 rfl rfl (.inl rfl) (fun _=>zS (m2 _ _ hc0) (hcc 5 _ rfl) rfl rfl rfl) (vv ?_)
     refine z4 180 rfl rfl (.inl rfl) (fun _=>(zT (k:=6) rfl rfl rfl).toC) (vv ?_)
     refine z4 180 rfl rfl (.inl rfl) (fun _=>zS (m2 _ _ hc0) (hcc 6 _ rfl) rfl rfl rfl) ?_
     simp only[go_sem,List.range_zero,JG,JF,Ky,Kz,Je,J5]
     have hKK:=vi p.sz.toNat
     have hK7:=yf (xE p.sz.toNat [])
     rw[<-hKK]at hK7
     generalize wR p.sz.toNat [Cv.v (Value.bool false)]=K7 at*
     refine CallQ.letgo (xs:=[_]) (M0:=[]) [180] m1 hP rfl (by unfold yC;simp only[Kw,yF hK7];rfl) rfl WD rfl rfl (fun β2 C2 n1 n2 n3=>?_)
     obtain⟨v2,hv2,hk2⟩:=(n3 180 _ rfl rfl rfl).vslx (sz:=1) (rows:=[[vsl p.s5 p.f5.length],[vsl p.s6 p.f6.length]]) (fun r hr=>by simp only[J3,IS,or_false]at hr;rcases hr with rfl|rfl<;>rfl) rfl
     have hv2:y7 β2 (Cv.sl 180 0 2 1)=vsl v2 2:=hv2
     have hk2:SlH C2.hp (vsl v2 2) 1 [[vsl p.s5 p.f5.length],[vsl p.s6 p.f6.length]]:=hk2
     have hpe:=hpd.mono n2
     simp only[Env.conc,Mem.conc,Bk.conc,Ky,Kz,V.conc,Cv.conc,cond_true,cond_false,J0,List.contains_nil,Nat.reduceBEq,Jq,hv2,xf hK7]
     refine CallW.x 190 n1 (cF v2 p.s5 p.s6 p.f5 p.f6 hk2 hpe.i5 hpe.i6 zA) (Hp.le.refl _) (Sub.nil _) ClM.nil (fun _=>xA rfl) rfl (fun _ C3 H3 q1 q2 q3 _=>?_)
     refine vv ?_
     have hA5:=xt hC5
     have hA6:=xt hC6
     have hrg:∀n∈p.f5++p.f6,0<=n/\n<p.sz:=fun n hn=>(IP.1 hn).elim (hA5.2 n) (hA6.2 n)
     have hLl:(p.f5++p.f6).length<=2000:=by rw[JM];omega
     have hVD:wP p=(decide (p.f5++p.f6).Nodup&&p.f8.all (fun n=> !fb n)):=by
      unfold wP
      rw[hS,hA,hCU,hMA,hCO,hC5,hC6,hC7]
      simp
     have hfin:=lZ p.s8 p.f8 (((hpd.mono n2).mono q2).i8) (by
      have:p.f8.length=p.f6.length:=by
       unfold iV at hS
       simp only[JB,decide_eq_true_eq]at hS
       omega
      omega) 80 #[] fb (fun n _=>(Qi n).toX)
     generalize p.f5++p.f6=L at*
     have hN0:p.sz=(p.sz.toNat:Int):=zA
     subst hKK
     generalize p.sz.toNat=N at*
     have hLc:∀i (h:i<L.length),(L.map iC)[i]?=some (iC L[i]):=fun i h=>by simp[h]
     refine zK (M0:=[]) (α:={i:Nat//i<=L.length/\(L.take i).Nodup}) (q1.pins hP) (fun i=>[(1,true,.c (.v (.pointer (some ⟨b0,o0,none⟩)))),(6,true,.c (.sl 2 0 N 1)),(99,true,.c (.sl 1 0 L.length 1)),(100,true,I L.length),(101,true,I i.val)])
      (fun i=>[(2,⟨false,(xE N ((L.take i.val).map Int.toNat)).map bC,4⟩),(1,⟨false,L.map iC,3⟩)]) (fun i=>L.length-i.val) ⟨0,zA,z9⟩ (fun _=>zD (by simp only[Kw,z6 (yf _),z6 (zq _)];rfl)) (fun _=>zO rfl) [(1,1),(2,170)] ?_ ?_
     ·exact zh
     rintro⟨i,hi,hnd⟩ J hj
     simp only at hj hi hnd⊢
     refine zB 200 (vv ?_)
     clear hcu hma hin hi5 hi7 hi6
     refine zV (fun hc=>?_) (fun hc=>?_)
     ·have hc:=zH hc
      obtain⟨c0,c1⟩:=hrg _ (JH hc)
      have hov:=hLc i hc
      have hmk:=Zt (fun n hn=>(hrg n hn).1) hc
      obtain⟨j0,hj0⟩:∃j0:Nat,L[i]=j0:=⟨L[i].toNat,zA⟩
      have hjn:(L[i]).toNat=j0:=by rw[hj0];rfl
      have hjN:j0<N:=by rw[hj0,hN0]at c1;omega
      rw[hjn]at hmk
      have g1:((xE N ((L.take i).map Int.toNat)).map bC)[j0]?=some (bC (((L.take i).map Int.toNat).contains j0)):=by rw[rK (by rw[wM];exact hjN),qq hjN]
      have hset:((xE N ((L.take i).map Int.toNat)).map bC).set j0 (bC true)=(xE N ((L.take (i+1)).map Int.toNat)).map bC:=by
       rw[JR hc,JN,Ky,Kz,hjn,<-kZ hjN,Jy]
      have hll:((xE N ((L.take i).map Int.toNat)).map bC).length=N:=by rw[Kv,wM]
      rw[hmk]at g1
      rw[hj0]at hov
      have hwi:IntKind.i64.wrap ((i:Int)+1)=((i+1:Nat):Int):=wS zA
      by_cases hm:L[i]∈L.take i
      ·have hV:wP p=false:=by rw[hVD,show decide L.Nodup=false from decide_eq_false (Zp hc hm),IB]
       rw[hV]at hR
       rw[show decide (L[i]∈L.take i)=true from decide_eq_true hm]at g1
       simp only[go_sem,hov,g1,hset,hll,Int.toNat_natCast]
       exact⟨⟨zA,zA⟩,⟨zA,zA⟩,zp (hR _ q1) rfl⟩
      ·rw[show decide (L[i]∈L.take i)=false from decide_eq_false hm]at g1
       simp only[go_sem,hov,g1,hset,hll,Int.toNat_natCast,hwi]
       exact⟨⟨zA,zA⟩,⟨zA,zA⟩,⟨zA,zA⟩,zA,hj _ _ ⟨i+1,hc,i9 hc hnd hm⟩ [(1,1),(2,2)] yL zh⟩
     ·have hc:=zI hi hc
      subst hc
      rw[JY]at hnd
      rw[hVD,show decide L.Nodup=true from decide_eq_true hnd,Jd]at hR
      refine vv ?_
      refine z4 220 rfl rfl (.inl rfl) (fun _=>(zT (k:=8) rfl rfl rfl).toC) (vv ?_)
      refine z4 220 rfl rfl (.inl rfl) (fun _=>zS (q2 _ _ (n2 _ _ (m2 _ _ hc0))) (hcc 8 _ rfl) rfl rfl rfl) (vv ?_)
      generalize hA8:p.f8.any fb=A8 at*
      refine zM 230 hfin (Hp.le.refl _) rfl (vv ?_)
      exact RetQ.bool (hR _ q1) rfl yI (by rw[<-hA8];simp[IK])
end Go.Proofs.YtbnkiacicnnmkaaGreat.Fx
