/-  -/
import Derived.Test.YtbnkiacicnnmkaaGreatGV
import Derived.Test.YtbnkiacicnnmkaaGreatRows
open Go.Proofs.Tryz
open Go.Proofs.Tryz renaming prog→HT
set_option linter.unusedSimpArgs false
set_option linter.unusedVariables false
set_option maxRecDepth 100000
set_option maxHeartbeats 4000000
set_option pp.deepTerms true
set_option pp.maxSteps 200000
namespace Go.Proofs.YtbnkiacicnnmkaaGreat.Fx
open Vg Tf
theorem Xn {H:Hp}(s:Sv)(l:List Sg)(hs:SlH H (vsl s l.length) 13 (l.map Sg.w))(hl:l.length<=1000000)(g:FuncId)(nm:Str)(hg:∀q:Sg,CallOk HT g [z3 (Sg.w q),.c (.p 4 0)] [(4,⟨true,[.v (sv nm)],9⟩)] (Bo (q.nm==nm)) []):
  CallX H HT 134 [.c (.v (vsl s l.length)),.c (.fn g [(4,0)])] [(4,⟨true,[.v (sv nm)],9⟩)] (fun _:Unit=>I (xy (fun q:Sg=>q.nm==nm) l 0)) (fun _=>[]) (fun _ _=>True):=by
 have hlen:(l.map Sg.w).length=l.length:=Kv _
 have hsz:=zQ (r:=Sg.w) (k:=13) (fun _=>rfl) l
 have hM:ClM [(4,⟨true,[.v (sv nm)],9⟩)]:=zD rfl
 refine kX func134 Sw ntmps134 fun C hR hP hH hL=>?_
 have hR:=hR () C hL trivial
 refine zB 100 (vv ?_)
 refine Sm.bringR 1 131 0 (hs.mono hH) rfl rfl ?_
 simp only[hlen]
 refine zK (α:={i:Nat//i<=l.length/\xy (fun q:Sg=>q.nm==nm) l 0=xy (fun q:Sg=>q.nm==nm) (l.drop i) i}) hP (fun i=>[(0,true,.c (.sl 1 0 l.length 13)),(1,true,.c (.fn g [(4,0)])),(7,true,I l.length),(8,true,I i.val)]) (fun _=>[(1,⟨true,zC (l.map Sg.w),131⟩),(4,⟨true,[.v (sv nm)],9⟩)]) (fun i=>l.length-i.val) ⟨0,zA,rfl⟩ (fun _=>cM) (fun _=>zO rfl) [(1,1),(4,4)] ?_ ?_
 ·exact zh
 ·rintro⟨i,hi,hx⟩ J hb
  simp only at hb hi hx⊢
  refine zB 110 (vv ?_)
  refine zV (fun hc=>?_) (fun hc=>?_)
  ·have hc:=zH hc
   rw[yU _ l i hc]at hx
   have htk:=zW (r:=Sg.w) (k:=13) (fun _=>rfl) l i hc
   simp only[htk,hsz]
   refine⟨⟨zA,zA⟩,zA,?_⟩
   refine CallQ.mem 120 (hg l[i]) rfl (SubS.sub ⟨oS,trivial⟩) hM (vv ?_)
   refine zV (fun hd=>?_) (fun hd=>?_)
   ·rw[hd,cond_true]at hx
    exact zN hR rfl yI (by rw[hx];rfl) (SubS.sub ⟨oS,trivial⟩) hM (zG rfl)
   ·rw[hd,cond_false]at hx
    simp only[yu (i:=i)]
    exact hb _ _ ⟨i+1,hc,hx⟩ [(1,1),(4,4)] yL zh
  ·have hc:=zI hi hc
   rw[hc,JI]at hx
   exact zN hR rfl yI (by rw[hx];rfl) (SubS.sub ⟨oS,trivial⟩) hM (zG rfl)
theorem PE (nm:Str)(q:Sg):CallOk HT 135 [z3 (Sg.w q),.c (.p 4 0)] [(4,⟨true,[.v (sv nm)],9⟩)] (Bo (q.nm==nm)) []:=by
 refine kN 100 func135 Su ntmps135 fun C hR hP=>?_
 simp only[go_sem,Sg.w]
 exact yN hR (zD rfl)
@[reducible] def du (x:CkL)(code out:Cv)(nx:Int):List Cv:=[.v (sv x.d.nm),.v (vsl x.d.ty 1),.v (vsl x.d.cu 0),.v (vsl x.d.ma 0),.v (vsl x.d.i 1),.v (vsl x.d.bl 1),.v (vsl x.d.ou 1),.v (vsl x.s 2),.v (vsl x.o 1),code,.sl 5 0 1 10,.v (.slice none 0 0),.v (.slice none 0 0),.v (.int .i64 2),.sl 6 0 1 1,.v (.slice none 0 0),out,.v (.slice none 0 0),.sl 7 0 1 1,.v (.int .i64 nx)]
@[reducible] def KJ (x:CkL)(code out:Cv)(nx:Int)(f:Bool):Mem:=[(4,⟨f,du x code out nx,136⟩),(5,⟨true,xT nr,55⟩),(6,⟨true,[.v (.int .i64 0)],3⟩),(7,⟨true,[.v (.int .i64 2)],3⟩)]
theorem bV {H:Hp}(x:CkL)(hs:SlH H (vsl x.s 2) 13 (x.sg.map Sg.w))(h2:x.sg.length=2)(nm:Str)(nx:Int):CallX H HT 57 [.c (.p 4 0),S nm] (KJ x (.v (.slice none 0 0)) (.v (.slice none 0 0)) nx true) (fun _:Unit=>I (xy (fun q:Sg=>q.nm==nm) x.sg 0)) (fun _=>[]) (fun _ _=>True):=by
 have hix:=fun(H':Hp) (h:SlH H' (vsl x.s x.sg.length) 13 (x.sg.map Sg.w))=>Xn x.s x.sg h zA 135 nm (PE nm)
 rw[h2]at hix
 generalize xy (fun q:Sg=>q.nm==nm) x.sg 0=r at*
 refine kX func57 O1 ntmps57 fun C hR hP hH hL=>?_
 refine zB 100 (vv ?_)
 refine uD [(4,100)] 120 hL (hix H hs) hH rfl ⟨⟨_,rfl,qh⟩,trivial⟩ (zD rfl) (fun _=>rfl) rfl rfl rfl fun _ C1 H1 l1 g1 _ _=>?_
 refine vv ?_
 exact yN (hR () C1 l1 trivial) (zD rfl)
@[reducible] def aq (x:CkL)(L:List Ins)(nx:Int)(f:Bool):Mem:=[(4,⟨f,du x (.sl 8 0 L.length 5) (.sl 9 0 1 1) nx,136⟩),(8,⟨f,zC (L.map Ins.w),42⟩),(5,⟨true,xT nr,55⟩),(6,⟨true,[.v (.int .i64 0)],3⟩),(7,⟨true,[.v (.int .i64 2)],3⟩),(9,⟨true,[.v (.int .i64 0)],3⟩)]
theorem v4 (x:CkL)(L:List Ins)(nx:Int)(f:Bool):ClM (aq x L nx f):=cM
theorem Xp (x:CkL)(L:List Ins)(nx:Int)(h:0<=nx/\nx<=1000):CallOk HT 149 [.c (.p 4 0)] (aq x L nx false) (I nx) [(4,⟨false,du x (.sl 8 0 L.length 5) (.sl 9 0 1 1) (nx+1),136⟩)]:=by
 have w1:IntKind.i64.wrap (nx+1)=nx+1:=y6 zA zA
 have w2:IntKind.i64.wrap (nx+1-1)=nx:=by rw[Int.add_sub_cancel];exact y6 zA zA
 refine kN 100 func149 Sn ntmps149 fun C hR hP=>?_
 simp only[go_sem,w1,w2]
 exact zN hR rfl yI rfl (vQ (SubS.sub ⟨oS,oS,oS,oS,oS,oS,trivial⟩)) (v5 (v4 x L (nx+1) false)) (zG rfl)
theorem YS (x:CkL)(L:List Ins)(nx:Int)(hL4:L.length<=10)(i:Ins):CallOk HT 136 [.c (.p 4 0),I i.op,I i.a,I i.b,I i.c,I i.k] (aq x L nx false) (I i.a) [(4,⟨false,du x (.sl 10 0 (L.length+1) 5) (.sl 9 0 1 1) nx,136⟩),(10,⟨false,zC ((L++[i]).map Ins.w),42⟩),(8,dead 42)]:=by
 have hz:=zQ (r:=Ins.w) (k:=5) (fun _=>rfl) L
 have hap:=eM Ins.w (k:=5) (fun _=>rfl) L i
 have hw:i.w.map Cv.v=[.v (iv i.op),.v (iv i.a),.v (iv i.b),.v (iv i.c),.v (iv i.k)]:=rfl
 rw[hw]at hap
 refine kN 100 func136 Ss ntmps136 fun C hR hP=>?_
 simp only[go_sem,hz,hap]
 refine⟨⟨zA,zA,zA⟩,?_⟩
 exact RetQ.ren [(4,4),(8,8),(5,5),(6,6),(7,7),(9,9),(10,101)] hR hP rfl yI rfl rfl ⟨⟨rfl,rfl⟩,⟨rfl,rfl⟩,⟨rfl,rfl⟩,⟨rfl,rfl⟩,⟨rfl,rfl⟩,⟨rfl,rfl⟩,trivial⟩ ⟨oR,oX,oR,oL,oL,oR,oR,oR,oR,trivial⟩ cM (zG rfl)
theorem aE (x:CkL)(k:Int):CallOk HT 141 [.c (.p 4 0),I k] (aq x [] 0 false) (I 0) [(4,⟨false,du x (.sl 10 0 1 5) (.sl 9 0 1 1) 1,136⟩),(10,⟨false,zC ([(⟨1,0,0,0,k⟩:Ins)].map Ins.w),42⟩),(8,dead 42)]:=by
 refine kN 100 func141 Sq ntmps141 fun C hR hP=>?_
 refine vv ?_
 refine ux 110 (Xp x [] 0 zA) (v4 x [] 0 false) ⟨oS,oS,oS,oS,oS,oS,trivial⟩ (vv ?_)
 refine ux 120 (YS x [] 1 z9 ⟨1,0,0,0,k⟩) (v4 x [] 1 false) ⟨oS,oS,oS,oS,oS,oS,trivial⟩ (vv ?_)
 exact RetQ.ren [(4,4),(8,8),(5,5),(6,6),(7,7),(9,9),(10,10)] hR hP rfl yI rfl rfl ⟨⟨rfl,rfl⟩,⟨rfl,rfl⟩,⟨rfl,rfl⟩,⟨rfl,rfl⟩,⟨rfl,rfl⟩,⟨rfl,rfl⟩,trivial⟩ ⟨oR,oX,oR,oL,oL,oR,oR,oR,oR,trivial⟩ cM (zG rfl)
theorem Yn (x:CkL)(L:List Ins)(nx:Int)(hL4:L.length<=9)(r c:Int):CallOk HT 58 [.c (.p 4 0),I r,I c] (aq x L nx false) (.tup []) [(4,⟨false,du x (.sl 10 0 (L.length+1) 5) (.sl 9 0 1 1) nx,136⟩),(10,⟨false,zC ((L++[(⟨3,r,0,0,c⟩:Ins)]).map Ins.w),42⟩),(8,dead 42)]:=by
 refine kN 100 func58 O0 ntmps58 fun C hR hP=>?_
 refine vv ?_
 refine ux 120 (YS x L nx zA ⟨3,r,0,0,c⟩) (v4 x L nx false) ⟨oS,oS,oS,oS,oS,oS,trivial⟩ (vv ?_)
 exact vL hR (RetQ.ren [(4,4),(8,8),(5,5),(6,6),(7,7),(9,9),(10,10)] hR hP rfl yI rfl rfl ⟨⟨rfl,rfl⟩,⟨rfl,rfl⟩,⟨rfl,rfl⟩,⟨rfl,rfl⟩,⟨rfl,rfl⟩,⟨rfl,rfl⟩,trivial⟩ ⟨oR,oX,oR,oL,oL,oR,oR,oR,oR,trivial⟩ cM (zG rfl))
theorem Qq {H:Hp}(nm:Str)(q:Td)(pv:Value)(hpv:PtH H pv [sv nm]):CallH H HT 151 [z3 (Td.r q),.c (.v pv)] (Bo (q.nm==nm)):=by
 refine kH func151 Sl ntmps151 fun C hR hP hH hL=>?_
 have hR:=hR C hL
 refine zX 4 9 1 (hpv.mono hH) rfl rfl (zB 100 ?_)
 simp only[go_sem,Td.r]
 exact yN hR ClM.nil
theorem bL {H:Hp}(x:CkL)(bi bk:Sv)(hTy:SlH H (vsl x.d.ty 1) 11 [Td.r sX])(hBl:SlH H (vsl x.d.bl 1) 6 [[sv [116,119,111],sv [99,111,110,115,116],sv [116],vsl bi 0,sv [],vsl bk 1]])(nx:Int):
  CallX H HT 62 [.c (.p 4 0),I 1] (aq x [] nx true) (fun _:Unit=>I 0) (fun _=>[]) (fun _ _=>True):=by
 obtain⟨bb,ob,cb,hb1,cs,el,mk,hbb,hbc⟩:=hBl.at z9
 have hob:x.d.bl.o=some ⟨bb,ob,none⟩:=by injection hb1
 refine kX func62 OY ntmps62 fun C hR hP hH hL=>?_
 refine zB 100 ?_
 simp only[go_sem,hob]
 refine z4 130 rfl rfl (.inl rfl) (fun _=>(Stp.idxV rfl rfl rfl Wv zA zA).toC) (vv ?_)
 refine z4 130 rfl rfl (.inl rfl) (fun _=>(zT (k:=2) rfl rfl rfl).toC) (vv ?_)
 refine z4 130 rfl rfl (.inl rfl) (fun _=>zS (hH _ _ hbb) (hbc 2 _ rfl) rfl rfl rfl) (vv ?_)
 have hTy2:SlH H (vsl x.d.ty [sX].length) 11 ([sX].map Td.r):=hTy
 refine CallQ.letgo (xs:=[_,_]) (M0:=aq x [] nx true) [101] hL hP rfl rfl rfl YQ rfl rfl (fun β Cn l1 l2 l3=>?_)
 have hp1:PtH Cn.hp (xl β 101 0) [sv [116]]:=(l3 101 _ rfl rfl rfl).pt z9
 have hxs:List.map (V.conc [101] β) [V.c (Cv.v (Value.slice x.d.ty.o 1 x.d.ty.c)),V.c (Cv.fn 151 [(101,0)])]=[.c (.v (vsl x.d.ty 1)),Fv 151 #[xl β 101 0]]:=rfl
 rw[hxs]
 refine yO 140 l1 (Zw x.d.ty [sX] ((hTy2.mono hH).mono l2) z9 151 #[xl β 101 0] (fun t=>t.nm==[116]) (fun t _=>Qq [116] t _ hp1)) (Hp.le.refl _) rfl (fun C1 m1 m2=>?_)
 have e0:xy (fun t:Td=>t.nm==[116]) [sX] 0=0:=rfl
 rw[e0]
 simp only[Mem.conc,Env.conc,Bk.conc,Cv.conc,V.conc,Ky,Kz,J0,List.contains_nil,Nat.reduceBEq,Jq,IF,cond_true,cond_false]
 refine vv ?_
 exact yN (hR () C1 m1 trivial) (zD rfl)
theorem WY (x:CkL)(nx:Int)(bi bk:Sv):CallOk HT 137 [.c (.p 4 0),.agg [.v (sv [116,119,111]),.v (sv [99,111,110,115,116]),.v (sv [116]),.v (vsl bi 0),.v (sv []),.v (vsl bk 1)]] (aq x [] nx true) (.c (.v (.slice none 0 0))) []:=by
 refine kN 100 func137 Sr ntmps137 fun C hR hP=>?_
 refine vv ?_
 refine zf 1 (zB 120 ?_)
 refine vv ?_
 exact yN hR (v4 x [] nx true)
theorem bF {H:Hp}(x:CkL)(bi bk:Sv)(hTy:SlH H (vsl x.d.ty 1) 11 [Td.r sX])(hBl:SlH H (vsl x.d.bl 1) 6 [[sv [116,119,111],sv [99,111,110,115,116],sv [116],vsl bi 0,sv [],vsl bk 1]])(hbk:SlH H (vsl bk 1) 1 (zP [2])):
  CallX H HT 59 [.c (.p 4 0),I 0] (aq x [] 0 false) (fun _:Unit=>I 0) (fun _=>[(4,⟨false,du x (.sl 10 0 1 5) (.sl 9 0 1 1) 1,136⟩),(10,⟨false,zC ([(⟨1,0,0,0,2⟩:Ins)].map Ins.w),42⟩),(8,dead 42)]) (fun _ _=>True):=by
 have hty:=bL x bi bk hTy hBl 0
 obtain⟨bb,ob,cb,hb1,cs,el,mk,hbb,hbc⟩:=hBl.at z9
 have hob:x.d.bl.o=some ⟨bb,ob,none⟩:=by injection hb1
 obtain⟨kb,ko,kc,hk1,ks,kel,kmk,hkb,hkc⟩:=hbk.at (by simp[zP])
 have hok:bk.o=some ⟨kb,ko,none⟩:=by injection hk1
 have ar:=WY x 0 bi bk
 refine kX func59 OZ ntmps59 fun C hR hP hH hL=>?_
 refine zB 100 ?_
 simp only[go_sem,hob]
 refine z4 130 rfl rfl (.inl rfl) (fun _=>(Stp.idxV rfl rfl rfl Wv zA zA).toC) (vv ?_)
 refine z4 130 rfl rfl (.inl rfl) (fun _=>StpC.ldA (vs:=[sv [116,119,111],sv [99,111,110,115,116],sv [116],vsl bi 0,sv [],vsl bk 1]) (hH _ _ hbb) (fun j v hv=>hbc j v (by simpa using hv)) rfl rfl rfl rfl (Jw _)) (vv ?_)
 have d1:(([99,111,110,115,116]:Str)==[100,101,108,97,121])=false:=rfl
 have d0:(([99,111,110,115,116]:Str)==[99,111,110,115,116])=true:=rfl
 refine nH 140 hty hH (v4 x [] 0 true) rfl ⟨⟨_,rfl,qh⟩,⟨_,rfl,qh⟩,oS,oS,oS,oS,trivial⟩ rfl (.inr rfl) ?_
 simp only[go_sem,d1]
 refine nI 150 ar (v4 x [] 0 true) rfl ⟨⟨_,rfl,qh⟩,⟨_,rfl,qh⟩,oS,oS,oS,oS,trivial⟩ rfl (.inr rfl) ?_
 simp only[go_sem,d0]
 refine Sm.dg 160 5 zi ?_
 simp only[go_sem,hok]
 refine DOpQ.own 170 (Stp.idxV rfl rfl rfl tP zA zA) (vv ?_)
 refine zF 170 (fun _=>zS (hH _ _ hkb) (hkc 0 _ rfl) rfl rfl rfl) (vv ?_)
 refine ux 180 (aE x 2) (v4 x [] 0 false) ⟨oS,oS,oS,oS,oS,oS,trivial⟩ (vv ?_)
 exact RetQ.ren [(4,4),(8,8),(5,5),(6,6),(7,7),(9,9),(10,10)] (hR () C hL trivial) hP rfl yI rfl rfl ⟨⟨rfl,rfl⟩,⟨rfl,rfl⟩,⟨rfl,rfl⟩,⟨rfl,rfl⟩,⟨rfl,rfl⟩,⟨rfl,rfl⟩,trivial⟩ ⟨oR,oX,oR,oL,oL,oR,oR,oR,oR,trivial⟩ cM (zG rfl)
end Go.Proofs.YtbnkiacicnnmkaaGreat.Fx
namespace Go.Proofs.YtbnkiacicnnmkaaGreat
namespace Vg
def SeenS (M0 N M:Mem):Mem->Prop
 |[]=>True
 |(n,b)::r=>(M0.get n=some b\/((N.get n).isSome=true/\M.get n=some b))/\SeenS M0 N M r
theorem SeenS.ok {M0 N M:Mem}:∀{M1:Mem},SeenS M0 N M M1->∀n b,M1.get n=some b->M0.get n=some b\/((N.get n).isSome=true/\M.get n=some b)
 |[],_,n,b,h=>by cases h
 |(k,c)::r,hs,n,b,h=>by
  rw[zE]at h
  split at h
  ·rename_i hk
   subst hk
   cases h
   exact hs.1
  ·exact SeenS.ok hs.2 n b h
theorem kE (Ms:Mem){H:Hp}{P:Program}{nt:Nat}{C:Cx}{id:Nat}{rg:Array Oper}{r:List It}{e0 e:Env}{M0 Mf M:Mem}{k:Nat}{T:List (Nat×Nat)}{i:Nat}{o:Oper}{l:List Oper}{f:FuncId}{vs:List (Option (Bool×V))}{g:Bool}{dst:Option Nat}{xs:List V}{v:V}{M1 N:Mem}(nx:Nat)(hc:g=true->CallX H P f xs M1 (fun _:Unit=>v) (fun _=>N) (fun _ _=>True))(hH:H.le C.hp)(hcl:ClM M1)
  (hvs:g=true->vs=xs.map fun x=>some (true,x)) (hs1:SubS M1 Ms) (hfr:N.all (fun p=>(M1.get p.1).isSome||(Ms.get p.1).isNone)=true) (hs:SeenS M0 N M Ms) (hf:nY N M0 Ms M=true) (ht:uF T o N=true) (hg:g=true\/N=[])
  (h:wz P nt C id rg r e0 M0 Mf k (wA P nt C (.ops rg (rg.toList.drop k)::r)) (vP N i T) (i+1) l (e.put dst g v) (N++M) nx):DCallQ P nt C id rg r e0 M0 Mf k T i o f vs g dst l e M:=
 ⟨M1,N,Ms,v,xs,hvs,fun h=> .inr (CallX.kx (hc h) hH hcl (fun _=>rfl) (fun _=>rfl)),hs1.sub,hcl,xA hfr,hg,⟨hs.ok,uG hf ht⟩,wX nx h⟩
end Vg
namespace Fx
open Vg Tf
theorem Rd {x:CkL}(h:x.d.c=eaD)(H:Hp)(hx:x.d.ok H):x.d.tys=[sX]/\x.d.cus=[]/\x.d.mas=[]/\x.d.ins=[fD]/\x.d.ous=[[120]]/\∃bi bk,x.d.bls=[BlL.mk dy bi bk]/\SlH H (vsl bk 1) 1 (zP [2]):=by
 have h1:x.d.tys=[sX]:=congrArg Dg.tys h
 have h4:x.d.ins=[fD]:=congrArg Dg.ins h
 have h5:x.d.ous=[[120]]:=congrArg Dg.ous h
 have h2:x.d.cus.map CuL.c=[]:=congrArg Dg.cus h
 have h3:x.d.mas.map MpL.c=[]:=congrArg Dg.mas h
 have h6:x.d.bls.map BlL.c=[dy]:=congrArg Dg.bls h
 refine⟨h1,by simpa using h2,by simpa using h3,h4,h5,?_⟩
 cases hl:x.d.bls with
 |nil=>rw[hl]at h6;cases h6
 |cons b t=>
  rw[hl]at h6
  simp only[Ky,List.cons.injEq,Io]at h6
  obtain⟨bc,bi,bk⟩:=b
  have hb:bc=dy:=h6.1
  subst hb
  have hk:=(hx.bls _ (by rw[hl];exact Ig ..)).k
  exact⟨bi,bk,by rw[h6.2],hk⟩
theorem genOk_:Y5:=by
 intro H x hxc hx
 obtain⟨h1,h2,h3⟩:=dw hxc
 have hnew:=WI x hxc hx
 obtain⟨lT,lC,lM,lI,lO,bi,bk,lB,hbk⟩:=Rd h1 H hx.d
 have hTy:SlH H (vsl x.d.ty 1) 11 [Td.r sX]:=by have:=hx.d.ty;rw[lT]at this;exact this
 have hIn:SlH H (vsl x.d.i 1) 4 [Po.r fD]:=by have:=hx.d.i;rw[lI]at this;exact this
 have hOu:SlH H (vsl x.d.ou 1) 1 (yH [[120]]):=by have:=hx.d.ou;rw[lO]at this;exact this
 have hBl:SlH H (vsl x.d.bl 1) 6 [[sv [116,119,111],sv [99,111,110,115,116],sv [116],vsl bi 0,sv [],vsl bk 1]]:=by have:=hx.d.bl;rw[lB]at this;exact this
 have hcr:z3 x.r= .agg [.v (sv x.d.nm),.v (vsl x.d.ty 1),.v (vsl x.d.cu 0),.v (vsl x.d.ma 0),.v (vsl x.d.i 1),.v (vsl x.d.bl 1),.v (vsl x.d.ou 1),.v (vsl x.s 2),.v (vsl x.o 1)]:=by
  have:z3 x.r= .agg [.v (sv x.d.nm),.v (vsl x.d.ty x.d.tys.length),.v (vsl x.d.cu x.d.cus.length),.v (vsl x.d.ma x.d.mas.length),.v (vsl x.d.i x.d.ins.length),.v (vsl x.d.bl x.d.bls.length),.v (vsl x.d.ou x.d.ous.length),.v (vsl x.s x.sg.length),.v (vsl x.o x.od.length)]:=rfl
  rw[this,lT,lC,lM,lI,lB,lO,h2,h3];rfl
 rw[hcr]at hnew⊢
 refine kX func20 Oy ntmps20 fun C hR hP hH hL=>?_
 refine zB 100 (vv ?_)
 refine zM 110 hnew hH rfl (vv ?_)
 refine Sm.dg 120 5 zi (vv ?_)
 refine⟨zA,zB 130 ?_⟩
 refine vv ?_
 refine Sm.bringR 200 57 51 (rows:=[Td.r sX]) (hTy.mono hH) rfl rfl (zf 2 (zB 140 ?_))
 simp only[go_sem,zC,Td.r,xN,sX,nr,Ky,Kz,List.flatten_cons,List.flatten_nil,JF,JG,JK]
 refine Sm.dg 150 10 zi (vv ?_)
 refine sj [(150,⟨false,xT nr,55⟩)] 160 xz ?_ rfl ⟨⟨rfl,rfl,rfl⟩,trivial⟩ rfl rfl ?_
 ·simp only[go_sem]
 simp only[go_sem,xT]
 refine zf 1 (zB 170 ?_)
 refine vv ?_
 refine zf 1 (zB 172 ?_)
 refine vv ?_
 refine zf 2 (zB 174 ?_)
 refine vv ?_
 let emB:List Cv->List Cv:=fun q=>[.v (sv x.d.nm),.v (vsl x.d.ty 1),.v (vsl x.d.cu 0),.v (vsl x.d.ma 0),.v (vsl x.d.i 1),.v (vsl x.d.bl 1),.v (vsl x.d.ou 1),.v (vsl x.s 2),.v (vsl x.o 1)]++q
 refine xa (M0:=[]) hP [(1,true,.c (.p 1 0)),(2,true,.c (.p 2 0)),(6,true,.c (.p 3 0)),(7,true,.c (.p 4 0)),(171,true,.c (.v (vsl x.d.bl 1))),(172,true,I 1),(173,true,I 0)]
  [(1,⟨false,emB [],72⟩),(2,⟨false,[.v (.slice none 0 0),.v (.slice none 0 0),.v (.slice none 0 0),.v (.slice none 0 0),.v (.int .i64 0),.v (.slice none 0 0),.v (.slice none 0 0),.v (.slice none 0 0),.v (.slice none 0 0)],28⟩),(3,⟨false,[.v (sv x.d.nm),.v (vsl x.d.ty 1),.v (vsl x.d.cu 0),.v (vsl x.d.ma 0),.v (vsl x.d.i 1),.v (vsl x.d.bl 1),.v (vsl x.d.ou 1)],69⟩),
   (4,⟨false,emB [.v (.slice none 0 0),.sl 5 0 1 10,.v (.slice none 0 0),.v (.slice none 0 0),.v (.int .i64 2),.sl 6 0 1 1,.v (.slice none 0 0),.v (.slice none 0 0),.v (.slice none 0 0),.sl 7 0 1 1,.v (.int .i64 0)],136⟩),(5,⟨false,xT nr,55⟩),(6,⟨false,[.v (.int .i64 0)],3⟩),(7,⟨false,[.v (.int .i64 0)],3⟩)]
  [(1,100),(2,101),(3,110),(4,121),(5,160),(6,175),(7,120)] zh (zD rfl) (zO rfl) ?_
 refine Sm.bringR 201 64 171 (rows:=[[sv [116,119,111],sv [99,111,110,115,116],sv [116],vsl bi 0,sv [],vsl bk 1]]) (hBl.mono hH) rfl rfl (zf 2 (zB 210 ?_))
 simp only[go_sem,zC,Ky,Kz,List.flatten_cons,List.flatten_nil,JF,JG,JK]
 refine Sm.makeMap hL rfl rfl rfl (fun bT CT lT kT fT fT' mT=>?_)
 refine Sm.mapIns lT rfl rfl rfl rfl rfl rfl rfl (fun _=>rfl) mT fT (fun C2 l2 k2 m2=>?_)
 refine Sm.mapIns l2 rfl rfl rfl rfl rfl rfl rfl (fun _=>rfl) m2 fT (fun C3 l3 k3 m3=>?_)
 refine Sm.mapIns l3 rfl rfl rfl rfl rfl rfl rfl (fun _=>rfl) m3 fT (fun C4 l4 k4 m4=>?_)
 refine zB 220 (vv ?_)
 refine z4 220 rfl rfl (.inl rfl) (fun _=>StpC.lookup (ok:=false) (v:=I 0) rfl rfl rfl rfl rfl m4 (fun β=>by rfl)) (vv ?_)
 refine Sm.dgW [7] 230 10 zi ?_
 simp only[go_sem,emB]
 refine zf 1 (zB 240 ?_)
 refine vv ?_
 have hH4:H.le C4.hp:=fun b o h=>k4 b o (by have:=Cx.hp_lt (hH b o h);omega) (k3 b o (by have:=Cx.hp_lt (hH b o h);omega) (k2 b o (by have:=Cx.hp_lt (hH b o h);omega) (kT b o (hH b o h))))
 refine xa (M0:=[]) (l4.pins hP) [(1,true,.c (.p 1 0)),(2,true,.c (.p 2 0)),(6,true,.c (.p 3 0)),(7,true,.c (.p 4 0)),(225,true,.c (.v (vsl x.d.ou 1))),(226,true,I 1),(227,true,I 0)]
  ([(1,⟨false,emB [],72⟩),(2,⟨false,[.v (.slice none 0 0),.v (.slice none 0 0),.v (.slice none 0 0),.v (.slice none 0 0),.v (.int .i64 0),.v (.slice none 0 0),.v (.slice none 0 0),.v (.slice none 0 0),.v (.slice none 0 0)],28⟩),(3,⟨false,[.v (sv x.d.nm),.v (vsl x.d.ty 1),.v (vsl x.d.cu 0),.v (vsl x.d.ma 0),.v (vsl x.d.i 1),.v (vsl x.d.bl 1),.v (vsl x.d.ou 1)],69⟩),
   (4,⟨false,du x (.v (.slice none 0 0)) (.v (.slice none 0 0)) 0,136⟩),(5,⟨false,xT nr,55⟩),(6,⟨false,[.v (.int .i64 0)],3⟩),(7,⟨false,[.v (.int .i64 2)],3⟩)])
  [(1,1),(2,2),(3,3),(4,4),(5,5),(6,6),(7,7)] zh (zD rfl) (zO rfl) ?_
 have hSg:SlH H (vsl x.s 2) 13 (x.sg.map Sg.w):=by have:=hx.s;rw[h2]at this⊢;exact this
 have hsig:=bV x hSg (by rw[h2];rfl) [120] 0
 have hi0:xy (fun q:Sg=>q.nm==[120]) x.sg 0=0:=by rw[h2];rfl
 rw[hi0]at hsig
 refine Sm.bringR 202 9 225 (rows:=yH [[120]]) (hOu.mono hH4) rfl rfl (zf 2 (zB 250 ?_))
 simp only[go_sem,zC,yH,Ky,Kz,List.flatten_cons,List.flatten_nil,JF,JG,JK]
 refine Sm.dg 260 11 zi (vv ?_)
 refine DCallQ.xn 270 (fun _=>hsig) hH4 (zD rfl) (fun _=>rfl) ⟨⟨_,rfl,qh⟩,⟨_,rfl,qh⟩,⟨_,rfl,qh⟩,⟨_,rfl,qh⟩,trivial⟩ rfl rfl rfl (.inr rfl) (vv ?_)
 refine sj [(270,⟨false,[.v (.int .i64 0)],3⟩)] 280 xz ?_ rfl ⟨⟨rfl,rfl,rfl⟩,trivial⟩ rfl rfl ?_
 ·simp only[go_sem]
 have hOd:SlH H (vsl x.o 1) 1 (zP [0]):=by have:=hx.o;rw[h3]at this;exact this
 have d1:(([99,111,110,115,116]:Str)==[100,101,108,97,121])=false:=rfl
 have hv0:=bF x bi bk hTy hBl hbk
 simp only[go_sem,emB]
 refine xa (M0:=[]) (l4.pins hP) [(1,true,.c (.p 1 0)),(2,true,.c (.p 2 0)),(6,true,.c (.p 3 0)),(7,true,.c (.p 4 0)),(247,true,.c (.v (vsl x.o 1))),(248,true,I 1),(249,true,I 0)]
  ([(2,⟨false,[.v (.slice none 0 0),.v (.slice none 0 0),.v (.slice none 0 0),.v (.slice none 0 0),.v (.int .i64 0),.v (.slice none 0 0),.v (.slice none 0 0),.v (.slice none 0 0),.v (.slice none 0 0)],28⟩),(1,⟨false,emB [],72⟩),(3,⟨false,[.v (sv x.d.nm),.v (vsl x.d.ty 1),.v (vsl x.d.cu 0),.v (vsl x.d.ma 0),.v (vsl x.d.i 1),.v (vsl x.d.bl 1),.v (vsl x.d.ou 1)],69⟩),
   (4,⟨false,du x (.v (.slice none 0 0)) (.sl 9 0 1 1) 0,136⟩),(5,⟨false,xT nr,55⟩),(6,⟨false,[.v (.int .i64 0)],3⟩),(7,⟨false,[.v (.int .i64 2)],3⟩),(9,⟨false,[.v (.int .i64 0)],3⟩)])
  [(1,1),(2,2),(3,3),(4,4),(5,5),(6,6),(7,7),(9,280)] zh (zD rfl) (zO rfl) ?_
 refine Sm.nilAt 8 5 42 4 9 rfl rfl rfl ?_
 refine Sm.bringI (l:=[0]) 203 3 247 (hOd.mono hH4) rfl rfl (zf 2 (zB 290 ?_))
 refine vv ?_
 refine Sm.dgW [4,8] 300 9 zi ?_
 simp only[go_sem,emB,Mem.wo]
 refine kE [(4,⟨false,du x (.sl 8 0 0 5) (.sl 9 0 1 1) 0,136⟩),(8,⟨false,[],42⟩),(5,⟨false,xT nr,55⟩),(6,⟨false,[.v (.int .i64 0)],3⟩),(7,⟨false,[.v (.int .i64 2)],3⟩),(9,⟨false,[.v (.int .i64 0)],3⟩)] 310 (fun _=>hv0) hH4 (v4 x [] 0 false) (fun _=>rfl) ⟨oS,oS,⟨_,rfl,qh⟩,⟨_,rfl,qh⟩,⟨_,rfl,qh⟩,⟨_,rfl,qh⟩,trivial⟩ rfl ⟨.inr ⟨rfl,rfl⟩,.inr ⟨rfl,rfl⟩,.inl rfl,.inl rfl,.inl rfl,.inl rfl,trivial⟩ rfl rfl (.inl rfl) ?_
 simp only[go_sem,emB,Mem.wo]
 have hst:=Yn x [⟨1,0,0,0,2⟩] 1 z9 0 1
 refine CallQ.ren [(4,4),(8,10),(5,5),(6,6),(7,7),(9,9),(10,311)] 320 hst (v4 x [⟨1,0,0,0,2⟩] 1 false) rfl rfl ⟨oS,oS,⟨_,rfl,qh⟩,⟨_,rfl,qh⟩,⟨_,rfl,qh⟩,⟨_,rfl,qh⟩,trivial⟩ rfl (.inl rfl) ?_
 simp only[go_sem,emB,Mem.wo]
 refine xa (M0:=[]) (l4.pins hP) [(2,true,.c (.p 2 0)),(7,true,.c (.p 4 0)),(268,true,.c (.v (vsl x.d.bl 1))),(269,true,I 1),(270,true,I 0)]
  ([(2,⟨false,[.v (.slice none 0 0),.v (.slice none 0 0),.v (.slice none 0 0),.v (.slice none 0 0),.v (.int .i64 0),.v (.slice none 0 0),.v (.slice none 0 0),.v (.slice none 0 0),.v (.slice none 0 0)],28⟩),
   (4,⟨false,du x (.sl 8 0 2 5) (.sl 9 0 1 1) 1,136⟩),(8,⟨false,zC ([(⟨1,0,0,0,2⟩:Ins),⟨3,0,0,0,1⟩].map Ins.w),42⟩),(5,⟨false,xT nr,55⟩),(6,⟨false,[.v (.int .i64 0)],3⟩),(7,⟨false,[.v (.int .i64 2)],3⟩),(9,⟨false,[.v (.int .i64 0)],3⟩)])
  [(2,2),(4,4),(5,5),(6,6),(7,7),(8,311),(9,9)] zh (zD rfl) (zO rfl) ?_
 refine Sm.bringR 204 64 268 (rows:=[[sv [116,119,111],sv [99,111,110,115,116],sv [116],vsl bi 0,sv [],vsl bk 1]]) (hBl.mono hH4) rfl rfl (zf 2 (zB 340 ?_))
 simp only[go_sem,zC,d1,Ky,Kz,List.flatten_cons,List.flatten_nil,JF,JG,JK]
 refine RetQ.letgo (M0:=[]) [8,5,6,9] l4 hP rfl rfl (fun β C5 l5 k5 kn=>?_)
 obtain⟨s1,hv1,hk1⟩:=(kn 8 _ rfl rfl rfl).vslx (sz:=5) (rows:=[(⟨1,0,0,0,2⟩:Ins),⟨3,0,0,0,1⟩].map Ins.w) (fun r hr=>by obtain⟨x,_,rfl⟩:=JL.1 hr;rfl) rfl
 obtain⟨s2,hv2,hk2⟩:=(kn 5 _ rfl rfl rfl).vslx (sz:=10) (rows:=[nr].map xN) (fun r hr=>by obtain⟨x,_,rfl⟩:=JL.1 hr;rfl) rfl
 obtain⟨s3,hv3,hk3⟩:=(kn 6 _ rfl rfl rfl).vslx (sz:=1) (rows:=zP [0]) (by simp[zP]) rfl
 obtain⟨s4,hv4,hk4⟩:=(kn 9 _ rfl rfl rfl).vslx (sz:=1) (rows:=zP [0]) (by simp[zP]) rfl
 have hv1:y7 β (.sl 8 0 2 5)=vsl s1 2:=hv1
 have hv2:y7 β (.sl 5 0 1 10)=vsl s2 1:=hv2
 have hv3:y7 β (.sl 6 0 1 1)=vsl s3 1:=hv3
 have hv4:y7 β (.sl 9 0 1 1)=vsl s4 1:=hv4
 simp only[Mem.conc,Env.conc,Bk.conc,Cv.conc,V.conc,Ky,Kz,J0,List.contains_nil,Nat.reduceBEq,Jq,IF,cond_true,cond_false,hv1,hv2,hv3,hv4]
 have hR':=hR (Pg.mk [(⟨1,0,0,0,2⟩:Ins),⟨3,0,0,0,1⟩] [nr] [] [] 2 [0] [] [0] [] s1 s2 ⟨none,0⟩ ⟨none,0⟩ s3 ⟨none,0⟩ s4 ⟨none,0⟩) C5 l5 ⟨⟨rfl,rfl,rfl,rfl,rfl,rfl,rfl,rfl,rfl⟩,⟨hk1,hk2,SlH.nil _,SlH.nil _,z9,z9,hk3,SlH.nil _,hk4,SlH.nil _⟩⟩
 exact zN hR' rfl (vv trivial) rfl (Sub.nil _) ClM.nil (zG rfl)
end Fx
end Go.Proofs.YtbnkiacicnnmkaaGreat
namespace Go.Proofs.YtbnkiacicnnmkaaGreat.Fx
open Vg Tf
theorem newOk_:Y3:=by
 intro H p pe hp
 have hvl:=dv p pe
 have hval:=uK p hp (by rw[pe.cus];simp) (by rw[pe.mas];simp)
 rw[hvl]at hval
 have e6:p.f6.length=0:=by rw[pe.f6];rfl
 have es:=pe.sz
 rw[x6]at hval⊢
 refine kX func16 Sb ntmps16 fun C hR hP hH hL=>?_
 have hR:=hR () C hL trivial
 refine zB 100 (vv ?_)
 refine zM 110 hval hH rfl ?_
 simp only[go_sem,es]
 refine⟨zA,zf 1 (zB 120 ?_)⟩
 simp only[go_sem,e6]
 exact RetQ.ren [(1,110)] hR hP rfl (vv trivial) f9 rfl trivial ⟨oR,trivial⟩ (zD rfl) (zG rfl)
@[reducible] def PV (r0:Int)(f:Bool):Nat×Bk:=(1,⟨f,XX r0 2,45⟩)
@[reducible] def PU (x y:Int)(f:Bool):Nat×Bk:=(2,⟨f,[.v (.int .i64 x),.v (.int .i64 y)],3⟩)
theorem Pq (p:Pg)(r x y:Int):CallOk HT 46 [z3 p.r,.c (.p 1 0),z3 (Ins.w ⟨1,0,0,0,2⟩)] [PV r false,PU x y true] (I 0) [PV 2 false]:=by
 rw[x6,yx]
 refine kN 100 func46 jZ ntmps46 fun C hR hP=>?_
 refine vv ?_
 refine Sm.dg 110 23 zi (vv ?_)
 refine Sm.dgW [1] 120 6 zi (vv ?_)
 exact zN hR rfl yI rfl (vQ (SubS.sub ⟨oS,oS,trivial⟩)) (v5 (zD rfl)) (zG rfl)
theorem Pp (p:Pg)(r x y:Int):CallOk HT 46 [z3 p.r,.c (.p 1 0),z3 (Ins.w ⟨3,0,0,0,1⟩)] [PU x y false,PV r true] (I 0) [PU x r false]:=by
 rw[x6,yx]
 refine kN 100 func46 jZ ntmps46 fun C hR hP=>?_
 refine vv ?_
 refine Sm.dg 110 23 zi (vv ?_)
 refine Sm.dgW [2] 120 7 zi (vv ?_)
 exact zN hR rfl yI rfl (vQ (SubS.sub ⟨oS,oS,trivial⟩)) (v5 (zD rfl)) (zG rfl)
theorem Rv (l:List Int)(hl:l.length<=1000000)(h0:l≠[]):CallOk HT 17 [.c (.sl 1 0 l.length 1)] [(1,⟨true,l.map iC,3⟩)] (.c (.sl 2 0 l.length 1)) [(2,⟨false,l.map iC,3⟩)]:=by
 have htk:List.take l.length (List.map iC l)=List.map iC l:=JJ z9
 have hon:(l.map iC).all Cv.one=true:=JD.2 fun c hc=>by obtain⟨n,_,rfl⟩:=JL.1 hc;rfl
 refine kN 100 func17 WF ntmps17 fun C hR hP=>?_
 refine vv ?_
 refine x8 rfl rfl rfl rfl rfl rfl (fun h=>absurd (JX.1 h) h0) ?_
 refine zB 100 ?_
 simp only[go_sem,htk]
 exact⟨⟨⟨z9,hon⟩,zA,zA⟩,RetQ.ren [(1,1),(2,101)] hR hP rfl ⟨rfl,trivial⟩ rfl rfl ⟨⟨rfl,rfl⟩,trivial⟩ ⟨oV (yD (zq _)),oV (yD (zq _)),trivial⟩ (zD (by simp only[JF,JG,Kw,z6 (zq _)];rfl)) (zG rfl)⟩
theorem NH (r x y:Int):CallOk HT 45 [.agg (XX r 1)] [(1,⟨true,[.v (.int .i64 x),.v (.int .i64 y)],3⟩)] (.agg (XX r 2)) [(2,⟨false,[.v (.int .i64 x),.v (.int .i64 y)],3⟩)]:=by
 have hc:=Rv [x,y] z9 z9
 refine kN 100 func45 U2 ntmps45 fun C hR hP=>?_
 refine vv ?_
 refine CallQ.ren [(1,1),(2,120)] 130 hc (zD rfl) rfl rfl ⟨oS,trivial⟩ rfl (.inl rfl) (vv ?_)
 exact RetQ.ren [(1,1),(2,120)] hR hP rfl (vv trivial) f9 rfl ⟨⟨rfl,rfl⟩,trivial⟩ ⟨oR,oR,trivial⟩ (zD rfl) (zG rfl)
theorem Vz {H:Hp}(p:Pg)(pe:EaP p)(hp:p.ok H)(x y:Int):CallX H HT 44 [z3 p.r,.agg (XX 0 1)] [(1,⟨true,[.v (.int .i64 x),.v (.int .i64 y)],3⟩)] (fun _:Unit=>Bo true) (fun _=>[]) (fun _ _=>True):=by
 have hval:=uK p hp (by rw[pe.cus];simp) (by rw[pe.mas];simp)
 rw[dv p pe]at hval
 have es:=pe.sz
 rw[x6]at hval⊢
 refine kX func44 U3 ntmps44 fun C hR hP hH hL=>?_
 have hR:=hR () C hL trivial
 refine zB 100 (vv ?_)
 refine zM 110 hval hH rfl ?_
 simp only[go_sem,es]
 exact yN hR (zD rfl)
theorem runOk_:Y2:=by
 intro H p pe hp
 have hg:=Vz p pe hp 0 0
 have e5:p.f5.length=1:=by rw[pe.f5];rfl
 have e7:p.f7.length=1:=by rw[pe.f7];rfl
 have ec:p.code.length=2:=by rw[pe.code];rfl
 have hC:=Pq p
 have hS:=Pp p
 rw[x6]at hg hC hS⊢
 simp only[ec,e5,e7]at hg hC hS⊢
 have h5:SlH H (vsl p.s5 1) 1 (zP [0]):=by have:=hp.i5;rw[pe.f5]at this;exact this
 have h7:SlH H (vsl p.s7 1) 1 (zP [0]):=by have:=hp.i7;rw[pe.f7]at this;exact this
 have hc2:SlH H (vsl p.c 2) 5 ([⟨1,0,0,0,2⟩,⟨3,0,0,0,1⟩].map Ins.w):=by have:=hp.c;rw[pe.code]at this;exact this
 refine kX func18 SR ntmps18 fun C hR hP hH hL=>?_
 have hR:=hR () C hL trivial
 refine zB 100 (vv ?_)
 refine nH 110 hg hH (zD rfl) rfl ⟨oS,trivial⟩ rfl (.inr rfl) (vv ?_)
 refine CallQ.ren [(1,1),(2,120)] 130 (NH 0 0 0) (zD rfl) rfl rfl ⟨oS,trivial⟩ rfl (.inl rfl) (vv ?_)
 refine Sm.bringI (l:=[0]) 200 3 36 (h5.mono hH) rfl rfl (zf 2 (zB 210 ?_))
 refine vv ?_
 refine Sm.dgW [120] 220 7 zi (vv ?_)
 refine Sm.bringR 201 42 53 (rows:=[⟨1,0,0,0,2⟩,⟨3,0,0,0,1⟩].map Ins.w) (hc2.mono hH) rfl rfl (zf 3 (zB 230 ?_))
 simp only[go_sem,zC,Ins.w,Ky,Kz,List.flatten_cons,List.flatten_nil,JF,JG,JK]
 refine CallQ.ren [(1,130),(2,120)] 240 (hC 0 7 0) (zD rfl) rfl rfl ⟨oS,⟨_,rfl,qh⟩,trivial⟩ rfl (.inl rfl) (vv ?_)
 refine CallQ.ren [(1,130),(2,120)] 250 (hS 2 7 0) (zD rfl) rfl rfl ⟨oS,⟨_,rfl,qh⟩,trivial⟩ rfl (.inl rfl) (vv ?_)
 refine Sm.bringI (l:=[0]) 202 3 68 (h7.mono hH) rfl rfl (zf 2 (zB 260 ?_))
 refine vv ?_
 exact RetQ.ren [(1,1),(2,2),(3,120),(4,261)] hR hP rfl (vv trivial) f9 rfl ⟨⟨rfl,rfl⟩,⟨rfl,rfl⟩,trivial⟩ ⟨oR,oR,oR,oR,trivial⟩ (zD rfl) (zG rfl)
open Go.ChangeShapes Go.WideShapes Go.ChangeAt Go.RowKit
section
variable {H:Type} {enc:TypeId×Value->H} {w:World} {base:Nat} {spare:Nat->Bool} {held:Bool}
theorem zw {k:Lc}{ks:List Lc}{r:List Value}(h:xQ enc HT w base spare held (k::ks) r):∃v vs,r=v::vs/\uP enc HT w base spare held k v/\xQ enc HT w base spare held ks vs:=by
 cases r with
 |nil=>exact h.elim
 |cons v vs=>exact⟨v,vs,rfl,h.1,h.2⟩
theorem t8 {r:List Value}(h:xQ enc HT w base spare held [] r):r=[]:=by
 cases r with
 |nil=>rfl
 |cons v vs=>exact h.elim
theorem t7 {α:Type}{f:α->List Value}{p:α->Prop}:∀{rows:List (List Value)},(∀r∈rows,∃a,r=f a/\p a)->∃l:List α,rows=l.map f/\∀a∈l,p a
 |[],_=>⟨[],rfl,z9⟩
 |r::rows,h=>by
  obtain⟨l,rfl,hl⟩:=t7 (f:=f) (p:=p) (rows:=rows) (fun x hx=>h x (I0 _ hx))
  obtain⟨a,rfl,ha⟩:=h r z9
  exact⟨a::l,rfl,fun x hx=>by rcases J3.1 hx with rfl|hx;exact ha;exact hl x hx⟩
theorem _root_.Go.Proofs.YtbnkiacicnnmkaaGreat.Vg.SlH.vsl {H:Hp}{v:Value}{sz:Nat}{rows:List (List Value)}(h:SlH H v sz rows):∃s:Sv,v=vsl s rows.length:=by
 obtain⟨l,h1,_⟩:=h
 rw[h1]
 simp only[Cv.g]
 split
 ·rename_i hh
  rw[hh.2]
  unfold Loc.emp
  split
  ·exact⟨⟨none,0⟩,rfl⟩
  ·exact⟨⟨some _,_⟩,rfl⟩
 ·exact⟨⟨some _,_⟩,rfl⟩
theorem Lm:sM HT 20 3=some [.i .i64]:=by kernel_rfl
theorem Ll:sM HT 20 26=some [.l 26]:=by kernel_rfl
theorem KQ:1<=HT.bytesOf 3:=by decide+kernel
theorem KP:1<=HT.bytesOf 26:=by decide+kernel
theorem dJ {n b:Nat}(hb:1<=b)(h:n*b<=reachBytes):n<=1000000000000000:=by
 have h1:n<=n*b:=Nat.le_mul_of_pos_right n hb
 have h2:reachBytes<=1000000000000000:=yp
 omega
theorem wF {v:Value}(h:uP enc HT w base spare held (.l 26) v):∃(s:Sv) (l:List Int),v=vsl s l.length/\SlH (mK w) (vsl s l.length) 1 (zP l)/\l.length<=1000000000000000:=by
 obtain⟨rows,h1,h2,h3⟩:=vj Tryz.underlying26 Lm LV z9 h
 obtain⟨l,rfl,_⟩:=t7 (f:=fun n:Int=>[iv n]) (p:=fun _=>True) (rows:=rows) (fun r hr=>by
  obtain⟨v,vs,rfl,⟨n,rfl,_⟩,q1⟩:=zw (h2 r hr)
  obtain rfl:=t8 q1
  exact⟨n,rfl,trivial⟩)
 obtain⟨s,rfl⟩:=h1.vsl
 have e:(l.map fun n:Int=>[iv n]).length=l.length:=Kv _
 rw[e]at h1 h3
 exact⟨s,l,by rw[e],h1,dJ KQ h3⟩
theorem Zn {v:Value}(h:uP enc HT w base spare held (.l 38) v):∃(s:Sv) (l:List (Sv×List Int)),v=vsl s l.length/\SlH (mK w) (vsl s l.length) 1 (l.map fun v=>[vsl v.1 v.2.length])/\l.length<=1000000000000000/\∀x∈l,SlH (mK w) (vsl x.1 x.2.length) 1 (zP x.2)/\x.2.length<=1000000000000000:=by
 obtain⟨rows,h1,h2,h3⟩:=vj Tryz.underlying38 Ll Wn z9 h
 obtain⟨l,rfl,hl⟩:=t7 (f:=fun v:Sv×List Int=>[vsl v.1 v.2.length]) (p:=fun x=>SlH (mK w) (vsl x.1 x.2.length) 1 (zP x.2)/\x.2.length<=1000000000000000) (rows:=rows) (fun r hr=>by
  obtain⟨v,vs,rfl,hx,q17⟩:=zw (h2 r hr)
  obtain⟨sx,xs,rfl,kx,bx⟩:=wF hx
  obtain rfl:=t8 q17
  exact⟨(sx,xs),rfl,kx,bx⟩)
 obtain⟨s,rfl⟩:=h1.vsl
 have e:(l.map fun v:Sv×List Int=>[vsl v.1 v.2.length]).length=l.length:=Kv _
 rw[e]at h1 h3
 exact⟨s,l,by rw[e],h1,dJ KP h3,hl⟩
end
open Go.ChangeShapes Go.WideShapes Go.ChangeAt Go.RowKit
section
variable {H:Type} {enc:TypeId×Value->H} {w:World} {base:Nat} {spare:Nat->Bool} {held:Bool}
theorem P8:sM HT 20 42=some [.i .i64,.i .i64,.i .i64,.i .i64,.i .i64]:=by kernel_rfl
theorem P9:sM HT 20 55=some [.i .i64,.b,.i .i64,.i .i64,.i .i64,.i .i64,.i .i64,.i .i64,.i .i64,.i .i64]:=by kernel_rfl
theorem Pa:sM HT 20 78=some [.l 26,.l 26]:=by kernel_rfl
theorem P6:sM HT 20 82=some [.l 26,.l 26,.l 38]:=by kernel_rfl
theorem P5:sM HT 20 28=some [.l 22,.l 23,.l 24,.l 25,.i .i64,.l 26,.l 26,.l 26,.l 26]:=by kernel_rfl
theorem XH {v:Value}(h:uP enc HT w base spare held (.l 22) v):∃(s:Sv) (l:List Ins),v=vsl s l.length/\SlH (mK w) (vsl s l.length) 5 (l.map Ins.w)/\∀i∈l, -9223372036854775808<=i.k/\i.k<=9223372036854775807:=by
 obtain⟨rows,h1,h2,h3⟩:=vj Tryz.underlying22 P8 Qu z9 h
 obtain⟨l,rfl,hl⟩:=t7 (f:=Ins.w) (p:=fun i=> -9223372036854775808<=i.k/\i.k<=9223372036854775807) (rows:=rows) (fun r hr=>by
  obtain⟨_,vs,rfl,⟨n0,rfl,_⟩,q4⟩:=zw (h2 r hr)
  obtain⟨_,vs,rfl,⟨n1,rfl,_⟩,q5⟩:=zw q4
  obtain⟨_,vs,rfl,⟨n2,rfl,_⟩,q6⟩:=zw q5
  obtain⟨_,vs,rfl,⟨n3,rfl,_⟩,q7⟩:=zw q6
  obtain⟨_,vs,rfl,⟨n4,rfl,hb⟩,q8⟩:=zw q7
  obtain rfl:=t8 q8
  exact⟨⟨n0,n1,n2,n3,n4⟩,rfl,hb⟩)
 obtain⟨s,rfl⟩:=h1.vsl
 have e:(l.map Ins.w).length=l.length:=Kv _
 rw[e]at h1
 exact⟨s,l,by rw[e],h1,hl⟩
theorem XI {v:Value}(h:uP enc HT w base spare held (.l 23) v):∃(s:Sv) (l:List Ft),v=vsl s l.length/\SlH (mK w) (vsl s l.length) 10 (l.map xN):=by
 obtain⟨rows,h1,h2,h3⟩:=vj Tryz.underlying23 P9 Qt z9 h
 obtain⟨l,rfl,hl⟩:=t7 (f:=xN) (p:=fun _=>True) (rows:=rows) (fun r hr=>by
  obtain⟨_,vs,rfl,⟨n0,rfl,_⟩,q4⟩:=zw (h2 r hr)
  obtain⟨_,vs,rfl,⟨n1,rfl⟩,q5⟩:=zw q4
  obtain⟨_,vs,rfl,⟨n2,rfl,_⟩,q6⟩:=zw q5
  obtain⟨_,vs,rfl,⟨n3,rfl,_⟩,q7⟩:=zw q6
  obtain⟨_,vs,rfl,⟨n4,rfl,_⟩,q8⟩:=zw q7
  obtain⟨_,vs,rfl,⟨n5,rfl,_⟩,q9⟩:=zw q8
  obtain⟨_,vs,rfl,⟨n6,rfl,_⟩,q10⟩:=zw q9
  obtain⟨_,vs,rfl,⟨n7,rfl,_⟩,q11⟩:=zw q10
  obtain⟨_,vs,rfl,⟨n8,rfl,_⟩,q12⟩:=zw q11
  obtain⟨_,vs,rfl,⟨n9,rfl,_⟩,q13⟩:=zw q12
  obtain rfl:=t8 q13
  exact⟨⟨n0,n1,n2,n3,n4,n5,n6,n7,n8,n9⟩,rfl,trivial⟩)
 obtain⟨s,rfl⟩:=h1.vsl
 have e:(l.map xN).length=l.length:=Kv _
 rw[e]at h1
 exact⟨s,l,by rw[e],h1⟩
theorem XJ {v:Value}(h:uP enc HT w base spare held (.l 24) v):∃(s:Sv) (l:List CuL),v=vsl s l.length/\SlH (mK w) (vsl s l.length) 2 (l.map pf)/\∀x∈l,x.ok (mK w):=by
 obtain⟨rows,h1,h2,h3⟩:=vj Tryz.underlying24 Pa Qs z9 h
 obtain⟨l,rfl,hl⟩:=t7 (f:=pf) (p:=fun x=>x.ok (mK w)) (rows:=rows) (fun r hr=>by
  obtain⟨_,vs,rfl,hx,q15⟩:=zw (h2 r hr)
  obtain⟨sx,xs,rfl,kx,bx⟩:=wF hx
  obtain⟨_,vs,rfl,hy,q16⟩:=zw q15
  obtain⟨sy,ys,rfl,ky,bY⟩:=wF hy
  obtain rfl:=t8 q16
  exact⟨⟨⟨[],xs,ys⟩,sx,sy⟩,rfl,⟨kx,ky⟩⟩)
 obtain⟨s,rfl⟩:=h1.vsl
 have e:(l.map pf).length=l.length:=Kv _
 rw[e]at h1
 exact⟨s,l,by rw[e],h1,hl⟩
theorem XG {v:Value}(h:uP enc HT w base spare held (.l 25) v):∃(s:Sv) (l:List MpL),v=vsl s l.length/\SlH (mK w) (vsl s l.length) 3 (l.map pK)/\∀x∈l,x.ok (mK w):=by
 obtain⟨rows,h1,h2,h3⟩:=vj Tryz.underlying25 P6 Qr z9 h
 obtain⟨l,rfl,hl⟩:=t7 (f:=pK) (p:=fun x=>x.ok (mK w)) (rows:=rows) (fun r hr=>by
  obtain⟨_,vs,rfl,hx,q19⟩:=zw (h2 r hr)
  obtain⟨sx,xs,rfl,kx,bx⟩:=wF hx
  obtain⟨_,vs,rfl,hy,q20⟩:=zw q19
  obtain⟨sy,ys,rfl,ky,bY⟩:=wF hy
  obtain⟨_,vs,rfl,hz,q21⟩:=zw q20
  obtain⟨sz,zs,rfl,kz,bz,ez⟩:=Zn hz
  obtain rfl:=t8 q21
  exact⟨⟨[],xs,ys,zs,sx,sy,sz⟩,rfl,⟨kx,ky,kz,fun v hv=>(ez v hv).1⟩⟩)
 obtain⟨s,rfl⟩:=h1.vsl
 have e:(l.map pK).length=l.length:=Kv _
 rw[e]at h1
 exact⟨s,l,by rw[e],h1,hl⟩
theorem open_pg {v:Value}{d:DataW H}{p:List MemPlace}{r:Reach}{n0:Nat}(hv:Value.okWide HT w r n0 28 v)(h:DataW.Trod enc HT w base spare held 28 v d p)(hw:∀n∈d.weights HT 28,n<=reachBytes):
  ∃D:Pg,v=(z3 D.r).g b0/\D.ok (mK w)/\∀i∈D.code, -9223372036854775808<=i.k/\i.k<=9223372036854775807:=by
 obtain⟨cs,rfl,_,_⟩:∃cs,v= .agg cs/\cs.size=HT.cellsOf 28/\Row.okWide HT w r n0 28 cs:=by
  simpa only[Value.okWide,Tryz.underlying28]using hv
 obtain⟨fuel,hf⟩:=h
 have o:=sJ 20 _ _ P5 Qw fuel _ _ hf hw
 have hcs:(Value.agg cs).cells.toList=cs.toList:=rfl
 rw[hcs]at o
 obtain⟨_,vs,e1,h0,q1⟩:=zw o
 obtain⟨s0,l0,rfl,k0,b0⟩:=XH h0
 obtain⟨_,vs,rfl,h1,q2⟩:=zw q1
 obtain⟨s1,l1,rfl,k1⟩:=XI h1
 obtain⟨_,vs,rfl,h2,q3⟩:=zw q2
 obtain⟨s2,l2,rfl,k2,c2⟩:=XJ h2
 obtain⟨_,vs,rfl,h3,q4⟩:=zw q3
 obtain⟨s3,l3,rfl,k3,c3⟩:=XG h3
 obtain⟨_,vs,rfl,⟨sz,rfl,_⟩,q5⟩:=zw q4
 obtain⟨_,vs,rfl,h5,q6⟩:=zw q5
 obtain⟨s5,l5,rfl,k5,_⟩:=wF h5
 obtain⟨_,vs,rfl,h6,q7⟩:=zw q6
 obtain⟨s6,l6,rfl,k6,_⟩:=wF h6
 obtain⟨_,vs,rfl,h7,q8⟩:=zw q7
 obtain⟨s7,l7,rfl,k7,_⟩:=wF h7
 obtain⟨_,vs,rfl,h8,q9⟩:=zw q8
 obtain⟨s8,l8,rfl,k8,_⟩:=wF h8
 obtain rfl:=t8 q9
 refine⟨⟨l0,l1,l2,l3,sz,l5,l6,l7,l8,s0,s1,s2,s3,s5,s6,s7,s8⟩,?_,⟨k0,k1,k2,k3,c2,c3,k5,k6,k7,k8⟩,b0⟩
 rw[<-Array.toArray_toList (xs:=cs),e1]
 rfl
end
open Go.ChangeShapes Go.WideShapes Go.ChangeAt Go.RowKit
section
variable {H:Type} {enc:TypeId×Value->H} {w:World} {base:Nat} {spare:Nat->Bool} {held:Bool}
theorem P7:sM HT 20 26=some [.l 26]:=by kernel_rfl
theorem P4:sM HT 20 38=some [.l 38]:=by kernel_rfl
theorem open_is {v:Value}{d:DataW H}{p:List MemPlace}{r:Reach}{n0:Nat}(hv:Value.okWide HT w r n0 26 v)(h:DataW.Trod enc HT w base spare held 26 v d p)(hw:∀n∈d.weights HT 26,n<=reachBytes):
  ∃(s:Sv) (l:List Int),v=(V.c (.v (vsl s l.length))).g b0/\SlH (mK w) (vsl s l.length) 1 (zP l):=by
 obtain⟨fuel,hf⟩:=h
 have o:=sJ 20 _ _ P7 Wn fuel _ _ hf hw
 have hcs:v.cells.toList=[v]:=by
  obtain⟨a,n,c,rfl,_⟩:=okWide_slice Tryz.underlying26 hv
  rfl
 rw[hcs]at o
 obtain⟨_,vs,e1,h0,q1⟩:=zw o
 obtain⟨s,l,rfl,k,_⟩:=wF h0
 injection e1 with e1 e2
 exact⟨s,l,e1,k⟩
theorem open_zs {v:Value}{d:DataW H}{p:List MemPlace}{r:Reach}{n0:Nat}(hv:Value.okWide HT w r n0 38 v)(h:DataW.Trod enc HT w base spare held 38 v d p)(hw:∀n∈d.weights HT 38,n<=reachBytes):
  ∃(s:Sv) (l:List (Sv×List Int)),v=(V.c (.v (vsl s l.length))).g b0/\SlH (mK w) (vsl s l.length) 1 (l.map zR)/\∀x∈l,SlH (mK w) (vsl x.1 x.2.length) 1 (zP x.2):=by
 obtain⟨fuel,hf⟩:=h
 have o:=sJ 20 _ _ P4 Qv fuel _ _ hf hw
 have hcs:v.cells.toList=[v]:=by
  obtain⟨a,n,c,rfl,_⟩:=okWide_slice Tryz.underlying38 hv
  rfl
 rw[hcs]at o
 obtain⟨_,vs,e1,h0,q1⟩:=zw o
 obtain⟨s,l,rfl,k,_,hl⟩:=Zn h0
 injection e1 with e1 e2
 exact⟨s,l,e1,k,fun x hx=>(hl x hx).1⟩
end
end Go.Proofs.YtbnkiacicnnmkaaGreat.Fx
namespace Go.Proofs.YtbnkiacicnnmkaaGreat
open Go.ChangeShapes Go.WideShapes Go.ChangeAt Go.RowKit
open Vg Tf
theorem own:ownKnob HT.godebug=none:=by kernel_rfl
theorem aS:laidOutB HT=true:=by kernel_rfl
theorem Ly:mapsRowed Tryz.pinned.checked.prog=true:=by kernel_rfl
theorem qT:laidOutB Tryz.pinned.checked.prog=true:=by kernel_rfl
theorem Lw:Tryz.pinned.checked.prog.stopsHeard=true:=by kernel_rfl
theorem Lz:Tryz.pinned.checked.prog.mayEnter=true:=by kernel_rfl
end Go.Proofs.YtbnkiacicnnmkaaGreat
