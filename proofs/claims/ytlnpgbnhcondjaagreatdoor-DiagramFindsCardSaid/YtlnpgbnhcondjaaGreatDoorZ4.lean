/-  -/
import Derived.Test.YtlnpgbnhcondjaaGreatDoorPS
import Derived.Test.YtlnpgbnhcondjaaGreatDoorZ2
import Derived.Test.YtlnpgbnhcondjaaGreatDoorSC
namespace Go.Proofs.YtlnpgbnhcondjaaGreatDoor.Fx
open Vg Tf
set_option linter.unusedSimpArgs false
set_option linter.unusedVariables false
set_option maxRecDepth 100000
set_option maxHeartbeats 4000000
theorem rfind_ {H:Hp}(d:DgL)(o:d.ok H)(s:Str)(h1:d.ins.length≤1000000000000000)(h2:d.bls.length≤1000000000000000):CallH H Tryz.prog 33 [rowV d.r,S s] (I (fndQ (sigs d.c) s)):=by
 have hsl:=sigs_len d
 have z4:=rows_len (r:=Po.r) (k:=4) (fun _=>rfl) d.ins
 have z5:=rows_len (r:=BlL.r) (k:=6) (fun _=>rfl) d.bls
 have n4:(d.ins.map Po.r).length=d.ins.length:=List.length_map _
 have n5:(d.bls.map BlL.r).length=d.bls.length:=List.length_map _
 refine CallH.mkS Tryz.func33 rfl en33 (by simp[Tryz.ntmps33]) (ClA.of rfl) fun C hR hP hH hL=>?_
 refine Sm.go 100 ?_
 refine vv ?_
 refine Sm.bringC 4 118 100 4 (o.i.mono hH) rfl rfl rfl ?_
 refine Sm.bringC 5 82 100 5 (o.bl.mono hH) rfl rfl rfl ?_
 rw[n4,n5]
 refine Sm.loopM (M0:=[]) (α:={i:Nat//i≤d.ins.length∧idxS s (sigs d.c) 0=idxS s ((sigs d.c).drop i) i}) hP (fun i=>[(1,true,S s),(2,true,.c (.p 2 0)),(5,true,I i.val)]) (fun _=>(2,⟨false,dvs d,30⟩)::dmm d) (fun i=>d.ins.length-i.val) ⟨0,by omega,rfl⟩ (fun _=>ClM.of (by simp only[List.all_cons,inMV (rowsC_isV _)];rfl)) (fun _=>ClE.of rfl) [(2,100),(4,4),(5,5)] ?_ ?_
 ·exact⟨rfl,trivial,⟨rfl,rfl,rfl,trivial⟩,⟨.inr ⟨_,rfl,.inl rfl⟩,.inr ⟨_,rfl,.inl (renV (rowsC_isV _))⟩,.inr ⟨_,rfl,.inl (renV (rowsC_isV _))⟩,trivial⟩⟩
 rintro⟨i,hi,hx⟩ J hj
 simp only at hj hi hx⊢
 refine Sm.go 120 ?_
 refine vv ?_
 refine mtch (fun hc=>?_) (fun hc=>?_)
 ·have hc:=lt_of_dec hc
  rw[idxS_step s _ i (by omega),sgs_in2 d hc]at hx
  have f0:=rows_one (r:=Po.r) (k:=4) (fun _=>rfl) d.ins i 0 hc (by omega)
  rw[Nat.add_zero]at f0
  generalize d.ins[i]=x at*
  simp(maxSteps:=2000000) only[go_sem,f0,Po.r,List.getElem?_cons_zero,Option.map_some]
  refine⟨⟨by omega,by omega⟩,?_⟩
  refine mtch (fun hd=>?_) (fun hd=>?_)
  ·rw[if_pos (eq_of_beq hd)]at hx
   refine RetQ.int (hR C hL) rfl ⟨rfl,trivial⟩ ?_
   unfold fndQ;rw[hx]
  ·rw[if_neg (fun h=>by rw[h]at hd;simp at hd)]at hx
   simp(maxSteps:=2000000) only[go_sem,wS (show i≤1000000000000000000 by omega)]
   exact hj _ _ ⟨i+1,hc,hx⟩ [(2,2),(4,4),(5,5)] (by simp only;omega) ⟨rfl,trivial,⟨rfl,rfl,rfl,trivial⟩,⟨.inr ⟨_,rfl,.inl rfl⟩,.inr ⟨_,rfl,.inl (renV (rowsC_isV _))⟩,.inr ⟨_,rfl,.inl (renV (rowsC_isV _))⟩,trivial⟩⟩
 have hc:=eq_of_dec hi hc
 subst hc
 refine vv ?_
 refine Sm.loopM (M0:=[]) (α:={i:Nat//i≤d.bls.length∧idxS s (sigs d.c) 0=idxS s ((sigs d.c).drop (d.ins.length+i)) (d.ins.length+i)}) hP (fun i=>[(1,true,S s),(2,true,.c (.p 2 0)),(6,true,I i.val)]) (fun _=>(2,⟨false,dvs d,30⟩)::dmm d) (fun i=>d.bls.length-i.val) ⟨0,by omega,hx⟩ (fun _=>ClM.of (by simp only[List.all_cons,inMV (rowsC_isV _)];rfl)) (fun _=>ClE.of rfl) [(2,2),(4,4),(5,5)] ?_ ?_
 ·exact⟨rfl,trivial,⟨rfl,rfl,rfl,trivial⟩,⟨.inr ⟨_,rfl,.inl rfl⟩,.inr ⟨_,rfl,.inl (renV (rowsC_isV _))⟩,.inr ⟨_,rfl,.inl (renV (rowsC_isV _))⟩,trivial⟩⟩
 rintro⟨i,hi,hx⟩ J hj
 simp only at hj hi hx⊢
 refine Sm.go 120 ?_
 refine vv ?_
 refine mtch (fun hc=>?_) (fun hc=>?_)
 ·have hc:=lt_of_dec hc
  rw[idxS_step s _ _ (by omega),sgs_bl2 d hc]at hx
  have f0:=rows_one (r:=BlL.r) (k:=6) (fun _=>rfl) d.bls i 0 hc (by omega)
  rw[Nat.add_zero]at f0
  generalize d.bls[i]=x at*
  have ew:IntKind.i64.wrap ((d.ins.length:Int)+(i:Int))=((d.ins.length+i:Nat):Int):=by rw[w64 (by omega) (by omega)];omega
  simp(maxSteps:=2000000) only[go_sem,f0,BlL.r,List.getElem?_cons_zero,Option.map_some,ew]
  refine⟨⟨by omega,by omega⟩,?_⟩
  refine mtch (fun hd=>?_) (fun hd=>?_)
  ·rw[if_pos (eq_of_beq hd)]at hx
   refine RetQ.int (hR C hL) rfl ⟨rfl,trivial⟩ ?_
   unfold fndQ;rw[hx]
  ·rw[if_neg (fun h=>by rw[h]at hd;simp at hd)]at hx
   simp(maxSteps:=2000000) only[go_sem,wS (show i≤1000000000000000000 by omega)]
   exact hj _ _ ⟨i+1,hc,hx⟩ [(2,2),(4,4),(5,5)] (by simp only;omega) ⟨rfl,trivial,⟨rfl,rfl,rfl,trivial⟩,⟨.inr ⟨_,rfl,.inl rfl⟩,.inr ⟨_,rfl,.inl (renV (rowsC_isV _))⟩,.inr ⟨_,rfl,.inl (renV (rowsC_isV _))⟩,trivial⟩⟩
 have hc:=eq_of_dec hi hc
 subst hc
 rw[List.drop_eq_nil_of_le (by omega)]at hx
 refine vv ?_
 refine RetQ.int (hR C hL) rfl ⟨rfl,trivial⟩ ?_
 unfold fndQ;rw[hx];rfl
theorem lenR {α:Type}(f:α→List Value)(k:Nat)(l:List α)(h:∀a,(f a).length=k):∀r∈l.map f,r.length=k:=fun r hr=>by obtain⟨a,_,rfl⟩:=List.mem_map.1 hr;exact h a
structure ZL where
 s:Sv
 z:List Zv
def ZL.c (x:ZL):List (List Int):=x.z.map (·.2)
structure ZL.ok (H:Hp) (x:ZL):Prop where
 o:SlH H (vsl x.s x.z.length) 1 (x.z.map zR)
 e:∀v∈x.z,SlH H (vsl v.1 v.2.length) 1 (intsR v.2)
theorem ZL.ok.mono {H H':Hp}(h:H.le H'){x:ZL}(k:x.ok H):x.ok H':=⟨k.o.mono h,fun v hv=>(k.e v hv).mono h⟩
def usQ (d:Dg):List (List Int):=bif dgOk d then useQ d else[]
theorem cl_u {d:DgL}(z:List Zv)(l:List Int)(ss:List Str):ClM [(1,⟨false,d.r.map Cv.v,30⟩),(5,⟨true,rowsC (d.bls.map BlL.r),82⟩),(150,⟨false,rowsC (z.map zR),73⟩),(160,⟨false,l.map iC,3⟩),(20,⟨true,ss.map sC,9⟩)]:=ClM.of (by simp only[List.all_cons,inMV (rowsC_isV _),inMV (v_sC _),inMV (v_iC _)];rfl)
theorem uses_ {H:Hp}(d:DgL)(o:d.ok H)(hs:d.sm):CallX H Tryz.prog 34 [rowV d.r] [] (fun x:ZL=> .c (.v (vsl x.s x.z.length))) (fun _=>[]) (fun x H'=>x.c=usQ d.c∧x.ok H'):=by
 have n5:(d.bls.map BlL.r).length=d.bls.length:=List.length_map _
 have z5:=rows_len (r:=BlL.r) (k:=6) (fun _=>rfl) d.bls
 have hbl:=hs.bls.1
 have hil:=hs.ins.1
 refine CallX.mkS Tryz.func34 rfl en34 (by simp[Tryz.ntmps34]) (ClA.of rfl) (fun _=>rfl) (fun _=>rfl) fun C hR hP hH hL=>?_
 refine Sm.go 100 ?_
 refine vv ?_
 refine CallQ.h 110 (dvalid d o hs) hH rfl ?_
 refine vv ?_
 refine mtch (fun hv=>?_) (fun hv=>?_)
 ·have hq:usQ d.c=[]:=by unfold usQ;have:dgOk d.c=false:=by simpa using hv
                         rw[this];rfl
  rw[hq]at hR
  exact RetQ.of (hR ⟨⟨none,0⟩,[]⟩ C hL ⟨rfl,⟨SlH.nil 1,(fun v h=>by cases h)⟩⟩) rfl ⟨rfl,trivial⟩ rfl (Sub.nil _) ClM.nil (ClV.of rfl)
 have hv2:dgOk d.c=true:=by simpa using hv
 have hq:usQ d.c=d.bls.map fun b=>b.c.ins.map (fndQ (sigs d.c)):=by
  unfold usQ;rw[hv2]
  show(d.bls.map BlL.c).map _=_
  rw[List.map_map];rfl
 rw[hq]at hR
 have hB:=dgB hv2
 have hB5:=hB.bls
 refine Sm.bringR 5 82 13 (o.bl.mono hH) rfl rfl ?_
 rw[n5]
 refine Sm.nils 150 1 73 [3] [] rfl ?_
 refine Sm.loopX (C:=C) (Ck:=C) (M0:=[]) (α:={z:List Zv//z.length≤d.bls.length∧z.map (·.2)=(d.bls.take z.length).map (fun b=>b.c.ins.map (fndQ (sigs d.c)))}) hL hP (fun z=>[(1,true,.c (.p 1 0)),(3,true,.c (.sl 150 0 z.val.length 1)),(13,true,.c (.sl 5 0 d.bls.length 6)),(14,true,I d.bls.length),(15,true,I z.val.length)])
  (fun z=>[(1,⟨false,d.r.map Cv.v,30⟩),(5,⟨true,rowsC (d.bls.map BlL.r),82⟩),(150,⟨false,rowsC (z.val.map zR),73⟩)])
  (fun z hp=>H.le hp∧∀v∈z.val,SlH hp (vsl v.1 v.2.length) 1 (intsR v.2)) (fun z=>d.bls.length-z.val.length) ⟨[],by simp,by simp⟩ ⟨hH,by simp⟩ (fun z=>ClM.of (by simp only[List.all_cons,inMV (rowsC_isV _)];rfl)) (fun _=>ClE.of rfl) [(1,100),(5,5),(150,150)] ⟨rfl,trivial,⟨rfl,rfl,rfl,rfl,rfl,trivial⟩,⟨.inr ⟨_,rfl,.inl rfl⟩,.inr ⟨_,rfl,.inl (renV (rowsC_isV _))⟩,.inr ⟨_,rfl,.inl rfl⟩,trivial⟩⟩ ?_
 rintro⟨z,hzl,hzc⟩ C1 J l1 ⟨h1,hz⟩ hj
 simp only at hj hzl hzc hz⊢
 refine Sm.go 170 ?_
 refine vv ?_
 refine mtch (fun hc=>?_) (fun hc=>?_)
 ·have hc:=lt_of_dec hc
  have htk:=rows_take (r:=BlL.r) (k:=6) (fun _=>rfl) d.bls z.length hc
  have hbo:=o.bls _ (List.getElem_mem hc)
  have hbs:=blO_in (hB.blO _ (List.getElem_mem hc))
  have htc:d.bls.take (z.length+1)=d.bls.take z.length++[d.bls[z.length]]:=List.take_succ_eq_append_getElem hc
  simp only[htk,z5]
  generalize d.bls[z.length]=b at*
  simp(maxSteps:=2000000) only[go_sem,BlL.r]
  refine⟨⟨by omega,by omega⟩,by omega,?_⟩
  refine Sm.bringS 20 9 20 (hbo.i.mono h1) rfl rfl ?_
  refine Sm.nils 160 1 3 [6] [] rfl ?_
  refine Sm.loopM (M0:=[]) (α:={k:Nat//k≤b.c.ins.length}) (l1.pins hP) (fun k=>[(1,true,.c (.p 1 0)),(3,true,.c (.sl 150 0 z.length 1)),(6,true,.c (.sl 160 0 k.val 1)),(13,true,.c (.sl 5 0 d.bls.length 6)),(14,true,I d.bls.length),(15,true,I z.length),(20,true,.c (.sl 20 0 b.c.ins.length 1)),(21,true,I b.c.ins.length),(22,true,I k.val)])
   (fun k=>[(1,⟨false,d.r.map Cv.v,30⟩),(5,⟨true,rowsC (d.bls.map BlL.r),82⟩),(150,⟨false,rowsC (z.map zR),73⟩),(160,⟨false,((b.c.ins.take k.val).map (fndQ (sigs d.c))).map iC,3⟩),(20,⟨true,b.c.ins.map sC,9⟩)])
   (fun k=>b.c.ins.length-k.val) ⟨0,Nat.zero_le _⟩ (fun k=>cl_u z _ _) (fun _=>ClE.of rfl) [(1,1),(5,5),(150,150),(160,160),(20,20)] ?_ ?_
  ·exact⟨rfl,trivial,⟨rfl,rfl,rfl,rfl,rfl,rfl,rfl,rfl,rfl,trivial⟩,⟨.inr ⟨_,rfl,.inl rfl⟩,.inr ⟨_,rfl,.inl (renV (rowsC_isV _))⟩,.inr ⟨_,rfl,.inl (renV (rowsC_isV _))⟩,.inr ⟨_,rfl,.inl rfl⟩,.inr ⟨_,rfl,.inl (renV (v_sC _))⟩,trivial⟩⟩
  rintro⟨k,hk⟩ J2 hj2
  simp only at hj2 hk⊢
  refine Sm.go 180 ?_
  refine vv ?_
  refine mtch (fun hc2=>?_) (fun hc2=>?_)
  ·have hc2:=lt_of_dec hc2
   have hln:((b.c.ins.take k).map (fndQ (sigs d.c))).length=k:=by rw[List.length_map,List.length_take];omega
   have hst:((b.c.ins.take (k+1)).map (fndQ (sigs d.c))).map iC=((b.c.ins.take k).map (fndQ (sigs d.c))).map iC++[iC (fndQ (sigs d.c) b.c.ins[k])]:=by rw[List.take_succ_eq_append_getElem hc2,List.map_append,List.map_append];rfl
   simp(maxSteps:=2000000) only[go_sem,get_sC hc2]
   refine⟨⟨by omega,by omega⟩,?_⟩
   have hpf:=pfind_ d o b.c.ins[k] hil hbl
   have hpf:CallH H Tryz.prog 32 [.agg (d.r.map Cv.v),S b.c.ins[k]] (I (fndQ (sigs d.c) b.c.ins[k])):=hpf
   refine CallQ.h 190 hpf h1 rfl ?_
   refine vv ?_
   have hln2:(((b.c.ins.take k).map (fndQ (sigs d.c))).map iC).length=k:=by rw[List.length_map];exact hln
   refine⟨⟨by omega,by omega,by omega⟩,?_⟩
   rw[List.take_of_length_le (by omega),←hst]
   refine Sm.go 200 ?_
   simp(maxSteps:=2000000) only[go_sem,wS (show k≤1000000000000000000 by omega)]
   exact hj2 _ _ ⟨k+1,hc2⟩ [(1,1),(5,5),(150,150),(160,191),(20,20)] (by simp only;omega) ⟨rfl,trivial,⟨rfl,rfl,rfl,rfl,rfl,rfl,rfl,rfl,rfl,trivial⟩,⟨.inr ⟨_,rfl,.inl rfl⟩,.inr ⟨_,rfl,.inl (renV (rowsC_isV _))⟩,.inr ⟨_,rfl,.inl (renV (rowsC_isV _))⟩,.inr ⟨_,rfl,.inl (renV (v_iC _))⟩,.inr ⟨_,rfl,.inl (renV (v_sC _))⟩,trivial⟩⟩
  have hc2:=eq_of_dec hk hc2
  subst hc2
  clear hj2
  rw[List.take_length]
  have hln3:(b.c.ins.map (fndQ (sigs d.c))).length=b.c.ins.length:=List.length_map _
  have hzn:=rows_len (r:=zR) (k:=1) (fun _=>rfl) z
  rw[Nat.mul_one]at hzn
  simp(maxSteps:=2000000) only[go_sem,hzn]
  refine⟨⟨by omega,by omega,by omega⟩,?_⟩
  rw[List.take_of_length_le (by omega)]
  have kA:(rowsC (z.map zR)++[Cv.sl 160 0 b.c.ins.length 1]).all (Cv.cok [160])=true:=by rw[List.all_append,cokV (rowsC_isV _)];rfl
  refine Sm.letgo (M0:=[]) [160] l1 hP rfl (by unfold concOk;simp only[List.all_cons,kA,cokV (rowsC_isV _),cokV (v_sC _),cokV (v_iC _)];rfl) (fun β C2 l2 k2 kn=>?_)
  obtain⟨sz,hvz,hkz⟩:=(kn 160 _ rfl rfl rfl).vslx (sz:=1) (rows:=intsR (b.c.ins.map (fndQ (sigs d.c)))) (lenR (fun n:Int=>[iv n]) 1 _ fun _=>rfl) (intsC _).symm
  have ez:(intsR (b.c.ins.map (fndQ (sigs d.c)))).length=b.c.ins.length:=by simp[intsR]
  rw[ez]at hvz hkz
  simp only[Mem.conc,Env.conc,Bk.conc,Cv.conc,V.conc,List.map_cons,List.map_nil,List.map_append,List.contains_cons,List.contains_nil,Nat.reduceBEq,Bool.or_false,Bool.or_true,cond_true,cond_false,concV (rowsC_isV _),hvz]
  have hset:rowsC (z.map zR)++[.v (vsl sz b.c.ins.length)]=rowsC ((z++[((sz,b.c.ins.map (fndQ (sigs d.c))):Zv)]).map zR):=by
   simp[rowsC,zR]
  rw[hset]
  refine Sm.go 210 ?_
  simp(maxSteps:=2000000) only[go_sem,wS (show z.length≤1000000000000000000 by omega)]
  have hkz:SlH C2.hp (vsl sz (b.c.ins.map (fndQ (sigs d.c))).length) 1 (intsR (b.c.ins.map (fndQ (sigs d.c)))):=by rw[hln3];exact hkz
  refine hj _ _ C2 ⟨z++[((sz,b.c.ins.map (fndQ (sigs d.c))):Zv)],by simp;omega,by simp only[List.map_append,List.map_cons,List.map_nil,List.length_append,List.length_cons,List.length_nil,Nat.zero_add];rw[htc,List.map_append,hzc];rfl⟩ [(1,1),(5,5),(150,181)] l2 ⟨h1.trans k2,fun v hv=>?_⟩ (by simp only[List.length_append,List.length_cons,List.length_nil];omega) ?_
  ·rcases List.mem_append.1 hv with hv|hv
   ·exact(hz v hv).mono k2
   ·obtain rfl:=List.mem_singleton.1 hv
    exact hkz
  ·simp only[List.length_append,List.length_cons,List.length_nil,Nat.zero_add]
   exact⟨rfl,trivial,⟨rfl,rfl,rfl,rfl,rfl,trivial⟩,⟨.inr ⟨_,rfl,.inl rfl⟩,.inr ⟨_,rfl,.inl (renV (rowsC_isV _))⟩,.inr ⟨_,rfl,.inl (renV (rowsC_isV _))⟩,trivial⟩⟩
 have hc:=eq_of_dec hzl hc
 clear hj
 refine RetQ.letgo (M0:=[]) [150] l1 hP rfl (by unfold concOk;simp only[List.all_cons,cokV (rowsC_isV _)];rfl) (fun β C2 l2 k2 kn=>?_)
 obtain⟨sz,hvz,hkz⟩:=(kn 150 _ rfl rfl rfl).vslx (sz:=1) (rows:=z.map zR) (lenR zR 1 _ fun _=>rfl) rfl
 have ez:(z.map zR).length=z.length:=List.length_map _
 rw[ez]at hvz hkz
 simp only[Mem.conc,Env.conc,Bk.conc,Cv.conc,V.conc,List.map_cons,List.map_nil,List.contains_cons,List.contains_nil,Nat.reduceBEq,Bool.or_false,Bool.or_true,cond_true,cond_false,concV (rowsC_isV _),hvz]
 rw[hc,List.take_length]at hzc
 exact RetQ.of (hR ⟨sz,z⟩ C2 l2 ⟨hzc,hkz,fun v hv=>(hz v hv).mono k2⟩) rfl ⟨rfl,trivial⟩ rfl (Sub.nil _) ClM.nil (ClV.of rfl)
theorem cl_ru {d:DgL}(z:List Zv)(l:List Int):ClM ((1,⟨false,dvs d,30⟩)::(150,⟨false,rowsC (z.map zR),73⟩)::(160,⟨false,l.map iC,3⟩)::dmm d):=ClM.of (by simp only[List.all_cons,inMV (rowsC_isV _),inMV (v_iC _)];rfl)
theorem ruses_ {H:Hp}(d:DgL)(o:d.ok H)(hv2:dgOk d.c=true):CallX H Tryz.prog 37 [rowV d.r] [] (fun x:ZL=> .c (.v (vsl x.s x.z.length))) (fun _=>[]) (fun x H'=>x.c=usQ d.c∧x.ok H'):=by
 have n4:(d.ins.map Po.r).length=d.ins.length:=List.length_map _
 have n5:(d.bls.map BlL.r).length=d.bls.length:=List.length_map _
 have z5:=rows_len (r:=BlL.r) (k:=6) (fun _=>rfl) d.bls
 have hB:=dgB hv2
 have hB4:=hB.ins
 have hB5:=hB.bls
 have hq:usQ d.c=d.bls.map fun b=>b.c.ins.map (fndQ (sigs d.c)):=by
  unfold usQ;rw[hv2]
  show(d.bls.map BlL.c).map _=_
  rw[List.map_map];rfl
 rw[hq]
 refine CallX.mkS Tryz.func37 rfl en37 (by simp[Tryz.ntmps37]) (ClA.of rfl) (fun _=>rfl) (fun _=>rfl) fun C hR hP hH hL=>?_
 refine Sm.go 100 ?_
 refine vv ?_
 refine Sm.bringC 4 118 100 4 (o.i.mono hH) rfl rfl rfl ?_
 refine Sm.bringC 5 82 100 5 (o.bl.mono hH) rfl rfl rfl ?_
 rw[n4,n5]
 refine Sm.nils 150 1 73 [3] [] rfl ?_
 refine Sm.loopX (C:=C) (Ck:=C) (M0:=[]) (α:={z:List Zv//z.length≤d.bls.length∧z.map (·.2)=(d.bls.take z.length).map (fun b=>b.c.ins.map (fndQ (sigs d.c)))}) hL hP (fun z=>[(1,true,.c (.p 1 0)),(3,true,.c (.sl 150 0 z.val.length 1)),(4,true,I z.val.length)])
  (fun z=>(1,⟨false,dvs d,30⟩)::(150,⟨false,rowsC (z.val.map zR),73⟩)::dmm d)
  (fun z hp=>H.le hp∧∀v∈z.val,SlH hp (vsl v.1 v.2.length) 1 (intsR v.2)) (fun z=>d.bls.length-z.val.length) ⟨[],by simp,by simp⟩ ⟨hH,by simp⟩ (fun z=>ClM.of (by simp only[List.all_cons,inMV (rowsC_isV _)];rfl)) (fun _=>ClE.of rfl) [(1,100),(4,4),(5,5),(150,150)] ⟨rfl,trivial,⟨rfl,rfl,rfl,trivial⟩,⟨.inr ⟨_,rfl,.inl rfl⟩,.inr ⟨_,rfl,.inl rfl⟩,.inr ⟨_,rfl,.inl (renV (rowsC_isV _))⟩,.inr ⟨_,rfl,.inl (renV (rowsC_isV _))⟩,trivial⟩⟩ ?_
 rintro⟨z,hzl,hzc⟩ C1 J l1 ⟨h1,hz⟩ hj
 simp only at hj hzl hzc hz⊢
 refine Sm.go 170 ?_
 refine vv ?_
 refine mtch (fun hc=>?_) (fun hc=>?_)
 ·have hc:=lt_of_dec hc
  have f3:=rows_one (r:=BlL.r) (k:=6) (fun _=>rfl) d.bls z.length 3 hc (by omega)
  have hbo:=o.bls _ (List.getElem_mem hc)
  have hbs:=blO_in (hB.blO _ (List.getElem_mem hc))
  have htc:d.bls.take (z.length+1)=d.bls.take z.length++[d.bls[z.length]]:=List.take_succ_eq_append_getElem hc
  generalize d.bls[z.length]=b at*
  refine Sm.nils 160 1 3 [5] [] rfl ?_
  refine Sm.loopM (M0:=[]) (α:={k:Nat//k≤b.c.ins.length}) (l1.pins hP) (fun k=>[(1,true,.c (.p 1 0)),(3,true,.c (.sl 150 0 z.length 1)),(4,true,I z.length),(5,true,.c (.sl 160 0 k.val 1)),(6,true,I k.val)])
   (fun k=>(1,⟨false,dvs d,30⟩)::(150,⟨false,rowsC (z.map zR),73⟩)::(160,⟨false,((b.c.ins.take k.val).map (fndQ (sigs d.c))).map iC,3⟩)::dmm d)
   (fun k=>b.c.ins.length-k.val) ⟨0,Nat.zero_le _⟩ (fun k=>cl_ru z _) (fun _=>ClE.of rfl) [(1,1),(4,4),(5,5),(150,150),(160,160)] ?_ ?_
  ·exact⟨rfl,trivial,⟨rfl,rfl,rfl,rfl,rfl,trivial⟩,⟨.inr ⟨_,rfl,.inl rfl⟩,.inr ⟨_,rfl,.inl (renV (rowsC_isV _))⟩,.inr ⟨_,rfl,.inl rfl⟩,.inr ⟨_,rfl,.inl (renV (rowsC_isV _))⟩,.inr ⟨_,rfl,.inl (renV (rowsC_isV _))⟩,trivial⟩⟩
  rintro⟨k,hk⟩ J2 hj2
  simp only at hj2 hk⊢
  refine Sm.go 180 ?_
  simp(maxSteps:=2000000) only[go_sem,f3,BlL.r,List.getElem?_cons_zero,List.getElem?_cons_succ,Option.map_some]
  refine⟨⟨by omega,by omega⟩,?_⟩
  refine mtch (fun hc2=>?_) (fun hc2=>?_)
  ·have hc2:=lt_of_dec hc2
   have hln:((b.c.ins.take k).map (fndQ (sigs d.c))).length=k:=by rw[List.length_map,List.length_take];omega
   have hln2:(((b.c.ins.take k).map (fndQ (sigs d.c))).map iC).length=k:=by rw[List.length_map];exact hln
   have hst:((b.c.ins.take (k+1)).map (fndQ (sigs d.c))).map iC=((b.c.ins.take k).map (fndQ (sigs d.c))).map iC++[iC (fndQ (sigs d.c) b.c.ins[k])]:=by rw[List.take_succ_eq_append_getElem hc2,List.map_append,List.map_append];rfl
   obtain⟨bi,oi,ci',hi1,csi,eli,mki,hci,hcci⟩:=(hbo.i.mono h1).at (by
    intro h0
    have:=congrArg List.length h0
    rw[strs_fl,List.length_map]at this
    simp at this;rw[this]at hc2;simp at hc2)
   have hio:b.i.o=some ⟨bi,oi,none⟩:=by injection hi1
   have hx0:csi[oi+k]?=some (sv b.c.ins[k]):=hcci k _ (by rw[strs_fl];simp[hc2])
   have hfd:=find_ d b.c.ins[k] (by omega) (by omega)
   refine Sm.dg 190 13 mix ?_
   simp(maxSteps:=2000000) only[go_sem,f3,BlL.r,List.getElem?_cons_zero,List.getElem?_cons_succ,Option.map_some,hio]
   refine⟨⟨by omega,by omega⟩,?_⟩
   refine DOpQ.own 190 (Stp.idxV rfl rfl rfl sl28 (by omega) (by omega)) ?_
   refine vv ?_
   refine DOpQ.ownC 190 (fun _=>StpC.ldH hci hx0 rfl rfl rfl) ?_
   refine vv ?_
   refine DCallQ.ren [(4,4),(5,5)] 200 hfd (dmm_cl d) rfl rfl ⟨⟨_,rfl,.inl (renV (rowsC_isV _))⟩,⟨_,rfl,.inl (renV (rowsC_isV _))⟩,trivial⟩ rfl (.inr rfl) rfl rfl ?_
   refine vv ?_
   refine⟨⟨by omega,by omega,by omega⟩,?_⟩
   rw[List.take_of_length_le (by omega),←hst]
   refine Sm.go 220 ?_
   simp(maxSteps:=2000000) only[go_sem,wS (show k≤1000000000000000000 by omega)]
   exact hj2 _ _ ⟨k+1,hc2⟩ [(1,1),(4,4),(5,5),(150,150),(160,201)] (by simp only;omega) ⟨rfl,trivial,⟨rfl,rfl,rfl,rfl,rfl,trivial⟩,⟨.inr ⟨_,rfl,.inl rfl⟩,.inr ⟨_,rfl,.inl (renV (rowsC_isV _))⟩,.inr ⟨_,rfl,.inl (renV (v_iC _))⟩,.inr ⟨_,rfl,.inl (renV (rowsC_isV _))⟩,.inr ⟨_,rfl,.inl (renV (rowsC_isV _))⟩,trivial⟩⟩
  have hc2:=eq_of_dec hk hc2
  subst hc2
  clear hj2
  rw[List.take_length]
  have hln3:(b.c.ins.map (fndQ (sigs d.c))).length=b.c.ins.length:=List.length_map _
  have hzn:=rows_len (r:=zR) (k:=1) (fun _=>rfl) z
  rw[Nat.mul_one]at hzn
  simp(maxSteps:=2000000) only[go_sem,hzn]
  refine⟨⟨by omega,by omega,by omega⟩,?_⟩
  rw[List.take_of_length_le (by omega)]
  have kA:(rowsC (z.map zR)++[Cv.sl 160 0 b.c.ins.length 1]).all (Cv.cok [160])=true:=by rw[List.all_append,cokV (rowsC_isV _)];rfl
  refine Sm.letgo (M0:=[]) [160] l1 hP rfl (by unfold concOk;simp only[List.all_cons,kA,cokV (rowsC_isV _),cokV (v_sC _),cokV (v_iC _)];rfl) (fun β C2 l2 k2 kn=>?_)
  obtain⟨sz,hvz,hkz⟩:=(kn 160 _ rfl rfl rfl).vslx (sz:=1) (rows:=intsR (b.c.ins.map (fndQ (sigs d.c)))) (lenR (fun n:Int=>[iv n]) 1 _ fun _=>rfl) (intsC _).symm
  have ez:(intsR (b.c.ins.map (fndQ (sigs d.c)))).length=b.c.ins.length:=by simp[intsR]
  rw[ez]at hvz hkz
  simp only[Mem.conc,Env.conc,Bk.conc,Cv.conc,V.conc,List.map_cons,List.map_nil,List.map_append,List.contains_cons,List.contains_nil,Nat.reduceBEq,Bool.or_false,Bool.or_true,cond_true,cond_false,concV (rowsC_isV _),hvz]
  have hset:rowsC (z.map zR)++[.v (vsl sz b.c.ins.length)]=rowsC ((z++[((sz,b.c.ins.map (fndQ (sigs d.c))):Zv)]).map zR):=by
   simp[rowsC,zR]
  rw[hset]
  refine Sm.go 210 ?_
  simp(maxSteps:=2000000) only[go_sem,wS (show z.length≤1000000000000000000 by omega)]
  have hkz:SlH C2.hp (vsl sz (b.c.ins.map (fndQ (sigs d.c))).length) 1 (intsR (b.c.ins.map (fndQ (sigs d.c)))):=by rw[hln3];exact hkz
  refine hj _ _ C2 ⟨z++[((sz,b.c.ins.map (fndQ (sigs d.c))):Zv)],by simp;omega,by simp only[List.map_append,List.map_cons,List.map_nil,List.length_append,List.length_cons,List.length_nil,Nat.zero_add];rw[htc,List.map_append,hzc];rfl⟩ [(1,1),(4,4),(5,5),(150,181)] l2 ⟨h1.trans k2,fun v hv=>?_⟩ (by simp only[List.length_append,List.length_cons,List.length_nil];omega) ?_
  ·rcases List.mem_append.1 hv with hv|hv
   ·exact(hz v hv).mono k2
   ·obtain rfl:=List.mem_singleton.1 hv
    exact hkz
  ·simp only[List.length_append,List.length_cons,List.length_nil,Nat.zero_add]
   exact⟨rfl,trivial,⟨rfl,rfl,rfl,trivial⟩,⟨.inr ⟨_,rfl,.inl rfl⟩,.inr ⟨_,rfl,.inl (renV (rowsC_isV _))⟩,.inr ⟨_,rfl,.inl (renV (rowsC_isV _))⟩,.inr ⟨_,rfl,.inl (renV (rowsC_isV _))⟩,trivial⟩⟩
 have hc:=eq_of_dec hzl hc
 clear hj
 refine RetQ.letgo (M0:=[]) [150] l1 hP rfl (by unfold concOk;simp only[List.all_cons,cokV (rowsC_isV _)];rfl) (fun β C2 l2 k2 kn=>?_)
 obtain⟨sz,hvz,hkz⟩:=(kn 150 _ rfl rfl rfl).vslx (sz:=1) (rows:=z.map zR) (lenR zR 1 _ fun _=>rfl) rfl
 have ez:(z.map zR).length=z.length:=List.length_map _
 rw[ez]at hvz hkz
 simp only[Mem.conc,Env.conc,Bk.conc,Cv.conc,V.conc,List.map_cons,List.map_nil,List.contains_cons,List.contains_nil,Nat.reduceBEq,Bool.or_false,Bool.or_true,cond_true,cond_false,concV (rowsC_isV _),hvz]
 rw[hc,List.take_length]at hzc
 exact RetQ.of (hR ⟨sz,z⟩ C2 l2 ⟨hzc,hkz,fun v hv=>(hz v hv).mono k2⟩) rfl ⟨rfl,trivial⟩ rfl (Sub.nil _) ClM.nil (ClV.of rfl)
theorem eqfZ {H:Hp}(x y:ZL)(hx:x.ok H)(hy:y.ok H)(h:x.c=y.c)(hl:x.z.length≤1000000000000000)(g:FuncId)(hg:∀a b:Zv,a∈x.z→b∈y.z→a.2=b.2→CallH H Tryz.prog g [.c (.v (vsl a.1 a.2.length)),.c (.v (vsl b.1 b.2.length))] (Bo true)):
  CallH H Tryz.prog 36 [.c (.v (vsl x.s x.z.length)),.c (.v (vsl y.s y.z.length)),Fv g #[]] (Bo true):=by
 have n1:(x.z.map zR).length=x.z.length:=List.length_map _
 have n2:(y.z.map zR).length=y.z.length:=List.length_map _
 have hlen:y.z.length=x.z.length:=by have:=congrArg List.length h;simp only[ZL.c,List.length_map]at this;exact this.symm
 refine CallH.mkS Tryz.func36 rfl en36 (by simp[Tryz.ntmps36]) (ClA.of rfl) fun C hR hP hH hL=>?_
 refine Sm.bringR 1 73 0 (hx.o.mono hH) rfl rfl ?_
 refine Sm.bringR 2 73 1 (hy.o.mono hH) rfl rfl (Sm.go 100 ?_)
 simp only[n1,n2,hlen]
 simp(maxSteps:=2000000) only[go_sem,bne_self_eq_false]
 refine Sm.loopM (M0:=[]) (α:={i:Nat//i≤x.z.length}) hP (fun i=>[(1,true,.c (.sl 2 0 x.z.length 1)),(2,true,Fv g #[]),(15,true,.c (.sl 1 0 x.z.length 1)),(16,true,I x.z.length),(17,true,I i.val)]) (fun _=>[(1,⟨true,rowsC (x.z.map zR),73⟩),(2,⟨true,rowsC (y.z.map zR),73⟩)]) (fun i=>x.z.length-i.val) ⟨0,by omega⟩ (fun _=>ClM.v (by simp only[List.all_cons,rowsC_isV];rfl)) (fun _=>ClE.of rfl) [(1,1),(2,2)] ?_ ?_
 ·exact⟨rfl,trivial,⟨rfl,rfl,rfl,rfl,rfl,trivial⟩,⟨.inr ⟨_,rfl,.inl (renV (rowsC_isV _))⟩,.inr ⟨_,rfl,.inl (renV (rowsC_isV _))⟩,trivial⟩⟩
 rintro⟨i,hi⟩ J hb
 simp only at hb hi⊢
 refine Sm.go 110 ?_
 refine vv ?_
 refine mtch (fun hc=>?_) (fun hc=>?_)
 ·have hc:=lt_of_dec hc
  have hc2:i<y.z.length:=by omega
  simp(maxSteps:=2000000) only[go_sem,zR_at x.z i hc,zR_at y.z i hc2]
  refine⟨⟨by omega,by omega⟩,⟨by omega,by omega⟩,?_⟩
  have he:x.z[i].2=y.z[i].2:=by
   have h1:(x.z.map (·.2))[i]?=(y.z.map (·.2))[i]?:=by rw[show x.z.map (·.2)=y.z.map (·.2) from h]
   rw[List.getElem?_map,List.getElem?_map,List.getElem?_eq_getElem hc,List.getElem?_eq_getElem hc2]at h1
   exact Option.some.inj h1
  refine CallQ.h 120 (hg _ _ (List.getElem_mem hc) (List.getElem_mem hc2) he) hH rfl ?_
  simp(maxSteps:=2000000) only[go_sem,wS (show i≤1000000000000000000 by omega)]
  exact hb _ _ ⟨i+1,hc⟩ [(1,1),(2,2)] (by simp only;omega) ⟨rfl,trivial,⟨rfl,rfl,rfl,rfl,rfl,trivial⟩,⟨.inr ⟨_,rfl,.inl (renV (rowsC_isV _))⟩,.inr ⟨_,rfl,.inl (renV (rowsC_isV _))⟩,trivial⟩⟩
 ·exact RetQ.bool (hR C hL) rfl ⟨rfl,trivial⟩ rfl
end Go.Proofs.YtlnpgbnhcondjaaGreatDoor.Fx
