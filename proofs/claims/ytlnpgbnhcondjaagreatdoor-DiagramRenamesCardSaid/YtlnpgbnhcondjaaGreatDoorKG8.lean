/-  -/
import Derived.Test.YtlnpgbnhcondjaaGreatDoorPS
import Derived.Test.YtlnpgbnhcondjaaGreatDoorMB
import Derived.Test.YtlnpgbnhcondjaaGreatDoorTf
import Derived.Test.YtlnpgbnhcondjaaGreatDoorRows
import Derived.Test.YtlnpgbnhcondjaaGreatDoorY9
import Derived.LaidMore
import Derived.LaidSub
import Derived.LaidLaws
import Derived.Lib.LaidTab
import Derived.Lay
import Derived.Test.YtlnpgbnhcondjaaGreatDoorQ7
import Derived.SevenTiedAt
import Derived.Stop.Joined
namespace Go.Proofs.YtlnpgbnhcondjaaGreatDoor
open Go.ChangeShapes Go.WideShapes Go.ChangeAt Go.RowKit
open Vg Tf
set_option linter.unusedSimpArgs false
set_option linter.unusedVariables false
set_option maxRecDepth 100000
theorem own:ownKnob Tryz.prog.godebug=none:=by kernel_rfl
theorem laidOut:laidOutB Tryz.prog=true:=by kernel_rfl
theorem fmr:mapsRowed Tryz.pinned.checked.prog=true:=by kernel_rfl
theorem flo:laidOutB Tryz.pinned.checked.prog=true:=by kernel_rfl
theorem fsh:Tryz.pinned.checked.prog.stopsHeard=true:=by kernel_rfl
theorem fme:Tryz.pinned.checked.prog.mayEnter=true:=by kernel_rfl
end Go.Proofs.YtlnpgbnhcondjaaGreatDoor
namespace Go.Proofs.YtlnpgbnhcondjaaGreatDoor
open Go.ChangeShapes Go.WideShapes Go.ChangeAt Go.RowKit
open Vg Tf Fx
set_option linter.unusedSimpArgs false
set_option linter.unusedVariables false
set_option maxRecDepth 100000
theorem leafS {x:Cv}(h:okL [.s] [x]=true)(hb:bdC x):∃l:List UInt8,x= .v (.string ⟨l.toArray⟩)∧l.length≤9223372036854775807:=by
 obtain⟨n,y,e,_⟩:=okL_s h
 obtain rfl:=(List.cons.inj e).1
 refine⟨n.data.toList,?_,?_⟩
 ·simp
 ·have:n.size≤maxLen:=hb
  have e:n.data.toList.length=n.size:=by rw[Array.length_toList];rfl
  unfold maxLen at this
  omega
theorem er_of {W:World}(h:laidMetH Tryz.prog [("strconv.ErrRange",Rows.laid_strconv_ErrRange)] W):ErR (hpW W):=by
 rw[MakeChecks.laidMetH_plain _ _ _ (by kernel_rfl)]at h
 obtain⟨ps,⟨g',t',cs,fuel,p,q,hg',ht',hvar,hd,_,_⟩,_⟩:=h
 have hg:Tryz.prog.globalNamed "strconv.ErrRange" =some 6:=by kernel_rfl
 obtain rfl:=Option.some.inj (hg.symm.trans hg')
 have hty:(Tryz.prog.globals[6]?).map (·.type)=some 59:=by kernel_rfl
 obtain rfl:=Option.some.inj (hty.symm.trans ht')
 obtain⟨_,u,v,hcs,_,_⟩:=Go.iface_of_trod (Tryz.underlying59) hd
 have hcs2:cs= #[.iface u v]:=by
  apply Array.toList_inj.1
  rw[hcs]
 subst hcs2
 obtain⟨el,mk,hb⟩:=GlW.of_var (cs:=[.iface u v]) hg hvar
 exact⟨.iface u v,el,mk,hb,.inr ⟨u,v,rfl⟩⟩
end Go.Proofs.YtlnpgbnhcondjaaGreatDoor
namespace Go.Proofs.YtlnpgbnhcondjaaGreatDoor.Fx
open Go.ChangeShapes Go.WideShapes Go.ChangeAt Go.RowKit
open Vg Tf
set_option linter.unusedSimpArgs false
set_option linter.unusedVariables false
set_option maxRecDepth 100000
section
variable {H:Type} {enc:TypeId×Value→H} {w:World} {base:Nat} {spare:Nat→Bool} {held:Bool}
theorem lc_cons {k:Lc}{ks:List Lc}{r:List Value}(h:cellsLc enc Tryz.prog w base spare held (k::ks) r):∃v vs,r=v::vs∧cellLc enc Tryz.prog w base spare held k v∧cellsLc enc Tryz.prog w base spare held ks vs:=by
 cases r with
 |nil=>exact h.elim
 |cons v vs=>exact⟨v,vs,rfl,h.1,h.2⟩
theorem lc_nil {r:List Value}(h:cellsLc enc Tryz.prog w base spare held [] r):r=[]:=by
 cases r with
 |nil=>rfl
 |cons v vs=>exact h.elim
theorem lc_s {v:Value}(h:cellLc enc Tryz.prog w base spare held .s v):∃s:Str,v=sv s∧s.length≤1000000000000000:=by
 obtain⟨x,rfl,hx⟩:=h
 exact⟨x.data.toList,by simp,Nat.le_trans hx (by decide)⟩
theorem rowsEx {α:Type}{f:α→List Value}{p:α→Prop}:∀{rows:List (List Value)},(∀r∈rows,∃a,r=f a∧p a)→∃l:List α,rows=l.map f∧∀a∈l,p a
 |[],_=>⟨[],rfl,by simp⟩
 |r::rows,h=>by
  obtain⟨l,rfl,hl⟩:=rowsEx (f:=f) (p:=p) (rows:=rows) (fun x hx=>h x (List.mem_cons_of_mem _ hx))
  obtain⟨a,rfl,ha⟩:=h r (by simp)
  exact⟨a::l,rfl,fun x hx=>by rcases List.mem_cons.1 hx with rfl|hx;exact ha;exact hl x hx⟩
theorem _root_.Go.Proofs.YtlnpgbnhcondjaaGreatDoor.Vg.SlH.vsl {H:Hp}{v:Value}{sz:Nat}{rows:List (List Value)}(h:SlH H v sz rows):∃s:Sv,v=vsl s rows.length:=by
 obtain⟨l,h1,_⟩:=h
 rw[h1]
 simp only[Cv.g]
 split
 ·rename_i hh
  rw[hh.2]
  unfold Loc.emp
  split
  ·exact⟨⟨none,0⟩,rfl⟩
  ·exact⟨⟨some _,_⟩,rfl⟩
 ·exact⟨⟨some _,_⟩,rfl⟩
theorem lcI:lcOf Tryz.prog 20 3=some [.i .i64]:=by kernel_rfl
theorem lcS:lcOf Tryz.prog 20 9=some [.s]:=by kernel_rfl
theorem lcZ:lcOf Tryz.prog 20 73=some [.l 73]:=by kernel_rfl
theorem lcT:lcOf Tryz.prog 20 93=some [.s,.i .i64,.b,.i .i64,.i .i64,.i .i64,.i .i64,.i .i64,.i .i64,.i .i64,.i .i64]:=by kernel_rfl
theorem lcC:lcOf Tryz.prog 20 110=some [.s,.l 73,.l 73]:=by kernel_rfl
theorem lcM:lcOf Tryz.prog 20 115=some [.s,.l 73,.l 73,.l 70]:=by kernel_rfl
theorem lcP:lcOf Tryz.prog 20 118=some [.s,.s,.i .i64,.i .i64]:=by kernel_rfl
theorem lcB:lcOf Tryz.prog 20 82=some [.s,.s,.s,.l 28,.s,.l 73]:=by kernel_rfl
theorem lcD:lcOf Tryz.prog 20 30=some [.s,.l 23,.l 24,.l 25,.l 26,.l 27,.l 28]:=by kernel_rfl
theorem byI:1≤Tryz.prog.bytesOf 3:=by decide+kernel
theorem byS:1≤Tryz.prog.bytesOf 9:=by decide+kernel
theorem byZ:1≤Tryz.prog.bytesOf 73:=by decide+kernel
theorem byT:1≤Tryz.prog.bytesOf 93:=by decide+kernel
theorem byC:1≤Tryz.prog.bytesOf 110:=by decide+kernel
theorem byM:1≤Tryz.prog.bytesOf 115:=by decide+kernel
theorem byP:1≤Tryz.prog.bytesOf 118:=by decide+kernel
theorem byB:1≤Tryz.prog.bytesOf 82:=by decide+kernel
theorem len_of {n b:Nat}(hb:1≤b)(h:n*b≤reachBytes):n≤1000000000000000:=by
 have h1:n≤n*b:=Nat.le_mul_of_pos_right n hb
 have h2:reachBytes≤1000000000000000:=by decide
 omega
theorem op_ints {v:Value}(h:cellLc enc Tryz.prog w base spare held (.l 73) v):∃(s:Sv) (l:List Int),v=vsl s l.length∧SlH (hpW w) (vsl s l.length) 1 (intsR l)∧l.length≤1000000000000000:=by
 obtain⟨rows,h1,h2,h3⟩:=open_slW Tryz.underlying73 lcI sz3 (by simp) h
 obtain⟨l,rfl,_⟩:=rowsEx (f:=fun n:Int=>[iv n]) (p:=fun _=>True) (rows:=rows) (fun r hr=>by
  obtain⟨v,vs,rfl,⟨n,rfl,_⟩,q1⟩:=lc_cons (h2 r hr)
  obtain rfl:=lc_nil q1
  exact⟨n,rfl,trivial⟩)
 obtain⟨s,rfl⟩:=h1.vsl
 have e:(l.map fun n:Int=>[iv n]).length=l.length:=List.length_map _
 rw[e]at h1 h3
 exact⟨s,l,by rw[e],h1,len_of byI h3⟩
theorem op_strs {v:Value}(h:cellLc enc Tryz.prog w base spare held (.l 28) v):∃(s:Sv) (l:List Str),v=vsl s l.length∧SlH (hpW w) (vsl s l.length) 1 (strsR l)∧l.length≤1000000000000000∧∀x∈l,x.length≤1000000000000000:=by
 obtain⟨rows,h1,h2,h3⟩:=open_slW Tryz.underlying28 lcS sz9 (by simp) h
 obtain⟨l,rfl,hl⟩:=rowsEx (f:=fun s:Str=>[sv s]) (p:=fun s=>s.length≤1000000000000000) (rows:=rows) (fun r hr=>by
  obtain⟨v,vs,rfl,hv,q2⟩:=lc_cons (h2 r hr)
  obtain rfl:=lc_nil q2
  obtain⟨s,rfl,hs⟩:=lc_s hv
  exact⟨s,rfl,hs⟩)
 obtain⟨s,rfl⟩:=h1.vsl
 have e:(l.map fun s:Str=>[sv s]).length=l.length:=List.length_map _
 rw[e]at h1 h3
 exact⟨s,l,by rw[e],h1,len_of byS h3,hl⟩
theorem op_tys {v:Value}(h:cellLc enc Tryz.prog w base spare held (.l 23) v):∃(s:Sv) (l:List Td),v=vsl s l.length∧SlH (hpW w) (vsl s l.length) 11 (l.map Td.r)∧l.length≤1000000000000000∧∀x∈l,x.nm.length≤1000000000000000:=by
 obtain⟨rows,h1,h2,h3⟩:=open_slW Tryz.underlying23 lcT sz93 (by simp) h
 obtain⟨l,rfl,hl⟩:=rowsEx (f:=Td.r) (p:=fun s=>s.nm.length≤1000000000000000) (rows:=rows) (fun r hr=>by
  obtain⟨v,vs,rfl,hv,q3⟩:=lc_cons (h2 r hr)
  obtain⟨s,rfl,hs⟩:=lc_s hv
  obtain⟨_,vs,rfl,⟨n0,rfl,_⟩,q4⟩:=lc_cons q3
  obtain⟨_,vs,rfl,⟨n1,rfl⟩,q5⟩:=lc_cons q4
  obtain⟨_,vs,rfl,⟨n2,rfl,_⟩,q6⟩:=lc_cons q5
  obtain⟨_,vs,rfl,⟨n3,rfl,_⟩,q7⟩:=lc_cons q6
  obtain⟨_,vs,rfl,⟨n4,rfl,_⟩,q8⟩:=lc_cons q7
  obtain⟨_,vs,rfl,⟨n5,rfl,_⟩,q9⟩:=lc_cons q8
  obtain⟨_,vs,rfl,⟨n6,rfl,_⟩,q10⟩:=lc_cons q9
  obtain⟨_,vs,rfl,⟨n7,rfl,_⟩,q11⟩:=lc_cons q10
  obtain⟨_,vs,rfl,⟨n8,rfl,_⟩,q12⟩:=lc_cons q11
  obtain⟨_,vs,rfl,⟨n9,rfl,_⟩,q13⟩:=lc_cons q12
  obtain rfl:=lc_nil q13
  exact⟨⟨s,⟨n0,n1,n2,n3,n4,n5,n6,n7,n8,n9⟩⟩,rfl,hs⟩)
 obtain⟨s,rfl⟩:=h1.vsl
 have e:(l.map Td.r).length=l.length:=List.length_map _
 rw[e]at h1 h3
 exact⟨s,l,by rw[e],h1,len_of byT h3,hl⟩
theorem op_cus {v:Value}(h:cellLc enc Tryz.prog w base spare held (.l 24) v):∃(s:Sv) (l:List CuL),v=vsl s l.length∧SlH (hpW w) (vsl s l.length) 3 (l.map CuL.r)∧l.length≤1000000000000000∧∀x∈l,x.ok (hpW w)∧x.c.nm.length≤1000000000000000∧x.c.xs.length≤1000000000000000∧x.c.ys.length≤1000000000000000:=by
 obtain⟨rows,h1,h2,h3⟩:=open_slW Tryz.underlying24 lcC sz110 (by simp) h
 obtain⟨l,rfl,hl⟩:=rowsEx (f:=CuL.r) (p:=fun x=>x.ok (hpW w)∧x.c.nm.length≤1000000000000000∧x.c.xs.length≤1000000000000000∧x.c.ys.length≤1000000000000000) (rows:=rows) (fun r hr=>by
  obtain⟨v,vs,rfl,hv,q14⟩:=lc_cons (h2 r hr)
  obtain⟨s,rfl,hs⟩:=lc_s hv
  obtain⟨_,vs,rfl,hx,q15⟩:=lc_cons q14
  obtain⟨sx,xs,rfl,kx,bx⟩:=op_ints hx
  obtain⟨_,vs,rfl,hy,q16⟩:=lc_cons q15
  obtain⟨sy,ys,rfl,ky,bY⟩:=op_ints hy
  obtain rfl:=lc_nil q16
  exact⟨⟨⟨s,xs,ys⟩,sx,sy⟩,rfl,⟨kx,ky⟩,hs,bx,bY⟩)
 obtain⟨s,rfl⟩:=h1.vsl
 have e:(l.map CuL.r).length=l.length:=List.length_map _
 rw[e]at h1 h3
 exact⟨s,l,by rw[e],h1,len_of byC h3,hl⟩
theorem op_zs {v:Value}(h:cellLc enc Tryz.prog w base spare held (.l 70) v):∃(s:Sv) (l:List (Sv×List Int)),v=vsl s l.length∧SlH (hpW w) (vsl s l.length) 1 (l.map fun v=>[vsl v.1 v.2.length])∧l.length≤1000000000000000∧∀x∈l,SlH (hpW w) (vsl x.1 x.2.length) 1 (intsR x.2)∧x.2.length≤1000000000000000:=by
 obtain⟨rows,h1,h2,h3⟩:=open_slW Tryz.underlying70 lcZ sz73 (by simp) h
 obtain⟨l,rfl,hl⟩:=rowsEx (f:=fun v:Sv×List Int=>[vsl v.1 v.2.length]) (p:=fun x=>SlH (hpW w) (vsl x.1 x.2.length) 1 (intsR x.2)∧x.2.length≤1000000000000000) (rows:=rows) (fun r hr=>by
  obtain⟨v,vs,rfl,hx,q17⟩:=lc_cons (h2 r hr)
  obtain⟨sx,xs,rfl,kx,bx⟩:=op_ints hx
  obtain rfl:=lc_nil q17
  exact⟨(sx,xs),rfl,kx,bx⟩)
 obtain⟨s,rfl⟩:=h1.vsl
 have e:(l.map fun v:Sv×List Int=>[vsl v.1 v.2.length]).length=l.length:=List.length_map _
 rw[e]at h1 h3
 exact⟨s,l,by rw[e],h1,len_of byZ h3,hl⟩
theorem op_mas {v:Value}(h:cellLc enc Tryz.prog w base spare held (.l 25) v):∃(s:Sv) (l:List MpL),v=vsl s l.length∧SlH (hpW w) (vsl s l.length) 4 (l.map MpL.r)∧l.length≤1000000000000000∧∀x∈l,x.ok (hpW w)∧x.nm.length≤1000000000000000∧∀v∈x.zs,v.2.length≤1000000000000000:=by
 obtain⟨rows,h1,h2,h3⟩:=open_slW Tryz.underlying25 lcM sz115 (by simp) h
 obtain⟨l,rfl,hl⟩:=rowsEx (f:=MpL.r) (p:=fun x=>x.ok (hpW w)∧x.nm.length≤1000000000000000∧∀v∈x.zs,v.2.length≤1000000000000000) (rows:=rows) (fun r hr=>by
  obtain⟨v,vs,rfl,hv,q18⟩:=lc_cons (h2 r hr)
  obtain⟨s,rfl,hs⟩:=lc_s hv
  obtain⟨_,vs,rfl,hx,q19⟩:=lc_cons q18
  obtain⟨sx,xs,rfl,kx,bx⟩:=op_ints hx
  obtain⟨_,vs,rfl,hy,q20⟩:=lc_cons q19
  obtain⟨sy,ys,rfl,ky,bY⟩:=op_ints hy
  obtain⟨_,vs,rfl,hz,q21⟩:=lc_cons q20
  obtain⟨sz,zs,rfl,kz,bz,ez⟩:=op_zs hz
  obtain rfl:=lc_nil q21
  exact⟨⟨s,xs,ys,zs,sx,sy,sz⟩,rfl,⟨kx,ky,kz,fun v hv=>(ez v hv).1⟩,hs,fun v hv=>(ez v hv).2⟩)
 obtain⟨s,rfl⟩:=h1.vsl
 have e:(l.map MpL.r).length=l.length:=List.length_map _
 rw[e]at h1 h3
 exact⟨s,l,by rw[e],h1,len_of byM h3,hl⟩
theorem op_pos {v:Value}(h:cellLc enc Tryz.prog w base spare held (.l 26) v):∃(s:Sv) (l:List Po),v=vsl s l.length∧SlH (hpW w) (vsl s l.length) 4 (l.map Po.r)∧l.length≤1000000000000000∧∀x∈l,x.nm.length≤1000000000000000∧x.ty.length≤1000000000000000:=by
 obtain⟨rows,h1,h2,h3⟩:=open_slW Tryz.underlying26 lcP sz118 (by simp) h
 obtain⟨l,rfl,hl⟩:=rowsEx (f:=Po.r) (p:=fun x=>x.nm.length≤1000000000000000∧x.ty.length≤1000000000000000) (rows:=rows) (fun r hr=>by
  obtain⟨v,vs,rfl,hv,q22⟩:=lc_cons (h2 r hr)
  obtain⟨s,rfl,hs⟩:=lc_s hv
  obtain⟨_,vs,rfl,hv,q23⟩:=lc_cons q22
  obtain⟨s2,rfl,hs2⟩:=lc_s hv
  obtain⟨_,vs,rfl,⟨n0,rfl,_⟩,q24⟩:=lc_cons q23
  obtain⟨_,vs,rfl,⟨n1,rfl,_⟩,q25⟩:=lc_cons q24
  obtain rfl:=lc_nil q25
  exact⟨⟨s,s2,n0,n1⟩,rfl,hs,hs2⟩)
 obtain⟨s,rfl⟩:=h1.vsl
 have e:(l.map Po.r).length=l.length:=List.length_map _
 rw[e]at h1 h3
 exact⟨s,l,by rw[e],h1,len_of byP h3,hl⟩
theorem op_bls {v:Value}(h:cellLc enc Tryz.prog w base spare held (.l 27) v):∃(s:Sv) (l:List BlL),v=vsl s l.length∧SlH (hpW w) (vsl s l.length) 6 (l.map BlL.r)∧l.length≤1000000000000000∧∀b∈l,b.ok (hpW w)∧b.c.nm.length≤1000000000000000∧b.c.ty.length≤1000000000000000∧b.c.tb.length≤1000000000000000∧b.c.ins.length≤1000000000000000∧b.c.ks.length≤1000000000000000∧∀s∈b.c.ins,s.length≤1000000000000000:=by
 obtain⟨rows,h1,h2,h3⟩:=open_slW Tryz.underlying27 lcB sz82 (by simp) h
 obtain⟨l,rfl,hl⟩:=rowsEx (f:=BlL.r) (p:=fun b=>b.ok (hpW w)∧b.c.nm.length≤1000000000000000∧b.c.ty.length≤1000000000000000∧b.c.tb.length≤1000000000000000∧b.c.ins.length≤1000000000000000∧b.c.ks.length≤1000000000000000∧∀s∈b.c.ins,s.length≤1000000000000000) (rows:=rows) (fun r hr=>by
  obtain⟨v,vs,rfl,hv,q26⟩:=lc_cons (h2 r hr)
  obtain⟨s,rfl,hs⟩:=lc_s hv
  obtain⟨_,vs,rfl,hv,q27⟩:=lc_cons q26
  obtain⟨s2,rfl,_⟩:=lc_s hv
  obtain⟨_,vs,rfl,hv,q28⟩:=lc_cons q27
  obtain⟨s3,rfl,hs3⟩:=lc_s hv
  obtain⟨_,vs,rfl,hi,q29⟩:=lc_cons q28
  obtain⟨si,is,rfl,ki,bi,ei⟩:=op_strs hi
  obtain⟨_,vs,rfl,hv,q30⟩:=lc_cons q29
  obtain⟨s4,rfl,hs4⟩:=lc_s hv
  obtain⟨_,vs,rfl,hy,q31⟩:=lc_cons q30
  obtain⟨sy,ys,rfl,ky,bY⟩:=op_ints hy
  obtain rfl:=lc_nil q31
  exact⟨⟨⟨s,s2,s3,is,s4,ys⟩,si,sy⟩,rfl,⟨ki,ky⟩,hs,hs3,hs4,bi,bY,ei⟩)
 obtain⟨s,rfl⟩:=h1.vsl
 have e:(l.map BlL.r).length=l.length:=List.length_map _
 rw[e]at h1 h3
 exact⟨s,l,by rw[e],h1,len_of byB h3,hl⟩
theorem open_dg {v:Value}{d:DataW H}{p:List MemPlace}{r:Reach}{n0:Nat}(hv:Value.okWide Tryz.prog w r n0 30 v)(h:DataW.Trod enc Tryz.prog w base spare held 30 v d p)(hw:∀n∈d.weights Tryz.prog 30,n≤reachBytes):
  ∃D:DgL,v=(rowV D.r).g b0∧D.ok (hpW w)∧D.sm:=by
 obtain⟨cs,rfl,_,_⟩:∃cs,v= .agg cs∧cs.size=Tryz.prog.cellsOf 30∧Row.okWide Tryz.prog w r n0 30 cs:=by
  simpa only[Value.okWide,Tryz.underlying30]using hv
 obtain⟨fuel,hf⟩:=h
 have o:=open_lc 20 _ _ lcD sz30 fuel _ _ hf hw
 have hcs:(Value.agg cs).cells.toList=cs.toList:=rfl
 rw[hcs]at o
 obtain⟨v,vs,e1,hv,q32⟩:=lc_cons o
 obtain⟨s,rfl,hs⟩:=lc_s hv
 obtain⟨_,vs,rfl,h1,q33⟩:=lc_cons q32
 obtain⟨s1,l1,rfl,k1,b1,c1⟩:=op_tys h1
 obtain⟨_,vs,rfl,h2,q34⟩:=lc_cons q33
 obtain⟨s2,l2,rfl,k2,b2,c2⟩:=op_cus h2
 obtain⟨_,vs,rfl,h3,q35⟩:=lc_cons q34
 obtain⟨s3,l3,rfl,k3,b3,c3⟩:=op_mas h3
 obtain⟨_,vs,rfl,h4,q36⟩:=lc_cons q35
 obtain⟨s4,l4,rfl,k4,b4,c4⟩:=op_pos h4
 obtain⟨_,vs,rfl,h5,q37⟩:=lc_cons q36
 obtain⟨s5,l5,rfl,k5,b5,c5⟩:=op_bls h5
 obtain⟨_,vs,rfl,h6,q38⟩:=lc_cons q37
 obtain⟨s6,l6,rfl,k6,b6,c6⟩:=op_strs h6
 obtain rfl:=lc_nil q38
 refine⟨⟨s,l1,l2,l3,l4,l5,l6,s1,s2,s3,s4,s5,s6⟩,?_,⟨k1,k2,k3,k4,k5,k6,fun c hc=>(c2 c hc).1,fun c hc=>(c3 c hc).1,fun c hc=>(c5 c hc).1⟩,⟨hs,⟨b1,c1⟩,⟨b2,fun c hc=>(c2 c hc).2⟩,⟨b3,fun c hc=>(c3 c hc).2⟩,⟨b4,c4⟩,⟨b5,fun c hc=>(c5 c hc).2⟩,⟨b6,c6⟩⟩⟩
 rw[←Array.toArray_toList (xs:=cs),e1]
 rfl
end
end Go.Proofs.YtlnpgbnhcondjaaGreatDoor.Fx
namespace Go.Proofs.YtlnpgbnhcondjaaGreatDoor
open Go.ChangeShapes Go.WideShapes Go.ChangeAt Go.RowKit
open Vg Tf
set_option linter.unusedSimpArgs false
set_option linter.unusedVariables false
set_option maxRecDepth 100000
theorem fip:Tryz.pinned.checked.prog.inPlace 8=Rows.diagramRenamesRow.inPlace:=by kernel_rfl
theorem fuf:Tryz.pinned.checked.prog.unfollowed 8=Rows.diagramRenamesRow.unfollowed:=by kernel_rfl
theorem frc:Tryz.pinned.checked.prog.recurses 8=Rows.diagramRenamesRow.recurses:=by kernel_rfl
theorem fvn:Tryz.pinned.checked.prog.varsNamed 8=Rows.diagramRenamesRow.named:=by kernel_rfl
theorem closedF:joinedFacts Tryz.pinned.checked.prog 8 Tryz.f8 Rows.diagramRenamesSpec Rows.diagramRenamesRow=true:=by
 unfold joinedFacts
 rw[fip,fuf,frc,fvn,fmr,flo,fsh,fme]
 kernel_rfl
theorem ffn:Tryz.pinned.checked.prog.funcNamed Rows.diagramRenamesRow.func=some 8:=by kernel_rfl
end Go.Proofs.YtlnpgbnhcondjaaGreatDoor
namespace Go.Proofs.YtlnpgbnhcondjaaGreatDoor
open Go.ChangeShapes Go.WideShapes Go.ChangeAt Go.RowKit
open Vg Tf
set_option linter.unusedSimpArgs false
set_option linter.unusedVariables false
set_option maxRecDepth 100000
theorem flk:true=Tryz.pinned.checked.prog.looks []:=by kernel_rfl
theorem fgo:false=Rows.diagramRenamesRow.goesBy Tryz.pinned.checked.prog:=by kernel_rfl
theorem fwf:Rows.diagramRenamesRow.wfByText (OpenSpec.ofChange Rows.diagramRenamesSpec)=true:=by kernel_rfl
theorem fmi:Tryz.pinned.checked.prog.mainIs=some (true,"0b6ddabf7654c0ddcdcd670975a67c572cc1ac03156ddf7d14c8e7ba494423dd".toList):=by kernel_rfl
end Go.Proofs.YtlnpgbnhcondjaaGreatDoor
