/-  -/
import Derived.Test.YtlnpgbnhcondjaaGreatDoorPS
import Derived.Test.YtlnpgbnhcondjaaGreatDoorYH
import Derived.Test.YtlnpgbnhcondjaaGreatDoorY0
import Derived.Test.YtlnpgbnhcondjaaGreatDoorMB
namespace Go.Proofs.YtlnpgbnhcondjaaGreatDoor.Fx
set_option linter.unusedVariables false
set_option linter.unusedSimpArgs false
def fil4:List Str:=[[32],[9],[32,32],[32,9,32]]
def filB (fs:List Nat)(i:Nat):Str:=fil4.getD (fs.getD i 0%4) []
def blkT (cm:Str)(fs:List Nat):Nat→List Tk→Str
 |_,[]=>[]
 |i,t::ts=>(bif t.k==4 then[32,35]++cm++[10,10,9,35,32]++cm++[10]else filB fs i++t.s)++blkT cm fs (i+1) ts
theorem bls_of {sp:Str}(h:sp.all (fun c=>c==32||c==9)=true):Bls sp:=fun c hc=>by
 have:=List.all_eq_true.1 h c hc
 rw[Bool.or_eq_true,beq_iff_eq,beq_iff_eq]at this;exact this
theorem fil_ok (fs:List Nat)(i:Nat):Bls (filB fs i)∧10∉filB fs i∧∃c r,filB fs i=c::r∧inB c=false:=by
 unfold filB
 have h:fs.getD i 0%4<4:=Nat.mod_lt _ (by decide)
 generalize fs.getD i 0%4=n at h
 match n,h with
 |0,_=>exact⟨(bls_of (by decide)),by decide,32,[],rfl,by decide⟩
 |1,_=>exact⟨(bls_of (by decide)),by decide,9,[],rfl,by decide⟩
 |2,_=>exact⟨(bls_of (by decide)),by decide,32,[32],rfl,by decide⟩
 |3,_=>exact⟨(bls_of (by decide)),by decide,32,[9,32],rfl,by decide⟩
def prsB (fs:List Nat):Nat→List Tk→List (Str×Nat×Str)
 |_,[]=>[]
 |i,t::ts=>(filB fs i,t.k,t.s)::prsB fs (i+1) ts
def BlU (U:List Tk):Prop:=∃ts e,U=ts++[e]∧ts≠[]∧e.k=4∧e.s=[]∧∀t∈ts,TkV t.k t.s∧t.k≠0∧t.k≠4∧10∉t.s
def cmOk (cm:Str):Prop:=∀c∈cm,32≤c.toNat∧c.toNat≤126
theorem cmOk.bad {cm:Str}(h:cmOk cm):∀c∈cm,badB c=false:=fun c hc=>by
 have:=h c hc
 unfold badB
 rw[decide_eq_false (by omega),decide_eq_false (by omega)];rfl
theorem cmOk.nl {cm:Str}(h:cmOk cm):10∉cm:=fun hc=>by have:=h 10 hc;exact absurd this.1 (by decide)
theorem prs_lay (fs:List Nat)(cm:Str):∀(ts:List Tk) (i:Nat),nxB (lay (prsB fs i ts) ([32,35]++cm))
 |[],i=>fun c hc=>by
  have:some (32:UInt8)=some c:=hc
  cases this;decide
 |t::ts,i=>fun c hc=>by
  obtain⟨_,_,x,r,h,hx⟩:=fil_ok fs i
  rw[prsB,lay,h,List.cons_append]at hc
  have:some x=some c:=hc
  cases this;exact hx
theorem prs_ok (fs:List Nat){cm:Str}(hcm:cmOk cm):∀(ts:List Tk) (i:Nat),(∀t∈ts,TkV t.k t.s∧t.k≠0∧t.k≠4∧10∉t.s)→layOk (prsB fs i ts) ([32,35]++cm)
 |[],i,_=>⟨[32],cm,(bls_of (by decide)),.inr ⟨rfl,hcm.bad⟩⟩
 |t::ts,i,h=>by
  have ht:=h t (List.mem_cons_self ..)
  exact⟨(fil_ok fs i).1,ht.1,ht.2.1,prs_lay fs cm ts (i+1),prs_ok fs hcm ts (i+1) fun x hx=>h x (List.mem_cons_of_mem _ hx)⟩
theorem prs_nl (fs:List Nat){cm:Str}(hcm:cmOk cm):∀(ts:List Tk) (i:Nat),(∀t∈ts,TkV t.k t.s∧t.k≠0∧t.k≠4∧10∉t.s)→10∉lay (prsB fs i ts) ([32,35]++cm)
 |[],i,_=>by
  have:=hcm.nl
  simp[prsB,lay,this]
 |t::ts,i,h=>by
  have ht:=h t (List.mem_cons_self ..)
  have h1:=(fil_ok fs i).2.1
  have h2:=prs_nl fs hcm ts (i+1) fun x hx=>h x (List.mem_cons_of_mem _ hx)
  rw[prsB,lay,List.mem_append,List.mem_append]
  rintro(hh|hh|hh)
  ·exact h1 hh
  ·exact ht.2.2.2 hh
  ·exact h2 hh
theorem prs_ks (fs:List Nat):∀(ts:List Tk) (i:Nat),(prsB fs i ts).map (fun p=>(p.2.1,p.2.2))=ksT ts
 |[],i=>rfl
 |t::ts,i=>by rw[prsB,List.map_cons,prs_ks fs ts (i+1)];rfl
theorem blk_line (cm:Str)(fs:List Nat)(e:Tk)(he:e.k=4)(r:List Tk):∀(ts:List Tk) (i:Nat),(∀t∈ts,TkV t.k t.s∧t.k≠0∧t.k≠4∧10∉t.s)→
  blkT cm fs i (ts++e::r)=lay (prsB fs i ts) ([32,35]++cm)++10::([]++10::((9::35::32::cm)++10::blkT cm fs (i+ts.length+1) r))
 |[],i,_=>by
  rw[List.nil_append,blkT,he]
  simp[prsB,lay]
 |t::ts,i,h=>by
  have ht:=h t (List.mem_cons_self ..)
  rw[List.cons_append,blkT,blk_line cm fs e he r ts (i+1) fun x hx=>h x (List.mem_cons_of_mem _ hx),prsB,lay,beq_eq_false_iff_ne.2 ht.2.2.1,cond_false,List.length_cons,show i+1+ts.length+1=i+(ts.length+1)+1 from by omega]
  simp only[List.append_assoc]
def blL (fs:List Nat)(cm:Str):Nat→List (List Tk)→List Str
 |_,[]=>[[]]
 |i,U::Ls=>lay (prsB fs i U.dropLast) ([32,35]++cm)::[]::(9::35::32::cm)::blL fs cm (i+U.length) Ls
theorem blL_eq (fs:List Nat){cm:Str}(hcm:cmOk cm):∀(Ls:List (List Tk)) (i:Nat),(∀U∈Ls,BlU U)→splB 10 (blkT cm fs i Ls.flatten)=blL fs cm i Ls
 |[],i,_=>rfl
 |U::Ls,i,h=>by
  obtain⟨ts,e,rfl,_,h4,hs,ht⟩:=h U (List.mem_cons_self ..)
  have n3:10∉(9::35::32::cm:Str):=by have:=hcm.nl;simp[this]
  rw[List.flatten_cons,List.append_assoc,List.singleton_append,blk_line cm fs e h4 _ ts i ht,splB_mid 10 _ _ (prs_nl fs hcm ts i ht),splB_mid 10 _ [] (by simp),splB_mid 10 _ _ n3,blL_eq fs hcm Ls _ fun V hV=>h V (List.mem_cons_of_mem _ hV),blL,List.dropLast_concat]
  rw[List.length_append,List.length_singleton,Nat.add_assoc]
theorem lin_all (ln:Nat)(ps:List (Str×Nat×Str))(tl:Str)(h:layOk ps tl):linQ ln (lay ps tl) ((lay ps tl).length+1) 0=(layT ln 0 ps,none):=lin_lay ln tl ps [] _ h (Nat.lt_succ_self _)
theorem blL_ok (fs:List Nat){cm:Str}(hcm:cmOk cm):∀(Ls:List (List Tk)) (i j:Nat),(∀U∈Ls,BlU U)→(lnsU j (blL fs cm i Ls)).map ksT=Ls.map ksT∧∀k l,(blL fs cm i Ls)[k]?=some l→(linQ (j+k+1) l (l.length+1) 0).2=none
 |[],i,j,_=>⟨rfl,fun k l h=>by
  cases k with
  |zero=>cases h;rfl
  |succ k=>cases h⟩
 |U::Ls,i,j,h=>by
  obtain⟨ts,e,rfl,hne,h4,hs,ht⟩:=h U (List.mem_cons_self ..)
  obtain⟨i1,i2⟩:=blL_ok fs hcm Ls (i+(ts++[e]).length) (j+1+1+1) fun V hV=>h V (List.mem_cons_of_mem _ hV)
  have l1:=fun ln=>lin_all ln _ _ (prs_ok fs hcm ts i ht)
  have l3:=fun ln=>lin_all ln [] (9::35::32::cm) ⟨[9],32::cm,(bls_of (by decide)),.inr ⟨rfl,fun c hc=>by
   rcases List.mem_cons.1 hc with h|h
   ·subst h;decide
   ·exact hcm.bad c h⟩⟩
  have l3:∀ln,linQ ln (9::35::32::cm) ((9::35::32::cm:Str).length+1) 0=([],none):=l3
  have hks:=fun ln=>(layT_ks ln (prsB fs i ts) 0).trans (prs_ks fs ts i)
  have hemp:(layT (j+1) 0 (prsB fs i ts)).isEmpty=false:=by
   have:=congrArg List.length (hks (j+1))
   unfold ksT at this
   rw[List.length_map,List.length_map]at this
   cases hl:layT (j+1) 0 (prsB fs i ts)with
   |nil=>rw[hl]at this;exact absurd (List.length_eq_zero_iff.1 this.symm) hne
   |cons a b=>rfl
  rw[blL,List.dropLast_concat]
  refine⟨?_,fun k l hk=>?_⟩
  ·rw[lnsU,l1,lnsU,lnsU,l3]
   have e2:(linQ (j+1+1) ([]:Str) (([]:Str).length+1) 0).1.isEmpty=true:=rfl
   rw[if_pos e2]
   simp only[hemp,List.isEmpty_nil,if_true,List.nil_append,Bool.false_eq_true,if_false,List.singleton_append,List.map_cons]
   rw[i1]
   congr 1
   unfold lnU ksT
   rw[l1,List.map_append,List.map_append]
   have:=hks (j+1)
   unfold ksT at this
   rw[this]
   simp[h4,hs]
  ·match k,hk with
   |0,hk=>cases hk;rw[Nat.add_zero,l1]
   |1,hk=>cases hk;rfl
   |2,hk=>cases hk;rw[l3]
   |k+3,hk=>
    have:=i2 k l (by simpa using hk)
    rw[show j+(k+3)+1=j+1+1+1+k+1 from by omega];exact this
theorem splB_nl (c:UInt8):∀(s:Str),∀l∈splB c s,c∉l
 |[],l,h=>by
  have:l∈[([]:Str)]:=h
  rw[List.mem_singleton]at this;subst this;simp
 |x::s,l,h=>by
  have ih:=splB_nl c s
  rw[splB_cons]at h
  split at h
  ·rcases List.mem_cons.1 h with h|h
   ·subst h;simp
   ·exact ih l h
  ·rename_i hx
   cases hq:splB c s with
   |nil=>exact absurd hq (splB_ne c s)
   |cons a t=>
    rw[hq]at h ih
    rcases List.mem_cons.1 h with h|h
    ·subst h
     have:=ih a (List.mem_cons_self ..)
     simp only[List.mem_cons,not_or]
     exact⟨fun hh=>hx hh.symm,this⟩
    ·exact ih l (List.mem_cons_of_mem _ h)
theorem lnsU_bl:∀(L:List Str) (i:Nat),(∀l∈L,10∉l)→∀U∈lnsU i L,BlU U
 |[],i,_=>fun U h=>by cases h
 |l::L,i,hL=>fun U h=>by
  rw[lnsU]at h
  rcases List.mem_append.1 h with h|h
  ·split at h
   ·cases h
   ·rename_i he
    rw[List.mem_singleton]at h;subst h
    refine⟨_,_,rfl,fun hh=>he (by rw[hh];rfl),rfl,rfl,fun t ht=>?_⟩
    have h1:=lin_tkv (i+1) l (l.length+1) 0 (by omega) t ht
    have h2:=lin_k (i+1) l (l.length+1) 0 (by omega) t ht
    exact⟨h1.1,h2.2.1,by omega,fun hc=>hL l (List.mem_cons_self ..) (h1.2 10 hc)⟩
  ·exact lnsU_bl L (i+1) (fun x hx=>hL x (List.mem_cons_of_mem _ hx)) U h
theorem blanks (s cm:Str)(fs:List Nat)(he:(tokQ s).2.2=0)(hcm:cmOk cm)(hb:(blkT cm fs 0 (tokQ s).1).length≤16384):
  (parD (blkT cm fs 0 (tokQ s).1)).1=(parD s).1∧(parD (blkT cm fs 0 (tokQ s).1)).2.2=(parD s).2.2:=by
 have h16:¬16384<s.length:=fun h=>by unfold tokQ at he;rw[if_pos h]at he;cases he
 have hq:(lnsQ 0 (splB 10 s)).2.2=0:=by unfold tokQ at he;rw[if_neg h16]at he;exact he
 have hq1:(tokQ s).1=(lnsU 0 (splB 10 s)).flatten:=by unfold tokQ;rw[if_neg h16];exact(lns_lines _ _ hq).1
 have hbl:=lnsU_bl (splB 10 s) 0 (splB_nl 10 s)
 rw[hq1]at hb⊢
 have h1:=par_eq s
 rw[if_neg (by rw[he];simp)]at h1
 have hok:=lnsU_ok (splB 10 s) 0
 generalize lnsU 0 (splB 10 s)=Ls at*
 have hsp:=blL_eq fs hcm Ls 0 hbl
 obtain⟨k1,k2⟩:=blL_ok fs hcm Ls 0 0 hbl
 have h2:=par_eq (blkT cm fs 0 Ls.flatten)
 generalize blkT cm fs 0 Ls.flatten=b at*
 have ht:(tokQ b).2.2=0:=by
  unfold tokQ
  rw[if_neg (by omega),hsp]
  exact lns_ok _ _ k2
 rw[if_neg (by rw[ht];simp),hsp]at h2
 by_cases hn:Ls=[]
 ·rw[if_pos hn]at h1
  have:lnsU 0 (blL fs cm 0 Ls)=[]:=by rw[hn];rfl
  rw[if_pos this]at h2
  rw[h1,h2];exact⟨rfl,rfl⟩
 ·rw[if_neg hn]at h1
  have:lnsU 0 (blL fs cm 0 Ls)≠[]:=fun h=>by
   rw[h]at k1
   exact hn (List.map_eq_nil_iff.1 k1.symm)
  rw[if_neg this]at h2
  rw[h1,h2]
  exact parW_sim _ _ true d0 k1 hok
end Go.Proofs.YtlnpgbnhcondjaaGreatDoor.Fx
namespace Go.Proofs.YtlnpgbnhcondjaaGreatDoor.Fx
open Go.ChangeShapes Go.WideShapes Go.ChangeAt Go.RowKit
open Vg Tf
set_option linter.unusedSimpArgs false
set_option linter.unusedVariables false
set_option maxRecDepth 100000
section
variable {H:Type} {enc:TypeId×Value→H} {w:World} {base:Nat} {spare:Nat→Bool} {held:Bool}
theorem lc_cons {k:Lc}{ks:List Lc}{r:List Value}(h:cellsLc enc Tryz.prog w base spare held (k::ks) r):∃v vs,r=v::vs∧cellLc enc Tryz.prog w base spare held k v∧cellsLc enc Tryz.prog w base spare held ks vs:=by
 cases r with
 |nil=>exact h.elim
 |cons v vs=>exact⟨v,vs,rfl,h.1,h.2⟩
theorem lc_nil {r:List Value}(h:cellsLc enc Tryz.prog w base spare held [] r):r=[]:=by
 cases r with
 |nil=>rfl
 |cons v vs=>exact h.elim
theorem rowsEx {α:Type}{f:α→List Value}{p:α→Prop}:∀{rows:List (List Value)},(∀r∈rows,∃a,r=f a∧p a)→∃l:List α,rows=l.map f∧∀a∈l,p a
 |[],_=>⟨[],rfl,by simp⟩
 |r::rows,h=>by
  obtain⟨l,rfl,hl⟩:=rowsEx (f:=f) (p:=p) (rows:=rows) (fun x hx=>h x (List.mem_cons_of_mem _ hx))
  obtain⟨a,rfl,ha⟩:=h r (by simp)
  exact⟨a::l,rfl,fun x hx=>by rcases List.mem_cons.1 hx with rfl|hx;exact ha;exact hl x hx⟩
theorem _root_.Go.Proofs.YtlnpgbnhcondjaaGreatDoor.Vg.SlH.vsl {H:Hp}{v:Value}{sz:Nat}{rows:List (List Value)}(h:SlH H v sz rows):∃s:Sv,v=vsl s rows.length:=by
 obtain⟨l,h1,_⟩:=h
 rw[h1]
 simp only[Cv.g]
 split
 ·rename_i hh
  rw[hh.2]
  unfold Loc.emp
  split
  ·exact⟨⟨none,0⟩,rfl⟩
  ·exact⟨⟨some _,_⟩,rfl⟩
 ·exact⟨⟨some _,_⟩,rfl⟩
theorem len_of {n b:Nat}(hb:1≤b)(h:n*b≤reachBytes):n≤1000000000000000:=by
 have h1:n≤n*b:=Nat.le_mul_of_pos_right n hb
 have h2:reachBytes≤1000000000000000:=by decide
 omega
end
end Go.Proofs.YtlnpgbnhcondjaaGreatDoor.Fx
namespace Go.Proofs.YtlnpgbnhcondjaaGreatDoor.Fx
open Go.ChangeShapes Go.WideShapes Go.ChangeAt Go.RowKit
open Vg Tf
set_option linter.unusedSimpArgs false
set_option linter.unusedVariables false
set_option maxRecDepth 100000
def u8R (l:List Nat):List (List Value):=l.map fun n:Nat=>[Value.int .u8 (n:Int)]
section
variable {H:Type} {enc:TypeId×Value→H} {w:World} {base:Nat} {spare:Nat→Bool} {held:Bool}
theorem lcU8:lcOf Tryz.prog 20 5=some [.i .u8]:=by kernel_rfl
theorem byU8:1≤Tryz.prog.bytesOf 5:=by decide+kernel
theorem op_u8s {v:Value}(h:cellLc enc Tryz.prog w base spare held (.l 49) v):∃(s:Sv) (l:List Nat),v=vsl s l.length∧SlH (hpW w) (vsl s l.length) 1 (u8R l)∧l.length≤1000000000000000∧∀n∈l,n<256:=by
 obtain⟨rows,h1,h2,h3⟩:=open_slW Tryz.underlying49 lcU8 sz5 (by simp) h
 obtain⟨l,rfl,hl⟩:=rowsEx (f:=fun n:Nat=>[Value.int .u8 (n:Int)]) (p:=fun n=>n<256) (rows:=rows) (fun r hr=>by
  obtain⟨v,vs,rfl,⟨n,rfl,q2,q3⟩,q1⟩:=lc_cons (h2 r hr)
  obtain rfl:=lc_nil q1
  have q2:0≤n:=q2
  have q3:n≤255:=q3
  exact⟨n.toNat,by rw[Int.toNat_of_nonneg q2],by omega⟩)
 obtain⟨s,rfl⟩:=h1.vsl
 have e:(l.map fun n:Nat=>[Value.int .u8 (n:Int)]).length=l.length:=List.length_map _
 rw[e]at h1 h3
 exact⟨s,l,by rw[e],h1,len_of byU8 h3,hl⟩
theorem open_u8s {v:Value}{d:DataW H}{p:List MemPlace}{r:Reach}{n0:Nat}(hv:Value.okWide Tryz.prog w r n0 49 v)(h:DataW.Trod enc Tryz.prog w base spare held 49 v d p)(hw:∀n∈d.weights Tryz.prog 49,n≤reachBytes):
  ∃(s:Sv) (l:List Nat),v=vsl s l.length∧SlH (hpW w) (vsl s l.length) 1 (u8R l)∧l.length≤1000000000000000∧∀n∈l,n<256:=by
 obtain⟨a,len,cap,rfl⟩:=okWide_slice Tryz.underlying49 hv
 obtain⟨fuel,hf⟩:=h
 exact op_u8s ⟨fuel,_,by simpa[Value.cells]using hf,hw⟩
end
end Go.Proofs.YtlnpgbnhcondjaaGreatDoor.Fx
