/-  -/
import Derived.Test.YtlnpgbnhcondjaaGreatDoorTf
import Derived.Test.YtlnpgbnhcondjaaGreatDoorPI
namespace Go.Proofs.YtlnpgbnhcondjaaGreatDoor.Fx
set_option maxRecDepth 100000
set_option linter.unusedVariables false
set_option linter.unusedSimpArgs false
def ksW (l:List Int):Wd:=if l=[]then[]else(3,[59])::cmW nF l
def blW (b:Bl):Wd:=(1,b.nm)::(3,[61])::(1,b.kd)::(3,[40])::(cmW naF (argL b)++(ksW b.ks++[(3,[41]),(3,[58]),(1,b.ty)]))
theorem nm_no {s:Str}(h:nmOk s=true):(s==[41])=false∧(s==[59])=false:=by
 constructor<;>
 ·rw[beq_eq_false_iff_ne]
  rintro rfl
  exact absurd h (by decide)
section
variable {U:List Tk}
theorem At.ars {c:Str}(hc:c=[59]∨c=[41]){l:List Str}{p:Ps}{ws:Wd}(h:At U p (cmW naF l++(3,c)::ws))(hl:l.length≤40000)(hb:∀s∈l,nmOk s=true):∃q,arsP U p=(some l,q)∧At U q ((3,c)::ws):=by
 cases l with
 |nil=>
  have h:At U p ((3,c)::ws):=h
  refine⟨p,?_,h⟩
  unfold arsP
  have:(isP U [41] p||isP U [59] p)=true:=by
   rw[h.is,h.is]
   rcases hc with rfl|rfl<;>rfl
  rw[this];rfl
 |cons s l=>
  have hi:(isP U [41] p||isP U [59] p)=false:=by
   obtain⟨n1,n2⟩:=nm_no (hb s (List.mem_cons_self ..))
   have h0:∃ws',At U p ((1,s)::ws'):=by
    cases l with
    |nil=>exact⟨_,h⟩
    |cons t l=>exact⟨_,h⟩
   obtain⟨ws',h0⟩:=h0
   rw[h0.is,h0.is,n1,n2];rfl
  obtain⟨q,e,ha⟩:=At.nms (U:=U) hc (by decide) (s::l) 40000 [] p ws (by simp) h hl hb
  refine⟨q,?_,ha⟩
  unfold arsP
  rw[hi]
  exact e
theorem At.ks {l:List Int}{p:Ps}{ws:Wd}(h:At U p (ksW l++(3,[41])::ws))(hl:l.length≤40000)(hb:∀n∈l,fitB n=true):∃q,ksP U p=(some l,q)∧At U q ((3,[41])::ws):=by
 cases l with
 |nil=>
  have h:At U p ((3,[41])::ws):=h
  refine⟨p,?_,h⟩
  unfold ksP
  rw[h.is];rfl
 |cons n l=>
  have h:At U p ((3,[59])::(cmW nF (n::l)++(3,[41])::ws)):=h
  obtain⟨q,e,ha⟩:=At.cms (n::l) 40000 [] _ ws (by simp) h.adv hl hb
  refine⟨q,?_,ha⟩
  unfold ksP
  rw[h.is]
  exact e
theorem At.blk {p:Ps}{f:Tk}{m:Nat}{b:Bl}(h:At U p (blW b++[(4,[])]))(hv:blOk b=true)(hm:m<200):∃q,blkP U f m p=(some b,q)∧At U q [(4,[])]:=by
 have hv0:=hv
 unfold blOk at hv
 cases hq:kindQ b.kd with
 |none=>rw[hq]at hv;cases hv
 |some r=>
 rw[hq]at hv
 obtain⟨a,k,t⟩:=r
 simp only[Bool.and_eq_true,decide_eq_true_eq,List.all_eq_true]at hv
 obtain⟨v1,v2,v3,v4,v5,v6,v7⟩:=hv
 have harg:(∀s∈argL b,nmOk s=true)∧(argL b).length=a+min t 1∧(argL b).take a=b.ins∧(bif decide (1≤t)then(argL b).getD a []else[])=b.tb:=by
  unfold argL
  by_cases h0:t=0
  ·rw[if_pos h0]at v5
   subst h0
   have htb:=eq_of_beq v5
   rw[v5]
   refine⟨v6,by simp only[cond_true];omega,List.take_of_length_le (by simp only[cond_true];omega),?_⟩
   rw[htb];rfl
  ·rw[if_neg h0]at v5
   have hne:(b.tb==[])=false:=by
    rw[beq_eq_false_iff_ne]
    intro e
    rw[e]at v5
    exact absurd v5 (by decide)
   rw[hne]
   simp only[cond_false]
   refine⟨fun s hs=>?_,by rw[List.length_append,List.length_singleton];omega,List.take_left' v1,?_⟩
   ·rcases List.mem_append.1 hs with hs|hs
    ·exact v6 s hs
    ·rw[List.mem_singleton.1 hs];exact v5
   ·rw[decide_eq_true (by omega)]
    simp only[cond_true]
    rw[List.getD_eq_getElem?_getD,List.getElem?_append_right (by omega),v1,Nat.sub_self];rfl
 obtain⟨g1,g2,g3,g4⟩:=harg
 have hk:∀x∈kindT,x.2.1≤3∧x.2.2.1≤2:=by decide
 have hk:=hk _ (kind_mem hq)
 simp only at hk
 have h:At U p ((1,b.nm)::(3,[61])::(1,b.kd)::(3,[40])::(cmW naF (argL b)++(ksW b.ks++[(3,[41]),(3,[58]),(1,b.ty),(4,[])]))):=by
  have e:blW b++[(4,[])]=(1,b.nm)::(3,[61])::(1,b.kd)::(3,[40])::(cmW naF (argL b)++(ksW b.ks++[(3,[41]),(3,[58]),(1,b.ty),(4,[])])):=by
   unfold blW
   simp only[List.cons_append,List.append_assoc,List.nil_append]
  rwa [e]at h
 have h1:=h.adv
 have h2:=h1.adv
 have h3:=h2.adv
 have h4:=h3.adv
 obtain⟨q1,e1,a1⟩:∃q,arsP U (advP (advP (advP (advP p))))=(some (argL b),q)∧At U q (ksW b.ks++[(3,[41]),(3,[58]),(1,b.ty),(4,[])]):=by
  by_cases hks:b.ks=[]
  ·have e:ksW b.ks=[]:=by unfold ksW;rw[if_pos hks]
   rw[e]at h4⊢
   exact At.ars (.inr rfl) h4 (by omega) g1
  ·have e:ksW b.ks=(3,[59])::cmW nF b.ks:=by unfold ksW;rw[if_neg hks]
   rw[e]at h4⊢
   exact At.ars (.inl rfl) h4 (by omega) g1
 obtain⟨q2,e2,a2⟩:=At.ks a1 (by omega) v7
 have a3:=a2.adv
 have a4:=a3.adv
 have a5:=a4.adv
 refine⟨_,?_,a5⟩
 unfold blkP
 rw[h.nam v3]
 simp only[bnd]
 rw[h1.tak rfl]
 simp only[bndB]
 rw[h2.here.1,h2.here.2,hq]
 simp only[Option.isSome_some,beq_self_eq_true,Bool.not_true,Bool.or_self,cond_false,Option.getD_some]
 unfold bk2P
 rw[h3.tak rfl]
 simp only[bndB]
 rw[e1]
 simp only[bnd]
 rw[e2]
 simp only
 rw[a2.tak rfl]
 simp only
 rw[a3.tak rfl]
 simp only
 rw[a4.nam v4]
 simp only
 rw[a5.k4]
 simp only[beq_self_eq_true,Bool.not_true,cond_false]
 rw[decide_eq_true g2,decide_eq_true v2]
 simp only[Bool.not_true,Bool.or_self,cond_false]
 rw[ful_ok hm,h2.here.2,g3,g4]
theorem At.lne {d d':Dg}{s:Str}{ws:Wd}{x:Ps}(h:At U ps0 ((1,s)::ws))(hr:redP U (hereP U ps0) d (advP ps0)=some (some d',x))(hx:At U x [(4,[])]):(lneP U false d ps0).1=some d':=by
 unfold lneP
 simp only[cond_false]
 rw[h.here.1,hr]
 simp only[beq_self_eq_true,Bool.not_true,cond_false,bnd]
 rw[hx.fin];rfl
theorem At.beg {d:Dg}{n:Str}(h:At U ps0 [(1,diaT),(1,n),(4,[])])(hn:nmOk n=true):(lneP U true d ps0).1=some {d with nm:=n}:=by
 unfold lneP
 simp only[cond_true]
 rw[h.tak rfl]
 simp only[bndB]
 rw[h.adv.nam hn]
 simp only[bnd]
 rw[h.adv.adv.fin]
end
abbrev Its:=List (Str×Nat×Str)
def layRt:Its→Str→Prop
 |[],_=>True
 |(sp,k,t)::ps,tl=>Bls sp∧TkR k t (lay ps tl)∧k≠0∧layRt ps tl
theorem layRt_nil:∀{ps:Its},layRt ps []→layR ps
 |[],_=>trivial
 |(_,_,_)::_,⟨h1,h2,h3,h4⟩=>⟨h1,h2,h3,layRt_nil h4⟩
theorem lay_app:∀(A B:Its) (tl:Str),lay (A++B) tl=lay A (lay B tl)
 |[],_,_=>rfl
 |(sp,k,t)::A,B,tl=>by
  show sp++(t++lay (A++B) tl)=sp++(t++lay A (lay B tl))
  rw[lay_app A B tl]
theorem layRt_app:∀{A B:Its} {tl:Str},layRt A (lay B tl)→layRt B tl→layRt (A++B) tl
 |[],_,_,_,h=>h
 |(sp,k,t)::A,B,tl,⟨h1,h2,h3,h4⟩,h=>⟨h1,by show TkR k t (lay (A++B) tl);rw[lay_app];exact h2,h3,layRt_app h4 h⟩
theorem nxB_of {c:UInt8}{r:Str}(h:inB c=false):nxB (c::r):=fun d hd=>by cases hd;exact h
theorem nxB_nil:nxB []:=fun c h=>by cases h
theorem bls0:Bls []:=fun c h=>by cases h
theorem bls1:Bls [32]:=fun c h=> .inl (List.mem_singleton.1 h)
structure Itm (F:Str→Its) (G:Str) (W:Wd):Prop where
 l:∀s0 tl,lay (F s0) tl=s0++(G++tl)
 r:∀s0 tl,Bls s0→nxB tl→layRt (F s0) tl
 w:∀s0,(F s0).map (·.2)=W
theorem itName {s:Str}(h:nmOk s=true):Itm (fun s0=>[(s0,1,s)]) s [(1,s)]:=
 ⟨fun _ _=>rfl,fun _ tl hs ht=>⟨hs,tk_name h ht,by decide,trivial⟩,fun _=>rfl⟩
theorem itNum {n:Int}(h:fitB n=true):Itm (fun s0=>[(s0,2,Lib.itoa n)]) (Lib.itoa n) [(2,Lib.itoa n)]:=
 ⟨fun _ _=>rfl,fun _ tl hs ht=>⟨hs,tk_num h ht,by decide,trivial⟩,fun _=>rfl⟩
def nuL:Str→List Int→Its
 |_,[]=>[]
 |s0,n::l=>(s0,2,Lib.itoa n)::nuL [32] l
theorem nuL_l:∀(l:List Int) (s0 tl:Str),l≠[]→lay (nuL s0 l) tl=s0++(nmT l++tl)
 |[],_,_,h=>absurd rfl h
 |[n],s0,tl,_=>by
  show s0++(Lib.itoa n++tl)=s0++(Lib.join [Lib.itoa n] [32]++tl)
  rw[jnOne]
 |n::m::l,s0,tl,_=>by
  have ih:=nuL_l (m::l) [32] tl (by simp)
  show s0++(Lib.itoa n++lay (nuL [32] (m::l)) tl)=s0++(Lib.join (Lib.itoa n::Lib.itoa m::l.map Lib.itoa) [32]++tl)
  rw[ih,jnCons]
  simp only[List.append_assoc];rfl
theorem nuL_r:∀(l:List Int) (s0 tl:Str),Bls s0→nxB tl→(∀n∈l,fitB n=true)→layRt (nuL s0 l) tl
 |[],_,_,_,_,_=>trivial
 |[n],s0,tl,hs,ht,hb=>⟨hs,tk_num (hb n (List.mem_cons_self ..)) ht,by decide,trivial⟩
 |n::m::l,s0,tl,hs,ht,hb=>by
  refine⟨hs,tk_num (hb n (List.mem_cons_self ..)) ?_,by decide,nuL_r (m::l) [32] tl bls1 ht fun x hx=>hb x (List.mem_cons_of_mem _ hx)⟩
  show nxB (32::_)
  exact nxB_of (by decide)
theorem nuL_w:∀(l:List Int) (s0:Str),(nuL s0 l).map (·.2)=nuW l
 |[],_=>rfl
 |n::l,s0=>by
  show(2,Lib.itoa n)::(nuL [32] l).map (·.2)=(2,Lib.itoa n)::nuW l
  rw[nuL_w l]
theorem itNums {l:List Int}(hn:l≠[])(h:∀n∈l,fitB n=true):Itm (fun s0=>nuL s0 l) (nmT l) (nuW l):=
 ⟨fun s0 tl=>nuL_l l s0 tl hn,fun s0 tl hs ht=>nuL_r l s0 tl hs ht h,fun s0=>nuL_w l s0⟩
def cmL {α:Type}(F:α→Str→Its):Str→List α→Its
 |_,[]=>[]
 |s0,[x]=>F x s0
 |s0,x::y::r=>F x s0++([],3,[44])::cmL F [32] (y::r)
theorem itCm {α:Type}{F:α→Str→Its}{G:α→Str}{W:α→Wd}:∀{l:List α},l≠[]→(∀x∈l,Itm (F x) (G x) (W x))→Itm (fun s0=>cmL F s0 l) (Lib.join (l.map G) [44,32]) (cmW W l)
 |[],h,_=>absurd rfl h
 |[x],_,h=>by
  have hx:=h x (List.mem_cons_self ..)
  refine⟨fun s0 tl=>?_,fun s0 tl hs ht=>hx.r s0 tl hs ht,fun s0=>hx.w s0⟩
  show lay (F x s0) tl=s0++(Lib.join [G x] [44,32]++tl)
  rw[hx.l,jnOne]
 |x::y::r,_,h=>by
  have hx:=h x (List.mem_cons_self ..)
  have ih:=itCm (F:=F) (G:=G) (W:=W) (l:=y::r) (by simp) fun z hz=>h z (List.mem_cons_of_mem _ hz)
  refine⟨fun s0 tl=>?_,fun s0 tl hs ht=>?_,fun s0=>?_⟩
  ·show lay (F x s0++([],3,[44])::cmL F [32] (y::r)) tl=s0++(Lib.join (G x::G y::r.map G) [44,32]++tl)
   rw[lay_app,hx.l,jnCons]
   show s0++(G x++([]++([44]++lay (cmL F [32] (y::r)) tl)))=_
   rw[ih.l [32] tl]
   simp only[List.append_assoc,List.nil_append,List.cons_append];rfl
  ·refine layRt_app (hx.r s0 _ hs (nxB_of (by decide))) ⟨bls0,tk_sym (by decide),by decide,ih.r [32] tl bls1 ht⟩
  ·show(F x s0++([],3,[44])::cmL F [32] (y::r)).map (·.2)=W x++(3,[44])::cmW W (y::r)
   rw[List.map_append,hx.w,List.map_cons,ih.w [32]]
theorem lnU_lay {L:Its}{s:Str}{W:Wd}(hr:layRt L [])(hs:lay L []=s)(hw:L.map (·.2)=W)(i:Nat):(linQ (i+1) s (s.length+1) 0).2=none∧ksT (lnU i s)=W++[(4,[])]∧((linQ (i+1) s (s.length+1) 0).1.isEmpty=true↔W=[]):=by
 have h:=lin_layR (i+1) L [] (s.length+1) (layRt_nil hr) (by rw[hs];omega)
 rw[hs]at h
 have h:linQ (i+1) s (s.length+1) 0=(layT (i+1) 0 L,none):=h
 have hk:ksT (layT (i+1) 0 L)=W:=by unfold ksT;rw[layT_ks,←hw]
 refine⟨by rw[h],?_,?_⟩
 ·unfold lnU
  rw[h]
  show ksT (layT (i+1) 0 L++[_])=_
  unfold ksT at hk⊢
  rw[List.map_append,hk];rfl
 ·rw[h,←hk]
  cases L with
  |nil=>exact⟨fun _=>rfl,fun _=>rfl⟩
  |cons x L=>
   obtain⟨sp,k,t⟩:=x
   exact⟨fun h=>(by cases h),fun h=>(by cases h)⟩
structure Gd (L:Its) (G:Str):Prop where
 r:∀tl,nxB tl→layRt L tl
 l:∀tl,lay L tl=G++tl
 z:∀x∈L,x.1=[]∧x.2.1≠4
theorem Gd.app {A B:Its}{G K:Str}{c:UInt8}(a:Gd A G)(b:Gd B K)(hc:inB c=false)(hs:(!(c==32||c==9)&&(!leB c&&(!diB c&&(!(c==45)&&(!(c==35)&&symL.contains c)))))=true):Gd ((A++[([],3,[c])])++B) ((G++[c])++K):=by
 have e:(A++[([],3,[c])])++B=A++(([],3,[c])::B):=by simp
 rw[e]
 refine⟨fun tl ht=>?_,fun tl=>?_,fun x hx=>?_⟩
 ·exact layRt_app (a.r _ (nxB_of hc)) ⟨bls0,tk_sym hs,by decide,b.r tl ht⟩
 ·rw[lay_app,a.l]
  show G++([]++([c]++lay B tl))=_
  rw[b.l];simp
 ·rcases List.mem_append.1 hx with hx|hx
  ·exact a.z x hx
  ·rcases List.mem_cons.1 hx with rfl|hx
   ·exact⟨rfl,by simp⟩
   ·exact b.z x hx
theorem itoa_one {n:Nat}(h:n<10):Lib.itoa (n:Int)=[UInt8.ofNat (48+n)]:=by
 rw[Lib.itoa_nonneg,Lib.decDigits_one h]
def facL (i n:Nat):Its:=([],1,sy i)::(if n=1 then[]else[([],3,[94]),([],2,[UInt8.ofNat (48+n)])])
theorem fac_gd {i n:Nat}(hi:i<5)(h1:1≤n)(h9:n≤9):Gd (facL i n) (facT i n):=by
 have hw:sy i≠[]∧leB ((sy i).getD 0 0)=true∧(sy i).all inB=true∧(sy i).length≤24:=by
  have:∀i:Fin 5,sy i.val≠[]∧leB ((sy i.val).getD 0 0)=true∧(sy i.val).all inB=true∧(sy i.val).length≤24:=by decide
  exact this ⟨i,hi⟩
 have hf:fitB (n:Int)=true:=by unfold fitB;exact decide_eq_true (by omega)
 unfold facL facT
 by_cases hn:n=1
 ·rw[if_pos hn,if_pos hn]
  refine⟨fun tl ht=>⟨bls0,tk_word hw.1 hw.2.1 hw.2.2.1 hw.2.2.2 ht,by decide,trivial⟩,fun tl=>?_,fun x hx=>?_⟩
  ·show[]++(sy i++tl)=_;simp
  ·rw[List.mem_singleton.1 hx];exact⟨rfl,by simp⟩
 ·rw[if_neg hn,if_neg hn]
  refine⟨fun tl ht=>⟨bls0,tk_word hw.1 hw.2.1 hw.2.2.1 hw.2.2.2 (nxB_of (by decide)),by decide,bls0,tk_sym (by decide),by decide,bls0,?_,by decide,trivial⟩,fun tl=>?_,fun x hx=>?_⟩
  ·have:=tk_num (n:=(n:Int)) (r:=tl) hf ht
   rw[itoa_one (by omega)]at this
   exact this
  ·show[]++(sy i++([]++([94]++([]++([UInt8.ofNat (48+n)]++tl)))))=_
   simp
  ·rcases List.mem_cons.1 hx with rfl|hx
   ·exact⟨rfl,by simp⟩
   ·rcases List.mem_cons.1 hx with rfl|hx
    ·exact⟨rfl,by simp⟩
    ·rw[List.mem_singleton.1 hx];exact⟨rfl,by simp⟩
def posI (u:Un):Nat→Its
 |0=>[]
 |i+1=>if 0<ex u i then(if posT u i=[]then[]else posI u i++[([],3,[42])])++facL i (ex u i).toNat else posI u i
theorem pos_gd {u:Un}(hu:uokU u=true):∀i,i≤5→Gd (posI u i) (posT u i)
 |0,_=>⟨fun _ _=>trivial,fun _=>rfl,fun x hx=>by cases hx⟩
 |i+1,h=>by
  have ih:=pos_gd hu i (by omega)
  have hb:=ex_bd hu (show i<5 by omega)
  have e1:posI u (i+1)=if 0<ex u i then(if posT u i=[]then[]else posI u i++[([],3,[42])])++facL i (ex u i).toNat else posI u i:=rfl
  have e2:posT u (i+1)=if 0<ex u i then(if posT u i=[]then[]else posT u i++[42])++facT i (ex u i).toNat else posT u i:=rfl
  rw[e1,e2]
  by_cases h0:0<ex u i
  ·rw[if_pos h0,if_pos h0]
   have hf:=fac_gd (i:=i) (n:=(ex u i).toNat) (by omega) (by omega) (by omega)
   by_cases hp:posT u i=[]
   ·rw[if_pos hp,if_pos hp,List.nil_append,List.nil_append];exact hf
   ·rw[if_neg hp,if_neg hp]
    exact ih.app hf (by decide) (by decide)
  ·rw[if_neg h0,if_neg h0];exact ih
def negI (u:Un):Nat→Its
 |0=>if posT u 5=[]then[([],2,[49])]else posI u 5
 |i+1=>if ex u i<0 then(negI u i++[([],3,[47])])++facL i (-ex u i).toNat else negI u i
theorem neg_gd {u:Un}(hu:uokU u=true):∀i,i≤5→Gd (negI u i) (negT u i)
 |0,_=>by
  unfold negI negT midT
  by_cases hp:posT u 5=[]
  ·rw[if_pos hp,if_pos hp]
   refine⟨fun tl ht=>⟨bls0,?_,by decide,trivial⟩,fun tl=>rfl,fun x hx=>?_⟩
   ·have:=tk_num (n:=((1:Nat):Int)) (r:=tl) (by decide) ht
    rw[itoa_one (by omega)]at this
    exact this
   ·rw[List.mem_singleton.1 hx];exact⟨rfl,by simp⟩
  ·rw[if_neg hp,if_neg hp];exact pos_gd hu 5 (by omega)
 |i+1,h=>by
  have ih:=neg_gd hu i (by omega)
  have hb:=ex_bd hu (show i<5 by omega)
  have e1:negI u (i+1)=if ex u i<0 then(negI u i++[([],3,[47])])++facL i (-ex u i).toNat else negI u i:=rfl
  have e2:negT u (i+1)=if ex u i<0 then(negT u i++[47])++facT i (-ex u i).toNat else negT u i:=rfl
  rw[e1,e2]
  by_cases h0:ex u i<0
  ·rw[if_pos h0,if_pos h0]
   exact ih.app (fac_gd (i:=i) (n:=(-ex u i).toNat) (by omega) (by omega) (by omega)) (by decide) (by decide)
  ·rw[if_neg h0,if_neg h0];exact ih
theorem lay_flat:∀(L:Its),(∀x∈L,x.1=[])→lay L []=(L.map fun x=>x.2.2).flatten
 |[],_=>rfl
 |(sp,k,t)::L,h=>by
  have h1:sp=[]:=h _ (List.mem_cons_self ..)
  show sp++(t++lay L [])=_
  rw[lay_flat L fun x hx=>h x (List.mem_cons_of_mem _ hx),h1];simp
theorem lay_len:∀(L:Its) (tl:Str),layRt L tl→L.length≤(lay L tl).length
 |[],_,_=>Nat.zero_le _
 |(sp,k,t)::L,tl,⟨_,h2,_,h4⟩=>by
  have ih:=lay_len L tl h4
  have:=List.length_pos_iff.2 h2.n
  show L.length+1≤(sp++(t++lay L tl)).length
  rw[List.length_append,List.length_append];omega
def fsp (s0:Str):Its→Its
 |[]=>[]
 |(sp,k,t)::r=>(s0++sp,k,t)::r
def unW (u:Un):Wd:=(negI u 5).map (·.2)
theorem unit_it {u:Un}(hu:uokU u=true):Itm (fun s0=>fsp s0 (negI u 5)) (txt u) (unW u)∧unW u≠[]∧(∀x∈unW u,x.1≠4)∧(unW u).length<40000∧((unW u).map (·.2)).flatten=txt u:=by
 have g:=neg_gd hu 5 (Nat.le_refl _)
 have ht:txt u=negT u 5:=by unfold txt;rw[hu];rfl
 obtain⟨hlen,hne⟩:=negT_len u 5 (Nat.le_refl _)
 have hL:=lay_len _ _ (g.r [] nxB_nil)
 have hG:=g.l []
 rw[List.append_nil]at hG
 have hnn:negI u 5≠[]:=fun e=>by rw[e]at hG;exact hne hG.symm
 have hfl:=lay_flat (negI u 5) fun x hx=>(g.z x hx).1
 have hz:=g.z
 have hr:=g.r
 have hl:=g.l
 rw[ht]
 unfold unW
 generalize negI u 5=L at*
 obtain⟨⟨sp,k,t⟩,r,rfl⟩:∃x r,L=x::r:=by cases L with
  |nil=>exact absurd rfl hnn
  |cons x r=>exact⟨x,r,rfl⟩
 have hsp:sp=[]:=(hz _ (List.mem_cons_self ..)).1
 subst hsp
 refine⟨⟨fun s0 tl=>?_,fun s0 tl hs htl=>?_,fun s0=>rfl⟩,by simp,fun x hx=>?_,?_,?_⟩
 ·have:=hl tl
  show(s0++[])++(t++lay r tl)=_
  have e:lay (([],k,t)::r) tl=t++lay r tl:=rfl
  rw[e]at this
  rw[this,List.append_nil]
 ·obtain⟨_,q2,q3,q4⟩:=hr tl htl
  exact⟨by rw[List.append_nil];exact hs,q2,q3,q4⟩
 ·obtain⟨y,hy,rfl⟩:=List.mem_map.1 hx
  exact(hz y hy).2
 ·rw[List.length_map];rw[hG]at hL;omega
 ·rw[List.map_map]
  rw[←hG,hfl];rfl
structure Ln (s:Str) (W:Wd):Prop where
 e:∃L:Its,layRt L []∧lay L []=s∧L.map (·.2)=W
 n:(10:UInt8)∉s
theorem nm10 {s:Str}(h:nmOk s=true):(10:UInt8)∉s:=fun hm=>by
 have:=List.all_eq_true.1 (nmOk_w h).2.2.1 _ hm
 exact absurd this (by decide)
theorem jm10 {sep:Str}(hs:(10:UInt8)∉sep):∀l:List Str,(∀x∈l,(10:UInt8)∉x)→(10:UInt8)∉Lib.join l sep
 |[],_=>by unfold Lib.join;simp[List.intercalate]
 |[x],h=>by rw[jnOne];exact h x (List.mem_cons_self ..)
 |x::y::l,h=>by
  have ih:=jm10 hs (y::l) fun z hz=>h z (List.mem_cons_of_mem _ hz)
  rw[jnCons]
  intro hm
  rcases List.mem_append.1 hm with hm|hm
  ·exact h x (List.mem_cons_self ..) hm
  ·rcases List.mem_append.1 hm with hm|hm
   ·exact hs hm
   ·exact ih hm
theorem ap10 {a b:Str}(ha:(10:UInt8)∉a)(hb:(10:UInt8)∉b):(10:UInt8)∉a++b:=fun h=>(List.mem_append.1 h).elim ha hb
theorem sy10:∀i:Nat,i<5→(10:UInt8)∉sy i:=fun i hi=>by
 have:∀i:Fin 5,(10:UInt8)∉sy i.val:=by decide
 exact this ⟨i,hi⟩
theorem fac10 {i n:Nat}(hi:i<5)(hn:n≤9):(10:UInt8)∉facT i n:=by
 unfold facT
 refine ap10 (sy10 i hi) ?_
 split
 ·simp
 ·intro h
  rcases List.mem_cons.1 h with h|h
  ·exact absurd h (by decide)
  ·have e:=List.mem_singleton.1 h
   have:=ddOne (n:=n) (by omega)
   rw[←e]at this
   have:(10:UInt8).toNat=10:=rfl
   omega
theorem pos10 {u:Un}(hu:uokU u=true):∀i,i≤5→(10:UInt8)∉posT u i
 |0,_=>by simp[posT]
 |i+1,h=>by
  have ih:=pos10 hu i (by omega)
  have hb:=ex_bd hu (show i<5 by omega)
  have e2:posT u (i+1)=if 0<ex u i then(if posT u i=[]then[]else posT u i++[42])++facT i (ex u i).toNat else posT u i:=rfl
  rw[e2]
  split
  ·refine ap10 ?_ (fac10 (by omega) (by omega))
   split
   ·simp
   ·exact ap10 ih (by decide)
  ·exact ih
theorem neg10 {u:Un}(hu:uokU u=true):∀i,i≤5→(10:UInt8)∉negT u i
 |0,_=>by
  unfold negT midT
  split
  ·decide
  ·exact pos10 hu 5 (by omega)
 |i+1,h=>by
  have ih:=neg10 hu i (by omega)
  have hb:=ex_bd hu (show i<5 by omega)
  have e2:negT u (i+1)=if ex u i<0 then(negT u i++[47])++facT i (-ex u i).toNat else negT u i:=rfl
  rw[e2]
  split
  ·exact ap10 (ap10 ih (by decide)) (fac10 (by omega) (by omega))
  ·exact ih
theorem txt10 {u:Un}(hu:uokU u=true):(10:UInt8)∉txt u:=by
 unfold txt
 rw[hu]
 exact neg10 hu 5 (by omega)
def wType:Str:=[116,121,112,101]
def wCurve:Str:=[99,117,114,118,101]
def wMap:Str:=[109,97,112]
def wIn:Str:=[105,110]
def wBlock:Str:=[98,108,111,99,107]
def wOut:Str:=[111,117,116]
theorem tkW {w tl:Str}(h:(!(w==[])&&(leB (w.getD 0 0)&&(w.all inB&&decide (w.length≤24))))=true)(ht:nxB tl):TkR 1 w tl:=by
 simp only[Bool.and_eq_true,decide_eq_true_eq,Bool.not_eq_true',beq_eq_false_iff_ne]at h
 exact tk_word h.1 h.2.1 h.2.2.1 h.2.2.2 ht
theorem nx32 {r:Str}:nxB (32::r):=nxB_of (by decide)
theorem ln_beg {n:Str}(h:nmOk n=true):Ln (diaT++[32]++n) [(1,diaT),(1,n)]:=
 ⟨⟨[([],1,diaT),([32],1,n)],⟨bls0,tkW (by decide) nx32,by decide,bls1,tk_name h nxB_nil,by decide,trivial⟩,by show[]++(diaT++([32]++(n++[])))=_;simp,rfl⟩,ap10 (by decide) (nm10 h)⟩
def inpB (p:Po):Str:=[105,110,32]++p.nm++[32,58,32]++p.ty++[32]++nmT [p.lo,p.hi]
theorem ln_inp {p:Po}(h:poOk p=true):Ln (inpB p) ((1,wIn)::[(1,p.nm),(3,[58]),(1,p.ty),(2,Lib.itoa p.lo),(2,Lib.itoa p.hi)]):=by
 unfold poOk at h
 simp only[Bool.and_eq_true]at h
 obtain⟨h1,h2,h3,h4⟩:=h
 have it:=itNums (l:=[p.lo,p.hi]) (by simp) (fun n hn=>by
  rcases List.mem_cons.1 hn with rfl|hn
  ·exact h3
  ·rw[List.mem_singleton.1 hn];exact h4)
 refine⟨⟨([],1,wIn)::([32],1,p.nm)::([32],3,[58])::([32],1,p.ty)::nuL [32] [p.lo,p.hi],⟨bls0,tkW (by decide) nx32,by decide,bls1,tk_name h1 nx32,by decide,bls1,tk_sym (by decide),by decide,bls1,tk_name h2 (by rw[it.l];exact nx32),by decide,it.r [32] [] bls1 nxB_nil⟩,?_,?_⟩,?_⟩
 ·show[]++(wIn++([32]++(p.nm++([32]++([58]++([32]++(p.ty++lay (nuL [32] [p.lo,p.hi]) [])))))))=_
  rw[it.l]
  unfold inpB wIn
  simp
 ·show(1,wIn)::(1,p.nm)::(3,[58])::(1,p.ty)::(nuL [32] [p.lo,p.hi]).map (·.2)=_
  rw[it.w];rfl
 ·unfold inpB
  exact ap10 (ap10 (ap10 (ap10 (ap10 (by decide) (nm10 h1)) (by decide)) (nm10 h2)) (by decide)) (jn10 _)
def typB (t:Td):Str:=[116,121,112,101,32]++t.nm++[32,61,32]++Lib.itoa t.ty.bits++[32]++(bif t.ty.signed then sgnT else usgT)++[32]++nmT [t.ty.num,t.ty.off,t.ty.den]++[32]++txt (ftU t.ty)
theorem ln_typ {t:Td}(hn:nmOk t.nm=true)(hf:fok t.ty=true):Ln (typB t) ((1,wType)::typW t (unW (ftU t.ty))):=by
 obtain⟨f1,f2,f3,f4,f5⟩:=fok_fit hf
 obtain⟨iu,_,_,_,_⟩:=unit_it f5
 have it:=itNums (l:=[t.ty.num,t.ty.off,t.ty.den]) (by simp) (fun n hn=>by
  simp only[List.mem_cons,List.not_mem_nil,or_false]at hn
  rcases hn with rfl|rfl|rfl
  ·exact f2
  ·exact f3
  ·exact f4)
 have hsg:∀{tl:Str},nxB tl→TkR 1 (bif t.ty.signed then sgnT else usgT) tl:=fun{tl} ht=>by
  cases t.ty.signed
  ·exact tkW (by decide) ht
  ·exact tkW (by decide) ht
 have hsn:(10:UInt8)∉(bif t.ty.signed then sgnT else usgT):=by
  cases t.ty.signed<;>decide
 refine⟨⟨([],1,wType)::([32],1,t.nm)::([32],3,[61])::([32],2,Lib.itoa t.ty.bits)::([32],1,bif t.ty.signed then sgnT else usgT)::(nuL [32] [t.ty.num,t.ty.off,t.ty.den]++fsp [32] (negI (ftU t.ty) 5)),⟨bls0,tkW (by decide) nx32,by decide,bls1,tk_name hn nx32,by decide,bls1,tk_sym (by decide),by decide,bls1,tk_num f1 nx32,by decide,bls1,hsg (by rw[lay_app,it.l];exact nx32),by decide,layRt_app (it.r [32] _ bls1 (by rw[iu.l];exact nx32)) (iu.r [32] [] bls1 nxB_nil)⟩,?_,?_⟩,?_⟩
 ·show[]++(wType++([32]++(t.nm++([32]++([61]++([32]++(Lib.itoa t.ty.bits++([32]++((bif t.ty.signed then sgnT else usgT)++lay (nuL [32] [t.ty.num,t.ty.off,t.ty.den]++fsp [32] (negI (ftU t.ty) 5)) [])))))))))=_
  rw[lay_app,it.l,iu.l]
  unfold typB wType
  simp
 ·show(1,wType)::(1,t.nm)::(3,[61])::(2,Lib.itoa t.ty.bits)::(1,bif t.ty.signed then sgnT else usgT)::(nuL [32] [t.ty.num,t.ty.off,t.ty.den]++fsp [32] (negI (ftU t.ty) 5)).map (·.2)=_
  rw[List.map_append,it.w,iu.w];rfl
 ·unfold typB
  exact ap10 (ap10 (ap10 (ap10 (ap10 (ap10 (ap10 (ap10 (ap10 (by decide) (nm10 hn)) (by decide)) (no10 _)) (by decide)) hsn) (by decide)) (jn10 _)) (by decide)) (txt10 f5)
def curB (c:Cu):Str:=[99,117,114,118,101,32]++c.nm++[32,61,32,40]++Lib.join ((cuZ c).map nmT) [44,32]++[41]
def prI (q:Int×Int)(s0:Str):Its:=nuL s0 [q.1,q.2]
theorem ln_cur {c:Cu}(hn:nmOk c.nm=true)(hv:cuOk c.xs c.ys=true):Ln (curB c) ((1,wCurve)::(1,c.nm)::(3,[61])::(3,[40])::(cmW prF (c.xs.zip c.ys)++[(3,[41])])):=by
 unfold cuOk at hv
 simp only[Bool.and_eq_true,decide_eq_true_eq]at hv
 obtain⟨hxy,hv1,hv2⟩:=hv
 unfold axOk at hv1
 rw[Bool.and_eq_true,decide_eq_true_eq,Bool.and_eq_true]at hv1
 obtain⟨⟨hl1,hl2⟩,hv3,_⟩:=hv1
 have hzl:(c.xs.zip c.ys).length=c.xs.length:=by rw[List.length_zip];omega
 have it:=itCm (F:=prI) (G:=fun q:Int×Int=>nmT [q.1,q.2]) (W:=prF) (l:=c.xs.zip c.ys) (fun e=>by rw[e]at hzl;simp at hzl;omega) (fun q hq=>itNums (l:=[q.1,q.2]) (by simp) (fun n hn=>by
  rcases List.mem_cons.1 hn with rfl|hn
  ·exact near_fit hv3 _ (List.of_mem_zip hq).1
  ·rw[List.mem_singleton.1 hn];exact near_fit hv2 _ (List.of_mem_zip hq).2))
 have ez:(cuZ c).map nmT=(c.xs.zip c.ys).map fun q:Int×Int=>nmT [q.1,q.2]:=by unfold cuZ;rw[List.map_map];rfl
 refine⟨⟨([],1,wCurve)::([32],1,c.nm)::([32],3,[61])::([32],3,[40])::(cmL prI [] (c.xs.zip c.ys)++[([],3,[41])]),⟨bls0,tkW (by decide) nx32,by decide,bls1,tk_name hn nx32,by decide,bls1,tk_sym (by decide),by decide,bls1,tk_sym (by decide),by decide,layRt_app (it.r [] _ bls0 (nxB_of (by decide))) ⟨bls0,tk_sym (by decide),by decide,trivial⟩⟩,?_,?_⟩,?_⟩
 ·show[]++(wCurve++([32]++(c.nm++([32]++([61]++([32]++([40]++lay (cmL prI [] (c.xs.zip c.ys)++[([],3,[41])]) [])))))))=_
  rw[lay_app,it.l]
  unfold curB wCurve
  rw[ez]
  simp[lay]
 ·show(1,wCurve)::(1,c.nm)::(3,[61])::(3,[40])::((cmL prI [] (c.xs.zip c.ys)++[([],3,[41])]:Its)).map (fun x:Str×Nat×Str=>x.2)=_
  rw[List.map_append,it.w];rfl
 ·unfold curB
  refine ap10 (ap10 (ap10 (ap10 (by decide) (nm10 hn)) (by decide)) (jm10 (by decide) _ fun x hx=>?_)) (by decide)
  obtain⟨z,_,rfl⟩:=List.mem_map.1 hx
  exact jn10 z
def mapB (m:Mp):Str:=[109,97,112,32]++m.nm++[32,61,32,40]++nmT m.xs++[59,32]++nmT m.ys++[59,32]++Lib.join (m.zs.map nmT) [44,32]++[41]
def nuI (z:List Int)(s0:Str):Its:=nuL s0 z
theorem ln_map {c:Mp}(hn:nmOk c.nm=true)(hv:maOk c.xs c.ys c.zs=true):Ln (mapB c) ((1,wMap)::(1,c.nm)::(3,[61])::(3,[40])::(nuW c.xs++(3,[59])::(nuW c.ys++(3,[59])::(cmW nuW c.zs++[(3,[41])])))):=by
 unfold maOk at hv
 simp only[Bool.and_eq_true,decide_eq_true_eq,List.all_eq_true]at hv
 obtain⟨hv1,hv2,hv3,hv4⟩:=hv
 unfold axOk at hv1 hv2
 rw[Bool.and_eq_true,decide_eq_true_eq,Bool.and_eq_true]at hv1 hv2
 obtain⟨⟨x1,x2⟩,x3,_⟩:=hv1
 obtain⟨⟨y1,y2⟩,y3,_⟩:=hv2
 have ne:∀l:List Int,2≤l.length→l≠[]:=fun l hl e=>by rw[e]at hl;simp at hl
 have ix:=itNums (ne _ x1) (near_fit x3)
 have iy:=itNums (ne _ y1) (near_fit y3)
 have it:=itCm (F:=nuI) (G:=nmT) (W:=nuW) (l:=c.zs) (fun e=>by rw[e]at hv3;simp at hv3;omega) (fun z hz=>itNums (ne _ (by have:=(hv4 z hz).1;omega)) (near_fit (List.all_eq_true.2 (hv4 z hz).2)))
 refine⟨⟨([],1,wMap)::([32],1,c.nm)::([32],3,[61])::([32],3,[40])::(nuL [] c.xs++(([],3,[59])::(nuL [32] c.ys++(([],3,[59])::(cmL nuI [32] c.zs++[([],3,[41])]))))),⟨bls0,tkW (by decide) nx32,by decide,bls1,tk_name hn nx32,by decide,bls1,tk_sym (by decide),by decide,bls1,tk_sym (by decide),by decide,layRt_app (ix.r [] _ bls0 (nxB_of (by decide))) ⟨bls0,tk_sym (by decide),by decide,layRt_app (iy.r [32] _ bls1 (nxB_of (by decide))) ⟨bls0,tk_sym (by decide),by decide,layRt_app (it.r [32] _ bls1 (nxB_of (by decide))) ⟨bls0,tk_sym (by decide),by decide,trivial⟩⟩⟩⟩,?_,?_⟩,?_⟩
 ·show[]++(wMap++([32]++(c.nm++([32]++([61]++([32]++([40]++lay (nuL [] c.xs++(([],3,[59])::(nuL [32] c.ys++(([],3,[59])::(cmL nuI [32] c.zs++[([],3,[41])]))))) [])))))))=_
  rw[lay_app,ix.l]
  show[]++(wMap++([32]++(c.nm++([32]++([61]++([32]++([40]++([]++(nmT c.xs++([]++([59]++lay (nuL [32] c.ys++(([],3,[59])::(cmL nuI [32] c.zs++[([],3,[41])]))) [])))))))))))=_
  rw[lay_app,iy.l]
  show[]++(wMap++([32]++(c.nm++([32]++([61]++([32]++([40]++([]++(nmT c.xs++([]++([59]++([32]++(nmT c.ys++([]++([59]++lay (cmL nuI [32] c.zs++[([],3,[41])]) [])))))))))))))))=_
  rw[lay_app,it.l]
  unfold mapB wMap
  simp[lay]
 ·simp only[List.map_cons,List.map_append,List.map_nil]
  rw[ix.w,iy.w,it.w]
 ·unfold mapB
  refine ap10 (ap10 (ap10 (ap10 (ap10 (ap10 (ap10 (ap10 (by decide) (nm10 hn)) (by decide)) (jn10 _)) (by decide)) (jn10 _)) (by decide)) (jm10 (by decide) _ fun x hx=>?_)) (by decide)
  obtain⟨z,_,rfl⟩:=List.mem_map.1 hx
  exact jn10 z
def outB (l:List Str):Str:=[111,117,116,32]++Lib.join l [44,32]
def naI (s s0:Str):Its:=[(s0,1,s)]
theorem itNames {l:List Str}(hn:l≠[])(hb:∀s∈l,nmOk s=true):Itm (fun s0=>cmL naI s0 l) (Lib.join l [44,32]) (cmW naF l):=by
 have it:=itCm (F:=naI) (G:=fun s:Str=>s) (W:=naF) (l:=l) hn (fun s hs=>itName (hb s hs))
 rw[List.map_id']at it
 exact it
theorem ln_out {l:List Str}(hn:l≠[])(hb:∀s∈l,nmOk s=true):Ln (outB l) ((1,wOut)::cmW naF l):=by
 have it:=itNames hn hb
 refine⟨⟨([],1,wOut)::cmL naI [32] l,⟨bls0,tkW (by decide) (by rw[it.l];exact nx32),by decide,it.r [32] [] bls1 nxB_nil⟩,?_,?_⟩,?_⟩
 ·show[]++(wOut++lay (cmL naI [32] l) [])=_
  rw[it.l]
  unfold outB wOut
  simp
 ·show(1,wOut)::(cmL naI [32] l).map (·.2)=_
  rw[it.w]
 ·unfold outB
  exact ap10 (by decide) (jm10 (by decide) _ fun x hx=>nm10 (hb x hx))
def nI (n:Int)(s0:Str):Its:=[(s0,2,Lib.itoa n)]
def ksI (l:List Int):Its:=if l=[]then[]else([],3,[59])::cmL nI [32] l
def blB (b:Bl):Str:=(bif decide (0<b.ks.length)then blA b (Lib.join (argL b) [44,32])++([59,32]++jnI b.ks)else blA b (Lib.join (argL b) [44,32]))++[41,32,58,32]++b.ty
theorem ln_blk {b:Bl}(hv:blOk b=true):Ln (blB b) ((1,wBlock)::blW b):=by
 have hv0:=hv
 unfold blOk at hv
 cases hq:kindQ b.kd with
 |none=>rw[hq]at hv;cases hv
 |some r=>
 rw[hq]at hv
 obtain⟨a,k,t⟩:=r
 simp only[Bool.and_eq_true,decide_eq_true_eq,List.all_eq_true]at hv
 obtain⟨v1,v2,v3,v4,v5,v6,v7⟩:=hv
 have hkd:(!(b.kd==[])&&(leB (b.kd.getD 0 0)&&(b.kd.all inB&&decide (b.kd.length≤24))))=true:=by
  have:∀x∈kindT,(!(x.1==[])&&(leB (x.1.getD 0 0)&&(x.1.all inB&&decide (x.1.length≤24))))=true:=by decide
  exact this _ (kind_mem hq)
 have hk10:(10:UInt8)∉b.kd:=by
  have:∀x∈kindT,(10:UInt8)∉x.1:=by decide
  exact this _ (kind_mem hq)
 have hag:∀s∈argL b,nmOk s=true:=by
  unfold argL
  by_cases h0:t=0
  ·rw[if_pos h0]at v5
   rw[v5];exact v6
  ·rw[if_neg h0]at v5
   have hne:(b.tb==[])=false:=by
    rw[beq_eq_false_iff_ne]
    intro e
    rw[e]at v5
    exact absurd v5 (by decide)
   rw[hne]
   intro s hs
   have hs:s∈b.ins++[b.tb]:=hs
   rcases List.mem_append.1 hs with hs|hs
   ·exact v6 s hs
   ·rw[List.mem_singleton.1 hs];exact v5
 have ia:∀tl,nxB tl→lay (cmL naI [] (argL b)) tl=Lib.join (argL b) [44,32]++tl∧layRt (cmL naI [] (argL b)) tl∧(cmL naI [] (argL b)).map (·.2)=cmW naF (argL b):=fun tl ht=>by
  by_cases h0:argL b=[]
  ·rw[h0]
   exact⟨rfl,trivial,rfl⟩
  ·have it:=itNames h0 hag
   exact⟨by rw[it.l];rfl,it.r [] tl bls0 ht,it.w []⟩
 have ik:∀tl,nxB tl→lay (ksI b.ks) tl=(bif decide (0<b.ks.length)then[59,32]++jnI b.ks else[])++tl∧layRt (ksI b.ks) tl∧(ksI b.ks).map (·.2)=ksW b.ks:=fun tl ht=>by
  unfold ksI ksW
  by_cases h0:b.ks=[]
  ·rw[if_pos h0,if_pos h0,h0]
   exact⟨rfl,trivial,rfl⟩
  ·rw[if_neg h0,if_neg h0,decide_eq_true (List.length_pos_iff.2 h0)]
   have it:=itCm (F:=nI) (G:=Lib.itoa) (W:=nF) (l:=b.ks) h0 (fun n hn=>itNum (v7 n hn))
   refine⟨?_,⟨bls0,tk_sym (by decide),by decide,it.r [32] tl bls1 ht⟩,?_⟩
   ·show[]++([59]++lay (cmL nI [32] b.ks) tl)=_
    rw[it.l]
    unfold jnI
    simp
   ·rw[List.map_cons,it.w]
 have hnx:∀r:Str,nxB ((bif decide (0<b.ks.length)then[59,32]++jnI b.ks else[])++(41::r)):=fun r=>by
  cases decide (0<b.ks.length)<;>exact nxB_of (by decide)
 obtain⟨k1,k2,k3⟩:=ik (lay [([],3,[41]),([32],3,[58]),([32],1,b.ty)] []) (nxB_of (by decide))
 obtain⟨a1,a2,a3⟩:=ia (lay (ksI b.ks++[([],3,[41]),([32],3,[58]),([32],1,b.ty)]) []) (by rw[lay_app,k1];exact hnx _)
 refine⟨⟨([],1,wBlock)::([32],1,b.nm)::([32],3,[61])::([32],1,b.kd)::([],3,[40])::(cmL naI [] (argL b)++(ksI b.ks++[([],3,[41]),([32],3,[58]),([32],1,b.ty)])),⟨bls0,tkW (by decide) nx32,by decide,bls1,tk_name v3 nx32,by decide,bls1,tk_sym (by decide),by decide,bls1,tkW hkd (nxB_of (by decide)),by decide,bls0,tk_sym (by decide),by decide,layRt_app a2 (layRt_app k2 ⟨bls0,tk_sym (by decide),by decide,bls1,tk_sym (by decide),by decide,bls1,tk_name v4 nxB_nil,by decide,trivial⟩)⟩,?_,?_⟩,?_⟩
 ·show[]++(wBlock++([32]++(b.nm++([32]++([61]++([32]++(b.kd++([]++([40]++lay (cmL naI [] (argL b)++(ksI b.ks++[([],3,[41]),([32],3,[58]),([32],1,b.ty)])) [])))))))))=_
  rw[lay_app,a1,lay_app,k1]
  unfold blB blA wBlock
  cases decide (0<b.ks.length)<;>simp[lay]
 ·show(1,wBlock)::(1,b.nm)::(3,[61])::(1,b.kd)::(3,[40])::((cmL naI [] (argL b)++(ksI b.ks++[([],3,[41]),([32],3,[58]),([32],1,b.ty)]):Its)).map (fun x:Str×Nat×Str=>x.2)=_
  rw[List.map_append,List.map_append,a3,k3];rfl
 ·have hj:(10:UInt8)∉blA b (Lib.join (argL b) [44,32]):=by
   unfold blA
   exact ap10 (ap10 (ap10 (ap10 (ap10 (by decide) (nm10 v3)) (by decide)) hk10) (by decide)) (jm10 (by decide) _ fun x hx=>nm10 (hag x hx))
  have hji:(10:UInt8)∉jnI b.ks:=by
   unfold jnI
   refine jm10 (by decide) _ fun x hx=>?_
   obtain⟨n,_,rfl⟩:=List.mem_map.1 hx
   exact no10 n
  unfold blB
  refine ap10 (ap10 ?_ (by decide)) (nm10 v4)
  cases decide (0<b.ks.length)
  ·exact hj
  ·exact ap10 hj (ap10 (by decide) hji)
def Step (W:Wd)(d d':Dg):Prop:=∀U,ksT U=W++[(4,[])]→(lneP U false d ps0).1=some d'
def Ch:List Str→Dg→Dg→Prop
 |[],d,d'=>d=d'
 |s::ss,d,d'=>∃W m,Ln s W∧W≠[]∧Step W d m∧Ch ss m d'
theorem Ch.app:∀{A B:List Str} {d m e:Dg},Ch A d m→Ch B m e→Ch (A++B) d e
 |[],_,_,_,_,h,k=>by cases h;exact k
 |_::_,_,_,_,_,⟨W,x,h1,h2,h3,h4⟩,k=>⟨W,x,h1,h2,h3,h4.app k⟩
theorem at0 {U:List Tk}{W:Wd}(h:ksT U=W):At U ps0 W:=⟨rfl,h⟩
theorem step_typ {d:Dg}{t:Td}(hn:nmOk t.nm=true)(hf:fok t.ty=true)(hm:d.tys.length<30):Step ((1,wType)::typW t (unW (ftU t.ty))) d {d with tys:=d.tys++[t]}:=fun U hU=>by
 have h:At U ps0 ((1,wType)::(typW t (unW (ftU t.ty))++[(4,[])])):=at0 hU
 obtain⟨_,u1,u2,u3,u4⟩:=unit_it (fok_fit hf).2.2.2.2
 obtain⟨q,e,ha⟩:=At.typ (f:=hereP U ps0) h.adv hn hf hm u1 u2 u3 u4
 refine At.lne h ?_ ha
 unfold redP
 rw[h.here.2,if_pos (by decide),e];rfl
theorem step_cur {d:Dg}{c:Cu}(hn:nmOk c.nm=true)(hv:cuOk c.xs c.ys=true)(hm:d.cus.length<30):Step ((1,wCurve)::(1,c.nm)::(3,[61])::(3,[40])::(cmW prF (c.xs.zip c.ys)++[(3,[41])])) d {d with cus:=d.cus++[c]}:=fun U hU=>by
 have h:At U ps0 ((1,wCurve)::(1,c.nm)::(3,[61])::(3,[40])::(cmW prF (c.xs.zip c.ys)++[(3,[41]),(4,[])])):=at0 (by rw[hU];simp)
 obtain⟨q,e,ha⟩:=At.cur (f:=hereP U ps0) h.adv hn hv hm
 refine At.lne h ?_ ha
 unfold redP
 rw[h.here.2,if_neg (by decide),if_pos (by decide),e];rfl
theorem step_map {d:Dg}{c:Mp}(hn:nmOk c.nm=true)(hv:maOk c.xs c.ys c.zs=true)(hm:d.mas.length<30):Step ((1,wMap)::(1,c.nm)::(3,[61])::(3,[40])::(nuW c.xs++(3,[59])::(nuW c.ys++(3,[59])::(cmW nuW c.zs++[(3,[41])])))) d {d with mas:=d.mas++[c]}:=fun U hU=>by
 have h:At U ps0 ((1,wMap)::(1,c.nm)::(3,[61])::(3,[40])::(nuW c.xs++(3,[59])::(nuW c.ys++(3,[59])::(cmW nuW c.zs++[(3,[41]),(4,[])])))):=at0 (by rw[hU];simp)
 obtain⟨q,e,ha⟩:=At.map (f:=hereP U ps0) h.adv hn hv hm
 refine At.lne h ?_ ha
 unfold redP
 rw[h.here.2,if_neg (by decide),if_neg (by decide),if_pos (by decide),e];rfl
theorem step_inp {d:Dg}{x:Po}(ho:poOk x=true)(hm:d.ins.length<30):Step ((1,wIn)::[(1,x.nm),(3,[58]),(1,x.ty),(2,Lib.itoa x.lo),(2,Lib.itoa x.hi)]) d {d with ins:=d.ins++[x]}:=fun U hU=>by
 have h:At U ps0 ((1,wIn)::[(1,x.nm),(3,[58]),(1,x.ty),(2,Lib.itoa x.lo),(2,Lib.itoa x.hi),(4,[])]):=at0 hU
 obtain⟨q,e,ha⟩:=At.inp (f:=hereP U ps0) h.adv ho hm
 refine At.lne h ?_ ha
 unfold redP
 rw[h.here.2,if_neg (by decide),if_neg (by decide),if_neg (by decide),if_pos (by decide),e];rfl
theorem step_blk {d:Dg}{b:Bl}(ho:blOk b=true)(hm:d.bls.length<200):Step ((1,wBlock)::blW b) d {d with bls:=d.bls++[b]}:=fun U hU=>by
 have h:At U ps0 ((1,wBlock)::(blW b++[(4,[])])):=at0 hU
 obtain⟨q,e,ha⟩:=At.blk (f:=hereP U ps0) h.adv ho hm
 refine At.lne h ?_ ha
 unfold redP
 rw[h.here.2,if_neg (by decide),if_neg (by decide),if_neg (by decide),if_neg (by decide),if_pos (by decide),e];rfl
theorem step_out {d:Dg}{l:List Str}(hn:l≠[])(hl:l.length≤30)(hb:∀s∈l,nmOk s=true)(h0:d.ous=[]):Step ((1,wOut)::cmW naF l) d {d with ous:=d.ous++l}:=fun U hU=>by
 have h:At U ps0 ((1,wOut)::(cmW naF l++[(4,[])])):=at0 hU
 obtain⟨q,e,ha⟩:=At.out (f:=hereP U ps0) h.adv hn hl hb
 refine At.lne h ?_ ha
 unfold redP
 rw[h.here.2,if_neg (by decide),if_neg (by decide),if_neg (by decide),if_neg (by decide),if_neg (by decide),if_pos (by decide)]
 rw[h0]
 show some (Option.map _ (outP U _ 0 _).1,(outP U _ 0 _).2)=_
 rw[e];rfl
theorem ch_tys:∀(l:List Td) (d:Dg),d.tys.length+l.length≤30→(∀t∈l,nmOk t.nm=true∧fok t.ty=true)→Ch (l.map typB) d {d with tys:=d.tys++l}
 |[],d,_,_=>by show d=_;rw[List.append_nil]
 |t::l,d,h,hb=>by
  obtain⟨h1,h2⟩:=hb t (List.mem_cons_self ..)
  have ih:=ch_tys l {d with tys:=d.tys++[t]} (by simp at h⊢;omega) fun x hx=>hb x (List.mem_cons_of_mem _ hx)
  simp only[List.append_assoc,List.singleton_append]at ih
  exact⟨_,_,ln_typ h1 h2,by simp,step_typ h1 h2 (by simp at h;omega),ih⟩
theorem ch_cus:∀(l:List Cu) (d:Dg),d.cus.length+l.length≤30→(∀t∈l,nmOk t.nm=true∧cuOk t.xs t.ys=true)→Ch (l.map curB) d {d with cus:=d.cus++l}
 |[],d,_,_=>by show d=_;rw[List.append_nil]
 |t::l,d,h,hb=>by
  obtain⟨h1,h2⟩:=hb t (List.mem_cons_self ..)
  have ih:=ch_cus l {d with cus:=d.cus++[t]} (by simp at h⊢;omega) fun x hx=>hb x (List.mem_cons_of_mem _ hx)
  simp only[List.append_assoc,List.singleton_append]at ih
  exact⟨_,_,ln_cur h1 h2,by simp,step_cur h1 h2 (by simp at h;omega),ih⟩
theorem ch_mas:∀(l:List Mp) (d:Dg),d.mas.length+l.length≤30→(∀t∈l,nmOk t.nm=true∧maOk t.xs t.ys t.zs=true)→Ch (l.map mapB) d {d with mas:=d.mas++l}
 |[],d,_,_=>by show d=_;rw[List.append_nil]
 |t::l,d,h,hb=>by
  obtain⟨h1,h2⟩:=hb t (List.mem_cons_self ..)
  have ih:=ch_mas l {d with mas:=d.mas++[t]} (by simp at h⊢;omega) fun x hx=>hb x (List.mem_cons_of_mem _ hx)
  simp only[List.append_assoc,List.singleton_append]at ih
  exact⟨_,_,ln_map h1 h2,by simp,step_map h1 h2 (by simp at h;omega),ih⟩
theorem ch_ins:∀(l:List Po) (d:Dg),d.ins.length+l.length≤30→(∀t∈l,poOk t=true)→Ch (l.map inpB) d {d with ins:=d.ins++l}
 |[],d,_,_=>by show d=_;rw[List.append_nil]
 |t::l,d,h,hb=>by
  have h1:=hb t (List.mem_cons_self ..)
  have ih:=ch_ins l {d with ins:=d.ins++[t]} (by simp at h⊢;omega) fun x hx=>hb x (List.mem_cons_of_mem _ hx)
  simp only[List.append_assoc,List.singleton_append]at ih
  exact⟨_,_,ln_inp h1,by simp,step_inp h1 (by simp at h;omega),ih⟩
theorem ch_bls:∀(l:List Bl) (d:Dg),d.bls.length+l.length≤200→(∀t∈l,blOk t=true)→Ch (l.map blB) d {d with bls:=d.bls++l}
 |[],d,_,_=>by show d=_;rw[List.append_nil]
 |t::l,d,h,hb=>by
  have h1:=hb t (List.mem_cons_self ..)
  have ih:=ch_bls l {d with bls:=d.bls++[t]} (by simp at h⊢;omega) fun x hx=>hb x (List.mem_cons_of_mem _ hx)
  simp only[List.append_assoc,List.singleton_append]at ih
  exact⟨_,_,ln_blk h1,by simp,step_blk h1 (by simp at h;omega),ih⟩
def outL (l:List Str):List Str:=if l=[]then[]else[outB l]
def linesD (d:Dg):List Str:=d.tys.map typB++(d.cus.map curB++(d.mas.map mapB++(d.ins.map inpB++(d.bls.map blB++outL d.ous))))
theorem ch_all {d:Dg}(h:DgO d):Ch (linesD d) {d0 with nm:=d.nm} d:=by
 refine(ch_tys d.tys _ (by have:=h.l1;show 0+_≤30;omega) h.t).app ?_
 refine(ch_cus d.cus _ (by have:=h.l2;show 0+_≤30;omega) h.c).app ?_
 refine(ch_mas d.mas _ (by have:=h.l3;show 0+_≤30;omega) h.m).app ?_
 refine(ch_ins d.ins _ (by have:=h.l4;show 0+_≤30;omega) h.i).app ?_
 refine(ch_bls d.bls _ (by have:=h.l5;show 0+_≤200;omega) h.b).app ?_
 obtain⟨nm,tys,cus,mas,ins,bls,ous⟩:=d
 unfold outL
 show Ch (if ous=[]then[]else[outB ous]) _ _
 by_cases h0:ous=[]
 ·rw[if_pos h0,h0];rfl
 ·rw[if_neg h0]
  exact⟨_,_,ln_out h0 h.o,by simp,step_out h0 h.l6 h.o rfl,rfl⟩
theorem ln_use {s:Str}{W:Wd}(h:Ln s W)(hW:W≠[])(i:Nat):(linQ (i+1) s (s.length+1) 0).2=none∧ksT (lnU i s)=W++[(4,[])]∧(linQ (i+1) s (s.length+1) 0).1.isEmpty=false:=by
 obtain⟨⟨L,h1,h2,h3⟩,_⟩:=h
 obtain⟨k1,k2,k3⟩:=lnU_lay h1 h2 h3 i
 refine⟨k1,k2,?_⟩
 cases hq:(linQ (i+1) s (s.length+1) 0).1.isEmpty with
 |false=>rfl
 |true=>exact absurd (k3.1 hq) hW
theorem ch_par:∀(ss:List Str) (d d':Dg) (i:Nat),Ch ss d d'→parW (lnsU i (ss++[[]])) false d=(d',(0,0),0)∧(lnsQ i (ss++[[]])).2.2=0
 |[],d,d',i,h=>by cases h;exact⟨rfl,rfl⟩
 |s::ss,d,d',i,⟨W,m,h1,h2,h3,h4⟩=>by
  obtain⟨k1,k2,k3⟩:=ln_use h1 h2 i
  obtain⟨q1,q2⟩:=ch_par ss m d' (i+1) h4
  constructor
  ·rw[List.cons_append,lnsU,k3]
   simp only[Bool.false_eq_true,if_false,List.singleton_append]
   rw[parW,h3 _ k2]
   exact q1
  ·rw[List.cons_append,lnsQ,k1]
   simp only[q2,ne_eq,not_true_eq_false,if_false]
theorem spl_lines:∀(ss:List Str),(∀s∈ss,(10:UInt8)∉s)→splB 10 (ss.map (· ++[10])).flatten=ss++[[]]
 |[],_=>rfl
 |s::ss,h=>by
  have ih:=spl_lines ss fun x hx=>h x (List.mem_cons_of_mem _ hx)
  rw[List.map_cons,List.flatten_cons,List.append_assoc,List.singleton_append,splB_mid 10 _ s (h s (List.mem_cons_self ..)),ih];rfl
theorem ch_no:∀(ss:List Str) (d d':Dg),Ch ss d d'→∀s∈ss,(10:UInt8)∉s
 |[],_,_,_,s,hs=>by cases hs
 |x::ss,d,d',⟨W,m,h1,h2,h3,h4⟩,s,hs=>by
  rcases List.mem_cons.1 hs with rfl|hs
  ·exact h1.n
  ·exact ch_no ss m d' h4 s hs
theorem join0:∀L:List Str,Lib.join L []=L.flatten
 |[]=>by unfold Lib.join;rfl
 |[x]=>by rw[jnOne];simp
 |x::y::L=>by rw[jnCons,join0 (y::L),List.flatten_cons];simp
theorem fl_nl {α:Type}(F B:α→Str)(h:∀x,F x=B x++[10])(l:List α):Lib.join (l.map F) []=((l.map B).map (· ++[10])).flatten:=by
 rw[join0,List.map_map]
 congr 1
 exact List.map_congr_left fun x _=>h x
def hdB (d:Dg):Str:=diaT++[32]++d.nm
theorem txt_lines (d:Dg):txtD d=((hdB d::linesD d).map (· ++[10])).flatten:=by
 have e1:=fl_nl typT typB (fun t=>rfl) d.tys
 have e2:=fl_nl curT curB (fun c=>by unfold curT curB;simp) d.cus
 have e3:=fl_nl mapT mapB (fun c=>by unfold mapT mapB;simp) d.mas
 have e4:=fl_nl inpT inpB (fun c=>rfl) d.ins
 have e5:=fl_nl blT blB (fun c=>rfl) d.bls
 unfold txtD hdT linesD outL hdB
 rw[e1,e2,e3,e4,e5]
 by_cases h0:d.ous=[]
 ·rw[if_pos h0,h0]
  simp[diaT]
 ·rw[if_neg h0,decide_eq_true (List.length_pos_iff.2 h0)]
  simp[diaT,outB]
theorem par_txt {d:Dg}(h:dgOk d=true)(hl:¬16384<(txtD d).length):parD (txtD d)=(d,(0,0),0):=by
 have hO:=dgO h
 have hc:=ch_all hO
 have hb:=ln_beg hO.nm
 obtain⟨q1,q2⟩:=ch_par (linesD d) _ _ 1 hc
 obtain⟨k1,k2,k3⟩:=ln_use hb (by simp) 0
 have hs:splB 10 (txtD d)=hdB d::(linesD d++[[]]):=by
  rw[txt_lines,spl_lines _ (fun s hs=>by
   rcases List.mem_cons.1 hs with rfl|hs
   ·exact hb.n
   ·exact ch_no _ _ _ hc s hs)];rfl
 have ht:(tokQ (txtD d)).2.2=0:=by
  unfold tokQ
  rw[if_neg hl,hs,lnsQ]
  have k1:(linQ (0+1) (hdB d) ((hdB d).length+1) 0).2=none:=k1
  rw[k1]
  simp only[q2,ne_eq,not_true_eq_false,if_false]
 have hU:lnsU 0 (splB 10 (txtD d))=lnU 0 (hdB d)::lnsU 1 (linesD d++[[]]):=by
  rw[hs,lnsU]
  have k3:(linQ (0+1) (hdB d) ((hdB d).length+1) 0).1.isEmpty=false:=k3
  rw[k3];rfl
 have kb:(lneP (lnU 0 (hdB d)) true d0 ps0).1=some {d0 with nm:=d.nm}:=At.beg (n:=d.nm) (at0 k2) hO.nm
 rw[par_eq,ht,if_neg (by simp),hU,if_neg (by simp),parW,kb]
 exact q1
end Go.Proofs.YtlnpgbnhcondjaaGreatDoor.Fx
