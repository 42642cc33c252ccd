/-  -/
import Derived.Test.YtlnpgbnhcondjaaGreatDoorTf
import Derived.Test.YtlnpgbnhcondjaaGreatDoorO2
import Derived.Lib.FieldsLaws
import Derived.Lib.Join
namespace Go.Proofs.YtlnpgbnhcondjaaGreatDoor.Fx
set_option linter.unusedVariables false
set_option linter.unusedSimpArgs false
set_option maxRecDepth 100000
section
variable {D L:Type} (bl:L→Bool) (st:L→Bool→D→Option D)
def runL:List L→Bool→D→Option D
 |[],beg,d=>bif beg then none else some d
 |l::R,beg,d=>bif bl l then runL R beg d else(st l beg d).bind fun d'=>runL R false d'
structure RkOk (key:L→Int) (ok:L→Prop):Prop where
 low:∀x,ok x→ -2≤key x
 emp:∀x,ok x→bl x=true→key x= -1
 beg:∀x d d',ok x→bl x=false→st x true d=some d'→key x= -2
 comm:∀x y d d1 d2,ok x→ok y→bl x=false→bl y=false→key x≠key y→st x false d=some d1→st y false d1=some d2→∃d3,st y false d=some d3∧st x false d3=some d2
variable {bl st} {key:L→Int} {ok:L→Prop}
theorem run_sw (h:RkOk bl st key ok){x y:L}(hx:ok x)(hy:ok y)(hk:key y<key x)(B:List L):∀(A:List L) (beg:Bool) (d r:D),runL bl st (A++x::y::B) beg d=some r→runL bl st (A++y::x::B) beg d=some r
 |[],beg,d,r,hr=>by
  rw[List.nil_append]at hr⊢
  cases bx:bl x with
  |true=>
   cases bY:bl y with
   |true=>have:=h.emp x hx bx;have:=h.emp y hy bY;omega
   |false=>
    simp only[runL,bx,bY,cond_true,cond_false]at hr⊢
    exact hr
  |false=>
   cases bY:bl y with
   |true=>
    simp only[runL,bx,bY,cond_true,cond_false]at hr⊢
    exact hr
   |false=>
    simp only[runL,bx,bY,cond_false]at hr⊢
    cases h1:st x beg d with
    |none=>rw[h1]at hr;cases hr
    |some d1=>
     rw[h1]at hr
     simp only[Option.bind_some]at hr
     cases h2:st y false d1 with
     |none=>rw[h2]at hr;cases hr
     |some d2=>
      rw[h2]at hr
      simp only[Option.bind_some]at hr
      cases beg with
      |true=>have:=h.beg x d d1 hx bx h1;have:=h.low y hy;omega
      |false=>
       obtain⟨d3,q1,q2⟩:=h.comm x y d d1 d2 hx hy bx bY (by omega) h1 h2
       rw[q1,Option.bind_some,q2,Option.bind_some];exact hr
 |a::A,beg,d,r,hr=>by
  rw[List.cons_append,runL]at hr⊢
  cases ba:bl a with
  |true=>rw[ba,cond_true]at hr;rw[cond_true];exact run_sw h hx hy hk B A beg d r hr
  |false=>
   rw[ba,cond_false]at hr;rw[cond_false]
   cases h1:st a beg d with
   |none=>rw[h1]at hr;cases hr
   |some d1=>
    rw[h1,Option.bind_some]at hr
    rw[Option.bind_some]
    exact run_sw h hx hy hk B A false d1 r hr
theorem run_ins (h:RkOk bl st key ok){x:L}(hx:ok x)(beg:Bool)(d r:D):∀(l A:List L),(∀y∈l,ok y)→runL bl st (A++x::l) beg d=some r→runL bl st (A++ins key x l) beg d=some r
 |[],A,_,hr=>hr
 |y::l,A,hl,hr=>by
  rw[ins]
  split
  ·exact hr
  ·rename_i hc
   have h1:=run_sw h hx (hl y (List.mem_cons_self ..)) (by omega) l A beg d r hr
   have:=run_ins h hx beg d r l (A++[y]) (fun z hz=>hl z (List.mem_cons_of_mem _ hz)) (by simpa using h1)
   simpa using this
theorem run_isr (h:RkOk bl st key ok)(beg:Bool)(d r:D):∀(l A:List L),(∀y∈l,ok y)→runL bl st (A++l) beg d=some r→runL bl st (A++isr key l) beg d=some r
 |[],A,_,hr=>hr
 |x::l,A,hl,hr=>by
  have h1:=run_isr h beg d r l (A++[x]) (fun z hz=>hl z (List.mem_cons_of_mem _ hz)) (by simpa using hr)
  exact run_ins h (hl x (List.mem_cons_self ..)) beg d r (isr key l) A (fun z hz=>hl z (List.mem_cons_of_mem _ (isr_mem.1 hz))) (by simpa using h1)
end
theorem lin_head (ln:Nat):∀(f:Nat) (x pre:Str),x.length<f→(linQ ln (pre++x) f pre.length).2=none→
  ((linQ ln (pre++x) f pre.length).1=[]∧∃sp r,x=sp++r∧Bls sp∧(r=[]∨∃r',r=35::r'))∨
  ∃sp t k y f' c,x=sp++(t++y)∧Bls sp∧t≠[]∧k≠0∧scnQ (t++y) 0=(k,t.length,0)∧y.length<f'∧(linQ ln (pre++sp++t++y) f' (pre++sp++t).length).2=none∧(linQ ln (pre++x) f pre.length).1=⟨k,t,ln,c⟩::(linQ ln (pre++sp++t++y) f' (pre++sp++t).length).1
 |0,x,pre,hf,_=>by omega
 |f+1,x,pre,hf,he=>by
  rw[linQ]at he⊢
  by_cases h1:(pre++x).length≤pre.length
  ·rw[if_pos h1]
   have:x=[]:=by
    rw[List.length_append]at h1
    exact List.length_eq_zero_iff.1 (by omega)
   subst this
   exact .inl ⟨rfl,[],[],rfl,(fun c hc=>by cases hc),.inl rfl⟩
  rw[if_neg h1]at he⊢
  have hx:x≠[]:=fun h=>h1 (by subst h;simp)
  obtain⟨c0,x0,rfl⟩:=List.exists_cons_of_ne_nil hx
  have g0:(pre++c0::x0).getD pre.length 0=c0:=getD_pre pre (c0::x0) 0
  by_cases h2:(pre++c0::x0).getD pre.length 0=35
  ·rw[if_pos h2]at he⊢
   have h2:c0=35:=by rw[←g0];exact h2
   subst h2
   left
   refine⟨?_,[],35::x0,rfl,(fun c hc=>by cases hc),.inr ⟨x0,rfl⟩⟩
   cases hb:badK (pre++35::x0) ((pre++35::x0).length+1) pre.length with
   |none=>rfl
   |some j=>rfl
  rw[if_neg h2]at he⊢
  by_cases h3:(scnQ (pre++c0::x0) pre.length).2.2≠0
  ·rw[if_pos h3]at he;cases he
  rw[if_neg h3]at he⊢
  rw[scn_pre]at he h3⊢
  rw[sub_pre]
  have hse:(scnQ (c0::x0) 0).2.2=0:=by omega
  obtain⟨q1,q2,q3⟩:=scn_ok (l:=c0::x0) (k:=0) (by simp) hse
  simp only at he
  generalize hn:(scnQ (c0::x0) 0).2.1=n at*
  have hsp:c0::x0=(c0::x0).take n++(c0::x0).drop n:=(List.take_append_drop _ _).symm
  have hlt:((c0::x0).take n).length=n:=by rw[List.length_take];omega
  have hld:((c0::x0).drop n).length<f:=by rw[List.length_drop];omega
  have hp:pre++c0::x0=(pre++(c0::x0).take n)++(c0::x0).drop n:=by rw[List.append_assoc,←hsp]
  have hpl:pre.length+n=(pre++(c0::x0).take n).length:=by rw[List.length_append,hlt]
  by_cases h0:(scnQ (c0::x0) 0).1=0
  ·-- a blank
   have hb:(c0=32∨c0=9)∧n=1:=by
    have hg:(c0::x0).getD 0 0=c0:=rfl
    unfold scnQ at h0 hse hn
    simp only[hg]at h0 hse hn
    by_cases k1:c0=32∨c0=9
    ·rw[if_pos k1]at hn;exact⟨k1,hn.symm⟩
    rw[if_neg k1]at h0 hse
    by_cases k2:leB c0=true
    ·rw[if_pos k2]at h0 hse
     split at hse
     ·cases hse
     ·rename_i k3;rw[if_neg k3]at h0;cases h0
    rw[if_neg k2]at h0 hse
    split at hse
    ·rename_i k4
     rw[if_pos k4]at h0
     split at hse
     ·cases hse
     ·rename_i k5
      rw[if_neg k5]at h0
      split at hse
      ·cases hse
      ·rename_i k6;rw[if_neg k6]at h0;cases h0
    ·rename_i k4
     rw[if_neg k4]at h0
     split at hse
     ·rename_i k5;rw[if_pos k5]at h0;cases h0
     ·cases hse
   obtain⟨hb,rfl⟩:=hb
   rw[if_pos h0,List.nil_append]
   have e1:pre++c0::x0=(pre++[c0])++x0:=by simp
   have e2:pre.length+1=(pre++[c0]).length:=by simp
   rw[e1,e2]at he⊢
   rcases lin_head ln f x0 (pre++[c0]) (by simp at hf;omega) he with⟨r1,sp,r,r2,r3,r4⟩|⟨sp,t,k,y,f',c,r1,r2,r3,r4,r5,r6,r7,r8⟩
   ·exact .inl ⟨r1,c0::sp,r,by rw[r2];rfl,(fun c hc=>by
     rcases List.mem_cons.1 hc with rfl|hc
     ·exact hb
     ·exact r3 c hc),r4⟩
   ·have e3:pre++[c0]++sp=pre++(c0::sp):=by simp
    rw[e3]at r7 r8
    exact .inr ⟨c0::sp,t,k,y,f',c,by rw[r1];rfl,(fun c hc=>by
     rcases List.mem_cons.1 hc with rfl|hc
     ·exact hb
     ·exact r2 c hc),r3,r4,r5,r6,r7,r8⟩
  ·right
   rw[if_neg h0,List.singleton_append]
   rw[hp,hpl]at he
   refine⟨[],(c0::x0).take n,(scnQ (c0::x0) 0).1,(c0::x0).drop n,f,pre.length+1,by rw[List.nil_append,←hsp],(fun c hc=>by cases hc),?_,h0,?_,hld,?_,?_⟩
   ·intro h;rw[h]at hlt;simp at hlt;omega
   ·rw[←hsp,hlt,←hn,←hse]
   ·rw[List.append_nil];exact he
   ·rw[List.append_nil]
    rw[←hpl,←hp]
    rfl
theorem scn_k1 {t y:Str}(h:scnQ (t++y) 0=(1,t.length,0)):t=(t++y).takeWhile inB∧∀c,(t++y).head?=some c→leB c=true:=by
 unfold scnQ at h
 simp only at h
 by_cases k1:(t++y).getD 0 0=32∨(t++y).getD 0 0=9
 ·rw[if_pos k1]at h;simp at h
 rw[if_neg k1]at h
 by_cases k2:leB ((t++y).getD 0 0)=true
 ·rw[if_pos k2]at h
  split at h
  ·simp at h
  ·have h1:run1 inB (t++y) 0=t.length:=congrArg (·.2.1) h
   refine⟨?_,fun c hc=>?_⟩
   ·have h2:((t++y).takeWhile inB).length=t.length:=h1
    have h3:=tw_take inB (t++y)
    rw[h2,List.take_left]at h3
    exact h3
   ·cases hq:t++y with
    |nil=>rw[hq]at hc;cases hc
    |cons a b=>
     rw[hq]at hc k2
     cases hc
     exact k2
 ·rw[if_neg k2]at h
  split at h
  ·split at h
   ·simp at h
   ·split at h
    ·simp at h
    ·simp at h
  ·split at h
   ·simp at h
   ·simp at h
theorem bls_sp {sp:Str}(h:Bls sp):∀c∈sp,Lib.isSp c=true:=fun c hc=>by
 rcases h c hc with h|h<;>rw[h]<;>decide
theorem inB_sp {c:UInt8}(h:inB c=true):Lib.isSp c=false:=by
 cases hs:Lib.isSp c with
 |false=>rfl
 |true=>
  exfalso
  unfold Lib.isSp at hs
  simp only[Bool.or_eq_true,beq_iff_eq]at hs
  rcases hs with((((rfl|rfl)|rfl)|rfl)|rfl)|rfl<;>exact absurd h (by decide)
theorem flds_sp (y:Str):∀sp:Str,(∀c∈sp,Lib.isSp c=true)→Lib.fields (sp++y)=Lib.fields y
 |[],_=>rfl
 |c::sp,h=>by
  have:=flds_sp y sp fun x hx=>h x (List.mem_cons_of_mem _ hx)
  unfold Lib.fields at this⊢
  rw[List.cons_append,Lib.fieldsGo_sp c _ (h c (List.mem_cons_self ..)),this]
theorem flds_wd (b:UInt8)(r:Str)(hb:Lib.isSp b=true):∀(t cur:Str),(∀c∈t,Lib.isSp c=false)→cur++t≠[]→Lib.fieldsGo cur (t++b::r)=(cur++t)::Lib.fields r
 |[],cur,_,hc=>by
  rw[List.append_nil]at hc⊢
  exact Lib.fieldsGo_end cur b r hb hc
 |c::t,cur,h,hc=>by
  rw[List.cons_append,Lib.fieldsGo_more cur c _ (h c (List.mem_cons_self ..)),flds_wd b r hb t (cur++[c]) (fun x hx=>h x (List.mem_cons_of_mem _ hx)) (by simp),List.append_assoc];rfl
theorem fld_none {l:Str}(he:(linQ 1 l (l.length+1) 0).2=none)(hb:(linQ 1 l (l.length+1) 0).1=[]):Lib.fields l=[]∨∃r,Lib.trimSpace l=35::r:=by
 rcases lin_head 1 (l.length+1) l [] (by omega) he with⟨_,sp,r,r1,r2,r3⟩|⟨sp,t,k,y,f',c,_,_,_,_,_,_,_,r8⟩
 ·rcases r3 with rfl|⟨r',rfl⟩
  ·left;rw[r1,flds_sp [] sp (bls_sp r2)];rfl
  ·right
   have e1:∀(sp:Str),(∀c∈sp,Lib.isSp c=true)→(sp++35::r').dropWhile Lib.isSp=35::r':=by
    intro sp
    induction sp with
    |nil=>intro _;rfl
    |cons c sp ih=>
     intro h
     rw[List.cons_append,List.dropWhile_cons,if_pos (h c (List.mem_cons_self ..))]
     exact ih fun x hx=>h x (List.mem_cons_of_mem _ hx)
   unfold Lib.trimSpace
   rw[r1,e1 sp (bls_sp r2),List.reverse_cons]
   have e2:∀z:Str,∃z',(z++[35]).dropWhile Lib.isSp=z'++[35]:=by
    intro z
    induction z with
    |nil=>exact⟨[],rfl⟩
    |cons c z ih=>
     rw[List.cons_append,List.dropWhile_cons]
     split
     ·exact ih
     ·exact⟨c::z,rfl⟩
   obtain⟨z',hz⟩:=e2 r'.reverse
   rw[hz]
   exact⟨z'.reverse,by simp⟩
 ·have hb':(linQ 1 ([]++l) (l.length+1) ([]:Str).length).1=[]:=hb
  rw[r8]at hb';cases hb'
theorem fld_two {l:Str}(he:(linQ 1 l (l.length+1) 0).2=none){t1 t2:Tk}{R:List Tk}(h:(linQ 1 l (l.length+1) 0).1=t1::t2::R)(h1:t1.k=1)(h2:t2.k=1):∃fs,Lib.fields l=t1.s::fs:=by
 have h:(linQ 1 ([]++l) (l.length+1) ([]:Str).length).1=t1::t2::R:=h
 rcases lin_head 1 (l.length+1) l [] (by omega) he with⟨r0,_⟩|⟨sp,t,k,y,f',c,r1,r2,r3,r4,r5,r6,r7,r8⟩
 ·rw[r0]at h;cases h
 rw[r8]at h
 obtain⟨e1,e2⟩:=List.cons.inj h
 subst e1
 have h1:k=1:=h1
 subst h1
 rcases lin_head 1 f' y ([]++sp++t) r6 r7 with⟨q0,_⟩|⟨sp2,t',k',y',f2,c',q1,q2,q3,q4,q5,q6,q7,q8⟩
 ·rw[q0]at e2;cases e2
 rw[q8]at e2
 obtain⟨e3,_⟩:=List.cons.inj e2
 subst e3
 have h2:k'=1:=h2
 subst h2
 obtain⟨w1,w2⟩:=scn_k1 r5
 obtain⟨v1,v2⟩:=scn_k1 q5
 have hall:∀c∈t,Lib.isSp c=false:=fun c hc=>inB_sp (tw_mem inB (t++y) c (by rw[←w1];exact hc))
 rw[r1,flds_sp _ sp (bls_sp r2)]
 show ∃fs,Lib.fields (t++y)=t::fs
 cases sp2 with
 |nil=>
  exfalso
  rw[List.nil_append]at q1
  obtain⟨a,b,hab⟩:=List.exists_cons_of_ne_nil (show t'++y'≠[] from fun h=>q3 (List.append_eq_nil_iff.1 h).1)
  have ha:=leB_inB (v2 a (by rw[hab];rfl))
  rw[q1,hab]at w1
  have e9:∀(t:Str),(∀c∈t,inB c=true)→(t++a::b).takeWhile inB=t++(a::b).takeWhile inB:=by
   intro t
   induction t with
   |nil=>intro _;rfl
   |cons c t ih=>
    intro h
    rw[List.cons_append,List.takeWhile_cons,if_pos (h c (List.mem_cons_self ..)),ih fun x hx=>h x (List.mem_cons_of_mem _ hx)];rfl
  rw[e9 t (fun c hc=>tw_mem inB (t++(a::b)) c (by rw[←w1];exact hc)),List.takeWhile_cons,if_pos ha]at w1
  have:=congrArg List.length w1
  rw[List.length_append,List.length_cons]at this
  omega
 |cons b sp2=>
  rw[q1,List.cons_append]
  refine⟨Lib.fields (sp2++(t'++y')),?_⟩
  unfold Lib.fields
  rw[flds_wd b _ (bls_sp q2 b (List.mem_cons_self ..)) t [] hall (by rw[List.nil_append];exact r3)]
  rfl
inductive So where
 |ty
 |cu
 |ma
 |io
 |bk
 |ou
def So.len:So→Dg→Nat
 | .ty,d=>d.tys.length
 | .cu,d=>d.cus.length
 | .ma,d=>d.mas.length
 | .io,d=>d.ins.length
 | .bk,d=>d.bls.length
 | .ou,d=>d.ous.length
def So.app:So→Dg→Dg→Dg
 | .ty,d,x=>{d with tys:=d.tys++x.tys}
 | .cu,d,x=>{d with cus:=d.cus++x.cus}
 | .ma,d,x=>{d with mas:=d.mas++x.mas}
 | .io,d,x=>{d with ins:=d.ins++x.ins}
 | .bk,d,x=>{d with bls:=d.bls++x.bls}
 | .ou,d,x=>{d with ous:=d.ous++x.ous}
def So.wd:So→Str
 | .ty=>[116,121,112,101]
 | .cu=>[99,117,114,118,101]
 | .ma=>[109,97,112]
 | .io=>[105,110]
 | .bk=>[98,108,111,99,107]
 | .ou=>[111,117,116]
theorem So.len_app {i j:So}(h:i≠j)(d x:Dg):j.len (i.app d x)=j.len d:=by
 cases i<;>cases j<;>first|exact absurd rfl h|rfl
theorem So.app_comm {i j:So}(h:i≠j)(d x y:Dg):j.app (i.app d x) y=i.app (j.app d y) x:=by
 cases i<;>cases j<;>first|exact absurd rfl h|rfl
theorem bnd_sm1 {α β:Type}{x:Option α×Ps}{f:α→Ps→Option β×Ps}(h:(bnd x f).1.isSome=true):x.1.isSome=true:=by
 obtain⟨o,q⟩:=x
 cases o with
 |none=>cases h
 |some a=>rfl
section
variable {U:List Tk}
theorem nam_k {p:Ps}(h:(namP U p).1.isSome=true):(hereP U p).k=1:=by
 unfold namP at h
 cases hk:(hereP U p).k==1 with
 |true=>exact eq_of_beq hk
 |false=>rw[hk]at h;cases h
theorem ous_nam {p:Ps}(n:Nat)(l:List Str)(h:(ousP U (n+1) l p).1.isSome=true):(namP U p).1.isSome=true:=by
 rw[ousP]at h;exact bnd_sm1 h
theorem out_nam {f:Tk}{m:Nat}{p:Ps}(h:(outP U f m p).1.isSome=true):(namP U p).1.isSome=true:=by
 unfold outP at h
 exact ous_nam 39999 [] (bnd_sm1 h)
theorem red_loc (f:Tk)(p:Ps)(i:So)(hs:f.s=i.wd):∃(α:Type) (g:Nat→Option α×Ps) (x:α→Dg),(∀e,redP U f e p=some ((g (i.len e)).1.map (fun a=>i.app e (x a)),(g (i.len e)).2))∧∀m,(g m).1.isSome=true→(namP U p).1.isSome=true:=by
 cases i with
 |ty=>exact⟨_,fun m=>typP U f m p,fun a=>{d0 with tys:=[a]},fun e=>by unfold redP;rw[hs];rfl,fun m h=>bnd_sm1 (show(bnd _ _).1.isSome=true from h)⟩
 |cu=>exact⟨_,fun m=>curP U f m p,fun a=>{d0 with cus:=[a]},fun e=>by unfold redP;rw[hs];rfl,fun m h=>bnd_sm1 (show(bnd _ _).1.isSome=true from h)⟩
 |ma=>exact⟨_,fun m=>mapP U f m p,fun a=>{d0 with mas:=[a]},fun e=>by unfold redP;rw[hs];rfl,fun m h=>bnd_sm1 (show(bnd _ _).1.isSome=true from h)⟩
 |io=>exact⟨_,fun m=>inpP U f m p,fun a=>{d0 with ins:=[a]},fun e=>by unfold redP;rw[hs];rfl,fun m h=>bnd_sm1 (show(bnd _ _).1.isSome=true from h)⟩
 |bk=>exact⟨_,fun m=>blkP U f m p,fun a=>{d0 with bls:=[a]},fun e=>by unfold redP;rw[hs];rfl,fun m h=>bnd_sm1 (show(bnd _ _).1.isSome=true from h)⟩
 |ou=>exact⟨_,fun m=>outP U f m p,fun a=>{d0 with ous:=a},fun e=>by unfold redP;rw[hs];rfl,fun m h=>out_nam h⟩
theorem red_six (f:Tk)(d:Dg)(p:Ps)(h:(redP U f d p).isSome=true):∃i:So,f.s=i.wd:=by
 unfold redP at h
 split at h
 ·exact⟨.ty,by assumption⟩
 split at h
 ·exact⟨.cu,by assumption⟩
 split at h
 ·exact⟨.ma,by assumption⟩
 split at h
 ·exact⟨.io,by assumption⟩
 split at h
 ·exact⟨.bk,by assumption⟩
 split at h
 ·exact⟨.ou,by assumption⟩
 ·cases h
theorem lne_loc {d d':Dg}(h:(lneP U false d ps0).1=some d'):∃i:So,(hereP U ps0).k=1∧(hereP U ps0).s=i.wd∧(hereP U (advP ps0)).k=1∧∃F:Nat→Option Dg,∀e,(lneP U false e ps0).1=(F (i.len e)).map (i.app e):=by
 cases hk:(hereP U ps0).k==1 with
 |false=>
  unfold lneP at h
  rw[cond_false,hk]at h;cases h
 |true=>
  have hl:∀e,lneP U false e ps0=match redP U (hereP U ps0) e (advP ps0)with
    |none=>(none,wrnP U ps0)
    |some x=>bnd x fun d p=>bndB (endP U p) fun p=>(some d,p):=fun e=>by
   unfold lneP
   rw[cond_false,hk];rfl
  rw[hl]at h
  have hsome:(redP U (hereP U ps0) d (advP ps0)).isSome=true:=by
   cases hr:redP U (hereP U ps0) d (advP ps0)with
   |none=>rw[hr]at h;cases h
   |some x=>rfl
  obtain⟨i,hi⟩:=red_six _ _ _ hsome
  obtain⟨α,g,x,h1,h2⟩:=red_loc (U:=U) (hereP U ps0) (advP ps0) i hi
  refine⟨i,eq_of_beq hk,hi,?_,fun m=>(bnd (g m) fun a p=>bndB (endP U p) fun p=>(some (x a),p)).1,fun e=>?_⟩
  ·rw[h1]at h
   simp only at h
   have h3:=bnd_sm1 (x:=((g (i.len d)).1.map fun a=>i.app d (x a),(g (i.len d)).2)) (by rw[h];rfl)
   refine nam_k (h2 (i.len d) ?_)
   simpa using h3
  ·rw[hl,h1]
   simp only
   generalize g (i.len e)=y
   obtain⟨o,q⟩:=y
   cases o with
   |none=>rfl
   |some a=>
    show(bndB (endP U q) _).1=((bndB (endP U q) _).1).map _
    generalize endP U q=z
    obtain⟨b,r⟩:=z
    cases b<;>rfl
theorem lne_beg {d d':Dg}(h:(lneP U true d ps0).1=some d'):isP U diaT ps0=true∧(hereP U (advP ps0)).k=1:=by
 unfold lneP at h
 rw[cond_true]at h
 unfold takP at h
 cases hi:isP U diaT ps0 with
 |false=>rw[hi]at h;cases h
 |true=>
  rw[hi]at h
  have h:(bnd (namP U (advP ps0)) fun nm p=>bndB (endP U p) fun p=>(some {d with nm:=nm},p)).1=some d':=h
  exact⟨rfl,nam_k (bnd_sm1 (f:=fun nm p=>bndB (endP U p) fun p=>(some {d with nm:=nm},p)) (by rw[h];rfl))⟩
end
def emL (l:Str):Bool:=(linQ 1 l (l.length+1) 0).1.isEmpty
def stL (l:Str)(beg:Bool)(d:Dg):Option Dg:=(lneP (lnU 0 l) beg d ps0).1
theorem lin_ln (a b:Nat)(l:Str):∀(f k:Nat),(linQ a l f k).2=(linQ b l f k).2∧ksT (linQ a l f k).1=ksT (linQ b l f k).1
 |0,k=>⟨rfl,rfl⟩
 |f+1,k=>by
  rw[linQ,linQ]
  split
  ·exact⟨rfl,rfl⟩
  split
  ·split<;>exact⟨rfl,rfl⟩
  split
  ·exact⟨rfl,rfl⟩
  ·obtain⟨h1,h2⟩:=lin_ln a b l f (k+(scnQ l k).2.1)
   refine⟨h1,?_⟩
   unfold ksT at h2⊢
   simp only[List.map_append,h2]
   split<;>rfl
theorem em_ln (a:Nat)(l:Str):(linQ a l (l.length+1) 0).1.isEmpty=emL l:=by
 have h:=(lin_ln a 1 l (l.length+1) 0).2
 unfold emL
 have h:=congrArg List.isEmpty h
 unfold ksT at h
 rw[List.isEmpty_map,List.isEmpty_map]at h
 exact h
theorem st_ln (i:Nat)(l:Str)(beg:Bool)(d:Dg):(lneP (lnU i l) beg d ps0).1=stL l beg d:=by
 have h:=(lin_ln (i+1) 1 l (l.length+1) 0).2
 have hk:ksT (lnU i l)=ksT (lnU 0 l):=by
  unfold lnU ksT at*
  rw[List.map_append,List.map_append,h];rfl
 have hU:=lnU_ok 0 l
 exact(lne_sim (ksT_sim hU.g hk) hU (p:=ps0) (q:=ps0) ⟨rfl,List.length_pos_iff.2 hU.n,rfl,fun _=>trivial⟩ beg d).1
theorem parW_run:∀(L:List Str) (i:Nat) (beg:Bool) (d:Dg),(∀U∈lnsU i L,U.length≤40000)→(parW (lnsU i L) beg d).2.2=0→¬(beg=true∧lnsU i L=[])→runL emL stL L beg d=some (parW (lnsU i L) beg d).1
 |[],i,beg,d,_,_,hn=>by
  cases beg with
  |true=>exact absurd ⟨rfl,rfl⟩ hn
  |false=>rfl
 |l::L,i,beg,d,hl,h0,hn=>by
  rw[lnsU,em_ln]at hl h0 hn⊢
  rw[runL]
  cases he:emL l with
  |true=>
   rw[he,if_pos rfl,List.nil_append]at hl h0 hn
   rw[if_pos rfl,List.nil_append,cond_true]
   exact parW_run L (i+1) beg d hl h0 hn
  |false=>
   rw[he,if_neg (by simp),List.singleton_append]at hl h0
   rw[if_neg (by simp),List.singleton_append,cond_false]
   rw[parW]at h0⊢
   rw[←st_ln i]
   have hU:=lnU_ok i l
   cases ho:(lneP (lnU i l) beg d ps0).1 with
   |none=>
    rw[ho]at h0
    exact absurd h0 ((lne_rd hU.g (hl _ (List.mem_cons_self ..)) beg d (p:=ps0) (List.length_pos_iff.2 hU.n)).2 ho)
   |some d'=>
    rw[ho]at h0
    exact parW_run L (i+1) false d' (fun U h=>hl U (List.mem_cons_of_mem _ h)) h0 (fun h=>by cases h.1)
theorem run_parW:∀(L:List Str) (i:Nat) (beg:Bool) (d r:Dg),runL emL stL L beg d=some r→(parW (lnsU i L) beg d).1=r∧(parW (lnsU i L) beg d).2.2=0∧¬(beg=true∧lnsU i L=[])
 |[],i,beg,d,r,h=>by
  cases beg with
  |true=>cases h
  |false=>cases h;exact⟨rfl,rfl,fun h=>by cases h.1⟩
 |l::L,i,beg,d,r,h=>by
  rw[lnsU,em_ln]
  rw[runL]at h
  cases he:emL l with
  |true=>
   rw[he,cond_true]at h
   rw[if_pos rfl,List.nil_append]
   exact run_parW L (i+1) beg d r h
  |false=>
   rw[he,cond_false,←st_ln i]at h
   rw[if_neg (by simp),List.singleton_append,parW]
   cases ho:(lneP (lnU i l) beg d ps0).1 with
   |none=>rw[ho]at h;cases h
   |some d'=>
    rw[ho,Option.bind_some]at h
    obtain⟨h1,h2,_⟩:=run_parW L (i+1) false d' r h
    exact⟨h1,h2,fun h=>by cases h.2⟩
def srtW:List Str:=[[98,108,111,99,107],[111,117,116],[109,97,112],[105,110],[99,117,114,118,101],[116,121,112,101]]
def rotW (t:Nat):List Str:=(List.range 6).map fun i=>srtW.getD ((i+t)%6) []
def rkQ (t:Nat)(l:Str):Int:=match Lib.fields l with
 |[]=> -1
 |w::_=>bif Lib.hasPrefix w diaT then-2 else ixF (fun s=>w==s) (rotW t) 0
theorem ixF_rg {α:Type}(p:α→Bool):∀(l:List α) (k:Int),0≤k→ -1≤ixF p l k∧ixF p l k<k+l.length∨ixF p l k= -1
 |[],k,h=> .inr rfl
 |x::l,k,h=>by
  rw[ixF]
  cases p x with
  |true=>rw[cond_true,List.length_cons];left;omega
  |false=>
   rw[cond_false,List.length_cons]
   rcases ixF_rg p l (k+1) (by omega)with h1|h1
   ·left;omega
   ·right;exact h1
theorem rk_rg (t:Nat)(l:Str): -2≤rkQ t l∧rkQ t l<6:=by
 unfold rkQ
 split
 ·decide
 ·rename_i w _ _
  cases Lib.hasPrefix w diaT with
  |true=>rw[cond_true];decide
  |false=>
   rw[cond_false]
   have:=ixF_rg (fun s=>w==s) (rotW t) 0 (by decide)
   have hl:(rotW t).length=6:=by unfold rotW;rw[List.length_map,List.length_range]
   rw[hl]at this
   omega
def okL (l:Str):Prop:=(linQ 1 l (l.length+1) 0).2=none∧¬∃r,Lib.trimSpace l=35::r
theorem two_tk {l:Str}(he:emL l=false)(h1:(hereP (lnU 0 l) (advP ps0)).k=1):∃t1 t2 R,(linQ 1 l (l.length+1) 0).1=t1::t2::R∧hereP (lnU 0 l) ps0=t1∧t2.k=1:=by
 unfold emL at he
 have hU:lnU 0 l=(linQ 1 l (l.length+1) 0).1++[⟨4,[],1,l.length+1⟩]:=rfl
 rw[hU]at h1⊢
 generalize (linQ 1 l (l.length+1) 0).1=T at*
 match T,he,h1 with
 |[],he,_=>cases he
 |[t1],_,h1=>exact absurd (show(4:Nat)=1 from h1) (by decide)
 |t1::t2::R,_,h1=>exact⟨t1,t2,R,rfl,rfl,h1⟩
theorem rk_ok (t:Nat):RkOk emL stL (rkQ t) okL where
 low x _:=(rk_rg t x).1
 emp x hx he:=by
  rcases fld_none hx.1 (List.isEmpty_iff.1 he)with h|h
  ·unfold rkQ;rw[h]
  ·exact absurd h hx.2
 beg x d d' hx he h:=by
  obtain⟨h1,h2⟩:=lne_beg h
  obtain⟨t1,t2,R,q1,q2,q3⟩:=two_tk he h2
  unfold isP at h1
  rw[q2]at h1
  simp only[Bool.and_eq_true,Bool.or_eq_true,beq_iff_eq]at h1
  obtain⟨k1,k2⟩:=h1
  have k1:t1.k=1:=by
   rcases k1 with k1|k1
   ·exact k1
   ·exfalso
    have hv:=(lin_tkv 1 x (x.length+1) 0 (by omega) t1 (by rw[q1];exact List.mem_cons_self ..)).1
    rw[k1,k2]at hv
    have:=hv.h [] [] (fun c hc=>by cases hc)
    exact absurd (congrArg (·.1) this) (by decide)
  obtain⟨fs,hf⟩:=fld_two hx.1 q1 k1 q3
  unfold rkQ
  rw[hf,k2]
  rfl
 comm x y d d1 d2 hx hy ex ey hk h1 h2:=by
  obtain⟨i,i1,i2,i3,F,hF⟩:=lne_loc h1
  obtain⟨j,j1,j2,j3,G,hG⟩:=lne_loc h2
  obtain⟨t1,t2,R,q1,q2,q3⟩:=two_tk ex i3
  obtain⟨s1,s2,R',r1,r2,r3⟩:=two_tk ey j3
  rw[q2]at i1 i2
  rw[r2]at j1 j2
  obtain⟨fs,hf⟩:=fld_two hx.1 q1 i1 q3
  obtain⟨gs,hg⟩:=fld_two hy.1 r1 j1 r3
  have hij:i≠j:=fun h=>hk (by unfold rkQ;rw[hf,hg,i2,j2,h])
  unfold stL at h1 h2⊢
  rw[hF]at h1
  rw[hG]at h2
  cases hF1:F (i.len d)with
  |none=>rw[hF1]at h1;cases h1
  |some a=>
   rw[hF1]at h1
   have h1:i.app d a=d1:=Option.some.inj h1
   rw[←h1,So.len_app hij]at h2
   cases hG1:G (j.len d)with
   |none=>rw[hG1]at h2;cases h2
   |some b=>
    rw[hG1]at h2
    have h2:j.app (i.app d a) b=d2:=Option.some.inj h2
    refine⟨j.app d b,by rw[hG,hG1];rfl,?_⟩
    rw[hF,So.len_app (Ne.symm hij),hF1,←h2,So.app_comm hij];rfl
theorem ins_sum (key:Str→Int)(x:Str):∀l:List Str,((ins key x l).map fun y=>y.length+1).sum=((x::l).map fun y=>y.length+1).sum
 |[]=>rfl
 |y::l=>by
  rw[ins]
  split
  ·rfl
  ·have:=ins_sum key x l
   simp only[List.map_cons,List.sum_cons]at this⊢
   omega
theorem isr_sum (key:Str→Int):∀l:List Str,((isr key l).map fun y=>y.length+1).sum=(l.map fun y=>y.length+1).sum
 |[]=>rfl
 |x::l=>by
  have h1:=isr_sum key l
  have h2:=ins_sum key x (isr key l)
  rw[isr,h2]
  simp only[List.map_cons,List.sum_cons]at h1⊢
  omega
theorem spl_join:∀(L:List Str),L≠[]→(∀x∈L,10∉x)→splB 10 (Lib.join L [10])=L∧(Lib.join L [10]).length+1=(L.map fun y=>y.length+1).sum
 |[],h,_=>absurd rfl h
 |[x],_,h=>by
  rw[Lib.join_one]
  exact⟨splB_no (h x (List.mem_cons_self ..)),by simp⟩
 |x::y::L,_,h=>by
  obtain⟨h1,h2⟩:=spl_join (y::L) (by simp) fun z hz=>h z (List.mem_cons_of_mem _ hz)
  have e:Lib.join (x::y::L) [10]=x++10::Lib.join (y::L) [10]:=by
   rw[Lib.join_cons,Lib.join_cons]
   unfold Lib.joinTail
   simp
  rw[e]
  refine⟨by rw[splB_mid 10 _ x (h x (List.mem_cons_self ..)),h1],?_⟩
  rw[List.length_append,List.length_cons,List.map_cons,List.sum_cons,←h2]
  omega
theorem ordered (s:Str)(t:Nat)(he:(parD s).2.2=0)(hc:∀l∈splB 10 s,¬∃r,Lib.trimSpace l=35::r):
  (parD (Lib.join (isr (rkQ t) (splB 10 s)) [10])).1=(parD s).1∧(parD (Lib.join (isr (rkQ t) (splB 10 s)) [10])).2.2=0:=by
 have hp:=par_eq s
 have ht:(tokQ s).2.2=0:=by
  by_cases h:(tokQ s).2.2=0
  ·exact h
  ·rw[if_pos h]at hp;rw[hp]at he;exact absurd he h
 rw[if_neg (by rw[ht];simp)]at hp
 have hne:¬lnsU 0 (splB 10 s)=[]:=fun h=>by rw[if_pos h]at hp;rw[hp]at he;cases he
 rw[if_neg hne]at hp
 have h16:¬16384<s.length:=fun h=>by unfold tokQ at ht;rw[if_pos h]at ht;cases ht
 have hq:(lnsQ 0 (splB 10 s)).2.2=0:=by unfold tokQ at ht;rw[if_neg h16]at ht;exact ht
 have hq1:(tokQ s).1=(lnsU 0 (splB 10 s)).flatten:=by unfold tokQ;rw[if_neg h16];exact(lns_lines _ _ hq).1
 have hlx:=(lns_lines _ _ hq).2.2
 have hlen:∀U∈lnsU 0 (splB 10 s),U.length≤40000:=fun U hU=>by
  have:U.length≤(lnsU 0 (splB 10 s)).flatten.length:=by
   obtain⟨A,B,h⟩:=List.append_of_mem hU
   rw[h];simp;omega
  rw[←hq1]at this
  have:=(tok_facts s).1
  omega
 have hok:∀l∈splB 10 s,okL l:=fun l hl=>by
  obtain⟨j,hj,rfl⟩:=List.mem_iff_getElem.1 hl
  have:=hlx j _ (List.getElem?_eq_getElem hj)
  rw[(lin_ln (0+j+1) 1 _ _ 0).1]at this
  exact⟨this,hc _ hl⟩
 have hrun:runL emL stL (splB 10 s) true d0=some (parD s).1:=by
  rw[hp]at he⊢
  exact parW_run (splB 10 s) 0 true d0 hlen he fun h=>hne h.2
 have hrun':runL emL stL (isr (rkQ t) (splB 10 s)) true d0=some (parD s).1:=run_isr (rk_ok t) true d0 _ (splB 10 s) [] hok hrun
 obtain⟨h1,h2,h3⟩:=run_parW (isr (rkQ t) (splB 10 s)) 0 true d0 _ hrun'
 have hn0:isr (rkQ t) (splB 10 s)≠[]:=fun h=>by rw[h]at h3;exact h3 ⟨rfl,rfl⟩
 obtain⟨j1,j2⟩:=spl_join (isr (rkQ t) (splB 10 s)) hn0 fun x hx=>splB_nl 10 s x (isr_mem.1 hx)
 rw[isr_sum,splB_sum]at j2
 generalize Lib.join (isr (rkQ t) (splB 10 s)) [10]=s' at*
 have ht':(tokQ s').2.2=0:=by
  unfold tokQ
  rw[if_neg (by omega),j1]
  refine lns_ok _ _ fun j l hl=>?_
  have:=(hok l (isr_mem.1 (List.mem_of_getElem? hl))).1
  rw[(lin_ln (0+j+1) 1 _ _ 0).1]
  exact this
 have hp':=par_eq s'
 rw[if_neg (by rw[ht'];simp),j1,if_neg (fun h=>h3 ⟨rfl,h⟩)]at hp'
 rw[hp']
 exact⟨h1,h2⟩
end Go.Proofs.YtlnpgbnhcondjaaGreatDoor.Fx
