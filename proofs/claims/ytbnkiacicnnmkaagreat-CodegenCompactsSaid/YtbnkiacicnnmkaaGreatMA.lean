/-  -/
import Derived.WalkKit
import Derived.Orders
import Derived.OrdersIn
import Derived.TacticsInMore
import Derived.LoopNIn
import Derived.LoopIn
import Derived.OwnWalkIn
import Derived.Deep.MidRow
import Derived.Deep.AppendSrc
import Derived.Laws.AppendOwn
import Derived.Laws.Slices
import Derived.Laws.Strings
import Derived.Laws.StructEq
import Derived.Laws.MakeOwn
import Derived.Great.BuildSlice
import Derived.Lib.Strings
import Derived.Lib.ConvBytes
import Derived.Laws.Cover3
set_option linter.unusedSimpArgs false
set_option linter.unusedVariables false
namespace Go.Proofs.YtbnkiacicnnmkaaGreat
theorem Kv:type_of% @List.length_map:=@List.length_map
theorem Kw {α:Type _}{p:α->Bool}{a:α}{l:List α}:(a::l).all p=(p a&&l.all p):=rfl
theorem Kx:type_of% @List.getD_eq_getElem?_getD:=@List.getD_eq_getElem?_getD
theorem Ky {α β:Type _}{f:α->β}{a:α}{l:List α}:(a::l).map f=f a::l.map f:=rfl
theorem Kz {α β:Type _}{f:α->β}:[].map f=[]:=rfl
theorem JA:type_of% @List.getElem?_eq_getElem:=@List.getElem?_eq_getElem
theorem JB:type_of% @Bool.and_eq_true:=@Bool.and_eq_true
theorem JC:type_of% @List.drop_eq_getElem_cons:=@List.drop_eq_getElem_cons
theorem JD:type_of% @List.all_eq_true:=@List.all_eq_true
theorem JE:type_of% @Option.isSome_iff_exists:=@Option.isSome_iff_exists
theorem JF {α:Type _}{a:α}{l r:List α}:(a::l)++r=a::(l++r):=rfl
theorem JG {α:Type _}(l:List α):[]++l=l:=rfl
theorem JH:type_of% @List.getElem_mem:=@List.getElem_mem
theorem JI:type_of% @List.drop_length:=@List.drop_length
theorem JJ:type_of% @List.take_of_length_le:=@List.take_of_length_le
theorem JK:type_of% @List.append_nil:=@List.append_nil
theorem JL:type_of% @List.mem_map:=@List.mem_map
theorem JM:type_of% @List.length_append:=@List.length_append
theorem JN:type_of% @List.map_append:=@List.map_append
theorem JO:type_of% @List.getElem?_map:=@List.getElem?_map
theorem JP:type_of% @Bool.eq_iff_iff:=@Bool.eq_iff_iff
theorem JQ {α:Type _}{a:α}{l:List α}:(a::l).length=l.length+1:=rfl
theorem JR:type_of% @List.take_succ_eq_append_getElem:=@List.take_succ_eq_append_getElem
theorem JS:type_of% @Bool.false_eq_true:=@Bool.false_eq_true
theorem JT:type_of% @Bool.cond_eq_ite:=@Bool.cond_eq_ite
theorem JU:type_of% @List.all_eq_not_any_not:=@List.all_eq_not_any_not
theorem JV:type_of% @List.map_congr_left:=@List.map_congr_left
theorem JW:type_of% @List.getElem?_eq_some_iff:=@List.getElem?_eq_some_iff
theorem JX:type_of% @List.length_eq_zero_iff:=@List.length_eq_zero_iff
theorem JY:type_of% @List.take_length:=@List.take_length
theorem JZ:type_of% @Nat.le_refl:=@Nat.le_refl
theorem J0:type_of% @List.contains_cons:=@List.contains_cons
theorem J1:type_of% @Nat.lt_of_lt_of_le:=@Nat.lt_of_lt_of_le
theorem J3:type_of% @List.mem_cons:=@List.mem_cons
theorem J4:type_of% @Nat.zero_add:=@Nat.zero_add
theorem J5 {α:Type _}{a:α}{l:List α}{i:Nat}:(a::l)[i+1]?=l[i]?:=rfl
theorem J7:type_of% @Array.toList_inj:=@Array.toList_inj
theorem J8:type_of% @List.length_set:=@List.length_set
theorem J9 {α:Type _}:([]:List α).length=0:=rfl
theorem Ja:type_of% @List.map_map:=@List.map_map
theorem Jb:type_of% @List.drop_zero:=@List.drop_zero
theorem Jc:type_of% @List.getElem?_eq_none:=@List.getElem?_eq_none
theorem Jd:type_of% @Bool.true_and:=@Bool.true_and
theorem Je {α:Type _}{a:α}{l:List α}:(a::l)[0]?=some a:=rfl
theorem Jf:type_of% @Bool.cond_false_right:=@Bool.cond_false_right
theorem Jg:type_of% @Classical.not_not:=@Classical.not_not
theorem Jh:type_of% @Bool.not_eq_true':=@Bool.not_eq_true'
theorem Ji:type_of% @Option.some.injEq:=@Option.some.injEq
theorem Jj {α β:Type _}{f:α->β}{a:α}:(some a).map f=some (f a):=rfl
theorem Jk:type_of% @List.getElem?_append_left:=@List.getElem?_append_left
theorem Jl:type_of% @Classical.byContradiction:=@Classical.byContradiction
theorem Jm:type_of% @Array.getElem?_eq_getElem:=@Array.getElem?_eq_getElem
theorem Jn:type_of% @List.ext_getElem?:=@List.ext_getElem?
theorem Jo:type_of% @List.mem_range:=@List.mem_range
theorem Jp:type_of% @List.getElem?_range:=@List.getElem?_range
theorem Jq:type_of% @Bool.or_false:=@Bool.or_false
theorem Jr:type_of% @Nat.mul_one:=@Nat.mul_one
theorem Js:type_of% @Int.fdiv_eq_ediv_of_nonneg:=@Int.fdiv_eq_ediv_of_nonneg
theorem Jt:type_of% @List.zip_nil_right:=@List.zip_nil_right
theorem Ju:type_of% @List.getElem?_append_right:=@List.getElem?_append_right
theorem Jv:type_of% @Bool.cond_true_left:=@Bool.cond_true_left
theorem Jw:type_of% @Nat.succ_ne_zero:=@Nat.succ_ne_zero
theorem Jx (n:Nat):n+0=n:=rfl
theorem Jy:type_of% @List.map_set:=@List.map_set
theorem Jz:type_of% @Array.getElem?_eq_some_iff:=@Array.getElem?_eq_some_iff
theorem IA:type_of% @Bool.eq_false_iff:=@Bool.eq_false_iff
theorem IB:type_of% @Bool.false_and:=@Bool.false_and
theorem IC:type_of% @Nat.add_assoc:=@Nat.add_assoc
theorem ID:type_of% @List.map_take:=@List.map_take
theorem IE:type_of% @Nat.le_trans:=@Nat.le_trans
theorem IF:type_of% @Bool.or_true:=@Bool.or_true
theorem IG:type_of% @List.contains_iff_mem:=@List.contains_iff_mem
theorem IH:type_of% @Array.getElem?_toList:=@Array.getElem?_toList
theorem II:type_of% @Array.getD_eq_getD_getElem?:=@Array.getD_eq_getD_getElem?
theorem IJ:type_of% @List.getElem?_set:=@List.getElem?_set
theorem IK:type_of% @List.any_eq_not_all_not:=@List.any_eq_not_all_not
theorem IL:type_of% @Int.tdiv_eq_ediv_of_nonneg:=@Int.tdiv_eq_ediv_of_nonneg
theorem IM:type_of% @List.mem_singleton:=@List.mem_singleton
theorem IN:type_of% @Int.mul_le_mul_of_nonneg_right:=@Int.mul_le_mul_of_nonneg_right
theorem IP:type_of% @List.mem_append:=@List.mem_append
theorem IQ:type_of% @Int.mul_neg:=@Int.mul_neg
theorem IR:type_of% @List.getElem?_replicate:=@List.getElem?_replicate
theorem IS:type_of% @List.not_mem_nil:=@List.not_mem_nil
theorem IT:type_of% @Bool.not_true:=@Bool.not_true
theorem IU:type_of% @Array.getElem?_setIfInBounds_ne:=@Array.getElem?_setIfInBounds_ne
theorem IV:type_of% @List.all_append:=@List.all_append
theorem IW:type_of% @List.mem_of_find?_eq_some:=@List.mem_of_find?_eq_some
theorem IX:type_of% @Int.mul_le_mul_of_nonneg_left:=@Int.mul_le_mul_of_nonneg_left
theorem IY:type_of% @List.length_take:=@List.length_take
theorem IZ:type_of% @Bool.or_eq_false_iff:=@Bool.or_eq_false_iff
theorem I0:type_of% @List.mem_cons_of_mem:=@List.mem_cons_of_mem
theorem I1:type_of% @List.append_assoc:=@List.append_assoc
theorem I2:type_of% @Nat.sub_self:=@Nat.sub_self
theorem I3:type_of% @Prod.mk.injEq:=@Prod.mk.injEq
theorem I4:type_of% @Array.all_eq_true_iff_forall_mem:=@Array.all_eq_true_iff_forall_mem
theorem I5:type_of% @Nat.add_sub_cancel:=@Nat.add_sub_cancel
theorem I6:type_of% @Array.mem_of_getElem?:=@Array.mem_of_getElem?
theorem I7:type_of% @List.find?_eq_none:=@List.find?_eq_none
theorem I8:type_of% @Bool.or_eq_true:=@Bool.or_eq_true
theorem I9:type_of% @List.nodup_cons:=@List.nodup_cons
theorem Ia:type_of% @List.eq_nil_of_length_eq_zero:=@List.eq_nil_of_length_eq_zero
theorem Ib:type_of% @List.flatten_append:=@List.flatten_append
theorem Ic:type_of% @Bool.not_false:=@Bool.not_false
theorem Ie:type_of% @Array.toList_map:=@Array.toList_map
theorem If:type_of% @List.getElem_map:=@List.getElem_map
theorem Ig:type_of% @List.mem_cons_self:=@List.mem_cons_self
theorem Ih:type_of% @Nat.mul_div_cancel:=@Nat.mul_div_cancel
theorem Ii:type_of% @List.take_append_drop:=@List.take_append_drop
theorem Ij:type_of% @List.length_replicate:=@List.length_replicate
theorem Ik:type_of% @Option.some.inj:=@Option.some.inj
theorem Il:type_of% @Int.tmod_eq_emod_of_nonneg:=@Int.tmod_eq_emod_of_nonneg
theorem Im:type_of% @List.length_range:=@List.length_range
theorem In:type_of% @List.mem_of_getElem?:=@List.mem_of_getElem?
theorem Io:type_of% @List.map_eq_nil_iff:=@List.map_eq_nil_iff
theorem Ip:type_of% @Bool.false_or:=@Bool.false_or
theorem Iq:type_of% @List.map_drop:=@List.map_drop
theorem Ir:type_of% @Int.emod_lt_of_pos:=@Int.emod_lt_of_pos
theorem Is:type_of% @List.getElem?_drop:=@List.getElem?_drop
theorem Iu:type_of% @List.getElem?_take:=@List.getElem?_take
theorem Iv:type_of% @List.drop_eq_nil_of_le:=@List.drop_eq_nil_of_le
theorem Iw:type_of% @List.getElem?_set_self:=@List.getElem?_set_self
theorem Ix:type_of% @Int.lt_or_le:=@Int.lt_or_le
theorem Iy:type_of% @List.getElem?_toArray:=@List.getElem?_toArray
theorem Iz:type_of% @Nat.succ_mul:=@Nat.succ_mul
theorem HA:type_of% @List.mem_append_right:=@List.mem_append_right
theorem HB:type_of% @Int.ediv_le_of_le_mul:=@Int.ediv_le_of_le_mul
theorem HC:type_of% @Int.mul_ediv_add_emod:=@Int.mul_ediv_add_emod
theorem HD:type_of% @Nat.pow_le_pow_right:=@Nat.pow_le_pow_right
theorem HE:type_of% @List.map_toArray:=@List.map_toArray
theorem HF:type_of% @List.any_eq_true:=@List.any_eq_true
theorem HG:type_of% @Int.mul_assoc:=@Int.mul_assoc
theorem HI:type_of% @List.map_id:=@List.map_id
theorem HJ:type_of% @Int.le_refl:=@Int.le_refl
theorem HK:type_of% @Int.mul_sub:=@Int.mul_sub
theorem HL:type_of% @List.length_reverse:=@List.length_reverse
theorem HM:type_of% @Int.emod_nonneg:=@Int.emod_nonneg
theorem HN:type_of% @Bool.not_not:=@Bool.not_not
theorem HO:type_of% @Nat.zero_mul:=@Nat.zero_mul
theorem HP:type_of% @Nat.le_of_lt:=@Nat.le_of_lt
theorem HQ:type_of% @Int.mul_comm:=@Int.mul_comm
theorem HR:type_of% @List.drop_drop:=@List.drop_drop
theorem HS:type_of% @Nat.add_mul:=@Nat.add_mul
theorem zA {p:Prop}(h:p:=by omega):p:=h
theorem yp {p:Prop}(h:p:=by decide):p:=h
theorem z9 {p:Prop}(h:p:=by simp):p:=h
theorem yL {p:Prop}(h:p:=by simp only;omega):p:=h
namespace Vg
open Go.RowKit
structure Loc where
 blk:Nat
 org:Nat
 siz:Nat
 nul:Bool:=false
 odd:Option (Addr×Nat):=none
abbrev Vl:=Nat->Loc
def Loc.emp (l:Loc):Value:=match l.odd with
 |none=> .slice none 0 0
 |some x=> .slice (some x.1) 0 x.2
def Loc.em0 (l:Loc):Value:=match l.odd with
 |none=> .slice none 0 0
 |some x=> .slice (some x.1) 0 0
theorem wJ (l:Loc):l.em0.cells= #[l.em0]:=by unfold Loc.em0;split<;>rfl
theorem vO (l:Loc):l.em0.oneCell'=true:=by unfold Loc.em0;split<;>rfl
theorem wI (l:Loc):l.emp.cells= #[l.emp]:=by unfold Loc.emp;split<;>rfl
theorem vN (l:Loc):l.emp.oneCell'=true:=by unfold Loc.emp;split<;>rfl
inductive Cv where
 |v (x:Value)
 |p (n off:Nat)
 |sl (n off len esz:Nat)
 |fn (f:FuncId) (caps:List (Nat×Nat))
 |s0 (n off:Nat)
def xl (β:Vl)(n off:Nat):Value:= .pointer (some ⟨(β n).blk,(β n).org+off,none⟩)
def Cv.g (β:Vl):Cv->Value
 | .v x=>x
 | .p n off=> .pointer (some ⟨(β n).blk,(β n).org+off,none⟩)
 | .sl n off len esz=>if (β n).nul=true/\len=0 then(β n).emp else .slice (some ⟨(β n).blk,(β n).org+off,none⟩) len (((β n).siz-off)/esz)
 | .fn f caps=> .func (.func f) #[] (caps.map fun c=>xl β c.1 c.2).toArray
 | .s0 n off=>if (β n).nul=true then(β n).em0 else .slice (some ⟨(β n).blk,(β n).org+off,none⟩) 0 0
def Cv.one:Cv->Bool
 | .v x=>x.oneCell'
 |_=>true
inductive W where
 |c (x:Cv)
 |agg (xs:List Cv)
inductive V where
 |c (x:Cv)
 |agg (xs:List Cv)
 |tup (xs:List W)
def W.g (β:Vl):W->Value
 | .c x=>x.g β
 | .agg xs=> .agg (xs.map (Cv.g β)).toArray
def V.g (β:Vl):V->Value
 | .c x=>x.g β
 | .agg xs=> .agg (xs.map (Cv.g β)).toArray
 | .tup xs=> .tuple (xs.map (W.g β)).toArray
def W.toV:W->V
 | .c x=> .c x
 | .agg xs=> .agg xs
theorem gO (β:Vl)(x:W):x.toV.g β=x.g β:=by cases x<;>rfl
def V.ok1:V->Bool
 | .c x=>x.one
 | .agg _=>true
 | .tup _=>false
def V.cells:V->List Cv
 | .c x=>[x]
 | .agg xs=>xs
 | .tup _=>[]
theorem rS {v:V}(hv:v.ok1=true)(β:Vl):(v.g β).cells=(v.cells.map (Cv.g β)).toArray:=by
 cases v with
 |agg xs=>rfl
 |tup xs=>cases hv
 |c x=>
  cases x with
  |p _ _=>rfl
  |sl n off len esz=>
   show(Cv.g β (.sl n off len esz)).cells= #[Cv.g β (.sl n off len esz)]
   simp only[Cv.g];split<;>first|rfl|exact wI _|exact vN _|exact wJ _|exact vO _
  |fn _ _=>rfl
  |s0 n off=>
   show(Cv.g β (.s0 n off)).cells= #[Cv.g β (.s0 n off)]
   simp only[Cv.g];split<;>first|rfl|exact wI _|exact vN _|exact wJ _|exact vO _
  |v x=>cases x<;>first|rfl|(simp[V.ok1,Cv.one,Value.oneCell']at hv)
theorem kF {x:Cv}(h:x.one=true)(β:Vl):(x.g β).oneCell'=true:=by
 cases x with
 |v x=>exact h
 |p _ _=>rfl
 |sl _ _ _ _=>simp only[Cv.g];split<;>first|rfl|exact wI _|exact vN _|exact wJ _|exact vO _
 |fn _ _=>rfl
 |s0 _ _=>simp only[Cv.g];split<;>first|rfl|exact wI _|exact vN _|exact wJ _|exact vO _
structure Bk where
 ro:Bool
 cells:List Cv
 elem:TypeId
abbrev Mem:=List (Nat×Bk)
def Mem.get:Mem->Nat->Option Bk
 |[],_=>none
 |(k,b)::r,n=>bif k==n then some b else Mem.get r n
theorem zL (N M:Mem)(n:Nat):Mem.get (N++M) n=(N.get n).or (M.get n):=by
 induction N with
 |nil=>rfl
 |cons a N ih=>
  obtain⟨k,b⟩:=a
  simp only[JF,Mem.get]
  cases h:(k==n)<;>simp[ih]
def Agree (M:Mem)(β β':Vl):Prop:=∀n,(M.get n).isSome=true->β' n=β n
theorem Agree.refl (M:Mem)(β:Vl):Agree M β β:=fun _ _=>rfl
theorem Agree.trans {M:Mem}{a b c:Vl}(h:Agree M a b)(k:Agree M b c):Agree M a c:=fun n hn=>(k n hn).trans (h n hn)
theorem Agree.right {N M:Mem}{a b:Vl}(h:Agree (N++M) a b):Agree M a b:=fun n hn=>h n (by
 rw[zL];cases N.get n<;>simp_all)
def Bk.lv (b:Bk):Prop:=b.ro=false\/b.cells≠[]
def BkOk (β:Vl)(n:Nat)(b:Bk)(w:World):Prop:=
 if (β n).nul then b.cells=[]/\(b.ro=false->(β n).odd=none)
 else if b.ro then w.rangeAt (β n).blk (β n).org (b.cells.map (Cv.g β))/\b.cells.length<=(β n).siz
 else(β n).org=0/\∃junk:List Value,w.heap[(β n).blk]?=some (.cells (b.cells.map (Cv.g β)++junk).toArray b.elem (0,0))/\(β n).siz=b.cells.length+junk.length
structure MemOk (β:Vl) (M:Mem) (w:World):Prop where
 ok:∀β',Agree M β β'->∀n b,M.get n=some b->BkOk β' n b w
 there:∀n b,M.get n=some b->(β n).nul=false->(β n).blk<w.heap.size
 apart:∀n m b b',M.get n=some b->M.get m=some b'->n≠m->b.ro=false->b'.lv->(β n).nul=false->(β m).nul=false->(β n).blk≠(β m).blk
structure Fr (S:Nat->Prop) (w0 w:World):Prop where
 os:w.os=w0.os
 tape:w.tape=w0.tape
 output:w.output=w0.output
 size:w0.heap.size<=w.heap.size
 old:∀b,S b->b<w0.heap.size->w.heap[b]?=w0.heap[b]?
theorem Fr.refl (S:Nat->Prop)(w:World):Fr S w w:=⟨rfl,rfl,rfl,JZ _,fun _ _ _=>rfl⟩
structure Bs where
 s:Nat->Prop
 pin:Nat->Option Loc
 z:Nat->Prop
structure Rel (S:Bs) (w0:World) (β:Vl) (M:Mem) (w:World):Prop where
 fr:Fr S.s w0 w
 mem:MemOk β M w
 own:∀n b,M.get n=some b->b.ro=false->(β n).nul=false->S.s (β n).blk->w0.heap.size<=(β n).blk
 pin:∀n l,S.pin n=some l->(M.get n).isSome=true/\β n=l
theorem Rel.drew {S:Bs}{w0:World}{β:Vl}{M:Mem}{w:World}(h:Rel S w0 β M w):Rel S w0 β M {w with drawn:=w.drawn+1}:=
 ⟨⟨h.fr.os,h.fr.tape,h.fr.output,h.fr.size,h.fr.old⟩,⟨h.mem.ok,h.mem.there,h.mem.apart⟩,h.own,h.pin⟩
theorem BkOk.same {β:Vl}{n:Nat}{b:Bk}{w w':World}(h:BkOk β n b w)(hb:w'.heap[(β n).blk]?=w.heap[(β n).blk]?):BkOk β n b w':=by
 unfold BkOk at*
 split
 ·rename_i hu
  rw[if_pos hu]at h
  exact h
 ·rename_i hu
  rw[if_neg hu]at h
  split
  ·rename_i hr
   rw[if_pos hr]at h
   refine⟨fun j v hj=>?_,h.2⟩
   rw[World.cell?_of_block (w:=w) hb]
   exact h.1 j v hj
  ·rename_i hr
   rw[if_neg hr]at h
   rw[hb];exact h
abbrev Env:=List (Nat×Bool×V)
def Env.get:Env->Nat->Option (Bool×V)
 |[],_=>none
 |(k,x)::r,n=>bif k==n then some x else Env.get r n
def Env.put (e:Env)(d:Option Nat)(g:Bool)(v:V):Env:=
 match d with
 |some d=>(d,g,v)::e
 |none=>e
def gv (β:Vl)(x:Bool×V):Value:=bif x.1 then x.2.g β else undef
def EnvOk (β:Vl)(M:Mem)(e:Env)(a:Act):Prop:=
 ∀β',Agree M β β'->∀t x,e.get t=some x->a.tmps.getD t undef=gv β' x
def v9:Value->V
 | .agg cs=> .agg (cs.toList.map .v)
 |x=> .c (.v x)
theorem lW (β:Vl)(x:Value):(v9 x).g β=x:=by
 cases x<;>simp[v9,V.g,Cv.g,Function.comp_def]
def rd (e:Env):Operand->Option (Bool×V)
 | .tmp t=>e.get t
 | .const v=>some (true,v9 v)
 | .global g=>some (true,.c (.v (.pointer (some ⟨g,0,none⟩))))
 | .func f=>some (true,.c (.v (.func (.func f) #[] #[])))
theorem wY {β β':Vl}{M:Mem}{e:Env}{a:Act}(h:EnvOk β M e a)(hb:Agree M β β'){x:Operand}{y:Bool×V}(hx:rd e x=some y):a.eval x=gv β' y:=by
 cases x with
 |tmp t=>exact h β' hb t y hx
 |const v=>simp[rd]at hx;subst hx;simp[gv,lW,Act.eval]
 |global g=>simp[rd]at hx;subst hx;simp[gv,V.g,Cv.g,Act.eval]
 |func f=>simp[rd]at hx;subst hx;simp[gv,V.g,Cv.g,Act.eval]
inductive It where
 |code (c:Code)
 |endB (id:Nat)
 |ops (rg:Array Oper) (l:List Oper)
 |stop (J:Act->World->Prop)
 |rnd (b:Code) (n:Nat)
def tj:Option Nat->Fence
 |none=>Fence.wide
 |some l=>Fence.wide.inRound l
theorem p8:∀(lp:Option Nat) (f:FuncId),(tj lp).fn f
 |none,_=>trivial
 |some _,_=>trivial
theorem oj:∀(lp:Option Nat),(tj lp).depth=none
 |none=>rfl
 |some _=>rfl
theorem fG {P:Program}{n:Nat}{f:FuncId}{args:Array Value}{w:World}{R:Ending->World->Prop}:∀(lp:Option Nat),Calls P f args w R->CallsIn (tj lp) n P f args w R
 |none,h=>callsIn_wide.2 h
 |some _,h=>callsIn_wide.2 h
theorem eL {P:Program}{n:Nat}{row:String}{args:Array Value}{w:World}{R:Value->World->Prop}(lp:Option Nat)(h:Rows P row args w R):RowsIn (tj lp) n P row args w R:=by
 intro c cs _
 obtain⟨v,w',r,s⟩:=h c cs
 refine⟨v,w',r,?_⟩
 cases lp with
 |none=>exact stepsIn_wide.2 s
 |some l=>exact stepsIn_wide.2 s
def ip:Op->Bool
 | .defer _=>true
 |_=>false
theorem yw {P:Program}{o:Oper}{a:Act}{w:World}{K:Act->World->Prop}{Q:Exit->Act->World->Prop}{n:Nat}(lp:Option Nat)(hd:ip o.op=false)(h:o.wp P a w K Q):o.wpIn (tj lp) n P a w K Q:=by
 refine⟨fun f _=>p8 lp f,?_⟩
 have hnd:∀c,o.op≠ .defer c:=fun c hc=>by rw[hc]at hd;cases hd
 rw[Oper.semAt_plain _ _ _ hnd]
 unfold Oper.wp Oper.upon at h
 unfold Oper.uponIn
 split at h<;>simp_all only
 ·exact⟨fun hh=>(by rw[oj]at hh;cases hh),fG lp h⟩
 ·exact⟨fun hh=>(by rw[oj]at hh;cases hh),eL lp h⟩
def xO (P:Program)(lp:Option Nat)(Q:Exit->Act->World->Prop):List It->Exit->Act->World->Prop
 |[],e,a,w=>Q e a w
 |it::r,e,a,w=>
  match e with
  | .normal=>
   match it with
   | .code c=>c.wpIn (tj lp) 0 P (xO P lp Q r) a w
   | .endB _=>xO P lp Q r .normal a w
   | .ops rg l=>wpListIn (tj lp) 0 P rg (xO P lp Q r) l a w
   | .stop J=>J a w
   | .rnd b n=>Code.roundsIn (tj lp) 0 P b (xO P lp Q r) n a w
  | .exit id=>
   match it with
   | .endB j=>if id=j then xO P lp Q r .normal a w else xO P lp Q r (.exit id) a w
   |_=>xO P lp Q r (.exit id) a w
  |e=>xO P lp Q r e a w
structure Cx where
 S:Bs
 w0:World
 Q:Exit->Act->World->Prop
 lp:Option Nat
 df:List Deferred
def Sm (P:Program)(nt:Nat)(C:Cx)(todo:List It)(e:Env)(M:Mem):Prop:=
 ∀β a w,Rel C.S C.w0 β M w->EnvOk β M e a->a.tmps.size=nt->a.defers=C.df->xO P C.lp C.Q todo .normal a w
def Mw (P:Program)(nt:Nat)(C:Cx)(id:Nat)(todo:List It)(e:Env)(M:Mem):Prop:=
 ∀β a w,Rel C.S C.w0 β M w->EnvOk β M e a->a.tmps.size=nt->a.defers=C.df->xO P C.lp C.Q todo (.exit id) a w
section
variable {P:Program} {nt:Nat} {C:Cx} {r:List It} {e:Env} {M:Mem}
theorem Sm.skip (h:Sm P nt C r e M):Sm P nt C (.code .skip::r) e M:=fun β a w h1 h2 h3 h4=>wpIn_skip (h β a w h1 h2 h3 h4)
theorem Sm.seq {x y:Code}(h:Sm P nt C (.code x:: .code y::r) e M):Sm P nt C (.code (.seq x y)::r) e M:=fun β a w h1 h2 h3 h4=>by
 refine wpIn_seq (Code.wpIn_mono ?_ (h β a w h1 h2 h3 h4))
 intro x' a' w' hq
 cases x'<;>exact hq
theorem Sm.block {id:Nat}{x:Code}(h:Sm P nt C (.code x:: .endB id::r) e M):Sm P nt C (.code (.block id x)::r) e M:=fun β a w h1 h2 h3 h4=>by
 refine wpIn_block (Code.wpIn_mono ?_ (h β a w h1 h2 h3 h4))
 intro x' a' w' hq
 cases x'<;>exact hq
theorem Sm.endB {id:Nat}(h:Sm P nt C r e M):Sm P nt C (.endB id::r) e M:=fun β a w h1 h2 h3 h4=>h β a w h1 h2 h3 h4
theorem Sm.exit {id:Nat}(h:Mw P nt C id r e M):Sm P nt C (.code (.exit id)::r) e M:=fun β a w h1 h2 h3 h4=>wpIn_exit (h β a w h1 h2 h3 h4)
theorem Sm.ret (h:∀β a w,Rel C.S C.w0 β M w->EnvOk β M e a->a.tmps.size=nt->a.defers=C.df->C.Q .ret a w):Sm P nt C (.code .ret::r) e M:=fun β a w h1 h2 h3 h4=>by
 refine wpIn_ret ?_
 have:=h β a w h1 h2 h3 h4
 clear h
 induction r with
 |nil=>exact this
 |cons it r ih=>exact ih
theorem Sm.region {id:Nat}{rg:Array Oper}(h:Sm P nt C (.ops rg rg.toList::r) e M):Sm P nt C (.code (.region id rg false)::r) e M:=
 fun β a w h1 h2 h3 h4=>wpIn_region_list (h β a w h1 h2 h3 h4)
theorem fX {rg:Array Oper}(h:Sm P nt C r e M):Sm P nt C (.ops rg []::r) e M:=fun β a w h1 h2 h3 h4=>h β a w h1 h2 h3 h4
theorem Sm.cond {c:Operand}{x y:Code}{t:Bool}(hc:rd e c=some (true,.c (.v (.bool t))))(ht:t=true->Sm P nt C (.code x::r) e M)(hf:t=false->Sm P nt C (.code y::r) e M):
  Sm P nt C (.code (.cond c x y)::r) e M:=fun β a w h1 h2 h3 h4=>by
 have hv:a.eval c= .bool t:=by rw[wY h2 (Agree.refl _ _) hc];rfl
 exact wpIn_cond_split hv (fun hh=>ht hh β a w h1 h2 h3 h4) (fun hh=>hf hh β a w h1 h2 h3 h4)
theorem zf {b:Code}(n:Nat)(h:Sm P nt C (.rnd b n::r) e M):Sm P nt C (.code (.loop b)::r) e M:=fun β a w h1 h2 h3 h4=>wpIn_loop_rounds n (h β a w h1 h2 h3 h4)
theorem Sm.rnd {b:Code}{n:Nat}(h:Sm P nt C (.code b:: .rnd b n::r) e M):Sm P nt C (.rnd b (n+1)::r) e M:=fun β a w h1 h2 h3 h4=>by
 show Code.roundsIn (tj C.lp) 0 P b (xO P C.lp C.Q r) (n+1) a w
 rw[roundsIn_succ]
 refine Code.wpIn_mono ?_ (h β a w h1 h2 h3 h4)
 intro x' a' w' hq
 cases x'<;>exact hq
def Wkn (S:Bs)(e:Env)(M:Mem)(e':Env)(M':Mem):Prop:=
 ∀w0 β a w,Rel S w0 β M' w->EnvOk β M' e' a->∃β1,Rel S w0 β1 M w/\EnvOk β1 M e a
theorem cX {todo:List It}{e':Env}{M':Mem}(h:Wkn C.S e M e' M')(k:Sm P nt C todo e M):Sm P nt C todo e' M':=fun β a w h1 h2 h3 h4=>by
 obtain⟨β1,g1,g2⟩:=h _ β a w h1 h2
 exact k β1 a w g1 g2 h3 h4
theorem Sm.stop {J:Act->World->Prop}(h:∀β a w,Rel C.S C.w0 β M w->EnvOk β M e a->a.tmps.size=nt->a.defers=C.df->J a w):Sm P nt C (.stop J::r) e M:=h
theorem Sm.loop {α:Type}{b:Code}(E:α->Env)(Mm:α->Mem)(m:α->Nat)(x0:α)(h0:Wkn C.S (E x0) (Mm x0) e M)
  (round:∀(x:α) (J:Act->World->Prop),(∀e' M',(∃x',m x'<m x/\Wkn C.S (E x') (Mm x') e' M')->Sm P nt C (.stop J::r) e' M')->Sm P nt C (.code b:: .stop J::r) (E x) (Mm x)):
  Sm P nt C (.code (.loop b)::r) e M:=fun β a w h1 h2 h3 h4=>by
 let St:α->Act->World->Prop:=fun x a w=>∃β,Rel C.S C.w0 β (Mm x) w/\EnvOk β (Mm x) (E x) a/\a.tmps.size=nt/\a.defers=C.df
 obtain⟨β1,g1,g2⟩:=h0 _ β a w h1 h2
 -- every state is met by one of least measure
 have least:∀n a w,(∃x,m x<=n/\St x a w)->∃x,St x a w/\∀y,St y a w->m x<=m y:=by
  intro n
  induction n using Nat.strongRecOn with
  |_ n ih=>
   intro a w ⟨x,hx,hs⟩
   by_cases hl:∃y,m y<m x/\St y a w
   ·obtain⟨y,hy,hsy⟩:=hl
    exact ih (m y) zA a w ⟨y,JZ _,hsy⟩
   ·refine⟨x,hs,fun y hy=>?_⟩
    by_cases hh:m x<=m y
    ·exact hh
    ·exact absurd ⟨y,zA,hy⟩ hl
 classical
 refine wpIn_loop (fun a w=>∃x,St x a w) (fun a w=>if h:∃x,St x a w/\∀y,St y a w->m x<=m y then m h.choose else 0) ⟨x0,β1,g1,g2,h3,h4⟩ ?_
 intro a w ⟨x,hx⟩
 have hl:=least (m x) a w ⟨x,JZ _,hx⟩
 simp only[dif_pos hl]
 have hc:=hl.choose_spec
 generalize hl.choose=y at hc
 obtain⟨⟨β2,k1,k2,k3,k4⟩,hmin⟩:=hc
 let J:Act->World->Prop:=fun a' w'=>(∃x,St x a' w')/\(if h:∃x,St x a' w'/\∀y,St y a' w'->m x<=m y then m h.choose else 0)<m y
 have hJ:∀a' w',(∃x',m x'<m y/\St x' a' w')->J a' w':=by
  rintro a' w' ⟨x',hlt,hs⟩
  have hl':=least (m x') a' w' ⟨x',JZ _,hs⟩
  refine⟨⟨x',hs⟩,?_⟩
  simp only[dif_pos hl']
  have:=hl'.choose_spec.2 x' hs
  omega
 have hb:=round y J (fun e' M' ⟨x',hlt,hw⟩=>Sm.stop fun β a w q1 q2 q3 q4=>by
  obtain⟨β3,r1,r2⟩:=hw _ β a w q1 q2
  exact hJ a w ⟨x',hlt,β3,r1,r2,q3,q4⟩) β2 a w k1 k2 k3 k4
 refine Code.wpIn_mono ?_ hb
 intro x' a' w' hq
 cases x'<;>exact hq
end
def Wk (b b':Bk):Prop:=b=b'\/(b.ro=true/\∃tl,b'.cells=b.cells++tl)
theorem Wk.lv {b b':Bk}(h:Wk b b')(hl:b.lv):b'.lv:=by
 rcases h with rfl|⟨h1,tl,h2⟩
 ·exact hl
 ·rcases hl with h|h
  ·rw[h]at h1;cases h1
  ·exact .inr (fun hh=>h (by rw[hh]at h2;exact(List.append_eq_nil_iff.1 h2.symm).1))
def Sub (M M':Mem):Prop:=∀n b,M.get n=some b->∃b',M'.get n=some b'/\Wk b b'
theorem Wk.refl (b:Bk):Wk b b:= .inl rfl
theorem Sub.refl (M:Mem):Sub M M:=fun _ b h=>⟨b,h,.inl rfl⟩
def Fresh (N M M':Mem):Prop:=∀n,(N.get n).isSome=true->(M.get n).isSome=true\/M'.get n=none
theorem Fresh.same (N M:Mem):Fresh N M M:=fun n _=>by cases h:M.get n<;>simp
def mE (β:Vl)(M:Mem)(e:Env)(o:Oper)(a:Act):Prop:=
 ∀β',Agree M β β'->∀x,x∈o.op.operands->∀y,rd e x=some y->a.eval x=gv β' y
def Stp (P:Program)(o:Oper)(e:Env)(M:Mem)(v:V)(N:Mem):Prop:=
 ∀S w0 β M' a w,Sub M M'->Fresh N M M'->Rel S w0 β M' w->mE β M' e o a->
  ∀(K:Act->World->Prop) (Q:Exit->Act->World->Prop),
   (∀β' u w',Agree M' β β'->Rel S w0 β' (N++M') w'->(∀β'',Agree (N++M') β' β''->u=v.g β'')->K (a.put o.dst u) w')->o.wp P a w K Q
def UA (rg:Array Oper)(e:Env)(o:Oper):Option Bool:=
 match o.guard with
 |none=>some true
 |some (j,want)=>
  match (rg[j]?).bind (·.dst)with
  |none=>none
  |some t=>
   match e.get t with
   |some (g,.c (.v (.bool b)))=>some (g&&(b==want))
   |_=>none
def gd (rg:Array Oper)(e:Env)(o:Oper):Option Bool:=
 match ip o.op with
 |true=>none
 |false=>UA rg e o
theorem tW {rg:Array Oper}{e:Env}{o:Oper}{g:Bool}(h:gd rg e o=some g):ip o.op=false/\UA rg e o=some g:=by
 unfold gd at h
 split at h
 ·cases h
 ·rename_i hd;exact⟨hd,h⟩
theorem tV {rg:Array Oper}{e:Env}{o:Oper}{g:Bool}{β:Vl}{a:Act}(h:gd rg e o=some g)
  (he:∀j want t y,o.guard=some (j,want)->(rg[j]?).bind (·.dst)=some t->e.get t=some y->a.tmps.getD t undef=gv β y):Region.wanted o (yielded rg a.tmps)=g:=by
 replace h:=(tW h).2
 unfold UA at h
 unfold Region.wanted
 cases hg:o.guard with
 |none=>simp[hg]at h;simp[h]
 |some jw=>
  obtain⟨j,want⟩:=jw
  simp only[hg]at h
  cases ht:(rg[j]?).bind (·.dst)with
  |none=>simp[ht]at h
  |some t=>
   simp only[ht]at h
   cases hy:e.get t with
   |none=>simp[hy]at h
   |some y=>
    have hv:=he j want t y hg ht hy
    obtain⟨g',x⟩:=y
    simp only[hy]at h
    cases x with
    |agg _=>simp at h
    |tup _=>simp at h
    |c x=>
     cases x with
     |p _ _=>simp at h
     |sl _ _ _ _=>simp at h
     |fn _ _=>simp at h
     |s0 _ _=>simp at h
     |v x=>
      cases x<;>simp at h
      rename_i b
      subst h
      simp only[yielded,ht,Option.bind_some]
      cases g' with
      |true=>
       simp[gv,V.g,Cv.g]at hv
       have:a.tmps[t]?=some (.bool b):=by
        cases hq:a.tmps[t]? with
        |none=>simp[hq,undef]at hv
        |some q=>simp[hq]at hv;simp[hv]
       simp only[this]
       cases b<;>cases want<;>rfl
      |false=>
       simp[gv]at hv
       cases hq:a.tmps[t]? with
       |none=>rfl
       |some q=>simp[hq,undef]at hv;subst hv;rfl
theorem EnvOk.put {β β':Vl}{N M:Mem}{e:Env}{a:Act}(h:EnvOk β M e a)(hb:Agree M β β'){d:Option Nat}{g:Bool}{v:V}{u:Value}{n:Nat}(hn:a.tmps.size=n)(hd:∀t,d=some t->t<n)
  (hu:∀β'',Agree (N++M) β' β''->u=gv β'' (g,v)):EnvOk β' (N++M) (e.put d g v) (a.put d u):=by
 intro β'' hag t x hx
 cases d with
 |none=>exact h β'' (hb.trans hag.right) t x hx
 |some d=>
  have hlt:=hd d rfl
  simp only[Env.put,Env.get]at hx
  simp only[Act.put]
  cases hdt:(d==t)with
  |true=>
   rw[hdt]at hx
   simp only[cond_true,Ji]at hx
   subst hx
   have:d=t:=by simpa using hdt
   subst this
   simp[hn,hlt]
   exact hu β'' hag
  |false=>
   rw[hdt]at hx
   simp only[cond_false]at hx
   have hne:d≠t:=by simpa using hdt
   have:=h β'' (hb.trans hag.right) t x hx
   simpa[IU hne]using this
theorem Sm.op {P:Program}{nt:Nat}{C:Cx}{rg:Array Oper}{o:Oper}{l:List Oper}{r:List It}{e:Env}{M:Mem}{g:Bool}{v:V}{N:Mem}(hg:gd rg e o=some g)(hd:∀t,o.dst=some t->t<nt)
  (hN:g=true\/N=[]) (hs:g=true->Stp P o e M v N) (hr:Sm P nt C (.ops rg l::r) (e.put o.dst g v) (N++M)):Sm P nt C (.ops rg (o::l)::r) e M:=fun β a w h1 h2 h3 h4=>by
 have hw:Region.wanted o (yielded rg a.tmps)=g:=tV (β:=β) hg (fun j want t y _ _ hy=>h2 β (Agree.refl _ _) t y hy)
 show wpListIn (tj C.lp) 0 P rg (xO P C.lp C.Q r) (o::l) a w
 refine wpListIn_step fun K hK=>?_
 rw[hw]
 cases g with
 |true=>
  simp only[if_true]
  refine yw C.lp (tW hg).1 ?_
  refine hs rfl C.S C.w0 β M a w (Sub.refl _) (Fresh.same _ _) h1 (fun β' hb x _ y hy=>wY h2 hb hy) K _ ?_
  intro β' u w' hag hrel hu
  refine hK _ _ (hr β' _ w' hrel ?_ ?_ ?_)
  ·exact h2.put hag h3 hd (fun β'' hb=>by rw[hu β'' hb];rfl)
  ·cases o.dst<;>simp[Act.put,h3]
  ·cases o.dst<;>simp[Act.put,h4]
 |false=>
  simp only[JS,if_false]
  obtain rfl:N=[]:=by rcases hN with hN|hN;exact absurd hN z9;exact hN
  refine⟨fun f _=>p8 _ f,?_⟩
  refine hK _ _ (hr β _ w h1 ?_ ?_ ?_)
  ·exact h2.put (N:=[]) (Agree.refl _ _) h3 hd (fun β'' _=>rfl)
  ·cases o.dst<;>simp[Act.put,h3]
  ·cases o.dst<;>simp[Act.put,h4]
theorem Rel.agree {S:Bs}{w0 w:World}{β β':Vl}{M:Mem}(h:Rel S w0 β M w)(hb:Agree M β β'):Rel S w0 β' M w:=by
 have hs:∀n b,M.get n=some b->β' n=β n:=fun n b hn=>hb n (by simp[hn])
 refine⟨h.fr,⟨fun β'' hag=>h.mem.ok β'' (hb.trans hag),fun n b hn=>by rw[hs n b hn];exact h.mem.there n b hn,fun n m b b' hn hm hne hr hl=>?_⟩,fun n b hn hr=>?_,fun n l hn=>⟨(h.pin n l hn).1,(hb n (h.pin n l hn).1).trans (h.pin n l hn).2⟩⟩
 ·rw[hs n b hn,hs m b' hm];exact h.mem.apart n m b b' hn hm hne hr hl
 ·rw[hs n b hn];exact h.own n b hn hr
theorem uw {P:Program}{o:Oper}{e:Env}{M:Mem}{v:V}
  (h:∀S w0 β M' (a:Act) w,Sub M M'->Rel S w0 β M' w->(∀x,x∈o.op.operands->∀y,rd e x=some y->a.eval x=gv β y)->(execOp a.eval o).run P w= .ok (.value (v.g β)) w):Stp P o e M v []:=by
 intro S w0 β M' a w hsub _ hrel hop K Q hk
 have key:∀β'',Agree M' β β''->(execOp a.eval o).run P w= .ok (.value (v.g β'')) w:=fun β'' hb=>h S w0 β'' M' a w hsub (hrel.agree hb) (fun x hx y hy=>hop β'' hb x hx y hy)
 unfold Oper.wp
 rw[key β (Agree.refl _ _)]
 refine hk β _ w (Agree.refl _ _) hrel (fun β'' hb=>?_)
 have:=(key β (Agree.refl _ _)).symm.trans (key β'' hb)
 simpa using this
theorem Stp.pure {P:Program}{o:Oper}{e:Env}{M:Mem}{v:V}
  (h:∀β (a:Act),(∀x,x∈o.op.operands->∀y,rd e x=some y->a.eval x=gv β y)->∀w,(execOp a.eval o).run P w= .ok (.value (v.g β)) w):Stp P o e M v []:=
 uw fun _ _ β _ a w _ _ hop=>h β a hop w
theorem BkOk.range {β:Vl}{n:Nat}{b:Bk}{w:World}(h:BkOk β n b w):w.rangeAt (β n).blk (β n).org (b.cells.map (Cv.g β)):=by
 unfold BkOk at h
 split at h
 ·rw[h.1];intro j v hj;simp at hj
 split at h
 ·exact h.1
 ·obtain⟨ho,junk,hh,_⟩:=h
  intro j v hj
  rw[ho]
  simp only[World.cell?,hh,J4]
  have hlt:j<(b.cells.map (Cv.g β)).length:=(JW.1 hj).1
  simp only[Option.isSome_none,JS,if_false,Iy]
  rw[Jk hlt]
  exact hj
theorem BkOk.siz {β:Vl}{n:Nat}{b:Bk}{w:World}(h:BkOk β n b w):b.cells.length<=(β n).siz:=by
 unfold BkOk at h
 split at h
 ·rw[h.1];simp
 split at h
 ·exact h.2
 ·obtain⟨_,junk,_,hz⟩:=h;omega
theorem BkOk.nul_cells {β:Vl}{n:Nat}{b:Bk}{w:World}(h:BkOk β n b w)(hn:(β n).nul=true):b.cells=[]:=by
 unfold BkOk at h
 rw[if_pos hn]at h
 exact h.1
theorem BkOk.nul_odd {β:Vl}{n:Nat}{b:Bk}{w:World}(h:BkOk β n b w)(hn:(β n).nul=true)(hr:b.ro=false):(β n).odd=none:=by
 unfold BkOk at h
 rw[if_pos hn]at h
 exact h.2 hr
theorem uj {w:World}{b o:Nat}{cs:List Value}(h:w.rangeAt b o cs)(off k:Nat):w.rangeAt b (o+off) ((cs.drop off).take k):=by
 intro j v hj
 rw[IC]
 refine h (off+j) v ?_
 rw[Iu]at hj
 split at hj
 ·rwa [Is]at hj
 ·cases hj
def zm (P:Program)(t:TypeId):Nat:=((P.info? t).map (·.size)).getD 0
def z5 (P:Program)(t:TypeId):Option Bool:=
 match P.underlying t with
 |some (.struct _)=>some true
 |some (.array _ _)=>some true
 |some _=>some false
 |none=>none
def zd (P:Program)(t:TypeId):Option (List Value):=
 match P.info? t with
 |some i=>(match i.zero with|some z=>(if z.cells.size=i.size then some z.cells.toList else none)|none=>none)
 |none=>none
def zY (P:Program)(s:TypeId)(f:Nat):Option Nat:=
 match P.underlying s with
 |some (.struct fs)=>(match fs[f]? with|some fd=>(if zm P fd.type=0 then none else some fd.offset)|none=>none)
 |_=>none
def vB (P:Program)(t:TypeId):Option IntKind:=
 match P.underlying t with
 |some (.int k)=>some k
 |_=>none
theorem yK {P:Program}{t:TypeId}{n:Nat}(h:zm P t=n)(h0:n≠0)(w:World):(sizeOf t).run P w= .ok n w:=by
 unfold zm at h
 cases hi:P.info? t with
 |none=>simp[hi]at h;omega
 |some i=>simp[hi]at h;simp[sizeOf,typeInfo,hi,h]
theorem uM {P:Program}{t:TypeId}{n:Nat}(h:zm P t=n)(h0:n≠0):(P.info? t).map (·.size)=some n:=by
 unfold zm at h
 cases hi:P.info? t with
 |none=>simp[hi]at h;omega
 |some i=>simp[hi]at h;simp[h]
theorem Rel.range {S:Bs}{w0 w:World}{β:Vl}{M M':Mem}(h:Rel S w0 β M' w)(hsub:Sub M M'){n:Nat}{b:Bk}(hb:M.get n=some b):w.rangeAt (β n).blk (β n).org (b.cells.map (Cv.g β)):=by
 obtain⟨b',hb',hwk⟩:=hsub n b hb
 obtain⟨tl,hcells⟩:∃tl,b'.cells=b.cells++tl:=by
  rcases hwk with h|h
  ·exact⟨[],by rw[h];simp⟩
  ·exact h.2
 have:=(h.mem.ok β (Agree.refl _ _) n b' hb').range
 rw[hcells]at this
 intro j v hj
 refine this j v ?_
 rw[JN,Jk (JW.1 hj).1]
 exact hj
theorem Rel.siz {S:Bs}{w0 w:World}{β:Vl}{M M':Mem}(h:Rel S w0 β M' w)(hsub:Sub M M'){n:Nat}{b:Bk}(hb:M.get n=some b):b.cells.length<=(β n).siz/\((β n).nul=true->b.cells=[]):=by
 obtain⟨b',hb',hwk⟩:=hsub n b hb
 obtain⟨tl,hcells⟩:∃tl,b'.cells=b.cells++tl:=by
  rcases hwk with h|h
  ·exact⟨[],by rw[h];simp⟩
  ·exact h.2
 have hok:=h.mem.ok β (Agree.refl _ _) n b' hb'
 have h1:=hok.siz
 rw[hcells,JM]at h1
 refine⟨zA,fun hn=>?_⟩
 have h2:=hok.nul_cells hn
 rw[hcells]at h2
 exact(List.append_eq_nil_iff.1 h2).1
theorem ls {P:Program}{o:Oper}{e:Env}{M:Mem}{ty:TypeId}{x:Operand}{n off sz:Nat}{b:Bk}(ho:o.op= .load ty x)(hx:rd e x=some (true,.c (.p n off)))(hb:M.get n=some b)
  (ha:z5 P ty=some true) (hs:zm P ty=sz) (h0:sz≠0) (hl:off+sz<=b.cells.length):Stp P o e M (.agg ((b.cells.drop off).take sz)) []:=by
 refine uw fun S w0 β M' a w hsub hrel hop=>?_
 have he:=hop x (by simp[ho,Op.operands]) _ hx
 have hr2:=uj (hrel.range hsub hb) off sz
 have hlen:((b.cells.map (Cv.g β)).drop off|>.take sz).length=sz:=by simp;omega
 unfold z5 at ha
 cases hu:P.underlying ty with
 |none=>simp[hu]at ha
 |some d=>
  have hd:d.isRow=true:=by cases d<;>simp_all
  simp only[gv,V.g,Cv.g,cond_true]at he
  have hld:=run_loadVar_mid (P:=P) w (β n).blk ((β n).org+off) ty _ d hr2 hu hd (by rw[hlen];exact uM hs h0)
  unfold execOp
  simp only[ho,he,Instr.loadAt,Instr.sureAddr,Sem.run_bind,Sem.run_pure,Result.andThen_ok,hld]
  simp[V.g,ID,Iq]
theorem xJ {P:Program}{ty:TypeId}(ha:z5 P ty=some false)(w:World):(isAgg ty).run P w= .ok false w:=by
 unfold z5 at ha
 cases hu:P.underlying ty with
 |none=>simp[hu]at ha
 |some d=>
  unfold isAgg
  rw[Sem.run_bind,run_underlying hu w]
  cases d<;>simp_all
theorem lr {P:Program}{o:Oper}{e:Env}{M:Mem}{ty:TypeId}{x:Operand}{n off:Nat}{b:Bk}{c:Cv}(ho:o.op= .load ty x)(hx:rd e x=some (true,.c (.p n off)))(hb:M.get n=some b)
  (ha:z5 P ty=some false) (hl:b.cells[off]?=some c):Stp P o e M (.c c) []:=by
 refine uw fun S w0 β M' a w hsub hrel hop=>?_
 have he:=hop x (by simp[ho,Op.operands]) _ hx
 have hc:=(hrel.range hsub hb) off (c.g β) (by simp[hl])
 simp only[gv,V.g,Cv.g,cond_true]at he
 unfold execOp
 simp only[ho,he,Instr.loadAt,Instr.sureAddr,Sem.run_bind,Sem.run_pure,Result.andThen_ok,loadVar,xJ ha,JS,if_false,run_load,hc,Sem.run_ite,V.g]
theorem Stp.fieldAddr {P:Program}{o:Oper}{e:Env}{M:Mem}{s:TypeId}{x:Operand}{f n off k:Nat}(ho:o.op= .fieldAddr s x f)(hx:rd e x=some (true,.c (.p n off)))
  (hk:zY P s f=some k):Stp P o e M (.c (.p n (off+k))) []:=by
 refine Stp.pure fun β a hop w=>?_
 have he:=hop x (by simp[ho,Op.operands]) _ hx
 simp only[gv,V.g,Cv.g,cond_true]at he
 unfold zY at hk
 cases hu:P.underlying s with
 |none=>simp[hu]at hk
 |some d=>
  cases d<;>simp[hu]at hk
  rename_i fs
  cases hf:fs[f]? with
  |none=>simp[hf]at hk
  |some fd=>
   simp[hf]at hk
   obtain⟨hsz,rfl⟩:=hk
   unfold execOp
   have hs:=yK (P:=P) (t:=fd.type) rfl hsz
   simp[ho,he,Instr.fieldAt,run_underlying hu,hf,Instr.sureAddr,fieldPlace,hs,hsz,V.g,Cv.g,Addr.add_mid,IC]
theorem Rel.alloc {S:Bs}{w0 w:World}{β:Vl}{M:Mem}(h:Rel S w0 β M w)(nm:Nat)(hn:M.get nm=none)(cs:List Cv)(el:TypeId)(hcs:∀b',Agree M β b'->cs.map (Cv.g b')=cs.map (Cv.g β)):
  Rel S w0 (fun k=>if k=nm then⟨w.heap.size,0,cs.length,false,none⟩else β k) ((nm,⟨false,cs,el⟩)::M) (w.alloc (.cells (cs.map (Cv.g β)).toArray el)):=by
 have hget:∀k,Mem.get ((nm,⟨false,cs,el⟩)::M) k=if k=nm then some ⟨false,cs,el⟩else M.get k:=by
  intro k
  simp only[Mem.get]
  by_cases hk:k=nm
  ·subst hk;simp
  ·have:(nm==k)=false:=by simp;exact fun hh=>hk hh.symm
   simp[this,hk]
 have hne:∀k b,M.get k=some b->k≠nm:=by rintro k b hk rfl;rw[hn]at hk;cases hk
 have hblk:∀i,i<w.heap.size->(w.alloc (.cells (cs.map (Cv.g β)).toArray el)).heap[i]?=w.heap[i]?:=fun i hi=>Below.heap_alloc w _ i hi
 refine⟨⟨h.fr.os,h.fr.tape,h.fr.output,IE h.fr.size z9,fun b hS hb=>?_⟩,⟨fun β' hag n b hb=>?_,fun n b hb hu=>?_,fun n m b b' hb hb' hnm hr hlv hu hu'=>?_⟩,fun n b hb hr hu hS=>?_,fun n l hl=>?_⟩
 ·rw[hblk b (J1 hb h.fr.size)];exact h.fr.old b hS hb
 ·have hag0:Agree M β β':=fun k hk=>by
   have:=hag k (by rw[hget];split<;>simp_all)
   obtain⟨b,hb⟩:=JE.1 hk
   rw[this];exact if_neg (hne k b hb)
  rw[hget]at hb
  split at hb
  ·rename_i hk
   subst hk
   simp at hb
   subst hb
   have hl:β' n=⟨w.heap.size,0,cs.length,false,none⟩:=by have:=hag n (by rw[hget];simp);simpa using this
   unfold BkOk
   rw[if_neg (by simp[hl]),if_neg z9,hl]
   refine⟨rfl,[],?_,z9⟩
   show(w.alloc _).heap[w.heap.size]?=_
   rw[JK,hcs β' hag0]
   show(w.heap.push _)[w.heap.size]?=_
   simp
  ·have hold:=h.mem.ok β' hag0 n b hb
   cases hu:(β n).nul with
   |true=>
    have hβ:=hag0 n (by simp[hb])
    unfold BkOk at hold⊢
    rw[if_pos (by rw[hβ];exact hu)]at hold⊢
    exact hold
   |false=>
    refine hold.same ?_
    rw[hblk _ ?_]
    rw[hag0 n (by simp[hb])]
    exact h.mem.there n b hb hu
 ·rw[hget]at hb
  split at hb
  ·rename_i hk;simp[hk]
  ·rename_i hk
   simp only[if_neg hk]at hu⊢
   exact J1 (h.mem.there n b hb hu) z9
 ·rw[hget]at hb hb'
  split at hb
  ·rename_i hk
   split at hb'
   ·rename_i hk';omega
   ·rename_i hk'
    simp only[if_pos hk,if_neg hk']at hu'⊢
    have:=h.mem.there m b' hb' hu'
    omega
  ·rename_i hk
   split at hb'
   ·rename_i hk'
    simp only[if_pos hk',if_neg hk]at hu⊢
    have:=h.mem.there n b hb hu
    omega
   ·rename_i hk'
    simp only[if_neg hk',if_neg hk]at hu hu'⊢
    exact h.mem.apart n m b b' hb hb' hnm hr hlv hu hu'
 ·rw[hget]at hb
  split at hb
  ·rename_i hk;simp only[if_pos hk];exact h.fr.size
  ·rename_i hk
   simp only[if_neg hk]at hS hu⊢
   exact h.own n b hb hr hu hS
 ·obtain⟨p1,p2⟩:=h.pin n l hl
  have hnn:n≠nm:=by rintro rfl;rw[hn]at p1;cases p1
  exact⟨by rw[hget,if_neg hnn];exact p1,by simp only[if_neg hnn];exact p2⟩
theorem gP {P:Program}{o:Oper}{e:Env}{M:Mem}(nm:Nat)(cs:List Cv)(el:TypeId)
  (hop:∀β M' (a:Act),mE β M' e o a->(∀b',Agree M' β b'->cs.map (Cv.g b')=cs.map (Cv.g β))/\∀w,(execOp a.eval o).run P w= .ok (.value (.pointer (some ⟨w.heap.size,0,none⟩))) (w.alloc (.cells (cs.map (Cv.g β)).toArray el))) (hn:M.get nm=none):
  Stp P o e M (.c (.p nm 0)) [(nm,⟨false,cs,el⟩)]:=by
 intro S w0 β M' a w _ hfr hrel hok K Q hk
 obtain⟨h1,h2⟩:=hop β M' a hok
 have hn':M'.get nm=none:=by
  rcases hfr nm (by simp[Mem.get])with h|h
  ·rw[hn]at h;cases h
  ·exact h
 unfold Oper.wp
 rw[h2 w]
 refine hk (fun k=>if k=nm then⟨w.heap.size,0,cs.length,false,none⟩else β k) _ _ (fun k hk'=>?_) (hrel.alloc nm hn' cs el h1) (fun β'' hag=>?_)
 ·by_cases hkk:k=nm
  ·subst hkk;rw[hn']at hk';cases hk'
  ·simp[hkk]
 ·have:=hag nm (by simp[Mem.get])
  simp[V.g,Cv.g,this]
theorem Stp.box {P:Program}{o:Oper}{e:Env}{M:Mem}(nm:Nat){el:TypeId}{x:Operand}{v:V}(ho:o.op= .box el x)(hx:rd e x=some (true,v))(hv:v.ok1=true)(hn:M.get nm=none):
  Stp P o e M (.c (.p nm 0)) [(nm,⟨false,v.cells,el⟩)]:=by
 refine gP nm _ _ (fun β M' a hok=>?_) hn
 have he:∀b',Agree M' β b'->a.eval x=v.g b':=fun b' hb=>by have:=hok b' hb x (by simp[ho,Op.operands]) _ hx;simpa[gv]using this
 have hc:∀b',(v.g b').cells=(v.cells.map (Cv.g b')).toArray:=fun b'=>rS hv b'
 refine⟨fun b' hb=>?_,fun w=>?_⟩
 ·have:=congrArg Value.cells ((he b' hb).symm.trans (he β (Agree.refl _ _)))
  rw[hc,hc]at this
  simpa using this
 ·unfold execOp
  simp[ho,he β (Agree.refl _ _),Instr.box,newVar,newRow,hc]
theorem Stp.alloc {P:Program}{o:Oper}{e:Env}{M:Mem}(nm:Nat){el:TypeId}{zs:List Value}(ho:o.op= .alloc el)(hz:zd P el=some zs)(hn:M.get nm=none):
  Stp P o e M (.c (.p nm 0)) [(nm,⟨false,zs.map .v,el⟩)]:=by
 refine gP nm _ _ (fun β M' a hok=>⟨fun _ _=>by simp[Function.comp_def,Cv.g],fun w=>?_⟩) hn
 unfold zd at hz
 cases hi:P.info? el with
 |none=>simp[hi]at hz
 |some i=>
  simp only[hi]at hz
  cases hzz:i.zero with
  |none=>simp[hzz]at hz
  |some z=>
   simp only[hzz]at hz
   split at hz<;>simp at hz
   subst hz
   unfold execOp
   simp[ho,Instr.alloc,zeroValue,typeInfo,hi,hzz,newVar,newRow,Function.comp_def,Cv.g]
def wQ {α:Type}:List α->Nat->List α->List α
 |l,_,[]=>l
 |l,o,v::r=>wQ (l.set o v) (o+1) r
theorem ri {α:Type}(vs:List α):∀(l:List α) (o:Nat),(wQ l o vs).length=l.length:=by
 induction vs with
 |nil=>intro l o;rfl
 |cons v r ih=>intro l o;simp[wQ,ih]
theorem mc {α β:Type}(f:α->β)(vs:List α):∀(l:List α) (o:Nat),wQ (l.map f) o (vs.map f)=(wQ l o vs).map f:=by
 induction vs with
 |nil=>intro l o;rfl
 |cons v r ih=>intro l o;simp only[Ky,wQ];rw[<-ih,Jy]
theorem md {α:Type}(vs:List α):∀(l j:List α) (o:Nat),o+vs.length<=l.length->wQ (l++j) o vs=wQ l o vs++j:=by
 induction vs with
 |nil=>intro l j o _;rfl
 |cons v r ih=>
  intro l j o h
  simp only[JQ]at h
  simp only[wQ]
  rw[List.set_append_left _ _ zA]
  exact ih _ _ _ (by simp;omega)
theorem xW (b:Nat):∀(vs:List Value) (o:Nat) (w:World) (k:Nat),k≠b->(w.setCells b o vs).heap[k]?=w.heap[k]?
 |[],_,_,_,_=>rfl
 |v::r,o,w,k,h=>by
  rw[World.setCells,xW b r (o+1) _ k h]
  exact Below.heap_setCell w ⟨b,o,none⟩ v k h
theorem xc (b:Nat):∀(vs:List Value) (o:Nat) (w:World) (l:List Value) (el:TypeId) (fz:Nat×Nat),w.heap[b]?=some (.cells l.toArray el fz)->(w.setCells b o vs).heap[b]?=some (.cells (wQ l o vs).toArray el fz)
 |[],_,_,_,_,_,h=>h
 |v::r,o,w,l,el,fz,h=>by
  rw[World.setCells]
  refine xc b r (o+1) _ (l.set o v) el fz ?_
  simp only[World.setCell,Array.getElem?_modify,if_true,h,Jj]
  simp
theorem vS (b:Nat):∀(vs:List Value) (o:Nat) (w:World),(w.setCells b o vs).os=w.os/\(w.setCells b o vs).tape=w.tape/\(w.setCells b o vs).output=w.output/\(w.setCells b o vs).heap.size=w.heap.size
 |[],_,_=>⟨rfl,rfl,rfl,rfl⟩
 |v::r,o,w=>by
  have:=vS b r (o+1) (w.setCell ⟨b,o,none⟩ v)
  rw[World.setCells]
  exact⟨this.1,this.2.1,this.2.2.1,this.2.2.2.trans (by simp[World.setCell])⟩
theorem oK {P:Program}(w:World)(b o:Nat)(ty:TypeId)(v:Value)(ht:w.there b o v.cells.size)(hi:(P.info? ty).map (·.size)=some v.cells.size)(h1:∀x∈v.cells.toList,x.oneCell'=true):
  (storeVar ty ⟨b,o,none⟩ v).run P w= .ok () (w.setCells b o v.cells.toList):=by
 have:=run_storeCells_cells (P:=P) b o v.cells.toList 0 w (fun j hj=>by simpa using(ht j (by simpa using hj)).1) (fun j hj=>by simpa using(ht j (by simpa using hj)).2) h1
 cases hq:P.info? ty with
 |none=>simp[hq]at hi
 |some i=>
  have hs:v.cells.size=i.size:=by simp[hq]at hi;omega
  simp only[Jx]at this
  simp[storeVar,sizeOf,typeInfo,hq,hs,this]
theorem Rel.store {S:Bs}{w0 w:World}{β:Vl}{M:Mem}(h:Rel S w0 β M w){n:Nat}{b:Bk}(hb:M.get n=some b)(hr:b.ro=false){off:Nat}{cs:List Cv}(hl:off+cs.length<=b.cells.length)(hnu:(β n).nul=false)
  (hcs:∀b',Agree M β b'->cs.map (Cv.g b')=cs.map (Cv.g β)):
  Rel S w0 β ((n,⟨false,wQ b.cells off cs,b.elem⟩)::M) (w.setCells (β n).blk off (cs.map (Cv.g β))):=by
 have hget:∀k,Mem.get ((n,⟨false,wQ b.cells off cs,b.elem⟩)::M) k=if k=n then some ⟨false,wQ b.cells off cs,b.elem⟩else M.get k:=by
  intro k
  simp only[Mem.get]
  by_cases hk:k=n
  ·subst hk;simp
  ·have:(n==k)=false:=by simp;exact fun hh=>hk hh.symm
   simp[this,hk]
 have hsm:=vS (β n).blk (cs.map (Cv.g β)) off w
 have hoth:=fun k=>xW (β n).blk (cs.map (Cv.g β)) off w k
 refine⟨⟨hsm.1.trans h.fr.os,hsm.2.1.trans h.fr.tape,hsm.2.2.1.trans h.fr.output,by rw[hsm.2.2.2];exact h.fr.size,fun k hS hk=>?_⟩,⟨fun β' hag m b' hb'=>?_,fun m b' hb' hu=>?_,fun m m' b1 b2 h1 h2 hne hro hlv hu hu'=>?_⟩,fun m b' hb' hro hu hS=>?_,fun m l hl=>⟨by rw[hget];split<;>simp[(h.pin m l hl).1],(h.pin m l hl).2⟩⟩
 ·rw[hoth k ?_]
  ·exact h.fr.old k hS hk
  ·rintro rfl
   have:=h.own n b hb hr hnu hS
   omega
 ·have hag0:Agree M β β':=fun k hk=>hag k (by rw[hget];split<;>simp_all)
  rw[hget]at hb'
  split at hb'
  ·rename_i hk
   subst hk
   simp at hb'
   subst hb'
   have hβ:β' m=β m:=hag0 m (by simp[hb])
   have hold:=h.mem.ok β' hag0 m b hb
   unfold BkOk at hold⊢
   rw[if_neg (by simp[hβ,hnu]),if_neg (by simp[hr]),hβ]at hold
   rw[if_neg (by simp[hβ,hnu]),if_neg z9,hβ]
   obtain⟨ho,junk,hh,hz⟩:=hold
   refine⟨ho,junk,?_,by simp[ri];exact hz⟩
   rw[xc _ _ _ _ _ _ _ hh]
   rw[<-hcs β' hag0,md _ _ _ _ (by simpa using hl),mc]
  ·rename_i hk
   have hold:=h.mem.ok β' hag0 m b' hb'
   have hβ:=hag0 m (by simp[hb'])
   cases hu:(β m).nul with
   |true=>
    unfold BkOk at hold⊢
    rw[if_pos (by rw[hβ];exact hu)]at hold⊢
    exact hold
   |false=>
    by_cases hlv:b'.lv
    ·refine hold.same (hoth _ ?_)
     rw[hβ]
     exact fun hh=>h.mem.apart n m b b' hb hb' (fun hh'=>hk hh'.symm) hr hlv hnu hu hh.symm
    ·unfold Bk.lv at hlv
     simp only[not_or,Bool.not_eq_false,ne_eq,Jg]at hlv
     have hsz:=hold.siz
     unfold BkOk
     rw[if_neg (by rw[hβ];simp[hu]),if_pos hlv.1,hlv.2]
     exact⟨fun j v hj=>by simp at hj,z9⟩
 ·rw[hsm.2.2.2]
  rw[hget]at hb'
  split at hb'
  ·rename_i hk;rw[hk];exact h.mem.there n b hb hnu
  ·exact h.mem.there m b' hb' hu
 ·rw[hget]at h1 h2
  split at h1
  ·rename_i hk
   split at h2
   ·omega
   ·rw[hk];exact h.mem.apart n m' b b2 hb h2 zA hr hlv hnu hu'
  ·split at h2
   ·rename_i hk
    rw[hk];exact h.mem.apart m n b1 b h1 hb zA hro (.inl hr) hu hnu
   ·exact h.mem.apart m m' b1 b2 h1 h2 hne hro hlv hu hu'
 ·rw[hget]at hb'
  split at hb'
  ·rename_i hk;rw[hk]at hS⊢;exact h.own n b hb hr hnu hS
  ·exact h.own m b' hb' hro hu hS
theorem Stp.store {P:Program}{o:Oper}{e:Env}{M:Mem}{ty:TypeId}{x y:Operand}{n off sz:Nat}{b:Bk}{v:V}(ho:o.op= .store ty x y)(hx:rd e x=some (true,.c (.p n off)))(hy:rd e y=some (true,v))
  (hb:M.get n=some b) (hr:b.ro=false) (hv:v.ok1=true) (h1:v.cells.all Cv.one=true) (hs:zm P ty=sz) (h0:sz≠0) (hz:v.cells.length=sz) (hl:off+sz<=b.cells.length) (hd:o.dst=none):
  Stp P o e M (.agg []) [(n,⟨false,wQ b.cells off v.cells,b.elem⟩)]:=by
 intro S w0 β M' a w hsub _ hrel hok K Q hk
 obtain⟨b',hb',hwk⟩:=hsub n b hb
 obtain rfl:b=b':=by rcases hwk with h|h;exact h;rw[hr]at h;exact absurd h.1 z9
 have hbk:=hrel.mem.ok β (Agree.refl _ _) n b hb'
 have hnu:(β n).nul=false:=by
  cases hu:(β n).nul with
  |false=>rfl
  |true=>
   have:=hbk.nul_cells hu
   rw[this]at hl;simp at hl;omega
 have horg:(β n).org=0:=by unfold BkOk at hbk;rw[if_neg (by simp[hnu]),if_neg (by simp[hr])]at hbk;exact hbk.1
 have hex:a.eval x= .pointer (some ⟨(β n).blk,off,none⟩):=by have:=hok β (Agree.refl _ _) x (by simp[ho,Op.operands]) _ hx;simpa[gv,V.g,Cv.g,horg]using this
 have hey:∀b',Agree M' β b'->a.eval y=v.g b':=fun b' hb=>by have:=hok b' hb y (by simp[ho,Op.operands]) _ hy;simpa[gv]using this
 have hc:∀b',(v.g b').cells=(v.cells.map (Cv.g b')).toArray:=fun b'=>rS hv b'
 have hsz:(v.g β).cells.size=sz:=by rw[hc];simp[hz]
 have hth:w.there (β n).blk off (v.g β).cells.size:=by
  intro j hj
  rw[hsz]at hj
  have hrg:=hbk.range
  rw[horg]at hrg
  have hlt:off+j<b.cells.length:=zA
  constructor
  ·have:=hrg (off+j) ((b.cells[off+j]).g β) (by simp[hlt])
   rw[J4]at this
   rw[this];rfl
  ·unfold BkOk at hbk
   rw[if_neg (by simp[hnu]),if_neg (by simp[hr])]at hbk
   obtain⟨_,junk,hh,_⟩:=hbk
   simp[World.frozen?,hh]
 have hrun:=oK (P:=P) w (β n).blk off ty (v.g β) hth (by rw[hsz];exact uM hs h0) (by
  rw[hc]
  intro z hz'
  simp at hz'
  obtain⟨c,hcm,rfl⟩:=hz'
  exact kF (by simpa using JD.1 h1 c hcm) β)
 unfold Oper.wp execOp
 simp only[ho,hex,hey β (Agree.refl _ _),Instr.storeAt,Instr.sureAddr,Sem.run_bind,Sem.run_pure,Result.andThen_ok,hrun]
 simp only[Oper.upon]
 have hst:=hrel.store hb' hr (off:=off) (cs:=v.cells) zA hnu (fun b' hag=>by
  have:=congrArg Value.cells ((hey b' hag).symm.trans (hey β (Agree.refl _ _)))
  rw[hc,hc]at this
  simpa using this)
 rw[hc]
 have hput:∀u u',a.put o.dst u=a.put o.dst u':=fun u u'=>by simp[hd,Act.put]
 rw[hput undef (.agg #[])]
 exact hk β _ _ (Agree.refl _ _) hst (fun _ _=>rfl)
def Enters (P:Program)(f:FuncId):Prop:=∀args w,(callFunc f args).run P w= .ok (.enter f args) w
def CallOk (P:Program)(f:FuncId)(args:List V)(M:Mem)(v:V)(N:Mem):Prop:=
 Enters P f/\(∀n b,N.get n=some b->M.get n=none->b.ro=false)/\(∀n b b',N.get n=some b->M.get n=some b'->b'.ro=false)/\
 ∀β w,MemOk β M w->Calls P f (args.map (V.g β)).toArray w fun en w'=>
  ∃β',Agree M β β'/\(∀β'',Agree (N++M) β' β''->en= .returned (v.g β''))/\MemOk β' (N++M) w'/\Fr (fun k=>∀n b,M.get n=some b->b.ro=false->(β n).nul=false->k≠(β n).blk) w w'/\
   (∀n,(N.get n).isSome=true->M.get n=none->(β' n).nul=false->(w.heap.size<=(β' n).blk\/∃k b c,M.get k=some b/\b.ro=false/\(β k).nul=false/\N.get k=some c/\¬c.lv/\(β' n).blk=(β k).blk))
def ClM (M:Mem):Prop:=∀β β',Agree M β β'->∀n b,M.get n=some b->b.cells.map (Cv.g β')=b.cells.map (Cv.g β)
def ClV (M:Mem)(v:V):Prop:=∀β β',Agree M β β'->v.g β'=v.g β
theorem Wk.trans {a b c:Bk}(h:Wk a b)(k:Wk b c):Wk a c:=by
 rcases h with rfl|⟨h1,tl,h2⟩
 ·exact k
 ·rcases k with rfl|⟨k1,tl',k2⟩
  ·exact .inr ⟨h1,tl,h2⟩
  ·exact .inr ⟨h1,tl++tl',by rw[k2,h2,I1]⟩
theorem Sub.trans {a b c:Mem}(h:Sub a b)(k:Sub b c):Sub a c:=fun n x hx=>by
 obtain⟨y,hy,h1⟩:=h n x hx
 obtain⟨z,hz,h2⟩:=k n y hy
 exact⟨z,hz,h1.trans h2⟩
theorem BkOk.wk {β:Vl}{n:Nat}{b b':Bk}{w:World}(h:BkOk β n b' w)(hw:Wk b b'):BkOk β n b w:=by
 rcases hw with rfl|⟨h1,tl,h2⟩
 ·exact h
 ·have hr:=h.range
  have hs:=h.siz
  cases hu:(β n).nul with
  |true=>
   have hc:=h.nul_cells hu
   rw[hc]at h2
   unfold BkOk
   rw[if_pos hu]
   exact⟨(List.append_eq_nil_iff.1 h2.symm).1,fun hr=>by rw[h1]at hr;cases hr⟩
  |false=>
   unfold BkOk
   rw[if_neg (by simp[hu]),if_pos h1]
   rw[h2]at hr hs
   refine⟨fun j v hj=>hr j v ?_,by simp at hs;omega⟩
   rw[JN,Jk (JW.1 hj).1]
   exact hj
theorem BkOk.cells {β β':Vl}{n:Nat}{b:Bk}{w:World}(h:BkOk β n b w)(hn:β' n=β n)(hc:b.cells.map (Cv.g β')=b.cells.map (Cv.g β)):BkOk β' n b w:=by
 unfold BkOk at*
 rw[hn,hc]
 exact h
theorem MemOk.sub {β:Vl}{M M':Mem}{w:World}(h:MemOk β M' w)(hs:Sub M M')(hc:ClM M):MemOk β M w:=by
 refine⟨fun β' hag n b hb=>?_,fun n b hb=>?_,fun n m b b' hb hb' hne hr hlv=>?_⟩
 ·obtain⟨b',hb',hw⟩:=hs n b hb
  exact((h.ok β (Agree.refl _ _) n b' hb').wk hw).cells (hag n (by simp[hb])) (hc β β' hag n b hb)
 ·obtain⟨b',hb',_⟩:=hs n b hb
  exact h.there n b' hb'
 ·obtain⟨c,hc1,hw1⟩:=hs n b hb
  obtain⟨c',hc2,hw2⟩:=hs m b' hb'
  refine h.apart n m c c' hc1 hc2 hne ?_ (hw2.lv hlv)
  rcases hw1 with rfl|⟨h1,_⟩
  ·exact hr
  ·rw[hr]at h1;cases h1
theorem Rel.after {S:Bs}{w0 w w':World}{β β':Vl}{M1 M' N:Mem}(hrel:Rel S w0 β M' w)(hs':Sub M1 M')(hNrw:∀n b,N.get n=some b->M1.get n=none->b.ro=false)(hU:∀n b b',N.get n=some b->M1.get n=some b'->b'.ro=false)
  (hfresh:∀k,(N.get k).isSome=true->(M'.get k).isSome=true->(M1.get k).isSome=true) (hag:Agree M1 β β') (hmem:MemOk β' (N++M1) w') (hfrm:Fr (fun k=>∀n b,M1.get n=some b->b.ro=false->(β n).nul=false->k≠(β n).blk) w w')
  (hnew:∀n,(N.get n).isSome=true->M1.get n=none->(β' n).nul=false->(w.heap.size<=(β' n).blk\/∃k b c,M1.get k=some b/\b.ro=false/\(β k).nul=false/\N.get k=some c/\¬c.lv/\(β' n).blk=(β k).blk)):
  ∃β2:Vl,Agree M' β β2/\Rel S w0 β2 (N++M') w'/\(∀β'',Agree (N++M') β2 β''->Agree (N++M1) β' β'')/\(∀k,(N.get k).isSome=true->β2 k=β' k):=by
 -- the new valuation
 have hβ2N:∀k,(N.get k).isSome=true->(fun k=>if (N.get k).isSome=true then β' k else β k) k=β' k:=fun k hk=>if_pos hk
 have hβ2M:∀k,(M'.get k).isSome=true->(fun k=>if (N.get k).isSome=true then β' k else β k) k=β k:=fun k hk=>by
  by_cases h:(N.get k).isSome=true
  ·simp only[h,if_true];exact hag k (hfresh k h hk)
  ·simp only[h];rfl
 generalize (fun k=>if (N.get k).isSome=true then β' k else β k)=β2 at hβ2N hβ2M
 have hM1:∀k b,M1.get k=some b->β' k=β k:=fun k b hb=>hag k (by simp[hb])
 have hM1':∀k b,M1.get k=some b->(M'.get k).isSome=true:=fun k b hb=>by obtain⟨b',hb',_⟩:=hs' k b hb;simp[hb']
 have hrw:∀k b,M1.get k=some b->b.ro=false->M'.get k=some b:=fun k b hb hr=>by
  obtain⟨b',hb',hw⟩:=hs' k b hb
  rcases hw with rfl|⟨h1,_⟩
  ·exact hb'
  ·rw[hr]at h1;cases h1
 have hgetNM:∀k b,(N++M':Mem).get k=some b->N.get k=some b\/(N.get k=none/\M'.get k=some b):=fun k b hb=>by
  rw[zL]at hb
  cases h:N.get k with
  |none=>rw[h]at hb;exact .inr ⟨rfl,by simpa using hb⟩
  |some c=>rw[h]at hb;exact .inl (by simpa using hb)
 have hNget:∀(X:Mem) k b,N.get k=some b->(N++X:Mem).get k=some b:=fun X k b hb=>by rw[zL,hb];rfl
 have hXget:∀(X:Mem) k b,N.get k=none->X.get k=some b->(N++X:Mem).get k=some b:=fun X k b hb hx=>by rw[zL,hb,hx];rfl
 have hagree1:∀β'',Agree (N++M') β2 β''->Agree (N++M1) β' β'':=fun β'' h k hk=>by
  rw[zL]at hk
  cases hN:N.get k with
  |some c=>
   rw[h k (by rw[hNget _ k c hN];rfl)]
   exact hβ2N k (by simp[hN])
  |none=>
   rw[hN]at hk
   obtain⟨c,hc⟩:=JE.1 hk
   simp at hc
   have hk':=hM1' k c hc
   obtain⟨d,hd⟩:=JE.1 hk'
   rw[h k (by rw[hXget _ k d hN hd];rfl),hβ2M k hk',hM1 k c hc]
 have hagree0:∀β'',Agree (N++M') β2 β''->Agree M' β β'':=fun β'' h k hk=>by
  rw[h.right k hk,hβ2M k hk]
 have hunch:∀n b,M'.get n=some b->(∀c,M1.get n=some c->c.ro=true)->∀β'',β'' n=β n->BkOk β'' n b w->BkOk β'' n b w':=fun n b hb hno β'' hbn hold=>by
  cases hu:(β n).nul with
  |true=>
   unfold BkOk at hold⊢
   rw[if_pos (by rw[hbn];exact hu)]at hold⊢
   exact hold
  |false=>
   by_cases hlv:b.lv
   ·refine hold.same ?_
    rw[hbn]
    refine hfrm.old _ ?_ (hrel.mem.there n b hb hu)
    intro m c hm hr hum hh
    have hmm:=hrw m c hm hr
    by_cases hnm:m=n
    ·subst hnm;have:=hno c hm;rw[hr]at this;cases this
    ·exact hrel.mem.apart m n c b hmm hb hnm hr hlv hum hu hh.symm
   ·unfold Bk.lv at hlv
    simp only[not_or,Bool.not_eq_false,ne_eq,Jg]at hlv
    unfold BkOk
    rw[if_neg (by rw[hbn];simp[hu]),if_pos hlv.1,hlv.2]
    exact⟨fun j v hj=>by simp at hj,z9⟩
 refine⟨β2,fun k hk=>hβ2M k hk,⟨⟨hfrm.os.trans hrel.fr.os,hfrm.tape.trans hrel.fr.tape,hfrm.output.trans hrel.fr.output,IE hrel.fr.size hfrm.size,fun b hS hb=>?_⟩,⟨fun β'' hag'' n b hb=>?_,fun n b hb hu=>?_,fun n m b c hb hc hne hr hlv hu hu'=>?_⟩,fun n b hb hr hu hS=>?_,fun n l hl=>⟨by rw[zL];cases N.get n<;>simp[(hrel.pin n l hl).1],(hβ2M n (hrel.pin n l hl).1).trans (hrel.pin n l hl).2⟩⟩,hagree1,hβ2N⟩
 ·rw[hfrm.old b ?_ (J1 hb hrel.fr.size)]
  ·exact hrel.fr.old b hS hb
  ·rintro n c hn hr hu rfl
   have:=hrel.own n c (hrw n c hn hr) hr hu hS
   omega
 ·rcases hgetNM n b hb with h|⟨h,h'⟩
  ·exact hmem.ok β'' (hagree1 β'' hag'') n b (hNget _ n b h)
  ·have hbn:β'' n=β n:=hagree0 β'' hag'' n (by simp[h'])
   cases h1:M1.get n with
   |none=>exact hunch n b h' (fun c hc=>by rw[h1]at hc;cases hc) β'' hbn (hrel.mem.ok β'' (hagree0 β'' hag'') n b h')
   |some c=>
    cases hr:c.ro with
    |false=>
     have:=hrw n c h1 hr
     rw[h']at this
     cases this
     exact hmem.ok β'' (hagree1 β'' hag'') n _ (hXget _ n _ h h1)
    |true=>exact hunch n b h' (fun d hd=>by rw[h1]at hd;cases hd;exact hr) β'' hbn (hrel.mem.ok β'' (hagree0 β'' hag'') n b h')
 ·rcases hgetNM n b hb with h|⟨h,h'⟩
  ·rw[hβ2N n (by simp[h])]at hu⊢
   exact hmem.there n b (hNget _ n b h) hu
  ·rw[hβ2M n (by simp[h'])]at hu⊢
   exact J1 (hrel.mem.there n b h' hu) hfrm.size
 ·-- two blocks are apart
  have one:∀n m b c,N.get n=some b->(N.get m=none/\M'.get m=some c)->c.lv->(β2 n).nul=false->(β2 m).nul=false->(β2 n).blk≠(β2 m).blk:=by
   rintro n m b c hn ⟨hm0,hm⟩ hlv hu hu'
   have hne:n≠m:=by rintro rfl;rw[hn]at hm0;cases hm0
   rw[hβ2N n (by simp[hn])]at hu⊢
   rw[hβ2M m (by simp[hm])]at hu'⊢
   cases h1:M1.get n with
   |none=>
    rcases hnew n (by simp[hn]) h1 hu with h|⟨k,d,x,g1,g2,g3,g4,g5,g6⟩
    ·have:=hrel.mem.there m c hm hu'
     omega
    ·have hkm:k≠m:=by rintro rfl;rw[g4]at hm0;cases hm0
     rw[g6]
     exact hrel.mem.apart k m d c (hrw k d g1 g2) hm hkm g2 hlv g3 hu'
   |some d=>
    rw[hM1 n d h1]at hu⊢
    exact hrel.mem.apart n m d c (hrw n d h1 (hU n b d hn h1)) hm hne (hU n b d hn h1) hlv hu hu'
  rcases hgetNM n b hb with h|h
  ·rcases hgetNM m c hc with h'|h'
   ·rw[hβ2N n (by simp[h])]at hu⊢
    rw[hβ2N m (by simp[h'])]at hu'⊢
    exact hmem.apart n m b c (hNget _ n b h) (hNget _ m c h') hne hr hlv hu hu'
   ·exact one n m b c h h' hlv hu hu'
  ·rcases hgetNM m c hc with h'|h'
   ·exact fun hh=>one m n c b h' h (.inl hr) hu' hu hh.symm
   ·rw[hβ2M n (by simp[h.2])]at hu⊢
    rw[hβ2M m (by simp[h'.2])]at hu'⊢
    exact hrel.mem.apart n m b c h.2 h'.2 hne hr hlv hu hu'
 ·rcases hgetNM n b hb with h|⟨h,h'⟩
  ·rw[hβ2N n (by simp[h])]at hS hu⊢
   cases h1:M1.get n with
   |none=>
    rcases hnew n (by simp[h]) h1 hu with h'|⟨k,d,x,g1,g2,g3,g4,g5,g6⟩
    ·exact IE hrel.fr.size h'
    ·rw[g6]at hS⊢
     exact hrel.own k d (hrw k d g1 g2) g2 g3 hS
   |some d=>
    rw[hM1 n d h1]at hS hu⊢
    have hd:=hU n b d h h1
    exact hrel.own n d (hrw n d h1 hd) hd hu hS
  ·rw[hβ2M n (by simp[h'])]at hS hu⊢
   exact hrel.own n b h' hr hu hS
def oG (P:Program)(S:Bs)(w0:World)(f:FuncId)(xs:List V)(M1:Mem)(v:V)(N:Mem):Prop:=
 Enters P f/\∀β w M',Rel S w0 β M' w->Sub M1 M'->(∀k,(N.get k).isSome=true->(M'.get k).isSome=true->(M1.get k).isSome=true)->Calls P f (xs.map (V.g β)).toArray w fun en w'=>
  ∃β2 u,en= .returned u/\Agree M' β β2/\Rel S w0 β2 (N++M') w'/\∀β'',Agree (N++M') β2 β''->u=v.g β''
theorem CallOk.kx {P:Program}{S:Bs}{w0:World}{f:FuncId}{xs:List V}{M1 N:Mem}{v:V}(hc:CallOk P f xs M1 v N)(hcl:ClM M1):oG P S w0 f xs M1 v N:=by
 obtain⟨hent,hNrw,hU,hcall⟩:=hc
 refine⟨hent,fun β w M' hrel hs' hfresh=>(hcall β w (hrel.mem.sub hs' hcl)).mono ?_⟩
 rintro en w' ⟨β',hag,hen,hmem,hfrm,hnew⟩
 obtain⟨β2,h1,h2,h3,_⟩:=hrel.after hs' hNrw hU hfresh hag hmem hfrm hnew
 refine⟨β2,v.g β',hen β' (Agree.refl _ _),h1,h2,fun β'' hag''=>?_⟩
 have e1:=hen β' (Agree.refl _ _)
 have e2:=hen β'' (h3 β'' hag'')
 rw[e1]at e2
 simpa using e2
theorem uV {P:Program}{o:Oper}{e:Env}{M M1 N:Mem}{f:FuncId}{vs:List V}{v:V}
  (hrun:∀β M' (a:Act) w,mE β M' e o a->Enters P f->(execOp a.eval o).run P w= .ok (.enter f (vs.map (V.g β)).toArray) w) (hc:CallOk P f vs M1 v N) (hs:Sub M1 M) (hcl:ClM M1) (hfr:Fresh N M1 M):Stp P o e M v N:=by
 intro S w0 β M' a w hsub hfr' hrel hok K Q hk
 have hs':Sub M1 M':=hs.trans hsub
 have hfresh:∀k,(N.get k).isSome=true->(M'.get k).isSome=true->(M1.get k).isSome=true:=by
  intro k h1 h2
  rcases hfr' k h1 with h|h
  ·rcases hfr k h1 with h3|h3
   ·exact h3
   ·rw[h3]at h;cases h
  ·rw[h]at h2;cases h2
 have hkx:=(hc.kx (S:=S) (w0:=w0) hcl)
 unfold Oper.wp
 rw[hrun β M' a w hok hkx.1,Oper.upon_enter]
 refine(hkx.2 β w M' hrel hs' hfresh).mono ?_
 rintro en w' ⟨β2,u,rfl,h1,h2,h3⟩
 exact hk β2 u w' h1 h2 h3
theorem nD {P:Program}{o:Oper}{e:Env}{M':Mem}{f:FuncId}{as:Array Operand}{tys:Array TypeId}{vs:List V}{β:Vl}{a:Act}{w:World}(ho:o.op= .call {callee:= .value (.func f),args:=as,argTypes:=tys})
  (hvs:as.toList.map (rd e)=vs.map fun x=>some (true,x)) (hent:Enters P f) (hok:mE β M' e o a):(execOp a.eval o).run P w= .ok (.enter f (vs.map (V.g β)).toArray) w:=by
 have hargs:as.map a.eval=(vs.map (V.g β)).toArray:=by
  apply J7.1
  simp only[Ie]
  apply Jn
  intro i
  have hi:=congrArg (·[i]?) hvs
  simp only[JO,IH]at hi⊢
  cases hx:as[i]? with
  |none=>simp[hx]at hi⊢;cases hv:vs[i]?<;>simp_all
  |some x=>
   cases hv:vs[i]? with
   |none=>simp[hx,hv]at hi
   |some y=>
    simp[hx,hv]at hi
    have hm:x∈as:=I6 hx
    have:=hok β (Agree.refl _ _) x (by simp[ho,Op.operands,Call.operands,hm]) _ hi
    simpa[gv]using this
 rw[<-hargs]
 unfold execOp
 have hrs:((do let d <-resolve a.eval {callee:= .value (.func f),args:=as,argTypes:=tys} o.type;invoke d.target d.args:Sem Next)).run P w= .ok (.enter f (as.map a.eval)) w:=by
  simp[resolve,Act.eval,Deferred.ofValue,invoke]
  exact hent _ _
 rw[ho]
 exact hrs
theorem Stp.call {P:Program}{o:Oper}{e:Env}{M M1 N:Mem}{f:FuncId}{as:Array Operand}{tys:Array TypeId}{vs:List V}{v:V}(ho:o.op= .call {callee:= .value (.func f),args:=as,argTypes:=tys})
  (hvs:as.toList.map (rd e)=vs.map fun x=>some (true,x)) (hc:CallOk P f vs M1 v N) (hs:Sub M1 M) (hcl:ClM M1) (hfr:Fresh N M1 M):Stp P o e M v N:=by
 exact uV (fun β M' a w hok hent=>nD ho hvs hent hok) hc hs hcl hfr
@[reducible] def nw (c:Nat×Nat):V:= .c (.p c.1 c.2)
theorem nB {P:Program}{o:Oper}{e:Env}{M':Mem}{f:FuncId}{caps:List (Nat×Nat)}{x:Operand}{as:Array Operand}{tys:Array TypeId}{vs:List V}{β:Vl}{a:Act}{w:World}(ho:o.op= .call {callee:= .value x,args:=as,argTypes:=tys})
  (hx:rd e x=some (true,.c (.fn f caps))) (hvs:as.toList.map (rd e)=vs.map fun x=>some (true,x)) (hent:Enters P f) (hok:mE β M' e o a):(execOp a.eval o).run P w= .ok (.enter f ((vs++caps.map nw).map (V.g β)).toArray) w:=by
 have hargs:as.map a.eval=(vs.map (V.g β)).toArray:=by
  apply J7.1
  simp only[Ie]
  apply Jn
  intro i
  have hi:=congrArg (·[i]?) hvs
  simp only[JO,IH]at hi⊢
  cases hx:as[i]? with
  |none=>simp[hx]at hi⊢;cases hv:vs[i]?<;>simp_all
  |some x=>
   cases hv:vs[i]? with
   |none=>simp[hx,hv]at hi
   |some y=>
    simp[hx,hv]at hi
    have hm:x∈as:=I6 hx
    have:=hok β (Agree.refl _ _) x (by simp[ho,Op.operands,Call.operands,hm]) _ hi
    simpa[gv]using this
 have hf:a.eval x= .func (.func f) #[] (caps.map fun c=>xl β c.1 c.2).toArray:=by
  have:=hok β (Agree.refl _ _) x (by simp[ho,Op.operands,Call.operands]) _ hx
  simpa[gv,V.g,Cv.g]using this
 have hrs:((do let d <-resolve a.eval {callee:= .value x,args:=as,argTypes:=tys} o.type;invoke d.target d.args:Sem Next)).run P w= .ok (.enter f ((vs++caps.map nw).map (V.g β)).toArray) w:=by
  simp only[resolve,hf,Deferred.ofValue,invoke,hargs,Sem.run_bind,Sem.run_pure,Result.andThen_ok]
  rw[hent]
  simp[V.g,Cv.g,xl,Function.comp_def]
 unfold execOp
 rw[ho]
 exact hrs
theorem fV {P:Program}{o:Oper}{e:Env}{M M1 N:Mem}{f:FuncId}{caps:List (Nat×Nat)}{x:Operand}{as:Array Operand}{tys:Array TypeId}{vs:List V}{v:V}(ho:o.op= .call {callee:= .value x,args:=as,argTypes:=tys})
  (hx:rd e x=some (true,.c (.fn f caps))) (hvs:as.toList.map (rd e)=vs.map fun x=>some (true,x)) (hc:CallOk P f (vs++caps.map nw) M1 v N) (hs:Sub M1 M) (hcl:ClM M1) (hfr:Fresh N M1 M):Stp P o e M v N:=by
 exact uV (fun β M' a w hok hent=>nB ho hx hvs hent hok) hc hs hcl hfr
def yr (P:Program)(C:Cx)(fn:Func)(v:V)(NM:Mem):Prop:=
 (∀n l,C.S.pin n=some l->(NM.get n).isSome=true)/\(∀β (a:Act) w u,Rel C.S C.w0 β NM w->(∀β'',Agree NM β β''->u=v.g β'')->a.defers=C.df->(results fn a.tmps).run P w= .ok u w->C.Q .ret a w)/\∀(a:Act) (w:World),C.Q .ret a w->C.Q .normal a w
def wB:Nat->List V->Env
 |_,[]=>[]
 |i,x::r=>(i,true,x)::wB (i+1) r
theorem tH (vs:List V):∀(i t:Nat) (y:Bool×V),(wB i vs).get t=some y->i<=t/\vs[t-i]?=some y.2/\y.1=true:=by
 induction vs with
 |nil=>intro i t y h;cases h
 |cons x r ih=>
  intro i t y h
  simp only[wB,Env.get]at h
  cases hk:(i==t)with
  |true=>
   rw[hk]at h
   simp at h hk
   subst h hk
   simp
  |false=>
   rw[hk]at h
   simp at h hk
   obtain⟨h1,h2,h3⟩:=ih (i+1) t y h
   refine⟨zA,?_,h3⟩
   rw[show t-i=(t-(i+1))+1 from by omega]
   simpa using h2
theorem CallOk.intro {P:Program}{f:FuncId}{fn:Func}{body:Code}{args:List V}{M N:Mem}{v:V}(hf:P.funcs[f]?=some fn)(hb:fn.body=some body)(hent:Enters P f)(hnt:args.length<=fn.ntmps)
  (hNrw:∀n b,N.get n=some b->M.get n=none->b.ro=false) (hU:∀n b b',N.get n=some b->M.get n=some b'->b'.ro=false) (hcl:∀x∈args,ClV M x)
  (h:∀C,yr P C fn v (N++M)->(∀n l,C.S.pin n=some l->(M.get n).isSome=true)->Sm P fn.ntmps C [.code body] (wB 0 args) M):CallOk P f args M v N:=by
 refine⟨hent,hNrw,hU,fun β w hm=>calls_of_wp hf hb ?_⟩
 let R:Ending->World->Prop:=fun en w'=>
  ∃β',Agree M β β'/\(∀β'',Agree (N++M) β' β''->en= .returned (v.g β''))/\MemOk β' (N++M) w'/\Fr (fun k=>∀n b,M.get n=some b->b.ro=false->(β n).nul=false->k≠(β n).blk) w w'/\
   (∀n,(N.get n).isSome=true->M.get n=none->(β' n).nul=false->(w.heap.size<=(β' n).blk\/∃k b c,M.get k=some b/\b.ro=false/\(β k).nul=false/\N.get k=some c/\¬c.lv/\(β' n).blk=(β k).blk))
 let C:Cx:=⟨⟨fun k=>∀n b,M.get n=some b->b.ro=false->(β n).nul=false->k≠(β n).blk,fun n=>if (M.get n).isSome=true then some (β n)else none,fun b=>(∀n c,M.get n=some c->c.ro=false->(β n).nul=false->b≠(β n).blk)/\b<w.heap.size⟩,w,bodyPost P fn R,none,[]⟩
 have hret:yr P C fn v (N++M):=by
  refine⟨fun n l hl=>?_,fun β' a w' u hrel hu hd hres=>?_,fun _ _ h=>h⟩
  ·by_cases hh:(M.get n).isSome=true
   ·rw[zL];cases N.get n<;>simp[hh]
   ·simp[C,hh]at hl
  refine⟨hd,u,hres,β',fun n hn=>?_,fun β'' hag=>by rw[hu β'' hag],hrel.mem,hrel.fr,fun n hn hM hu=>?_⟩
  ·exact(hrel.pin n (β n) (if_pos hn)).2
  ·obtain⟨b,hb⟩:=JE.1 hn
   have hg:(N++M:Mem).get n=some b:=by rw[zL,hb];rfl
   by_cases hS:C.S.s (β' n).blk
   ·exact .inl (hrel.own n b hg (hNrw n b hb hM) hu hS)
   ·right
    have hS':∃m c,M.get m=some c/\c.ro=false/\(β m).nul=false/\(β' n).blk=(β m).blk:=by
     refine Jl fun hno=>hS fun m c hm hr hum hh=>hno ⟨m,c,hm,hr,hum,hh⟩
    obtain⟨m,c,hm,hr,hum,hh⟩:=hS'
    have hm':((N++M:Mem).get m).isSome=true:=by rw[zL];cases N.get m<;>simp[hm]
    obtain⟨d,hd'⟩:=JE.1 hm'
    have hp:=(hrel.pin m (β m) (if_pos (by simp[hm]))).2
    have hne:n≠m:=by
     rintro rfl
     rw[hM]at hm;cases hm
    have hlv:¬d.lv:=fun hlv=>hrel.mem.apart n m b d hg hd' hne (hNrw n b hb hM) hlv hu (by rw[hp];exact hum) (by rw[hp];exact hh)
    have hNm:N.get m=some d:=by
     rw[zL]at hd'
     cases hN:N.get m with
     |some x=>rw[hN]at hd';simpa using hd'
     |none=>rw[hN,hm]at hd';simp at hd';subst hd';exact absurd (.inl hr) hlv
    exact⟨m,c,d,hm,hr,hum,hNm,hlv,hh⟩
 refine(wpIn_wide (n:=0)).1 ?_
 refine h C hret (fun n l hl=>?_) β _ w ⟨Fr.refl _ _,hm,fun n b hb hr hu hS=>absurd rfl (hS n b hb hr hu),fun n l hl=>?_⟩ ?_ ?_ rfl
 ·by_cases hh:(M.get n).isSome=true
  ·exact hh
  ·simp[C,hh]at hl
 ·by_cases hh:(M.get n).isSome=true
  ·simp only[C,hh,if_true,Ji]at hl
   exact⟨hh,hl⟩
  ·simp[C,hh]at hl
 ·intro β' hag t y hy
  obtain⟨_,h2,h3⟩:=tH args 0 t y hy
  simp only[Nat.sub_zero]at h2
  have hlt:t<args.length:=(JW.1 h2).1
  obtain⟨g,x⟩:=y
  simp only at h2 h3
  subst h3
  have hx:x∈args:=In h2
  simp only[gv,cond_true,hcl x hx β β' hag]
  rw[JA hlt]at h2
  simp only[Ji]at h2
  simp[Array.getElem?_append,hlt,h2]
 ·simp;omega
def Cv.ren (ρ:Nat->Nat):Cv->Cv
 | .v x=> .v x
 | .p n off=> .p (ρ n) off
 | .sl n off len esz=> .sl (ρ n) off len esz
 | .fn f cs=> .fn f (cs.map fun c=>(ρ c.1,c.2))
 | .s0 n off=> .s0 (ρ n) off
def W.ren (ρ:Nat->Nat):W->W
 | .c x=> .c (x.ren ρ)
 | .agg xs=> .agg (xs.map (Cv.ren ρ))
def V.ren (ρ:Nat->Nat):V->V
 | .c x=> .c (x.ren ρ)
 | .agg xs=> .agg (xs.map (Cv.ren ρ))
 | .tup xs=> .tup (xs.map (W.ren ρ))
def Bk.ren (ρ:Nat->Nat)(b:Bk):Bk:=⟨b.ro,b.cells.map (Cv.ren ρ),b.elem⟩
def Mem.ren (ρ:Nat->Nat)(M:Mem):Mem:=M.map fun p=>(ρ p.1,p.2.ren ρ)
theorem oC (ρ:Nat->Nat)(β:Vl)(x:Cv):(x.ren ρ).g β=x.g (fun n=>β (ρ n)):=by
 cases x with
 |v _=>rfl
 |p _ _=>rfl
 |sl _ _ _ _=>rfl
 |fn f cs=>simp[Cv.ren,Cv.g,Function.comp_def,xl]
 |s0 _ _=>rfl
theorem tO (ρ:Nat->Nat)(β:Vl)(xs:List Cv):(xs.map (Cv.ren ρ)).map (Cv.g β)=xs.map (Cv.g fun n=>β (ρ n)):=by
 rw[Ja];exact JV fun x _=>oC ρ β x
theorem ZZ (ρ:Nat->Nat)(β:Vl)(x:W):(x.ren ρ).g β=x.g (fun n=>β (ρ n)):=by
 cases x with
 |c x=>exact oC ρ β x
 |agg xs=>simp only[W.ren,W.g,tO]
theorem tN (ρ:Nat->Nat)(β:Vl)(x:V):(x.ren ρ).g β=x.g (fun n=>β (ρ n)):=by
 cases x with
 |c x=>exact oC ρ β x
 |agg xs=>simp only[V.ren,V.g,tO]
 |tup xs=>
  simp only[V.ren,V.g,Ja]
  congr 2
  exact JV fun x _=>ZZ ρ β x
theorem BkOk.ren {ρ:Nat->Nat}{β:Vl}{n:Nat}{b:Bk}{w:World}:BkOk β (ρ n) (b.ren ρ) w↔BkOk (fun k=>β (ρ k)) n b w:=by
 unfold BkOk
 simp only[Bk.ren,tO,Kv,Io]
structure RenOk (ρ:Nat->Nat) (M M':Mem):Prop where
 inj:∀n m,(M.get n).isSome=true->(M.get m).isSome=true->ρ n=ρ m->n=m
 sub:∀n b,M.get n=some b->∃b',M'.get (ρ n)=some b'/\Wk (b.ren ρ) b'
theorem rX {ρ:Nat->Nat}{b:Bk}(h:b.lv):(b.ren ρ).lv:=by
 rcases h with h|h
 ·exact .inl h
 ·exact .inr (by simpa[Bk.ren]using h)
theorem MemOk.ren {ρ:Nat->Nat}{β:Vl}{M M':Mem}{w:World}(h:MemOk β M' w)(hr:RenOk ρ M M')(hc:ClM M):MemOk (fun k=>β (ρ k)) M w:=by
 refine⟨fun β' hag n b hb=>?_,fun n b hb=>?_,fun n m b b' hb hb' hne hro hlv=>?_⟩
 ·obtain⟨b',hb',hw⟩:=hr.sub n b hb
  have h1:=(h.ok β (Agree.refl _ _) (ρ n) b' hb').wk hw
  exact(BkOk.ren.1 h1).cells (hag n (by simp[hb])) (hc _ β' hag n b hb)
 ·obtain⟨b',hb',_⟩:=hr.sub n b hb
  exact h.there (ρ n) b' hb'
 ·obtain⟨c,hc1,hw1⟩:=hr.sub n b hb
  obtain⟨c',hc2,hw2⟩:=hr.sub m b' hb'
  refine h.apart (ρ n) (ρ m) c c' hc1 hc2 (fun hh=>hne (hr.inj n m (by simp[hb]) (by simp[hb']) hh)) ?_ (hw2.lv (rX hlv))
  rcases hw1 with h1|⟨h1,_⟩
  ·rw[<-h1];exact hro
  ·exact absurd (h1.symm.trans hro) z9
theorem Rel.ren {S:Bs}{w0 w:World}{ρ:Nat->Nat}{β:Vl}{M M':Mem}(h:Rel S w0 β M' w)(hr:RenOk ρ M M')(hc:ClM M)(hp:∀n l,S.pin n=some l->(M.get n).isSome=true/\ρ n=n):Rel S w0 (fun k=>β (ρ k)) M w:=by
 refine⟨h.fr,h.mem.ren hr hc,fun n b hb hro=>?_,fun n l hl=>⟨(hp n l hl).1,?_⟩⟩
 ·obtain⟨b',hb',hw⟩:=hr.sub n b hb
  refine h.own (ρ n) b' hb' ?_
  rcases hw with h1|⟨h1,_⟩
  ·rw[<-h1];exact hro
  ·exact absurd (h1.symm.trans hro) z9
 ·show β (ρ n)=l
  rw[(hp n l hl).2];exact(h.pin n l hl).2
theorem z8 {ρ:Nat->Nat}(hi:∀n m,ρ n=ρ m->n=m):∀(M:Mem) (n:Nat),(M.ren ρ).get (ρ n)=(M.get n).map (Bk.ren ρ)
 |[],n=>rfl
 |(k,b)::r,n=>by
  have ih:=z8 hi r n
  simp only[Mem.ren,Ky,Mem.get]at ih⊢
  by_cases h:k=n
  ·subst h;simp
  ·have h1:(k==n)=false:=by simpa using h
   have h2:(ρ k==ρ n)=false:=by simp;exact fun hh=>h (hi _ _ hh)
   rw[h1,h2];exact ih
theorem sf {ρ:Nat->Nat}:∀(M:Mem) (k:Nat) (b:Bk),(M.ren ρ).get k=some b->∃n,k=ρ n/\(M.get n).isSome=true
 |[],k,b,h=>by cases h
 |(j,c)::r,k,b,h=>by
  simp only[Mem.ren,Ky,Mem.get]at h
  by_cases hk:ρ j=k
  ·exact⟨j,hk.symm,by simp[Mem.get]⟩
  ·have h1:(ρ j==k)=false:=by simpa using hk
   rw[h1]at h
   obtain⟨n,hn,hs⟩:=sf r k b h
   refine⟨n,hn,?_⟩
   simp only[Mem.get]
   cases (j==n)<;>simp[hs]
theorem ze {ρ:Nat->Nat}(hi:∀n m,ρ n=ρ m->n=m){M:Mem}{k:Nat}{b:Bk}(h:(M.ren ρ).get k=some b):∃n c,k=ρ n/\M.get n=some c/\b=c.ren ρ:=by
 obtain⟨n,rfl,hs⟩:=sf M k b h
 obtain⟨c,hc⟩:=JE.1 hs
 rw[z8 hi,hc]at h
 simp at h
 exact⟨n,c,rfl,hc,h.symm⟩
theorem CallOk.ren {P:Program}{f:FuncId}{args:List V}{M N:Mem}{v:V}{ρ:Nat->Nat}(hi:∀n m,ρ n=ρ m->n=m)(h:CallOk P f args M v N):CallOk P f (args.map (V.ren ρ)) (M.ren ρ) (v.ren ρ) (N.ren ρ):=by
 classical
 obtain⟨hent,hN,hU,hc⟩:=h
 refine⟨hent,fun n b hb hb'=>?_,fun n b b' hb hb'=>?_,fun β w hm=>?_⟩
 ·obtain⟨k,c,rfl,hk,rfl⟩:=ze hi hb
  refine hN k c hk ?_
  rw[z8 hi]at hb'
  simpa using hb'
 ·obtain⟨k,c,rfl,hk,rfl⟩:=ze hi hb
  rw[z8 hi]at hb'
  cases hq:M.get k with
  |none=>simp[hq]at hb'
  |some d=>simp[hq]at hb';subst hb';exact hU k c d hk hq
 -- β' over the old names,β over the others
 let up:Vl->Vl->Vl:=fun β' β k=>if hk:∃n,ρ n=k then β' hk.choose else β k
 have hup:∀β' β n,up β' β (ρ n)=β' n:=by
  intro β' β n
  have hk:∃m,ρ m=ρ n:=⟨n,rfl⟩
  simp only[up,dif_pos hk]
  rw[hi _ _ hk.choose_spec]
 have hup':∀β' β,(fun n=>up β' β (ρ n))=β':=fun β' β=>funext fun n=>hup β' β n
 have hdown:MemOk (fun n=>β (ρ n)) M w:=by
  refine⟨fun β' hag n b hb=>?_,fun n b hb=>?_,fun n m b b' hb hb' hne hro hlv=>?_⟩
  ·have h1:=hm.ok (up β' β) (fun k hk=>by
    obtain⟨b,hb⟩:=JE.1 hk
    obtain⟨n,c,rfl,hn,_⟩:=ze hi hb
    rw[hup];exact hag n (by simp[hn])) (ρ n) (b.ren ρ) (by rw[z8 hi,hb];rfl)
   have h2:=BkOk.ren.1 h1
   rw[hup']at h2
   exact h2
  ·exact hm.there (ρ n) (b.ren ρ) (by rw[z8 hi,hb];rfl)
  ·exact hm.apart (ρ n) (ρ m) (b.ren ρ) (b'.ren ρ) (by rw[z8 hi,hb];rfl) (by rw[z8 hi,hb'];rfl) (fun hh=>hne (hi _ _ hh)) hro (rX hlv)
 have hC:=hc _ w hdown
 have hargs:(args.map (V.ren ρ)).map (V.g β)=args.map (V.g fun n=>β (ρ n)):=by
  rw[Ja];exact JV fun x _=>tN ρ β x
 rw[hargs]
 refine hC.mono ?_
 rintro en w' ⟨β',hag,hen,hmem,hfr,hnew⟩
 have happ:Mem.ren ρ N++Mem.ren ρ M=Mem.ren ρ (N++M):=by simp[Mem.ren]
 refine⟨up β' β,fun k hk=>?_,fun β'' hag''=>?_,?_,⟨hfr.os,hfr.tape,hfr.output,hfr.size,fun k hk hlt=>hfr.old k (fun n b hb hro hu=>?_) hlt⟩,fun k hk hM hu=>?_⟩
 ·obtain⟨b,hb⟩:=JE.1 hk
  obtain⟨n,c,rfl,hn,_⟩:=ze hi hb
  rw[hup];exact hag n (by simp[hn])
 ·rw[tN]
  refine hen _ (fun n hn=>?_)
  rw[happ]at hag''
  obtain⟨b,hb⟩:=JE.1 hn
  rw[hag'' (ρ n) (by rw[z8 hi,hb];rfl),hup]
 ·rw[happ]
  refine⟨fun β'' hag'' k b hb=>?_,fun k b hb hu=>?_,fun k m b b' hb hb' hne hro hlv hu hu'=>?_⟩
  ·obtain⟨n,c,rfl,hn,rfl⟩:=ze hi hb
   refine BkOk.ren.2 (hmem.ok _ (fun j hj=>?_) n c hn)
   obtain⟨d,hd⟩:=JE.1 hj
   rw[hag'' (ρ j) (by rw[z8 hi,hd];rfl),hup]
  ·obtain⟨n,c,rfl,hn,rfl⟩:=ze hi hb
   rw[hup]at hu⊢
   exact hmem.there n c hn hu
  ·obtain⟨n,c,rfl,hn,rfl⟩:=ze hi hb
   obtain⟨n',c',rfl,hn',rfl⟩:=ze hi hb'
   rw[hup]at hu hu'⊢
   rw[hup]
   refine hmem.apart n n' c c' hn hn' (fun hh=>hne (by rw[hh])) hro ?_ hu hu'
   rcases hlv with h|h
   ·exact .inl h
   ·exact .inr (by simpa[Bk.ren]using h)
 ·exact hk (ρ n) (b.ren ρ) (by rw[z8 hi,hb];rfl) hro hu
 ·obtain⟨b,hb⟩:=JE.1 hk
  obtain⟨n,c,rfl,hn,_⟩:=ze hi hb
  rw[hup]at hu⊢
  rcases hnew n (by simp[hn]) (by rw[z8 hi]at hM;simpa using hM) hu with h|⟨k,d,x,g1,g2,g3,g4,g5,g6⟩
  ·exact .inl h
  ·refine .inr ⟨ρ k,d.ren ρ,x.ren ρ,by rw[z8 hi,g1];rfl,g2,g3,by rw[z8 hi,g4];rfl,fun hl=>g5 ?_,g6⟩
   rcases hl with h|h
   ·exact .inl h
   ·exact .inr (by simpa[Bk.ren]using h)
end Vg
namespace Vg
open Go.RowKit
theorem BkOk.closed {β β':Vl}{n:Nat}{b:Bk}{w:World}(h:BkOk β n b w)(h':BkOk β' n b w)(hn:β' n=β n):b.cells.map (Cv.g β')=b.cells.map (Cv.g β):=by
 have r1:=h.range
 have r2:=h'.range
 rw[hn]at r2
 apply Jn
 intro i
 cases hi:b.cells[i]? with
 |none=>simp[hi]
 |some c=>
  have e1:=r1 i (c.g β) (by simp[hi])
  have e2:=r2 i (c.g β') (by simp[hi])
  rw[e1]at e2
  simp only[JO,hi,Jj]
  simpa using e2.symm
theorem Rel.closed {S:Bs}{w0 w:World}{β β':Vl}{M M':Mem}(h:Rel S w0 β M' w)(hsub:Sub M M')(hag:Agree M' β β'){n:Nat}{b:Bk}(hb:M.get n=some b):b.cells.map (Cv.g β')=b.cells.map (Cv.g β):=by
 obtain⟨b',hb',hwk⟩:=hsub n b hb
 have h1:=(h.mem.ok β (Agree.refl _ _) n b' hb').wk hwk
 have h2:=(h.mem.ok β' hag n b' hb').wk hwk
 exact h1.closed h2 (hag n (by simp[hb']))
def dead (el:TypeId):Bk:=⟨true,[],el⟩
theorem BkOk.dead {β:Vl}{n:Nat}{el:TypeId}{w:World}:BkOk β n (dead el) w:=by
 unfold BkOk Vg.dead
 split
 ·exact⟨rfl,fun h=>by cases h⟩
 ·simp only[if_true,Kz,J9]
  exact⟨fun j v hj=>by simp at hj,Nat.zero_le _⟩
theorem qU (el:TypeId):¬(dead el).lv:=by simp[Bk.lv,dead]
theorem zE (k:Nat)(b:Bk)(M:Mem)(n:Nat):Mem.get ((k,b)::M) n=if n=k then some b else M.get n:=by
 simp only[Mem.get]
 by_cases h:n=k
 ·subst h;simp
 ·have:(k==n)=false:=by simp;exact fun hh=>h hh.symm
  simp[this,h]
theorem Rel.kill {S:Bs}{w0 w:World}{β:Vl}{M:Mem}(h:Rel S w0 β M w)(n:Nat)(el:TypeId)(hn:(M.get n).isSome=true):Rel S w0 β ((n,dead el)::M) w:=by
 have hag0:∀β',Agree ((n,dead el)::M) β β'->Agree M β β':=fun β' hag k hk=>hag k (by rw[zE];split<;>simp_all)
 refine⟨h.fr,⟨fun β' hag k b hb=>?_,fun k b hb hu=>?_,fun k m b b' hb hb' hne hr hlv=>?_⟩,fun k b hb hr=>?_,fun k l hl=>⟨?_,(h.pin k l hl).2⟩⟩
 ·rw[zE]at hb
  split at hb
  ·simp at hb;subst hb;exact BkOk.dead
  ·exact h.mem.ok β' (hag0 β' hag) k b hb
 ·rw[zE]at hb
  split at hb
  ·rename_i hk
   subst hk
   obtain⟨c,hc⟩:=JE.1 hn
   exact h.mem.there k c hc hu
  ·exact h.mem.there k b hb hu
 ·rw[zE]at hb hb'
  split at hb
  ·simp at hb;subst hb;cases hr
  ·split at hb'
   ·simp at hb';subst hb';exact absurd hlv (qU _)
   ·exact h.mem.apart k m b b' hb hb' hne hr hlv
 ·rw[zE]at hb
  split at hb
  ·simp at hb;subst hb;cases hr
  ·exact h.own k b hb hr
 ·rw[zE]
  split
  ·rfl
  ·exact(h.pin k l hl).1
theorem Rel.nil {S:Bs}{w0 w:World}{β:Vl}{M:Mem}(h:Rel S w0 β M w)(nm:Nat)(hn:M.get nm=none)(el:TypeId):Rel S w0 (fun k=>if k=nm then⟨0,0,0,true,none⟩else β k) ((nm,⟨false,[],el⟩)::M) w:=by
 have hne:∀k b,M.get k=some b->k≠nm:=by rintro k b hk rfl;rw[hn]at hk;cases hk
 refine⟨h.fr,⟨fun β' hag k b hb=>?_,fun k b hb hu=>?_,fun k m b b' hb hb' hkm hr hlv hu hu'=>?_⟩,fun k b hb hr hu hS=>?_,fun k l hl=>?_⟩
 ·have hag0:Agree M β β':=fun j hj=>by
   obtain⟨c,hc⟩:=JE.1 hj
   rw[hag j (by rw[zE];split<;>simp_all)]
   exact if_neg (hne j c hc)
  rw[zE]at hb
  split at hb
  ·rename_i hk
   simp at hb;subst hb hk
   have:=hag k (by rw[zE];simp)
   unfold BkOk
   rw[if_pos (by rw[this];simp)]
   exact⟨rfl,fun _=>by rw[this];simp⟩
  ·exact h.mem.ok β' hag0 k b hb
 ·rw[zE]at hb
  split at hb
  ·rename_i hk;simp[hk]at hu
  ·rename_i hk;simp only[if_neg hk]at hu⊢;exact h.mem.there k b hb hu
 ·rw[zE]at hb hb'
  split at hb
  ·rename_i hk;simp[hk]at hu
  ·rename_i hk
   split at hb'
   ·rename_i hk';simp[hk']at hu'
   ·rename_i hk'
    simp only[if_neg hk,if_neg hk']at hu hu'⊢
    exact h.mem.apart k m b b' hb hb' hkm hr hlv hu hu'
 ·rw[zE]at hb
  split at hb
  ·rename_i hk;simp[hk]at hu
  ·rename_i hk;simp only[if_neg hk]at hu hS⊢;exact h.own k b hb hr hu hS
 ·obtain⟨p1,p2⟩:=h.pin k l hl
  have hkn:k≠nm:=by rintro rfl;rw[hn]at p1;cases p1
  exact⟨by rw[zE,if_neg hkn];exact p1,by simp only[if_neg hkn];exact p2⟩
theorem Rel.allocJ {S:Bs}{w0 w:World}{β:Vl}{M:Mem}(h:Rel S w0 β M w)(nm:Nat)(hn:M.get nm=none)(cs:List Cv)(junk:List Value)(el:TypeId)(hcs:∀b',Agree M β b'->cs.map (Cv.g b')=cs.map (Cv.g β)):
  Rel S w0 (fun k=>if k=nm then⟨w.heap.size,0,cs.length+junk.length,false,none⟩else β k) ((nm,⟨false,cs,el⟩)::M) (w.alloc (.cells (cs.map (Cv.g β)++junk).toArray el)):=by
 have hne:∀k b,M.get k=some b->k≠nm:=by rintro k b hk rfl;rw[hn]at hk;cases hk
 have hblk:∀i,i<w.heap.size->(w.alloc (.cells (cs.map (Cv.g β)++junk).toArray el)).heap[i]?=w.heap[i]?:=fun i hi=>Below.heap_alloc w _ i hi
 refine⟨⟨h.fr.os,h.fr.tape,h.fr.output,IE h.fr.size z9,fun b hS hb=>?_⟩,⟨fun β' hag n b hb=>?_,fun n b hb hu=>?_,fun n m b b' hb hb' hnm hr hlv hu hu'=>?_⟩,fun n b hb hr hu hS=>?_,fun n l hl=>?_⟩
 ·rw[hblk b (J1 hb h.fr.size)];exact h.fr.old b hS hb
 ·have hag0:Agree M β β':=fun k hk=>by
   have:=hag k (by rw[zE];split<;>simp_all)
   obtain⟨b,hb⟩:=JE.1 hk
   rw[this];exact if_neg (hne k b hb)
  rw[zE]at hb
  split at hb
  ·rename_i hk
   subst hk
   simp at hb
   subst hb
   have hl:β' n=⟨w.heap.size,0,cs.length+junk.length,false,none⟩:=by have:=hag n (by rw[zE];simp);simpa using this
   unfold BkOk
   rw[if_neg (by simp[hl]),if_neg z9,hl]
   refine⟨rfl,junk,?_,rfl⟩
   show(w.alloc _).heap[w.heap.size]?=_
   rw[hcs β' hag0]
   show(w.heap.push _)[w.heap.size]?=_
   simp
  ·have hold:=h.mem.ok β' hag0 n b hb
   cases hu:(β n).nul with
   |true=>
    have hβ:=hag0 n (by simp[hb])
    unfold BkOk at hold⊢
    rw[if_pos (by rw[hβ];exact hu)]at hold⊢
    exact hold
   |false=>
    refine hold.same ?_
    rw[hblk _ ?_]
    rw[hag0 n (by simp[hb])]
    exact h.mem.there n b hb hu
 ·rw[zE]at hb
  split at hb
  ·rename_i hk;simp[hk]
  ·rename_i hk
   simp only[if_neg hk]at hu⊢
   exact J1 (h.mem.there n b hb hu) z9
 ·rw[zE]at hb hb'
  split at hb
  ·rename_i hk
   split at hb'
   ·rename_i hk';omega
   ·rename_i hk'
    simp only[if_pos hk,if_neg hk']at hu'⊢
    have:=h.mem.there m b' hb' hu'
    omega
  ·rename_i hk
   split at hb'
   ·rename_i hk'
    simp only[if_pos hk',if_neg hk]at hu⊢
    have:=h.mem.there n b hb hu
    omega
   ·rename_i hk'
    simp only[if_neg hk',if_neg hk]at hu hu'⊢
    exact h.mem.apart n m b b' hb hb' hnm hr hlv hu hu'
 ·rw[zE]at hb
  split at hb
  ·rename_i hk;simp only[if_pos hk];exact h.fr.size
  ·rename_i hk
   simp only[if_neg hk]at hS hu⊢
   exact h.own n b hb hr hu hS
 ·obtain⟨p1,p2⟩:=h.pin n l hl
  have hnn:n≠nm:=by rintro rfl;rw[hn]at p1;cases p1
  exact⟨by rw[zE,if_neg hnn];exact p1,by simp only[if_neg hnn];exact p2⟩
theorem Rel.over {S:Bs}{w0 w w':World}{β:Vl}{M:Mem}(h:Rel S w0 β M w){n nm:Nat}{b:Bk}(hb:M.get n=some b)(hr:b.ro=false)(hnu:(β n).nul=false)(hn:M.get nm=none)(cs:List Cv)(junk:List Value)
  (hcs:∀b',Agree M β b'->cs.map (Cv.g b')=cs.map (Cv.g β)) (hos:w'.os=w.os) (htp:w'.tape=w.tape) (hou:w'.output=w.output) (hsz:w'.heap.size=w.heap.size)
  (hown:w'.heap[(β n).blk]?=some (.cells (cs.map (Cv.g β)++junk).toArray b.elem (0,0))) (hoth:∀k,k≠(β n).blk->w'.heap[k]?=w.heap[k]?) (hs:(β n).siz=cs.length+junk.length):
  Rel S w0 (fun k=>if k=nm then β n else β k) ((nm,⟨false,cs,b.elem⟩)::(n,dead b.elem)::M) w':=by
 have hne:∀k b,M.get k=some b->k≠nm:=by rintro k b hk rfl;rw[hn]at hk;cases hk
 have hnn:n≠nm:=hne n b hb
 have horg:(β n).org=0:=by
  have:=h.mem.ok β (Agree.refl _ _) n b hb
  unfold BkOk at this
  rw[if_neg (by simp[hnu]),if_neg (by simp[hr])]at this
  exact this.1
 have hget:∀k,Mem.get ((nm,⟨false,cs,b.elem⟩)::(n,dead b.elem)::M) k=if k=nm then some ⟨false,cs,b.elem⟩else if k=n then some (dead b.elem)else M.get k:=fun k=>by rw[zE,zE]
 refine⟨⟨hos.trans h.fr.os,htp.trans h.fr.tape,hou.trans h.fr.output,by rw[hsz];exact h.fr.size,fun k hS hk=>?_⟩,⟨fun β' hag k c hc=>?_,fun k c hc hu=>?_,fun k m c c' hc hc' hkm hro hlv hu hu'=>?_⟩,fun k c hc hro hu hS=>?_,fun k l hl=>?_⟩
 ·rw[hoth k ?_]
  ·exact h.fr.old k hS hk
  ·rintro rfl
   have:=h.own n b hb hr hnu hS
   omega
 ·have hag0:Agree M β β':=fun j hj=>by
   obtain⟨x,hx⟩:=JE.1 hj
   rw[hag j (by rw[hget];split<;>(try split)<;>simp_all)]
   exact if_neg (hne j x hx)
  rw[hget]at hc
  split at hc
  ·rename_i hk
   subst hk
   simp at hc
   subst hc
   have hl:β' k=β n:=by have:=hag k (by rw[hget];simp);simpa using this
   unfold BkOk
   rw[if_neg (by simp[hl,hnu]),if_neg z9,hl]
   refine⟨horg,junk,?_,hs⟩
   rw[hown,hcs β' hag0]
  ·split at hc
   ·simp at hc;subst hc;exact BkOk.dead
   ·rename_i hk hkn
    have hold:=h.mem.ok β' hag0 k c hc
    have hβ:=hag0 k (by simp[hc])
    cases hu:(β k).nul with
    |true=>
     unfold BkOk at hold⊢
     rw[if_pos (by rw[hβ];exact hu)]at hold⊢
     exact hold
    |false=>
     by_cases hlv:c.lv
     ·refine hold.same (hoth _ ?_)
      rw[hβ]
      exact fun hh=>h.mem.apart n k b c hb hc (fun hh'=>hkn hh'.symm) hr hlv hnu hu hh.symm
     ·unfold Bk.lv at hlv
      simp only[not_or,Bool.not_eq_false,ne_eq,Jg]at hlv
      unfold BkOk
      rw[if_neg (by rw[hβ];simp[hu]),if_pos hlv.1,hlv.2]
      exact⟨fun j v hj=>by simp at hj,z9⟩
 ·rw[hsz]
  rw[hget]at hc
  split at hc
  ·rename_i hk;simp only[if_pos hk];exact h.mem.there n b hb hnu
  ·rename_i hk
   simp only[if_neg hk]at hu⊢
   split at hc
   ·rename_i hkn;subst hkn;exact h.mem.there k b hb hu
   ·exact h.mem.there k c hc hu
 ·rw[hget]at hc hc'
  split at hc
  ·rename_i hk
   split at hc'
   ·rename_i hk';omega
   ·rename_i hk'
    split at hc'
    ·simp at hc';subst hc';exact absurd hlv (qU _)
    ·rename_i hmn
     simp only[if_pos hk,if_neg hk']at hu'⊢
     exact h.mem.apart n m b c' hb hc' (fun hh=>hmn hh.symm) hr hlv hnu hu'
  ·rename_i hk
   split at hc
   ·simp at hc;subst hc;cases hro
   ·rename_i hkn
    simp only[if_neg hk]at hu⊢
    split at hc'
    ·rename_i hk'
     simp only[if_pos hk']
     exact h.mem.apart k n c b hc hb hkn hro (.inl hr) hu hnu
    ·rename_i hk'
     split at hc'
     ·simp at hc';subst hc';exact absurd hlv (qU _)
     ·simp only[if_neg hk']at hu'⊢
      exact h.mem.apart k m c c' hc hc' hkm hro hlv hu hu'
 ·rw[hget]at hc
  split at hc
  ·rename_i hk
   simp only[if_pos hk]at hS⊢
   exact h.own n b hb hr hnu hS
  ·rename_i hk
   simp only[if_neg hk]at hS hu⊢
   split at hc
   ·simp at hc;subst hc;cases hro
   ·exact h.own k c hc hro hu hS
 ·obtain⟨p1,p2⟩:=h.pin k l hl
  have hkn:k≠nm:=by rintro rfl;rw[hn]at p1;cases p1
  refine⟨?_,by simp only[if_neg hkn];exact p2⟩
  rw[hget,if_neg hkn]
  split
  ·rfl
  ·exact p1
def yX (P:Program)(t:TypeId):Option (TypeId×Nat):=
 match P.underlying t with
 |some (.slice el)=>if zm P el=0 then none else some (el,zm P el)
 |_=>none
def kw (P:Program)(t:TypeId):Option (Nat×Nat):=
 match P.underlying t with
 |some (.array n el)=>if zm P el=0 then none else some (n,zm P el)
 |_=>none
def wD (P:Program)(t:TypeId):Nat:=((P.info? t).map (·.bytes)).getD 0
def tv (P:Program)(t:TypeId):Bool:=
 match P.underlying t with
 |some .string=>true
 |_=>false
theorem yW {P:Program}{t el:TypeId}{sz:Nat}(h:yX P t=some (el,sz)):P.underlying t=some (.slice el)/\zm P el=sz/\sz≠0:=by
 unfold yX at h
 split at h
 ·split at h<;>simp at h
  obtain⟨rfl,rfl⟩:=h
  exact⟨by assumption,rfl,by assumption⟩
 ·cases h
theorem uf {P:Program}{t:TypeId}(h:tv P t=true):P.underlying t=some .string:=by
 unfold tv at h
 split at h
 ·assumption
 ·cases h
end Vg
namespace Vg
open Go.RowKit
def iU (t:Bool):V->V->V
 | .c (.v (.bool p)),.c (.v (.bool q))=> .c (.v (.bool (bif t then p else q)))
 |a,b=>bif t then a else b
theorem aA (β:Vl)(t:Bool)(a b:V):(iU t a b).g β=bif t then a.g β else b.g β:=by
 unfold iU
 split
 ·cases t<;>rfl
 ·cases t<;>rfl
def ZS (P:Program)(op:BinOp)(ty:TypeId):Value->Value->Option (Prop×Value)
 | .int k a,.int k' b=>
  match op with
  | .shl=>some (0<=b,.int k (k.wrap (a*2^(min b.toNat k.bits))))
  | .shr=>some (0<=b,.int k (a.fdiv (2^(min b.toNat k.bits))))
  | .add=>some (k=k',.int k (k.wrap (a+b)))
  | .sub=>some (k=k',.int k (k.wrap (a-b)))
  | .mul=>some (k=k',.int k (k.wrap (a*b)))
  | .quo=>some (k=k'/\b≠0,.int k (k.wrap (a.tdiv b)))
  | .rem=>some (k=k'/\b≠0,.int k (a.tmod b))
  | .and=>some (k=k',.int k (bits .and k a b))
  | .or=>some (k=k',.int k (bits .or k a b))
  | .xor=>some (k=k',.int k (bits .xor k a b))
  | .andNot=>some (k=k',.int k (bits .andNot k a b))
  | .eql=>some (k=k',.bool (a==b))
  | .neq=>some (k=k',.bool (a !=b))
  | .lss=>some (k=k',.bool (decide (a<b)))
  | .leq=>some (k=k',.bool (decide (a<=b)))
  | .gtr=>some (k=k',.bool (decide (b<a)))
  | .geq=>some (k=k',.bool (decide (b<=a)))
 | .bool a,.bool b=>
  match op with
  | .eql=>some (P.underlying ty=some .bool,.bool (a==b))
  | .neq=>some (P.underlying ty=some .bool,.bool (a !=b))
  |_=>none
 |_,_=>none
theorem ZR {P:Program}{op:BinOp}{ty:TypeId}{x y z:Value}{sc:Prop}(h:ZS P op ty x y=some (sc,z))(hs:sc)(ox oy:Operand)(w:World):
  ((do eqGuard op ty ox oy x y;binOp op ty x y:Sem Value)).run P w= .ok z w:=by
 cases x<;>cases y<;>simp[ZS]at h
 ·rename_i a b
  cases op<;>simp at h
  ·obtain⟨hsc,rfl⟩:=h
   have h1:=run_equalIn_bool' (P:=P) w 9999 ty a b (hsc.2 hs)
   simp only[binOp]
   simp[eqGuard,Op.equal,Op.maxDepth,h1]
  ·obtain⟨hsc,rfl⟩:=h
   have h1:=run_equalIn_bool' (P:=P) w 9999 ty a b (hsc.2 hs)
   simp only[binOp]
   simp[eqGuard,Op.equal,Op.maxDepth,h1]
   cases a<;>cases b<;>rfl
 ·rename_i k a k' b
  cases op<;>simp at h<;>obtain⟨hsc,rfl⟩:=h<;>have hs:=hsc.2 hs<;>
   first
    |(subst hs;simp[eqGuard,binOp,Op.intArith,Op.intCmp];done)
    |(obtain⟨rfl,hb⟩:=hs;simp[eqGuard,binOp,Op.intDiv,hb];done)
    |(simp[eqGuard,binOp,Op.shift,Int.not_lt.2 hs];done)
    |(subst hs;simp[eqGuard,binOp,Op.intBits,bits];done)
def QQ (op:UnOp):Value->Option Value
 | .int k a=>match op with| .neg=>some (.int k (k.wrap (0-a)))| .xor=>some (.int k (bits .xor k (if k.signed then-1 else k.max) a))|_=>none
 | .bool b=>match op with| .not=>some (.bool !b)|_=>none
 |_=>none
theorem Yg {P:Program}{op:UnOp}{x z:Value}(h:QQ op x=some z)(w:World):(Op.unary op x).run P w= .ok z w:=by
 cases x<;>cases op<;>simp[QQ]at h<;>subst h<;>simp[Op.unary,Op.intArith,Op.intBits,bits]
def rD (e:Env)(x:Operand):Option (Bool×Value):=
 match rd e x with
 |some (g,.c (.v y))=>some (g,y)
 |_=>none
theorem xC {e:Env}{x:Operand}{g:Bool}{y:Value}(h:rD e x=some (g,y)):rd e x=some (g,.c (.v y)):=by
 unfold rD at h
 split at h
 ·simp at h;obtain⟨rfl,rfl⟩:=h;assumption
 ·cases h
def wT (P:Program)(t:TypeId):Option (List (Nat×Nat)):=
 match P.underlying t with
 |some (.struct fs)=>if fs.toList.all (fun f=>(P.info? f.type).isSome)then some (fs.toList.map fun f=>(f.offset,zm P f.type))else none
 |some (.array n el)=>if zm P el=0 then none else some ((List.range n).map fun i=>(i*zm P el,zm P el))
 |_=>none
def vo (pl:List (Nat×Nat))(e:Env):List Cv->List (Nat×Operand)->Option (Prop×List Cv)
 |cs,[]=>some (True,cs)
 |cs,(i,x)::r=>
  match pl[i]?,rd e x with
  |some (off,sz),some (g,v)=>
   match vo pl e (wQ cs off v.cells) r with
   |some (sc,cs')=>some ((g=true/\v.ok1=true/\v.cells.length=sz/\off+sz<=cs.length)/\sc,cs')
   |none=>none
  |_,_=>none
def li (P:Program)(t:TypeId):Option Nat:=
 match P.underlying t with
 |some (.array n el)=>if zm P el=1/\z5 P el=some false then some n else none
 |_=>none
def iy (P:Program)(s:TypeId)(f:Nat):Option (Nat×Nat×Bool):=
 match P.underlying s with
 |some (.struct fs)=>(match fs[f]? with
  |some fd=>(match z5 P fd.type with|some b=>(if zm P fd.type=0 then none else some (fd.offset,zm P fd.type,b))|none=>none)
  |none=>none)
 |_=>none
def su:List Cv->List Cv->Option Bool
 |[],[]=>some true
 | .v (.int _ a)::xs,.v (.int _ b)::ys=>match su xs ys with
  |some t=>some ((a==b)&&t)
  |none=>none
 | .v (.bool a)::xs,.v (.bool b)::ys=>match su xs ys with
  |some t=>some ((a==b)&&t)
  |none=>none
 | .v (.string a)::xs,.v (.string b)::ys=>match su xs ys with
  |some t=>some ((a.toList==b.toList)&&t)
  |none=>none
 |_,_=>none
def EqOk (P:Program)(ty:TypeId)(xs ys:List Cv)(t:Bool):Prop:=
 ∀(β:Vl) (w:World) (ox oy:Operand),
  (do eqGuard .eql ty ox oy (.agg (xs.map (Cv.g β)).toArray) (.agg (ys.map (Cv.g β)).toArray);binOp .eql ty (.agg (xs.map (Cv.g β)).toArray) (.agg (ys.map (Cv.g β)).toArray):Sem Value).run P w= .ok (.bool t) w/\
  (do eqGuard .neq ty ox oy (.agg (xs.map (Cv.g β)).toArray) (.agg (ys.map (Cv.g β)).toArray);binOp .neq ty (.agg (xs.map (Cv.g β)).toArray) (.agg (ys.map (Cv.g β)).toArray):Sem Value).run P w= .ok (.bool !t) w
def lz (P:Program)(ty:TypeId)(xs ys:List Cv):Prop:=∀t,su xs ys=some t->EqOk P ty xs ys t
def Pt (op:BinOp)(t:Bool):Option Bool:=
 match op with
 | .eql=>some t
 | .neq=>some (!t)
 |_=>none
def Wb (P:Program)(e:Env)(M:Mem)(nx:Nat)(noDst:Bool):Op->Option (Prop×V×Mem×Nat)
 | .move x=>match rd e x with
  |some (g,v)=>some (g=true,v,[],nx)
  |none=>none
 | .assign x=>match rd e x with
  |some (g,v)=>some (g=true,v,[],nx)
  |none=>none
 | .pick c x y=>match rD e c,rd e x,rd e y with
  |some (gc,.bool t),some (gx,vx),some (gy,vy)=>some (gc=true/\(t=true->gx=true)/\(t=false->gy=true),iU t vx vy,[],nx)
  |_,_,_=>none
 | .binOp op ty x y _=>match rd e x,rd e y with
  |some (gx,.c (.v vx)),some (gy,.c (.v vy))=>match ZS P op ty vx vy with
   |some (sc,v)=>some ((gx=true/\gy=true)/\sc,.c (.v v),[],nx)
   |none=>none
  |some (gx,.agg xs),some (gy,.agg ys)=>match su xs ys with
   |some t=>match Pt op t with
    |some u=>some ((gx=true/\gy=true)/\lz P ty xs ys,.c (.v (.bool u)),[],nx)
    |none=>none
   |none=>none
  |_,_=>none
 | .unOp op _ x=>match rD e x with
  |some (g,v)=>match QQ op v with
   |some z=>some (g=true,.c (.v z),[],nx)
   |none=>none
  |none=>none
 | .convert src dst x=>match rD e x,vB P dst with
  |some (g,.int _ n),some k=>some (g=true/\(P.underlying src).isSome=true,.c (.v (.int k (k.wrap n))),[],nx)
  |_,_=>none
 | .extract x i=>match rd e x with
  |some (g,.tup ws)=>match ws[i]? with
   |some y=>some (g=true,y.toV,[],nx)
   |none=>none
  |_=>none
 | .nilCheck x=>match rd e x with
  |some (g,.c (.p n off))=>some (g=true,.c (.p n off),[],nx)
  |_=>none
 | .fieldAddr s x f=>match rd e x,zY P s f with
  |some (g,.c (.p n off)),some k=>some (g=true,.c (.p n (off+k)),[],nx)
  |_,_=>none
 | .load ty x=>match rd e x with
  |some (g,.c (.p n off))=>match M.get n,z5 P ty with
   |some b,some true=>some (g=true/\zm P ty≠0/\off+zm P ty<=b.cells.length,.agg ((b.cells.drop off).take (zm P ty)),[],nx)
   |some b,some false=>match b.cells[off]? with
    |some c=>some (g=true,.c c,[],nx)
    |none=>none
   |_,_=>none
  |_=>none
 | .store ty x y=>match rd e x,rd e y with
  |some (g,.c (.p n off)),some (g',v)=>match M.get n,noDst with
   |some b,true=>some ((g=true/\g'=true)/\b.ro=false/\v.ok1=true/\v.cells.all Cv.one=true/\zm P ty≠0/\v.cells.length=zm P ty/\off+zm P ty<=b.cells.length,.agg [],[(n,⟨false,wQ b.cells off v.cells,b.elem⟩)],nx)
   |_,_=>none
  |_,_=>none
 | .alloc el=>match zd P el with
  |some zs=>some ((M.get nx).isNone=true,.c (.p nx 0),[(nx,⟨false,zs.map .v,el⟩)],nx+1)
  |none=>none
 | .box el x=>match rd e x with
  |some (g,v)=>some (g=true/\v.ok1=true/\(M.get nx).isNone=true,.c (.p nx 0),[(nx,⟨false,v.cells,el⟩)],nx+1)
  |none=>none
 | .build ty parts=>match wT P ty,zd P ty with
  |some pl,some zs=>match vo pl e (zs.map .v) parts.toList with
   |some (sc,cs)=>some (sc,.agg cs,[],nx)
   |none=>none
  |_,_=>none
 | .index ty x i=>match rd e x,rD e i,li P ty with
  |some (gx,.agg xs),some (gi,.int _ n),some len=>match xs[n.toNat]? with
   |some c=>some (gx=true/\gi=true/\0<=n/\n.toNat<len,.c c,[],nx)
   |none=>none
  |_,_,_=>none
 | .field s x f=>match rd e x,iy P s f with
  |some (g,.agg xs),some (off,sz,true)=>some (g=true/\off+sz<=xs.length,.agg ((xs.drop off).take sz),[],nx)
  |some (g,.agg xs),some (off,_,false)=>match xs[off]? with
   |some c=>some (g=true,.c c,[],nx)
   |none=>none
  |_,_=>none
 | .call {callee:= .builtin .min,args:=as,..}=>match as.toList.map (rD e)with
  |[some (g1,.int k a),some (g2,.int k' b)]=>some (g1=true/\g2=true/\k=k',.c (.v (.int k (min a b))),[],nx)
  |_=>none
 | .call {callee:= .builtin .max,args:=as,..}=>match as.toList.map (rD e)with
  |[some (g1,.int k a),some (g2,.int k' b)]=>some (g1=true/\g2=true/\k=k',.c (.v (.int k (max a b))),[],nx)
  |_=>none
 |_=>none
theorem rl {P:Program}(w:World):∀(l:List Field),l.all (fun f=>(P.info? f.type).isSome)=true->
  (l.mapM fun f=>(do Pure.pure (f.offset,<-sizeOf f.type):Sem (Nat×Nat))).run P w= .ok (l.map fun f=>(f.offset,zm P f.type)) w
 |[],_=>by simp
 |f::l,h=>by
  simp only[Kw,JB]at h
  obtain⟨i,hi⟩:=JE.1 h.1
  have ih:=rl w l h.2
  simp[List.mapM_cons,sizeOf,typeInfo,hi,zm]at ih⊢
  simp[ih]
theorem sT (l:List Value):∀(off j:Nat) (cs:Array Value),(l.zipIdx j).foldl (fun(cs:Array Value) (c:Value×Nat)=>cs.setIfInBounds (off+c.2) c.1) cs=(wQ cs.toList (off+j) l).toArray:=by
 induction l with
 |nil=>intro off j cs;simp[wQ]
 |cons x l ih=>
  intro off j cs
  simp only[List.zipIdx_cons,List.foldl_cons,wQ]
  rw[ih]
  simp[IC]
theorem np {e:Env}{pl:List (Nat×Nat)}{β:Vl}{a:Act}:∀(parts:List (Nat×Operand)) (cs cs':List Cv) (sc:Prop),vo pl e cs parts=some (sc,cs')->sc->(∀x,x∈parts.map (·.2)->∀y,rd e x=some y->a.eval x=gv β y)->
  ∀place:Nat->Option (Nat×Nat),(∀i p,pl[i]?=some p->place i=some p)->Instr.fill place (cs.map (Cv.g β)).toArray (parts.map fun p=>(p.1,a.eval p.2))=some (cs'.map (Cv.g β)).toArray
 |[],cs,cs',sc,h,_,_=>by simp[vo]at h;intro place _;simp[Instr.fill,h.2]
 |(i,x)::r,cs,cs',sc,h,hs,hop=>by
  intro place hpl
  simp only[vo]at h
  split at h
  ·rename_i off sz g v hp hx
   split at h
   ·rename_i sc' cs'' hr
    simp at h
    obtain⟨hsc,rfl⟩:=h
    obtain⟨⟨rfl,h1,h2,h3⟩,h4⟩:=hsc.2 hs
    have he:=hop x z9 _ hx
    simp only[gv,cond_true]at he
    have hc:=rS h1 β
    have ih:=np r _ _ _ hr h4 (fun y hy z hz=>hop y (by simp at hy⊢;exact .inr hy) z hz) place hpl
    simp only[Ky,Instr.fill,hpl i _ hp,he,hc]
    rw[if_neg (by simp[h2];omega)]
    rw[<-Array.foldl_toList]
    simp only[Array.toList_zipIdx]
    have hf:=sT (v.cells.map (Cv.g β)) off 0 (cs.map (Cv.g β)).toArray
    rw[Jx]at hf
    rw[show(cs.map (Cv.g β)).toArray.toList=cs.map (Cv.g β) from rfl,mc]at hf
    rw[hf]
    exact ih
   ·cases h
  ·cases h
theorem bD {P:Program}{t:TypeId}{zs:List Value}(h:zd P t=some zs)(w:World):∃z,(zeroValue t).run P w= .ok z w/\z.cells.toList=zs:=by
 unfold zd at h
 cases hi:P.info? t with
 |none=>simp[hi]at h
 |some i=>
  simp only[hi]at h
  cases hzz:i.zero with
  |none=>simp[hzz]at h
  |some z=>
   simp only[hzz]at h
   split at h<;>simp at h
   exact⟨z,by simp[zeroValue,typeInfo,hi,hzz],h⟩
theorem Stp.build {P:Program}{o:Oper}{e:Env}{M:Mem}{ty:TypeId}{parts:Array (Nat×Operand)}{pl:List (Nat×Nat)}{zs:List Value}{sc:Prop}{cs:List Cv}(ho:o.op= .build ty parts)
  (hp:wT P ty=some pl) (hz:zd P ty=some zs) (hf:vo pl e (zs.map .v) parts.toList=some (sc,cs)) (hs:sc):Stp P o e M (.agg cs) []:=by
 refine Stp.pure fun β a hop w=>?_
 obtain⟨z,hz1,hz2⟩:=bD hz w
 have hfill:=fun place hpl=>np (a:=a) (β:=β) parts.toList _ _ _ hf hs (fun x hx y hy=>hop x (by simp only[ho,Op.operands];simpa using hx) y hy) place hpl
 have hcs:((zs.map Cv.v).map (Cv.g β)).toArray=z.cells:=by
  apply J7.1
  rw[hz2]
  simp[Function.comp_def,Cv.g]
 rw[hcs]at hfill
 have hparts:(parts.map fun(i,x)=>(i,a.eval x)).toList=parts.toList.map fun p=>(p.1,a.eval p.2):=z9
 unfold wT at hp
 unfold execOp
 simp only[ho]
 cases hu:P.underlying ty with
 |none=>simp[hu]at hp
 |some d=>
  cases d<;>simp[hu]at hp
  ·rename_i n el
   obtain⟨hsz,rfl⟩:=hp
   have hpl:∀i p,((List.range n).map fun i=>(i*zm P el,zm P el))[i]?=some p->(fun i=>some (i*zm P el,zm P el)) i=some p:=by
    intro i p h
    rw[JO]at h
    cases hr:(List.range n)[i]? with
    |none=>simp[hr]at h
    |some j=>
     have hj:j=i:=by
      rw[Jp (by have:=(JW.1 hr).1;simpa using this)]at hr
      simpa using hr.symm
     simp[hr]at h
     subst hj
     simpa using h
   have:=hfill _ hpl
   simp[Instr.build,hz1,run_underlying hu,yK (P:=P) (t:=el) rfl hsz,this,V.g]
  ·rename_i fs
   obtain⟨hall,rfl⟩:=hp
   have hm:(fs.mapM fun f=>(do Pure.pure (f.offset,<-sizeOf f.type):Sem (Nat×Nat))).run P w= .ok (fs.map fun f=>(f.offset,zm P f.type)) w:=by
    rw[Array.mapM_eq_mapM_toList]
    have h:=rl (P:=P) w fs.toList (by simpa using hall)
    rw[Sem.run_map,h]
    simp only[Result.andThen_ok]
    rw[show(fs.toList.map fun f=>(f.offset,zm P f.type)).toArray=fs.map fun f=>(f.offset,zm P f.type) from J7.1 z9]
   simp only[bind_pure_comp]at hm
   have hpl:∀i p,(fs.toList.map fun f=>(f.offset,zm P f.type))[i]?=some p->(fun j:Nat=>(fs.map fun f=>(f.offset,zm P f.type))[j]?) i=some p:=by
    intro i p h
    simpa using h
   have:=hfill _ hpl
   simp only[Array.getElem?_map]at this
   simp[Instr.build,hz1,run_underlying hu]
   simp[hm,this,V.g]
theorem jE {P:Program}{o:Oper}{e:Env}{M N:Mem}{nx nx':Nat}{v:V}{sc:Prop}(h:Wb P e M nx o.dst.isNone o.op=some (sc,v,N,nx'))(hs:sc):Stp P o e M v N:=by
 cases ho:o.op<;>rw[ho]at h<;>simp only[Wb]at h<;>try (cases h;done)
 case move x=>
  split at h<;>simp at h
  rename_i g v' hx
  obtain⟨h1,rfl,rfl,rfl⟩:=h
  have:=h1.2 hs;subst this
  exact Stp.pure fun β a hop w=>by
   have he:=hop x (by simp[ho,Op.operands]) _ hx
   unfold execOp;simp[ho,he,gv]
 case assign x=>
  split at h<;>simp at h
  rename_i g v' hx
  obtain⟨h1,rfl,rfl,rfl⟩:=h
  have:=h1.2 hs;subst this
  exact Stp.pure fun β a hop w=>by
   have he:=hop x (by simp[ho,Op.operands]) _ hx
   unfold execOp;simp[ho,he,gv]
 case pick c x y=>
  split at h<;>simp at h
  rename_i gc t gx vx gy vy hc hx hy
  obtain⟨h1,rfl,rfl,rfl⟩:=h
  obtain⟨rfl,k1,k2⟩:=h1.2 hs
  exact Stp.pure fun β a hop w=>by
   have hec:=hop c (by simp[ho,Op.operands]) _ (xC hc)
   have hex:=hop x (by simp[ho,Op.operands]) _ hx
   have hey:=hop y (by simp[ho,Op.operands]) _ hy
   simp only[gv,V.g,Cv.g,cond_true]at hec
   unfold execOp
   simp only[ho,hec,hex,hey,aA]
   cases t with
   |true=>simp[asBool,gv,k1 rfl]
   |false=>simp[asBool,gv,k2 rfl]
 case binOp op ty x y ty'=>
  split at h<;>first|(cases h;done)|skip
  ·rename_i gx vx gy vy hx hy
   split at h<;>simp at h
   rename_i sc' z hb
   obtain⟨h1,rfl,rfl,rfl⟩:=h
   obtain⟨⟨rfl,rfl⟩,k3⟩:=h1.2 hs
   exact Stp.pure fun β a hop w=>by
    have hex:=hop x (by simp[ho,Op.operands]) _ hx
    have hey:=hop y (by simp[ho,Op.operands]) _ hy
    simp only[gv,V.g,Cv.g,cond_true]at hex hey
    have:=ZR hb k3 x y w
    unfold execOp
    simp only[ho,hex,hey]
    rw[Sem.run_bind,this]
    simp[V.g,Cv.g]
  ·rename_i gx xs gy ys hx hy
   split at h<;>first|(cases h;done)|skip
   rename_i t ht
   split at h<;>simp at h
   rename_i u hu
   obtain⟨h1,rfl,rfl,rfl⟩:=h
   obtain⟨⟨rfl,rfl⟩,k3⟩:=h1.2 hs
   exact Stp.pure fun β a hop w=>by
    have hex:=hop x (by simp[ho,Op.operands]) _ hx
    have hey:=hop y (by simp[ho,Op.operands]) _ hy
    simp only[gv,V.g,cond_true]at hex hey
    have hE:=k3 t ht β w x y
    unfold execOp
    simp only[ho,hex,hey]
    cases op<;>simp[Pt]at hu
    ·subst hu
     rw[Sem.run_bind,hE.1]
     simp[V.g,Cv.g]
    ·subst hu
     rw[Sem.run_bind,hE.2]
     simp[V.g,Cv.g]
 case unOp op ty x=>
  split at h<;>first|(cases h;done)|skip
  rename_i g y hx
  split at h<;>simp at h
  rename_i z hz
  obtain⟨h1,rfl,rfl,rfl⟩:=h
  have:=h1.2 hs;subst this
  exact Stp.pure fun β a hop w=>by
   have he:=hop x (by simp[ho,Op.operands]) _ (xC hx)
   simp only[gv,V.g,Cv.g,cond_true]at he
   have:=Yg (P:=P) hz w
   unfold execOp
   simp[ho,he,this,V.g,Cv.g]
 case convert src dst x=>
  split at h<;>simp at h
  rename_i g k0 n k hx hk
  obtain⟨h1,rfl,rfl,rfl⟩:=h
  obtain⟨rfl,k3⟩:=h1.2 hs
  exact Stp.pure fun β a hop w=>by
   have he:=hop x (by simp[ho,Op.operands]) _ (xC hx)
   simp only[gv,V.g,Cv.g,cond_true]at he
   obtain⟨d,hd⟩:=JE.1 k3
   unfold vB at hk
   split at hk<;>simp at hk
   rename_i k' hu
   subst hk
   unfold execOp
   simp only[ho,he,convert,Sem.run_bind,run_underlying hd,run_underlying hu,Result.andThen_ok,V.g,Cv.g]
   simp[Conv.intToInt]
 case extract x i=>
  split at h<;>first|(cases h;done)|skip
  rename_i g ws hx
  split at h<;>simp at h
  rename_i y hy
  obtain⟨h1,rfl,rfl,rfl⟩:=h
  have:=h1.2 hs;subst this
  exact Stp.pure fun β a hop w=>by
   have he:=hop x (by simp[ho,Op.operands]) _ hx
   simp only[gv,V.g,cond_true]at he
   unfold execOp
   simp[ho,he,Instr.extract,hy,gO]
 case nilCheck x=>
  split at h<;>simp at h
  rename_i g n off hx
  obtain⟨h1,rfl,rfl,rfl⟩:=h
  have:=h1.2 hs;subst this
  exact Stp.pure fun β a hop w=>by
   have he:=hop x (by simp[ho,Op.operands]) _ hx
   simp only[gv,V.g,Cv.g,cond_true]at he
   unfold execOp
   simp[ho,he,V.g,Cv.g]
 case fieldAddr s x f=>
  split at h<;>simp at h
  rename_i g n off k hx hk
  obtain⟨h1,rfl,rfl,rfl⟩:=h
  have:=h1.2 hs;subst this
  exact Stp.fieldAddr ho hx hk
 case load ty x=>
  split at h<;>simp at h
  rename_i g n off hx
  split at h
  ·rename_i b hb ha
   simp at h
   obtain⟨h1,rfl,rfl,rfl⟩:=h
   obtain⟨rfl,k1,k2⟩:=h1.2 hs
   exact ls ho hx hb ha rfl k1 k2
  ·rename_i b hb ha
   split at h<;>simp at h
   rename_i c hc
   obtain⟨h1,rfl,rfl,rfl⟩:=h
   have:=h1.2 hs;subst this
   exact lr ho hx hb ha hc
  ·cases h
 case store ty x y=>
  split at h<;>simp at h
  rename_i g n off g' v' hx hy
  split at h<;>simp at h
  rename_i b hb hd
  obtain⟨h1,rfl,rfl,rfl⟩:=h
  obtain⟨⟨rfl,rfl⟩,k1,k2,k3,k4,k5,k6⟩:=h1.2 hs
  exact Stp.store ho hx hy hb k1 k2 (by simpa using k3) rfl k4 k5 k6 (by simpa using hd)
 case alloc el=>
  split at h<;>simp at h
  rename_i zs hz
  obtain⟨h1,rfl,rfl,rfl⟩:=h
  exact Stp.alloc nx ho hz (by simpa using h1.2 hs)
 case box el x=>
  split at h<;>simp at h
  rename_i g v' hx
  obtain⟨h1,rfl,rfl,rfl⟩:=h
  obtain⟨rfl,k1,k2⟩:=h1.2 hs
  exact Stp.box nx ho hx k1 (by simpa using k2)
 case build ty parts=>
  split at h<;>first|(cases h;done)|skip
  rename_i pl zs hp hz
  split at h<;>simp at h
  rename_i sc' cs hf
  obtain⟨h1,rfl,rfl,rfl⟩:=h
  exact Stp.build ho hp hz hf (h1.2 hs)
 case index ty x i=>
  split at h<;>first|(cases h;done)|skip
  rename_i gx xs gi ki n len hx hi ha
  split at h<;>simp at h
  rename_i c hc
  obtain⟨h1,rfl,rfl,rfl⟩:=h
  obtain⟨rfl,rfl,k1,k2⟩:=h1.2 hs
  exact Stp.pure fun β a hop w=>by
   have hex:=hop x (by simp[ho,Op.operands]) _ hx
   have hei:=hop i (by simp[ho,Op.operands]) _ (xC hi)
   simp only[gv,V.g,Cv.g,cond_true]at hex hei
   unfold li at ha
   split at ha<;>first|(cases ha;done)|skip
   rename_i m el hu
   split at ha<;>simp at ha
   rename_i hsz
   subst ha
   have hcell:(xs.map (Cv.g β)).toArray[n.toNat]?=some (c.g β):=by simp[hc]
   unfold execOp
   simp only[ho,hex,hei,Instr.index,asIntOf,Sem.run_bind,Sem.run_pure,Result.andThen_ok,run_underlying hu]
   rw[if_pos ⟨k1,zA⟩]
   simp only[Sem.run_bind,yK (P:=P) (t:=el) hsz.1 zA,Result.andThen_ok,Jr,part,xJ hsz.2,JS,if_false,Sem.run_ite]
   rw[hcell]
   simp[V.g]
 case field s x f=>
  split at h
  ·rename_i g xs off sz hx hf
   simp at h
   obtain⟨h1,rfl,rfl,rfl⟩:=h
   obtain⟨rfl,k1⟩:=h1.2 hs
   exact Stp.pure fun β a hop w=>by
    have hex:=hop x (by simp[ho,Op.operands]) _ hx
    simp only[gv,V.g,cond_true]at hex
    unfold iy at hf
    split at hf<;>first|(cases hf;done)|skip
    rename_i fs hu
    split at hf<;>first|(cases hf;done)|skip
    rename_i fd hfd
    split at hf<;>first|(cases hf;done)|skip
    rename_i b hb
    split at hf<;>simp at hf
    rename_i hsz
    obtain⟨rfl,rfl,rfl⟩:=hf
    have hagg:(isAgg fd.type).run P w= .ok true w:=by
     unfold z5 at hb
     cases hud:P.underlying fd.type with
     |none=>simp[hud]at hb
     |some d=>
      unfold isAgg
      rw[Sem.run_bind,run_underlying hud w]
      cases d<;>simp_all
    unfold execOp
    simp only[ho,hex,Instr.field,Sem.run_bind,run_underlying hu,Result.andThen_ok,hfd,asAgg,Sem.run_pure,part,hagg,if_true,Sem.run_ite,yK (P:=P) (t:=fd.type) rfl hsz]
    simp[V.g,ID,Iq,List.extract_eq_take_drop]
  ·rename_i g xs off sz hx hf
   split at h<;>simp at h
   rename_i c hc
   obtain⟨h1,rfl,rfl,rfl⟩:=h
   have:=h1.2 hs;subst this
   exact Stp.pure fun β a hop w=>by
    have hex:=hop x (by simp[ho,Op.operands]) _ hx
    simp only[gv,V.g,cond_true]at hex
    unfold iy at hf
    split at hf<;>first|(cases hf;done)|skip
    rename_i fs hu
    split at hf<;>first|(cases hf;done)|skip
    rename_i fd hfd
    split at hf<;>first|(cases hf;done)|skip
    rename_i b hb
    split at hf<;>simp at hf
    obtain⟨rfl,rfl,rfl⟩:=hf
    have hcell:(xs.map (Cv.g β)).toArray[fd.offset]?=some (c.g β):=by simp[hc]
    unfold execOp
    simp only[ho,hex,Instr.field,Sem.run_bind,run_underlying hu,Result.andThen_ok,hfd,asAgg,Sem.run_pure,part,xJ hb,JS,if_false,Sem.run_ite]
    rw[hcell]
    simp[V.g]
  ·cases h
 case call c=>
  obtain⟨callee,as,tys⟩:=c
  have two:∀(g1 g2:Bool) (x y:Value),as.toList.map (rD e)=[some (g1,x),some (g2,y)]->g1=true->g2=true->∀β (a:Act),(∀x,x∈o.op.operands->∀y,rd e x=some y->a.eval x=gv β y)->as.map a.eval= #[x,y]:=by
   intro g1 g2 x y hm hg1 hg2 β a hop
   subst hg1 hg2
   obtain⟨l⟩:=as
   have hlen:l.length=2:=by simpa using congrArg List.length hm
   match l,hlen with
   |[p,q],_=>
    simp at hm
    have hp:=hop p (by simp[ho,Op.operands,Call.operands]) _ (xC hm.1)
    have hq:=hop q (by simp[ho,Op.operands,Call.operands]) _ (xC hm.2)
    simp only[gv,V.g,Cv.g,cond_true]at hp hq
    simp[hp,hq]
  cases callee<;>(try simp only at h)<;>try (cases h;done)
  rename_i b
  cases b<;>(try simp only at h)<;>try (cases h;done)
  ·split at h<;>simp at h
   rename_i g1 k a1 g2 k' b1 hm
   obtain⟨h1,rfl,rfl,rfl⟩:=h
   obtain⟨k1,k2,rfl⟩:=h1.2 hs
   exact Stp.pure fun β a hop w=>by
    have hv:=two _ _ _ _ hm k1 k2 β a hop
    unfold execOp
    simp[ho,resolve,invoke,builtin,hv,Builtin.max_,Builtin.max2,V.g,Cv.g]
    split<;>omega
  ·split at h<;>simp at h
   rename_i g1 k a1 g2 k' b1 hm
   obtain⟨h1,rfl,rfl,rfl⟩:=h
   obtain⟨k1,k2,rfl⟩:=h1.2 hs
   exact Stp.pure fun β a hop w=>by
    have hv:=two _ _ _ _ hm k1 k2 β a hop
    unfold execOp
    simp[ho,resolve,invoke,builtin,hv,Builtin.min_,Builtin.min2,V.g,Cv.g]
    split<;>omega
end Vg
namespace Vg
open Go.RowKit
inductive Lk where
 |i (k:IntKind)
 |b
 |s
def Vb (P:Program)(lf:TypeId->Option (List Lk)):Nat->List Field->Option (List Lk)
 |_,[]=>some []
 |off,f::fs=>
  match f.name== "_" ||f.offset !=off with
  |true=>none
  |false=>match lf f.type with
   |none=>none
   |some ks=>match zm P f.type==ks.length&& !ks.isEmpty with
    |false=>none
    |true=>match Vb P lf (off+ks.length) fs with
     |some r=>some (ks++r)
     |none=>none
def pO (P:Program):Nat->TypeId->Option (List Lk)
 |0,_=>none
 |d+1,t=>match P.underlying t with
  |some (.int k)=>some [.i k]
  |some .bool=>some [.b]
  |some .string=>some [.s]
  |some (.struct fs)=>match P.stoodInHeld t with
   |true=>none
   |false=>Vb P (pO P d) 0 fs.toList
  |_=>none
def wO:List Lk->List Cv->Bool
 |[],[]=>true
 | .i k::ks,.v (.int k' _)::cs=>decide (k=k')&&wO ks cs
 | .b::ks,.v (.bool _)::cs=>wO ks cs
 | .s::ks,.v (.string _)::cs=>wO ks cs
 |_,_=>false
theorem yg:∀{ks:List Lk} {cs:List Cv},wO ks cs=true->cs.length=ks.length
 |[],[],_=>rfl
 |[],_::_,h=>by simp[wO]at h
 |k::ks,[],h=>by cases k<;>simp[wO]at h
 |k::ks,c::cs,h=>by
  have:wO ks cs=true:=by
   cases c with
   |v x=>cases k<;>cases x<;>simp[wO]at h<;>first|exact h|exact h.2
   |p _ _=>cases k<;>simp[wO]at h
   |sl _ _ _ _=>cases k<;>simp[wO]at h
   |fn _ _=>cases k<;>simp[wO]at h
   |s0 _ _=>cases k<;>simp[wO]at h
  simp[yg this]
theorem wi:∀{ks r:List Lk} {cs:List Cv},wO (ks++r) cs=true->wO ks (cs.take ks.length)=true/\wO r (cs.drop ks.length)=true
 |[],r,cs,h=>by simpa[wO]using h
 |k::ks,r,[],h=>by cases k<;>simp[wO]at h
 |k::ks,r,c::cs,h=>by
  simp only[JQ,List.take_succ_cons,List.drop_succ_cons]
  simp only[JF]at h
  cases c with
  |v x=>
   cases k<;>cases x<;>simp[wO]at h⊢
   ·obtain⟨h1,h2⟩:=h
    have:=wi h2
    exact⟨⟨h1,this.1⟩,this.2⟩
   ·exact wi h
   ·exact wi h
  |p _ _=>cases k<;>simp[wO]at h
  |sl _ _ _ _=>cases k<;>simp[wO]at h
  |fn _ _=>cases k<;>simp[wO]at h
  |s0 _ _=>cases k<;>simp[wO]at h
theorem p9:∀{xs ys xs' ys':List Cv} {t t':Bool},su xs ys=some t->su xs' ys'=some t'->su (xs++xs') (ys++ys')=some (t&&t')
 |[],ys,xs',ys',t,t',h,h'=>by
  cases ys with
  |nil=>simp[su]at h;subst h;simpa using h'
  |cons y ys=>simp[su]at h
 |x::xs,[],xs',ys',t,t',h,h'=>by
  cases x with
  |v v=>cases v<;>simp[su]at h
  |p _ _=>simp[su]at h
  |sl _ _ _ _=>simp[su]at h
  |fn _ _=>simp[su]at h
  |s0 _ _=>simp[su]at h
 |x::xs,y::ys,xs',ys',t,t',h,h'=>by
  simp only[JF]
  unfold su at h⊢
  split at h<;>first|(cases h;done)|skip
  ·rename_i hx hy;simp at hx
  all_goals
   rename_i hx hy
   simp only[List.cons.injEq]at hx hy
   obtain⟨rfl,rfl⟩:=hx
   obtain⟨rfl,rfl⟩:=hy
   split at h<;>simp at h
   rename_i u hu
   subst h
   simp only[p9 hu h',Bool.and_assoc]
theorem ur:∀{ks:List Lk} {xs ys:List Cv},wO ks xs=true->wO ks ys=true->∃t,su xs ys=some t
 |[],[],[],_,_=>⟨true,rfl⟩
 |[],_::_,_,h,_=>by simp[wO]at h
 |[],[],_::_,_,h=>by simp[wO]at h
 |k::ks,[],_,h,_=>by cases k<;>simp[wO]at h
 |k::ks,_::_,[],_,h=>by cases k<;>simp[wO]at h
 |k::ks,x::xs,y::ys,h,h'=>by
  cases x with
  |v x=>
   cases y with
   |v y=>
    cases k<;>cases x<;>simp[wO]at h<;>cases y<;>simp[wO]at h'
    ·obtain⟨t,ht⟩:=ur h.2 h'.2
     exact⟨_,by simp only[su,ht];rfl⟩
    ·obtain⟨t,ht⟩:=ur h h'
     exact⟨_,by simp only[su,ht];rfl⟩
    ·obtain⟨t,ht⟩:=ur h h'
     exact⟨_,by simp only[su,ht];rfl⟩
   |p _ _=>cases k<;>simp[wO]at h'
   |sl _ _ _ _=>cases k<;>simp[wO]at h'
   |fn _ _=>cases k<;>simp[wO]at h'
   |s0 _ _=>cases k<;>simp[wO]at h'
  |p _ _=>cases k<;>simp[wO]at h
  |sl _ _ _ _=>cases k<;>simp[wO]at h
  |fn _ _=>cases k<;>simp[wO]at h
  |s0 _ _=>cases k<;>simp[wO]at h
def dD (P:Program)(β:Vl)(t:TypeId)(xs:List Cv):Value:=
 match z5 P t with
 |some true=> .agg (xs.map (Cv.g β)).toArray
 |_=>match xs with
  |[x]=>x.g β
  |_=>undef
theorem iW {P:Program}{β:Vl}{t:TypeId}{ks:List Lk}{d:Nat}(hl:pO P d t=some ks)(hz:zm P t=ks.length)(h0:ks≠[]){cs:List Cv}{off:Nat}(hc:wO ks ((cs.drop off).take ks.length)=true)(w:World):
  (part t (cs.map (Cv.g β)).toArray off).run P w= .ok (dD P β t ((cs.drop off).take ks.length)) w:=by
 have hlen:=yg hc
 cases d with
 |zero=>cases hl
 |succ d=>
  simp only[pO]at hl
  have leaf:z5 P t=some false->ks.length=1->(part t (cs.map (Cv.g β)).toArray off).run P w= .ok (dD P β t ((cs.drop off).take ks.length)) w:=by
   intro ha h1
   rw[h1]at hlen⊢
   match hx:(cs.drop off).take 1,hlen with
   |[x],_=>
    have hget:cs[off]?=some x:=by
     have:=congrArg (·[0]?) hx
     simp[Iu,Is]at this
     exact this
    simp only[part,Sem.run_bind,xJ ha,Result.andThen_ok,JS,if_false,Sem.run_ite]
    simp[hget,dD,ha]
  split at hl
  ·simp at hl;subst hl;rename_i hu;exact leaf (by simp[z5,hu]) rfl
  ·simp at hl;subst hl;rename_i hu;exact leaf (by simp[z5,hu]) rfl
  ·simp at hl;subst hl;rename_i hu;exact leaf (by simp[z5,hu]) rfl
  ·rename_i fs hu
   have ha:z5 P t=some true:=by simp[z5,hu]
   have hagg:(isAgg t).run P w= .ok true w:=by
    unfold isAgg
    rw[Sem.run_bind,run_underlying hu w]
    rfl
   have hs:=yK (P:=P) (t:=t) hz (by simpa using h0) w
   simp only[part,Sem.run_bind,hagg,Result.andThen_ok,if_true,Sem.run_ite,hs]
   simp[dD,ha,List.extract_eq_take_drop,ID,Iq]
  ·cases hl
theorem UX {P:Program}(β:Vl):∀(d:Nat) (t:TypeId) (ks:List Lk),pO P d t=some ks->∀(D:Nat),d<=D->∀(xs ys:List Cv) (r:Bool) (w:World),wO ks xs=true->wO ks ys=true->su xs ys=some r->
  (Op.equalIn D t (dD P β t xs) (dD P β t ys)).run P w= .ok r w
 |0,t,ks,h,D,_,xs,ys,r,w,_,_,_=>by cases h
 |d+1,t,ks,h,0,hD,xs,ys,r,w,_,_,_=>by omega
 |d+1,t,ks,h,D+1,hD,xs,ys,r,w,hx,hy,he=>by
  simp only[pO]at h
  split at h
  ·rename_i k hu
   simp at h;subst h
   have ha:z5 P t=some false:=by simp[z5,hu]
   match xs,ys,hx,hy,he with
   |[.v (.int k1 a)],[.v (.int k2 b)],hx,hy,he=>
    simp[wO]at hx hy
    subst hx hy
    simp[su]at he
    subst he
    simp only[dD,ha,Cv.g]
    rw[run_equalIn_int w D t k k a b hu]
   |[],_,hx,_,_=>simp[wO]at hx
   |[.v (.int _ _)],[],_,hy,_=>simp[wO]at hy
   |_::_::_,_,hx,_,_=>have:=yg hx;simp at this
   |[.v (.int _ _)],_::_::_,_,hy,_=>have:=yg hy;simp at this
  ·rename_i hu
   simp at h;subst h
   have ha:z5 P t=some false:=by simp[z5,hu]
   match xs,ys,hx,hy,he with
   |[.v (.bool a)],[.v (.bool b)],hx,hy,he=>
    simp[su]at he
    subst he
    simp only[dD,ha,Cv.g]
    rw[run_equalIn_bool' w D t a b hu]
   |[],_,hx,_,_=>simp[wO]at hx
   |[.v (.bool _)],[],_,hy,_=>simp[wO]at hy
   |_::_::_,_,hx,_,_=>have:=yg hx;simp at this
   |[.v (.bool _)],_::_::_,_,hy,_=>have:=yg hy;simp at this
  ·rename_i hu
   simp at h;subst h
   have ha:z5 P t=some false:=by simp[z5,hu]
   match xs,ys,hx,hy,he with
   |[.v (.string a)],[.v (.string b)],hx,hy,he=>
    simp[su]at he
    subst he
    simp only[dD,ha,Cv.g]
    rw[run_equalIn_string w D t a b hu]
   |[],_,hx,_,_=>simp[wO]at hx
   |[.v (.string _)],[],_,hy,_=>simp[wO]at hy
   |_::_::_,_,hx,_,_=>have:=yg hx;simp at this
   |[.v (.string _)],_::_::_,_,hy,_=>have:=yg hy;simp at this
  ·rename_i fs hu
   split at h<;>first|(cases h;done)|skip
   rename_i hst
   have ha:z5 P t=some true:=by simp[z5,hu]
   have hfo:P.fieldsOf t=fs:=by simp[Program.fieldsOf,hu]
   simp only[dD,ha]
   rw[run_equalIn_struct w D t _ _ (by rw[hfo];exact hu) hst,hfo]
   -- field by field
   have go:∀(l:List Field) (off:Nat) (ks:List Lk) (r:Bool),Vb P (pO P d) off l=some ks->wO ks (xs.drop off)=true->wO ks (ys.drop off)=true->su (xs.drop off) (ys.drop off)=some r->
     (Op.eqFields D (xs.map (Cv.g β)).toArray (ys.map (Cv.g β)).toArray l).run P w= .ok r w:=by
    intro l
    induction l with
    |nil=>
     intro off ks r h hx hy he
     simp[Vb]at h
     subst h
     have e1:=Ia (yg hx)
     have e2:=Ia (yg hy)
     rw[e1,e2]at he
     simp[su]at he
     subst he
     simp[Op.eqFields]
    |cons f l ih=>
     intro off ks r h hx hy he
     simp only[Vb]at h
     split at h<;>first|(cases h;done)|skip
     rename_i hname
     simp only[IZ,beq_eq_false_iff_ne,bne_eq_false_iff_eq]at hname
     obtain⟨hnm,hoff⟩:=hname
     split at h<;>first|(cases h;done)|skip
     rename_i ks1 hk1
     split at h<;>first|(cases h;done)|skip
     rename_i hsz
     simp only[JB,beq_iff_eq,Jh,List.isEmpty_eq_false_iff]at hsz
     split at h<;>simp at h
     rename_i ks2 hk2
     subst h
     obtain⟨x1,x2⟩:=wi hx
     obtain⟨y1,y2⟩:=wi hy
     obtain⟨t1,ht1⟩:=ur x1 y1
     obtain⟨t2,ht2⟩:=ur x2 y2
     have hap:=p9 ht1 ht2
     rw[Ii,Ii,he]at hap
     simp at hap
     subst hap
     rw[HR]at x2 y2 ht2
     rw[HR]at ht2
     have hih:=ih (off+ks1.length) ks2 t2 hk2 x2 y2 ht2
     have p1:=iW (β:=β) hk1 hsz.1 hsz.2 x1 w
     have p2:=iW (β:=β) hk1 hsz.1 hsz.2 y1 w
     have q:=UX β d f.type ks1 hk1 D zA _ _ t1 w x1 y1 ht1
     rw[<-hoff]at p1 p2
     simp only[Op.eqFields,ne_eq,hnm,not_false_eq_true,if_true,Sem.run_bind]
     rw[hoff]at p1 p2⊢
     rw[p1]
     simp only[Result.andThen_ok]
     rw[p2]
     simp only[Result.andThen_ok]
     rw[q]
     simp only[Result.andThen_ok]
     cases t1 with
     |false=>simp
     |true=>simp[hih]
   exact go fs.toList 0 ks r h (by simpa using hx) (by simpa using hy) (by simpa using he)
  ·cases h
theorem qg {P:Program}{ty:TypeId}{ks:List Lk}{xs ys:List Cv}{t:Bool}(hl:pO P 20 ty=some ks)(ha:z5 P ty=some true)(hg:P.eqGuardType P.depth ty=false)(hx:wO ks xs=true)(hy:wO ks ys=true)(he:su xs ys=some t):EqOk P ty xs ys t:=by
 intro β w ox oy
 have h:=UX β 20 ty ks hl 10000 zA xs ys t w hx hy he
 simp only[dD,ha]at h
 constructor
 ·rw[Sem.run_bind,run_eqGuard_agg w _ _ _ _ _ _ hg]
  simp only[Result.andThen_ok]
  rw[run_eql_struct,h]
  rfl
 ·rw[Sem.run_bind,run_eqGuard_agg w _ _ _ _ _ _ hg]
  simp only[Result.andThen_ok]
  rw[run_neq_struct,h]
  rfl
end Vg
namespace Vg
open Go.RowKit
def wR {α:Type}:Nat->List α->List α
 |0,_=>[]
 |n+1,l=>l++wR n l
theorem vF {α:Type}(l:List α):∀n,(wR n l).length=n*l.length
 |0=>by simp[wR]
 |n+1=>by rw[wR,JM,vF l n,Iz];omega
theorem mw {α:Type}(l:List α):∀(n i:Nat),i<n*l.length->(wR n l)[i]?=l[i%l.length]?
 |0,i,h=>by omega
 |n+1,i,h=>by
  rw[wR]
  by_cases hi:i<l.length
  ·rw[Jk hi,Nat.mod_eq_of_lt hi]
  ·rw[Ju zA,mw l n (i-l.length) (by rw[Iz]at h;omega),<-Nat.mod_eq_sub_mod zA]
theorem sE {α β:Type}(f:α->β)(l:List α):∀n,(wR n l).map f=wR n (l.map f)
 |0=>rfl
 |n+1=>by rw[wR,wR,JN,sE f l n]
theorem o9 (z:Array Value)(n:Nat):((Array.range (n*z.size)).map (z[· %z.size]!)).toList=wR n z.toList:=by
 apply Jn
 intro i
 by_cases hi:i<n*z.size
 ·rw[mw _ _ _ (by simpa using hi)]
  have hz:0<z.size:=by
   rcases Nat.eq_zero_or_pos z.size with h|h
   ·rw[h]at hi;omega
   ·exact h
  have hm:=Nat.mod_lt i hz
  simp only[IH,Array.getElem?_map,Array.getElem?_range,hi,if_true,Jj,Array.length_toList]
  rw[Jm hm,getElem!_pos z (i%z.size) hm]
 ·rw[Jc (by simp;omega),Jc (by rw[vF];simp;omega)]
theorem wa {P:Program}{t:TypeId}{zs:List Value}(h:zd P t=some zs):∃i z,P.info? t=some i/\i.zero=some z/\z.cells.size=i.size/\z.cells.toList=zs:=by
 unfold zd at h
 cases hi:P.info? t with
 |none=>simp[hi]at h
 |some i=>
  simp only[hi]at h
  cases hzz:i.zero with
  |none=>simp[hzz]at h
  |some z=>
   simp only[hzz]at h
   split at h<;>simp at h
   exact⟨i,z,rfl,hzz,by assumption,h⟩
theorem wb {P:Program}{t:TypeId}{i:TypeInfo}(h:P.info? t=some i):zm P t=i.size:=by simp[zm,h]
theorem vu {P:Program}{t:TypeId}{i:TypeInfo}(h:P.info? t=some i):wD P t=i.bytes:=by simp[wD,h]
theorem lq {P:Program}{o:Oper}{e:Env}{M:Mem}(nm:Nat)(cs:List Cv)(el:TypeId)(len esz:Nat)(hz:esz≠0)(hl:cs.length=len*esz)
  (hop:∀β M' (a:Act),mE β M' e o a->(∀b',Agree M' β b'->cs.map (Cv.g b')=cs.map (Cv.g β))/\∀w,(execOp a.eval o).run P w= .ok (.value (.slice (some ⟨w.heap.size,0,none⟩) len len)) (w.alloc (.cells (cs.map (Cv.g β)).toArray el))) (hn:M.get nm=none):
  Stp P o e M (.c (.sl nm 0 len esz)) [(nm,⟨false,cs,el⟩)]:=by
 intro S w0 β M' a w _ hfr hrel hok K Q hk
 obtain⟨h1,h2⟩:=hop β M' a hok
 have hn':M'.get nm=none:=by
  rcases hfr nm (by simp[Mem.get])with h|h
  ·rw[hn]at h;cases h
  ·exact h
 unfold Oper.wp
 rw[h2 w]
 refine hk (fun k=>if k=nm then⟨w.heap.size,0,cs.length,false,none⟩else β k) _ _ (fun k hk'=>?_) (hrel.alloc nm hn' cs el h1) (fun β'' hag=>?_)
 ·by_cases hkk:k=nm
  ·subst hkk;rw[hn']at hk';cases hk'
  ·simp[hkk]
 ·have:=hag nm (by simp[Mem.get])
  simp only[V.g,Cv.g,this,if_true,JS,false_and,if_false,Nat.sub_zero,hl,J4]
  rw[Ih _ zA]
def rm (len sz:Nat):List (Nat×Nat):=(List.range len).map fun i=>(i*sz,sz)
theorem sW {pl:List (Nat×Nat)}{e:Env}:∀(parts:List (Nat×Operand)) (cs cs':List Cv) (sc:Prop),vo pl e cs parts=some (sc,cs')->cs'.length=cs.length
 |[],cs,cs',sc,h=>by simp[vo]at h;rw[h.2]
 |(i,x)::r,cs,cs',sc,h=>by
  simp only[vo]at h
  split at h
  ·split at h
   ·rename_i hr
    simp at h
    have:=sW r _ _ _ hr
    rw[<-h.2,this,ri]
   ·cases h
  ·cases h
theorem Stp.buildSlice {P:Program}{o:Oper}{e:Env}{M:Mem}(nm:Nat){t el:TypeId}{sz len:Nat}{parts:Array (Nat×Operand)}{zs:List Value}{sc:Prop}{cs:List Cv}(ho:o.op= .buildSlice t len parts)
  (ht:yX P t=some (el,sz)) (hz:zd P el=some zs) (hlen:len*sz<=16777216) (hf:vo (rm len sz) e ((wR len zs).map .v) parts.toList=some (sc,cs)) (hs:sc) (hn:M.get nm=none):
  Stp P o e M (.c (.sl nm 0 len sz)) [(nm,⟨false,cs,el⟩)]:=by
 obtain⟨hu,hsz,hsz0⟩:=yW ht
 obtain⟨i,z,hi,hz1,hz2,hz3⟩:=wa hz
 have hsi:i.size=sz:=by rw[<-wb hi];exact hsz
 have hzl:zs.length=sz:=by rw[<-hz3];simp[hz2,hsi]
 have hlc:cs.length=len*sz:=by rw[sW _ _ _ _ hf];simp[vF,hzl]
 refine lq nm cs el len sz hsz0 hlc (fun β M' a hok=>?_) hn
 have hfill:∀b',Agree M' β b'->Instr.fill (fun i=>some (i*sz,sz)) ((Array.range (len*sz)).map (z.cells[· %z.cells.size]!)) (parts.map fun(i,x)=>(i,a.eval x)).toList=some (cs.map (Cv.g b')).toArray:=by
  intro b' hb
  have h1:=np (a:=a) (β:=b') parts.toList _ _ _ hf hs (fun x hx y hy=>hok b' hb x (by simp only[ho,Op.operands];simpa using hx) y hy) (fun i=>some (i*sz,sz)) (by
   intro i p h
   simp only[rm,JO]at h
   cases hr:(List.range len)[i]? with
   |none=>simp[hr]at h
   |some j=>
    have hj:j=i:=by
     rw[Jp (by have:=(JW.1 hr).1;simpa using this)]at hr
     simpa using hr.symm
    simp[hr]at h
    subst hj
    simpa using h)
  have hcs:((List.map Cv.v (wR len zs)).map (Cv.g b')).toArray=(Array.range (len*sz)).map (z.cells[· %z.cells.size]!):=by
   apply J7.1
   have:=o9 z.cells len
   rw[hz2,hsi]at this
   rw[hz2,hsi,this,hz3]
   simp[Function.comp_def,Cv.g]
  rw[hcs]at h1
  have hparts:(parts.map fun(i,x)=>(i,a.eval x)).toList=parts.toList.map fun p=>(p.1,a.eval p.2):=z9
  rw[hparts]
  exact h1
 refine⟨fun b' hb=>?_,fun w=>?_⟩
 ·have:=(hfill b' hb).symm.trans (hfill β (Agree.refl _ _))
  simpa using this
 ·by_cases hl0:len=0
  ·subst hl0
   have hp0:parts.toList=[]:=by
    cases hpl:parts.toList with
    |nil=>rfl
    |cons q r=>rw[hpl]at hf;obtain⟨j,y⟩:=q;simp[vo,rm]at hf
   have hp1:parts= #[]:=J7.1 hp0
   have hc0:cs=[]:=JX.1 (by rw[hlc,HO])
   subst hp1 hc0
   unfold execOp
   simp[ho,Instr.buildSlice,run_underlying hu,sizeOf,typeInfo,hi,Instr.fill,newRow]
   congr 2
   exact J7.1 z9
  ·have hrun:=run_buildSlice (P:=P) w t el len (parts.map fun(i,x)=>(i,a.eval x)) (cs.map (Cv.g β)).toArray i z hu hi hz1 (by rw[hsi];omega) (by rw[hsi];exact Nat.mul_ne_zero hl0 hsz0) (by rw[hsi];exact hfill β (Agree.refl _ _))
   unfold execOp
   simp only[ho,Sem.run_bind,hrun,Result.andThen_ok]
   rfl
theorem Stp.makeSlice {P:Program}{o:Oper}{e:Env}{M:Mem}(nm:Nat){t el:TypeId}{sz:Nat}{x y:Operand}{zs:List Value}{kl kc:IntKind}{l:Int}(ho:o.op= .makeSlice t x y)
  (ht:yX P t=some (el,sz)) (hz:zd P el=some zs) (hx:rd e x=some (true,.c (.v (.int kl l)))) (hy:rd e y=some (true,.c (.v (.int kc l)))) (h0:0<=l) (h63:l<=9223372036854775807) (hby:(wD P el:Int)*l<=281474976710656) (hn:M.get nm=none):
  Stp P o e M (.c (.sl nm 0 l.toNat sz)) [(nm,⟨false,wR l.toNat (zs.map .v),el⟩)]:=by
 obtain⟨hu,hsz,hsz0⟩:=yW ht
 obtain⟨i,z,hi,hz1,hz2,hz3⟩:=wa hz
 have hsi:i.size=sz:=by rw[<-wb hi];exact hsz
 have hzl:zs.length=sz:=by rw[<-hz3];simp[hz2,hsi]
 refine lq nm _ el l.toNat sz hsz0 (by rw[vF];simp[hzl]) (fun β M' a hok=>⟨fun b' _=>by rw[sE,sE];simp[Function.comp_def,Cv.g],fun w=>?_⟩) hn
 have hex:=hok β (Agree.refl _ _) x (by simp[ho,Op.operands]) _ hx
 have hey:=hok β (Agree.refl _ _) y (by simp[ho,Op.operands]) _ hy
 simp only[gv,V.g,Cv.g,cond_true]at hex hey
 have hrun:=run_make (P:=P) w t el i z hu hi hz1 kl kc l l h0 (HJ _) (by rw[<-vu hi];exact hby) h63
 unfold execOp
 simp only[ho,hex,hey,Sem.run_bind,hrun,Result.andThen_ok]
 have:madeCells z.cells (l.toNat*i.size)=((wR l.toNat (zs.map Cv.v)).map (Cv.g β)).toArray:=by
  apply J7.1
  have:=o9 z.cells l.toNat
  rw[hz2]at this
  rw[sE,Ja]
  simp only[Function.comp_def,Cv.g,List.map_id']
  rw[<-hz3,<-this]
  simp[madeCells,hz2]
 rw[this]
 rfl
def uQ (b:UInt8):Cv:= .v (.int .u8 b.toNat)
def nQ (P:Program)(e:Env)(M:Mem)(tx:TypeId)(esz:Nat)(x:Operand):Option (Prop×Nat×List Cv):=
 match rd e x with
 |some (g,.c (.sl m off k sz))=>match yX P tx,M.get m with
  |some (_,sz'),some b=>some (g=true/\sz=esz/\sz'=esz/\off+k*esz<=b.cells.length/\((b.cells.drop off).take (k*esz)).all Cv.one=true,k,(b.cells.drop off).take (k*esz))
  |_,_=>none
 |some (g,.c (.v (.slice none 0 0)))=>match yX P tx with
  |some _=>some (g=true,0,[])
  |none=>none
 |some (g,.c (.v (.string s)))=>match tv P tx with
  |true=>some (g=true/\esz=1,s.data.toList.length,s.data.toList.map uQ)
  |false=>none
 |_=>none
theorem nP {P:Program}{e:Env}{M M':Mem}{tx:TypeId}{esz:Nat}{x:Operand}{sc:Prop}{k:Nat}{news:List Cv}(h:nQ P e M tx esz x=some (sc,k,news))(hs:sc){S:Bs}{w0 w:World}{β:Vl}(hsub:Sub M M')(hrel:Rel S w0 β M' w){a:Act}
  (hx:∀β',Agree M' β β'->∀y,rd e x=some y->a.eval x=gv β' y):Src P esz tx (a.eval x) k (news.map (Cv.g β)) w/\(∀β',Agree M' β β'->news.map (Cv.g β')=news.map (Cv.g β))/\news.length=k*esz:=by
 unfold nQ at h
 split at h
 ·rename_i g m off k' sz hrd
  split at h<;>simp at h
  rename_i q sz' b hsl hb
  obtain⟨hsc,rfl,rfl⟩:=h
  obtain⟨rfl,rfl,hsz',hle,hone⟩:=hsc.2 hs
  obtain⟨hu,_,_⟩:=yW hsl
  have hcl:∀β',Agree M' β β'->((b.cells.drop off).take (k'*sz)).map (Cv.g β')=((b.cells.drop off).take (k'*sz)).map (Cv.g β):=fun β' hag=>by
   rw[ID,Iq,ID,Iq,hrel.closed hsub hag hb]
  have hlen:((b.cells.drop off).take (k'*sz)).length=k'*sz:=by rw[IY,List.length_drop];omega
  refine⟨?_,hcl,hlen⟩
  have hev:=hx β (Agree.refl _ _) _ hrd
  simp only[gv,V.g,Cv.g,cond_true]at hev
  rw[hev]
  have hrg:=hrel.range hsub hb
  split
  ·rename_i hn
   obtain⟨_,rfl⟩:=hn
   simp only[HO,List.take_zero,Kz]
   unfold Loc.emp
   split
   ·exact Src.ofNil w hu 0
   ·exact Src.ofSlice w hu _ _ _ _ z9 (fun j u hj=>by simp at hj) (fun u hu'=>by cases hu')
  ·refine Src.ofSlice w hu _ _ _ _ (by rw[Kv,hlen]) (fun j u hj=>?_) (fun u hu'=>?_)
   ·have h2:=uj hrg off (k'*sz) j u (by rw[ID,Iq]at hj;exact hj)
    rw[Addr.add_lit]
    exact h2
   ·obtain⟨c,hc,rfl⟩:=JL.1 hu'
    exact kF (hone c hc) β
 ·rename_i g hrd
  split at h<;>simp at h
  rename_i q hsl
  obtain⟨hsc,rfl,rfl⟩:=h
  have:=hsc.2 hs;subst this
  obtain⟨el,sz⟩:=q
  obtain⟨hu,_,_⟩:=yW hsl
  have hev:=hx β (Agree.refl _ _) _ hrd
  simp only[gv,V.g,Cv.g,cond_true]at hev
  rw[hev]
  exact⟨Src.ofNil w hu 0,fun _ _=>rfl,z9⟩
 ·rename_i g s hrd
  split at h<;>simp at h
  rename_i hst
  obtain⟨hsc,rfl,rfl⟩:=h
  obtain⟨rfl,rfl⟩:=hsc.2 hs
  have hev:=hx β (Agree.refl _ _) _ hrd
  simp only[gv,V.g,Cv.g,cond_true]at hev
  rw[hev]
  have hsrc:=Src.ofString (P:=P) w (uf hst) s
  have e1:byteCells s=(s.data.toList.map uQ).map (Cv.g β):=by simp[byteCells,uQ,Cv.g,Function.comp_def]
  rw[e1]at hsrc
  exact⟨by simpa using hsrc,fun β' _=>by simp[uQ,Cv.g,Function.comp_def],z9⟩
 ·cases h
theorem u5 {P:Program}(w:World)(t tx ty e:TypeId)(i:TypeInfo)(ht:P.underlying t=some (.slice e))(hi:P.info? e=some i)(x:Value)(news:List Value)(hs:Src P i.size tx x 0 news w):
  (Builtin.append_ #[t,tx] ty #[.slice none 0 0,x]).run P w= .ok (.slice none 0 0) w:=by
 rcases hs.kind with⟨e',hk⟩|hk<;>simp[Builtin.append_,run_underlying ht,run_underlying hk,sizeOf,typeInfo,hi,hs.len,hs.cells]
theorem xY (z:Array Value)(n:Nat):(Builtin.zeroCells z n).toList.length=n*z.size:=by simp[Builtin.zeroCells]
theorem jd {P:Program}{t tx ty el:TypeId}{sz:Nat}{zs:List Value}(ht:yX P t=some (el,sz))(hz:zd P el=some zs){S:Bs}{w0 w:World}{β:Vl}{M':Mem}(hrel:Rel S w0 β M' w){n nm len k:Nat}{b:Bk}{news:List Cv}{x:Value}
  (hb:M'.get n=some b) (hr:b.ro=false) (hel:b.elem=el) (hl:len*sz<=b.cells.length) (hn:M'.get nm=none) (hsrc:Src P sz tx x k (news.map (Cv.g β)) w) (hcl:∀β',Agree M' β β'->news.map (Cv.g β')=news.map (Cv.g β)) (hnl:news.length=k*sz)
  (hby:(len+k)*wD P el<=140737488355328) (h63:len+k<=9223372036854775807):
  ∃u w' β',(Builtin.append_ #[t,tx] ty #[(Cv.sl n 0 len sz).g β,x]).run P w= .ok u w'/\Agree M' β β'/\Rel S w0 β' ([(nm,⟨false,b.cells.take (len*sz)++news,el⟩),(n,dead el)]++M') w'/\u=(Cv.sl nm 0 (len+k) sz).g β':=by
 subst hel
 obtain⟨hu,hsz,hsz0⟩:=yW ht
 obtain⟨i,z,hi,hz1,hz2,hz3⟩:=wa hz
 have hsi:i.size=sz:=by rw[<-wb hi];exact hsz
 subst hsi
 have hbk:=hrel.mem.ok β (Agree.refl _ _) n b hb
 have hne:∀k b,M'.get k=some b->k≠nm:=by rintro k b hk rfl;rw[hn]at hk;cases hk
 have hnn:n≠nm:=hne n b hb
 have hclo:∀β',Agree M' β β'->(b.cells.take (len*i.size)++news).map (Cv.g β')=(b.cells.take (len*i.size)++news).map (Cv.g β):=fun β' hag=>by
  rw[JN,JN,hcl β' hag,ID,ID,hrel.closed (Sub.refl _) hag hb]
 -- the arm that grows
 have grow:∀(base:Option Addr) (cap:Nat),cap<len+k->(Cv.sl n 0 len i.size).g β= .slice base len cap->(Builtin.firstCells i.size len (.slice base len cap)).run P w.drew= .ok ((b.cells.take (len*i.size)).map (Cv.g β)).toArray w.drew->
   ∃u w' β',(Builtin.append_ #[t,tx] ty #[(Cv.sl n 0 len i.size).g β,x]).run P w= .ok u w'/\Agree M' β β'/\Rel S w0 β' ([(nm,⟨false,b.cells.take (len*i.size)++news,b.elem⟩),(n,dead b.elem)]++M') w'/\u=(Cv.sl nm 0 (len+k) i.size).g β':=by
  intro base cap hcap hval hold
  have hg:=run_append_grow_src (P:=P) w t tx ty b.elem i z hu hi hz1 base len cap _ hold x k _ hsrc hcap zA (growslice_fits zA (by rw[<-vu hi];exact hby))
  have hge:=grownCap_ge w (len+k) cap b.elem
  have hal:=((hrel.drew).kill n b.elem (by simp[hb])).allocJ nm (by rw[zE,if_neg (fun hh=>hnn hh.symm)];exact hn) (b.cells.take (len*i.size)++news) (Builtin.zeroCells z.cells (grownCap w (len+k) cap b.elem-(len+k))).toList b.elem (fun β' hag=>hclo β' (fun j hj=>hag j (by rw[zE];split<;>simp_all)))
  refine⟨_,_,(fun j=>if j=nm then⟨w.heap.size,0,(b.cells.take (len*i.size)++news).length+(Builtin.zeroCells z.cells (grownCap w (len+k) cap b.elem-(len+k))).toList.length,false,none⟩else β j),by rw[hval];exact hg,?_,?_,?_⟩
  rotate_left
  ·have e:((b.cells.take (len*i.size)).map (Cv.g β)++news.map (Cv.g β)).toArray++Builtin.zeroCells z.cells (grownCap w (len+k) cap b.elem-(len+k))=((b.cells.take (len*i.size)++news).map (Cv.g β)++(Builtin.zeroCells z.cells (grownCap w (len+k) cap b.elem-(len+k))).toList).toArray:=by
    apply J7.1
    simp
   rw[e]
   exact hal
  ·simp only[Cv.g,if_true,JS,false_and,if_false,Nat.sub_zero,J4]
   rw[xY,hz2]
   congr 1
   ·have hlen:(b.cells.take (len*i.size)++news).length=(len+k)*i.size:=by
     rw[JM,IY,hnl,Nat.min_eq_left hl,HS]
    rw[hlen,<-HS,Ih _ zA]
    omega
  ·intro j hj
   obtain⟨c,hc⟩:=JE.1 hj
   exact if_neg (hne j c hc)
 by_cases hnul:(β n).nul=true/\len=0
 ·obtain⟨hnu,rfl⟩:=hnul
  have hval:(Cv.sl n 0 0 i.size).g β= .slice none 0 0:=by simp[Cv.g,hnu,Loc.emp,hbk.nul_odd hnu hr]
  have hcells:=hbk.nul_cells hnu
  by_cases hk:k=0
  ·subst hk
   have hnews:news=[]:=Ia (by simpa using hnl)
   subst hnews
   have hrn:=(hrel.kill n b.elem (by simp[hb])).nil nm (by rw[zE,if_neg (fun hh=>hnn hh.symm)];exact hn) b.elem
   refine⟨_,w,(fun j=>if j=nm then⟨0,0,0,true,none⟩else β j),by rw[hval];exact u5 w t tx ty b.elem i hu hi x _ hsrc,?_,?_,?_⟩
   rotate_left
   ·simp only[HO,List.take_zero,JK]
    exact hrn
   ·simp[Cv.g,Loc.emp]
   ·intro j hj
    obtain⟨c,hc⟩:=JE.1 hj
    exact if_neg (hne j c hc)
  ·refine grow none 0 zA hval ?_
   simp only[HO,List.take_zero,Kz]
   exact run_firstCells_none w.drew i.size 0 0 0
 ·have hnu:(β n).nul=false:=by
   cases hq:(β n).nul with
   |false=>rfl
   |true=>
    exfalso
    have hcells:=hbk.nul_cells hq
    rw[hcells]at hl
    simp only[J9,Nat.le_zero]at hl
    rcases Nat.mul_eq_zero.1 hl with h|h
    ·exact hnul ⟨hq,h⟩
    ·exact hsz0 h
  have hbk':=hbk
  unfold BkOk at hbk'
  rw[if_neg (by simp[hnu]),if_neg (by simp[hr])]at hbk'
  obtain⟨horg,junk,hheap,hsiz⟩:=hbk'
  have hval:(Cv.sl n 0 len i.size).g β= .slice (some ⟨(β n).blk,0,none⟩) len ((β n).siz/i.size):=by
   simp only[Cv.g,hnul,if_false,horg,J4,Nat.sub_zero]
  have hrange:=hbk.range
  rw[horg]at hrange
  by_cases hroom:len+k<=(β n).siz/i.size
  ·have hfit:(len+k)*i.size<=b.cells.length+junk.length:=by
    have:=Nat.mul_le_mul_right i.size hroom
    have h2:=Nat.div_mul_le_self (β n).siz i.size
    omega
   rw[HS]at hfit
   have hrun:=run_append_room_src (P:=P) w t tx ty b.elem i hu hi (β n).blk 0 len ((β n).siz/i.size) x k _ hsrc hroom (fun j hj=>by
     simp only[World.cell?,hheap,Option.isSome_none,JS,if_false]
     rw[Kv,hnl]at hj
     simp only[Iy,J4]
     rw[JA (by simp;omega)];rfl) (fun j hj=>by simp[World.frozen?,hheap])
   rw[J4]at hrun
   have hsame:=vS (β n).blk (news.map (Cv.g β)) (len*i.size) w
   -- the cells behind the store
   have hset:∀(vs l j:List Value) (o:Nat),o<=l.length->o+vs.length<=(l++j).length->wQ (l++j) o vs=l.take o++vs++(l++j).drop (o+vs.length):=by
    intro vs
    induction vs with
    |nil=>intro l j o h1 _;simp[wQ];rw[<-List.take_append_of_le_length (l₂:=j) h1,Ii]
    |cons v r ih=>
     intro l j o h1 h2
     simp only[JQ]at h2
     have hset1:(l++j).set o v=(l.take o++[v])++(l++j).drop (o+1):=by
      rw[List.set_eq_take_append_cons_drop,if_pos zA,List.take_append_of_le_length h1]
      simp
     simp only[wQ]
     rw[hset1,ih (l.take o++[v]) _ (o+1) (by simp;omega) (by simp;simp at h2;omega)]
     have hlt:(l.take o++[v]).length=o+1:=by simp;omega
     have e1:(l.take o++[v]++(l++j).drop (o+1)).drop (o+1+r.length)=(l++j).drop (o+(r.length+1)):=by
      rw[show o+1+r.length=(l.take o++[v]).length+r.length by omega,List.drop_append,List.drop_of_length_le zA,JG,HR]
      congr 1
      omega
     rw[e1,JJ zA]
     simp
   have hheap':=xc (β n).blk (news.map (Cv.g β)) (len*i.size) w _ _ _ hheap
   rw[hset _ _ _ _ (by simpa using hl) (by simp[hnl];omega)]at hheap'
   refine⟨_,_,(fun j=>if j=nm then β n else β j),by rw[hval];exact hrun,?_,?_,?_⟩
   ·intro j hj
    obtain⟨c,hc⟩:=JE.1 hj
    exact if_neg (hne j c hc)
   ·refine hrel.over hb hr hnu hn (b.cells.take (len*i.size)++news) ((b.cells.map (Cv.g β)++junk).drop (len*i.size+k*i.size)) hclo hsame.1 hsame.2.1 hsame.2.2.1 hsame.2.2.2 ?_ (fun q hq=>xW _ _ _ _ q hq) ?_
    ·rw[hheap']
     simp only[JN,ID,Kv,hnl]
    ·simp only[JM,IY,List.length_drop,Kv,hnl]
     omega
   ·have:¬((β n).nul=true/\len+k=0):=fun hh=>by rw[hnu]at hh;cases hh.1
    simp only[Cv.g,if_true,this,if_false,horg,J4,Nat.sub_zero]
  ·refine grow _ _ zA hval ?_
   refine run_firstCells_some w.drew i.size len _ _ _ _ (by rw[Kv,IY];omega) (fun j v hj=>?_)
   rw[Addr.add_lit,J4]
   have:=hrange j v (by
    rw[ID,Iu]at hj
    split at hj
    ·exact hj
    ·cases hj)
   rw[J4]at this
   exact this
theorem Stp.append {P:Program}{o:Oper}{e:Env}{M:Mem}(nm:Nat){s x:Operand}{t tx el:TypeId}{sz n len k:Nat}{b:Bk}{news:List Cv}{zs:List Value}{sc:Prop}(ho:o.op= .call {callee:= .builtin .append,args:= #[s,x],argTypes:= #[t,tx]})
  (ht:yX P t=some (el,sz)) (hz:zd P el=some zs) (hs:rd e s=some (true,.c (.sl n 0 len sz))) (hb:M.get n=some b) (hr:b.ro=false) (hel:b.elem=el) (hl:len*sz<=b.cells.length) (hn:M.get nm=none)
  (hsrc:nQ P e M tx sz x=some (sc,k,news)) (hsc:sc) (hby:(len+k)*wD P el<=140737488355328) (h63:len+k<=9223372036854775807):
  Stp P o e M (.c (.sl nm 0 (len+k) sz)) [(nm,⟨false,b.cells.take (len*sz)++news,el⟩),(n,dead el)]:=by
 intro S w0 β M' a w hsub hfr hrel hok K Q hk
 obtain⟨b',hb',hwk⟩:=hsub n b hb
 obtain rfl:b=b':=by rcases hwk with h|h;exact h;rw[hr]at h;exact absurd h.1 z9
 have hn':M'.get nm=none:=by
  rcases hfr nm (by simp[Mem.get])with h|h
  ·rw[hn]at h;cases h
  ·exact h
 have hev:=hok β (Agree.refl _ _) s (by simp[ho,Op.operands,Call.operands]) _ hs
 simp only[gv,V.g,cond_true]at hev
 obtain⟨h1,h2,h3⟩:=nP hsrc hsc hsub hrel (a:=a) (fun β' hag y hy=>hok β' hag x (by simp[ho,Op.operands,Call.operands]) y hy)
 obtain⟨u,w',β',hrun,hag,hrel',hu⟩:=jd (ty:=o.type) ht hz hrel hb' hr hel hl hn' h1 h2 h3 hby h63
 unfold Oper.wp execOp
 simp only[ho,resolve,invoke,builtin,Sem.run_bind,Sem.run_pure,Result.andThen_ok,HE,Ky,Kz,hev,hrun]
 refine hk β' u w' hag hrel' (fun β'' hag''=>?_)
 rw[hu]
 have:=hag'' nm (by simp[Mem.get])
 simp only[V.g,Cv.g,this]
theorem oU {P:Program}{o:Oper}{e:Env}{M:Mem}(nm:Nat){s x:Operand}{t tx el:TypeId}{sz k:Nat}{news:List Cv}{zs:List Value}{sc:Prop}(ho:o.op= .call {callee:= .builtin .append,args:= #[s,x],argTypes:= #[t,tx]})
  (ht:yX P t=some (el,sz)) (hz:zd P el=some zs) (hs:rd e s=some (true,.c (.v (.slice none 0 0)))) (hn:M.get nm=none)
  (hsrc:nQ P e M tx sz x=some (sc,k,news)) (hsc:sc) (hby:k*wD P el<=140737488355328) (h63:k<=9223372036854775807):
  Stp P o e M (.c (.sl nm 0 k sz)) [(nm,⟨false,news,el⟩)]:=by
 intro S w0 β M' a w hsub hfr hrel hok K Q hk
 have hn':M'.get nm=none:=by
  rcases hfr nm (by simp[Mem.get])with h|h
  ·rw[hn]at h;cases h
  ·exact h
 have hne:∀j b,M'.get j=some b->j≠nm:=fun j b hj hh=>by rw[hh,hn']at hj;cases hj
 have hev:=hok β (Agree.refl _ _) s (by simp[ho,Op.operands,Call.operands]) _ hs
 simp only[gv,V.g,Cv.g,cond_true]at hev
 obtain⟨h1,h2,h3⟩:=nP hsrc hsc hsub hrel (a:=a) (fun β' hag y hy=>hok β' hag x (by simp[ho,Op.operands,Call.operands]) y hy)
 obtain⟨hu,hsz,hsz0⟩:=yW ht
 obtain⟨i,z,hi,hz1,hz2,hz3⟩:=wa hz
 have hsi:i.size=sz:=by rw[<-wb hi];exact hsz
 subst hsi
 unfold Oper.wp execOp
 by_cases hk0:k=0
 ·subst hk0
  have hnews:news=[]:=Ia (by simpa using h3)
  subst hnews
  simp only[ho,resolve,invoke,builtin,Sem.run_bind,Sem.run_pure,Result.andThen_ok,HE,Ky,Kz,hev,u5 w t tx o.type el i hu hi _ _ h1]
  refine hk (fun j=>if j=nm then⟨0,0,0,true,none⟩else β j) _ w (fun j hj=>?_) (hrel.nil nm hn' el) (fun β'' hag=>?_)
  ·obtain⟨c,hc⟩:=JE.1 hj
   exact if_neg (hne j c hc)
  ·have:=hag nm (by simp[Mem.get])
   simp[V.g,Cv.g,Loc.emp,this]
 ·have hg:=run_append_grow_src (P:=P) w t tx o.type el i z hu hi hz1 none 0 0 [] (run_firstCells_none w.drew i.size 0 0 0) (a.eval x) k _ h1 zA zA (growslice_fits zA (by rw[<-vu hi];simpa using hby))
  simp only[J4,JG]at hg
  have hge:=grownCap_ge w k 0 el
  have hal:=(hrel.drew).allocJ nm hn' news (Builtin.zeroCells z.cells (grownCap w k 0 el-k)).toList el h2
  simp only[ho,resolve,invoke,builtin,Sem.run_bind,Sem.run_pure,Result.andThen_ok,HE,Ky,Kz,hev,hg]
  have e1:(news.map (Cv.g β)).toArray++Builtin.zeroCells z.cells (grownCap w k 0 el-k)=(news.map (Cv.g β)++(Builtin.zeroCells z.cells (grownCap w k 0 el-k)).toList).toArray:=by
   apply J7.1
   simp
  rw[e1]
  refine hk (fun j=>if j=nm then⟨w.heap.size,0,news.length+(Builtin.zeroCells z.cells (grownCap w k 0 el-k)).toList.length,false,none⟩else β j) _ _ (fun j hj=>?_) hal (fun β'' hag=>?_)
  ·obtain⟨c,hc⟩:=JE.1 hj
   exact if_neg (hne j c hc)
  ·have:=hag nm (by simp[Mem.get])
   simp only[V.g,Cv.g,this,if_true,JS,false_and,if_false,J4,Nat.sub_zero]
   rw[xY,hz2,h3,<-HS,Ih _ zA]
   congr 1
   omega
def Wq (l:List UInt8):Value:= .string ⟨l.toArray⟩
def bR (op:BinOp)(s u:ByteArray):Option (Prop×Value):=
 match op with
 | .add=>some (s.data.toList.length+u.data.toList.length<=9223372036854775807,Wq (s.data.toList++u.data.toList))
 | .eql=>some (True,.bool (s.data.toList==u.data.toList))
 | .neq=>some (True,.bool !(s.data.toList==u.data.toList))
 |_=>none
theorem bQ {P:Program}{op:BinOp}{ty:TypeId}{s u:ByteArray}{sc:Prop}{z:Value}(h:bR op s u=some (sc,z))(hs:sc)(ox oy:Operand)(w:World):
  ((do eqGuard op ty ox oy (.string s) (.string u);binOp op ty (.string s) (.string u):Sem Value)).run P w= .ok z w:=by
 cases op<;>simp[bR]at h<;>obtain⟨hsc,rfl⟩:=h
 ·have hle:=hsc.2 hs
  have hn:¬(IntKind.i64.max<((s.size:Int)+(u.size:Int))):=by
   rw[Lib.size_eq,Lib.size_eq]
   simp only[Array.length_toList]
   simp[IntKind.max,IntKind.signed,IntKind.bits]
   omega
  have:s++u=⟨(s.data.toList++u.data.toList).toArray⟩:=by
   apply ByteArray.ext
   rw[ByteArray.data_append]
   apply J7.1
   simp
  simp[eqGuard,binOp_string_add,Op.stringOp,Wq,this]
  omega
 ·simp[eqGuard,binOp_string_eql,Lib.toList_data]
 ·simp[eqGuard,binOp_string_neq,Lib.toList_data]
def ph (e:Env)(d:Nat):Option Operand->Option (Prop×Int)
 |none=>some (True,d)
 |some x=>match rD e x with
  |some (g,.int _ k)=>some (g=true,k)
  |_=>none
theorem uR {e:Env}{d:Nat}{x:Option Operand}{sc:Prop}{k:Int}(h:ph e d x=some (sc,k))(hs:sc){β:Vl}{a:Act}(hx:∀y,x=some y->∀z,rd e y=some z->a.eval y=gv β z):
  (x=none/\k=d)\/∃y kk,x=some y/\a.eval y= .int kk k:=by
 cases x with
 |none=>simp[ph]at h;exact .inl ⟨rfl,h.2.symm⟩
 |some y=>
  right
  simp only[ph]at h
  split at h<;>simp at h
  rename_i g kk k' hr
  obtain⟨h1,rfl⟩:=h
  have:=h1.2 hs;subst this
  refine⟨y,kk,rfl,?_⟩
  have:=hx y rfl _ (xC hr)
  simpa[gv,V.g,Cv.g]using this
def Q5 (P:Program)(e:Env)(M:Mem)(nx:Nat):Op->Option (Prop×V×Mem×Nat)
 | .indexAddr ty x i=>match rd e x,rD e i with
  |some (gx,.c (.sl n off len esz)),some (gi,.int _ k)=>match yX P ty with
   |some (_,sz)=>some (gx=true/\gi=true/\0<=k/\k<len/\sz=esz,.c (.p n (off+k.toNat*esz)),[],nx)
   |none=>none
  |some (gx,.c (.p n off)),some (gi,.int _ k)=>match kw P ty with
   |some (len,sz)=>some (gx=true/\gi=true/\0<=k/\k<len,.c (.p n (off+k.toNat*sz)),[],nx)
   |none=>none
  |_,_=>none
 | .index ty x i=>match rD e x,rD e i with
  |some (gx,.string s),some (gi,.int _ k)=>match tv P ty with
   |true=>some (gx=true/\gi=true/\0<=k/\k<s.data.toList.length,.c (.v (.int .u8 (s.data.toList.getD k.toNat 0).toNat)),[],nx)
   |false=>none
  |_,_=>none
 | .binOp op _ x y _=>match rD e x,rD e y with
  |some (gx,.string s),some (gy,.string u)=>match bR op s u with
   |some (sc,v)=>some ((gx=true/\gy=true)/\sc,.c (.v v),[],nx)
   |none=>none
  |_,_=>none
 | .slice ty x lo hi none=>match rd e x with
  |some (gx,.c (.sl n off len esz))=>match yX P ty,ph e 0 lo,ph e len hi,M.get n with
   |some (_,sz),some (s1,l),some (s2,h),some b=>some (gx=true/\sz=esz/\s1/\s2/\0<=l/\l<=h/\h<=len/\off+len*esz<=b.cells.length/\(l=0\/l<len),.c (.sl n (off+l.toNat*esz) (h-l).toNat esz),[],nx)
   |_,_,_,_=>none
  |some (gx,.c (.v (.string s)))=>match tv P ty,ph e 0 lo,ph e s.data.toList.length hi with
   |true,some (s1,l),some (s2,h)=>some (gx=true/\s1/\s2/\0<=l/\l<=h/\h<=s.data.toList.length,.c (.v (Wq ((s.data.toList.drop l.toNat).take (h-l).toNat))),[],nx)
   |_,_,_=>none
  |_=>none
 | .buildSlice ty len parts=>match yX P ty with
  |some (el,sz)=>match zd P el with
   |some zs=>match vo (rm len sz) e ((wR len zs).map .v) parts.toList with
    |some (sc,cs)=>some (sc/\len*sz<=16777216/\(M.get nx).isNone=true,.c (.sl nx 0 len sz),[(nx,⟨false,cs,el⟩)],nx+1)
    |none=>none
   |none=>none
  |none=>none
 | .makeSlice ty x y=>match yX P ty with
  |some (el,sz)=>match zd P el,rD e x,rD e y with
   |some zs,some (gx,.int _ l),some (gy,.int _ c)=>some (gx=true/\gy=true/\l=c/\0<=l/\l<=9223372036854775807/\(wD P el:Int)*l<=281474976710656/\(M.get nx).isNone=true,.c (.sl nx 0 l.toNat sz),[(nx,⟨false,wR l.toNat (zs.map .v),el⟩)],nx+1)
   |_,_,_=>none
  |none=>none
 | .call {callee:= .builtin .len,args:=as,argTypes:=tys}=>match as.toList,tys.toList with
  |[x],[ty]=>match rd e x with
   |some (g,.c (.sl _ _ len _))=>match yX P ty with
    |some _=>some (g=true,.c (.v (.int .i64 len)),[],nx)
    |none=>none
   |some (g,.c (.v (.slice _ n _)))=>match yX P ty with
    |some _=>some (g=true,.c (.v (.int .i64 n)),[],nx)
    |none=>none
   |some (g,.c (.v (.string s)))=>match tv P ty with
    |true=>some (g=true,.c (.v (.int .i64 s.data.toList.length)),[],nx)
    |false=>none
   |_=>none
  |_,_=>none
 | .call {callee:= .builtin .append,args:=as,argTypes:=tys}=>match as.toList,tys.toList with
  |[s,x],[t,tx]=>match rd e s,yX P t with
   |some (g,.c (.sl n 0 len sz)),some (el,sz')=>match M.get n,zd P el,nQ P e M tx sz x with
    |some b,some _,some (sc,k,news)=>some (g=true/\sz'=sz/\b.ro=false/\b.elem=el/\len*sz<=b.cells.length/\(M.get nx).isNone=true/\sc/\(len+k)*wD P el<=140737488355328/\len+k<=9223372036854775807,
      .c (.sl nx 0 (len+k) sz),[(nx,⟨false,b.cells.take (len*sz)++news,el⟩),(n,dead el)],nx+1)
    |_,_,_=>none
   |some (g,.c (.v (.slice none 0 0))),some (el,sz)=>match zd P el,nQ P e M tx sz x with
    |some _,some (sc,k,news)=>some (g=true/\(M.get nx).isNone=true/\sc/\k*wD P el<=140737488355328/\k<=9223372036854775807,.c (.sl nx 0 k sz),[(nx,⟨false,news,el⟩)],nx+1)
    |_,_=>none
   |_,_=>none
  |_,_=>none
 |_=>none
theorem XL {P:Program}{o:Oper}{e:Env}{M N:Mem}{nx nx':Nat}{v:V}{sc:Prop}(h:Q5 P e M nx o.op=some (sc,v,N,nx'))(hs:sc):Stp P o e M v N:=by
 cases ho:o.op<;>rw[ho]at h<;>simp only[Q5]at h<;>try (cases h;done)
 case indexAddr ty x i=>
  split at h<;>first|(cases h;done)|skip
  ·rename_i gx n off len esz gi ki k hx hi
   split at h<;>simp at h
   rename_i el sz hsl
   obtain⟨h1,rfl,rfl,rfl⟩:=h
   obtain⟨rfl,rfl,h0,hlt,rfl⟩:=h1.2 hs
   obtain⟨hu,hsz,hsz0⟩:=yW hsl
   exact Stp.pure fun β a hop w=>by
    have hex:=hop x (by simp[ho,Op.operands]) _ hx
    have hei:=hop i (by simp[ho,Op.operands]) _ (xC hi)
    simp only[gv,V.g,Cv.g,cond_true]at hex hei
    have hl:¬((β n).nul=true/\len=0):=fun hh=>by omega
    rw[if_neg hl]at hex
    unfold execOp
    simp[ho,hex,hei,Instr.indexAt,asIntOf,run_underlying hu,h0,hlt,yK hsz hsz0,V.g,Cv.g,Addr.add_lit,IC]
  ·rename_i gx n off gi ki k hx hi
   split at h<;>simp at h
   rename_i len sz hpa
   obtain⟨h1,rfl,rfl,rfl⟩:=h
   obtain⟨rfl,rfl,h0,hlt⟩:=h1.2 hs
   unfold kw at hpa
   split at hpa<;>first|(cases hpa;done)|skip
   rename_i len' el hu
   split at hpa<;>simp at hpa
   rename_i hsz0
   obtain⟨rfl,rfl⟩:=hpa
   exact Stp.pure fun β a hop w=>by
    have hex:=hop x (by simp[ho,Op.operands]) _ hx
    have hei:=hop i (by simp[ho,Op.operands]) _ (xC hi)
    simp only[gv,V.g,Cv.g,cond_true]at hex hei
    unfold execOp
    simp[ho,hex,hei,Instr.indexAt,Instr.sureAddr,asIntOf,run_underlying hu,h0,hlt,yK (P:=P) (t:=el) rfl hsz0,V.g,Cv.g,Addr.add_lit,IC]
 case index ty x i=>
  split at h<;>first|(cases h;done)|skip
  rename_i gx s gi ki k hx hi
  split at h<;>simp at h
  rename_i hst
  obtain⟨h1,rfl,rfl,rfl⟩:=h
  obtain⟨rfl,rfl,h0,hlt⟩:=h1.2 hs
  have hu:=uf hst
  exact Stp.pure fun β a hop w=>by
   have hex:=hop x (by simp[ho,Op.operands]) _ (xC hx)
   have hei:=hop i (by simp[ho,Op.operands]) _ (xC hi)
   simp only[gv,V.g,Cv.g,cond_true]at hex hei
   have hlt':k<(s.size:Int):=by rw[Lib.size_eq];simpa using hlt
   unfold execOp
   simp only[ho,hex,hei,Sem.run_bind,run_index_string w ty s ki k hu,dif_pos (And.intro h0 hlt'),Result.andThen_ok]
   have hk:k.toNat<s.data.size:=by
    have:s.size=s.data.size:=rfl
    omega
   have e1:s[k.toNat]'(by omega)=s.data[k.toNat]:=rfl
   simp[V.g,Cv.g,e1]
   rw[Jm hk];rfl
 case binOp op ty x y ty'=>
  split at h<;>first|(cases h;done)|skip
  rename_i gx s gy u hx hy
  split at h<;>simp at h
  rename_i sc' z hz
  obtain⟨h1,rfl,rfl,rfl⟩:=h
  obtain⟨⟨rfl,rfl⟩,k3⟩:=h1.2 hs
  exact Stp.pure fun β a hop w=>by
   have hex:=hop x (by simp[ho,Op.operands]) _ (xC hx)
   have hey:=hop y (by simp[ho,Op.operands]) _ (xC hy)
   simp only[gv,V.g,Cv.g,cond_true]at hex hey
   have:=bQ (P:=P) (ty:=ty) hz k3 x y w
   unfold execOp
   simp only[ho,hex,hey]
   rw[Sem.run_bind,this]
   simp[V.g,Cv.g]
 case slice ty x lo hi mx=>
  cases mx with
  |some _=>cases h
  |none=>
  simp only at h
  split at h<;>first|(cases h;done)|skip
  ·rename_i gx n off len esz hx
   split at h<;>simp at h
   rename_i el sz s1 l s2 hh b hsl h1 h2 hb
   obtain⟨k1,rfl,rfl,rfl⟩:=h
   obtain⟨rfl,rfl,c1,c2,hl0,hlh,hhl,hfit,hor⟩:=k1.2 hs
   obtain⟨hu,hsz,hsz0⟩:=yW hsl
   refine uw fun S w0 β M' a w hsub hrel hop=>?_
   have hex:=hop x (by simp[ho,Op.operands]) _ hx
   simp only[gv,V.g,cond_true]at hex
   have hsi:=hrel.siz hsub hb
   have hlo:=uR h1 c1 (β:=β) (a:=a) (fun y hy z hz=>hop y (by simp[ho,Op.operands,hy]) z hz)
   have hhi:=uR h2 c2 (β:=β) (a:=a) (fun y hy z hz=>hop y (by simp[ho,Op.operands,hy]) z hz)
   -- the capacity
   have hcap:len<=((β n).siz-off)/sz:=by
    rw[Nat.le_div_iff_mul_le zA]
    omega
   obtain⟨A,cap,hv,hcap',hA⟩:∃A cap,(Cv.sl n off len sz).g β= .slice A len cap/\len<=cap/\(((Value.slice A 0 cap=(β n).emp/\len=0)/\(β n).nul=true)\/(A=some ⟨(β n).blk,(β n).org+off,none⟩/\cap=((β n).siz-off)/sz/\¬((β n).nul=true/\len=0))):=by
    by_cases hq:(β n).nul=true/\len=0
    ·obtain⟨A,cap,he⟩:∃A cap,(β n).emp= .slice A 0 cap:=by
      unfold Loc.emp
      split
      ·exact⟨_,_,rfl⟩
      ·exact⟨_,_,rfl⟩
     refine⟨A,cap,?_,zA,.inl ⟨⟨he.symm,hq.2⟩,hq.1⟩⟩
     simp only[Cv.g,if_pos hq]
     rw[hq.2,he]
    ·exact⟨_,_,by simp only[Cv.g,if_neg hq],hcap,.inr ⟨rfl,rfl,hq⟩⟩
   rw[hv]at hex
   have hb1:(Instr.sliceBounds true len cap (lo.map a.eval) (hi.map a.eval) none).run P w= .ok (l.toNat,hh.toNat,cap) w:=by
    rcases hlo with⟨rfl,rfl⟩|⟨y,kk,rfl,hy⟩<;>rcases hhi with⟨rfl,rfl⟩|⟨y',kk',rfl,hy'⟩
    ·simp[Instr.sliceBounds]
    ·simp[Instr.sliceBounds,hy',run_sliceBound (P:=P) w kk' hh cap _ zA zA]
    ·simp[Instr.sliceBounds,hy,run_sliceBound (P:=P) w kk l len _ zA zA]
    ·have:=run_sliceBound (P:=P) w kk l hh.toNat .sliceB zA zA
     simp[Instr.sliceBounds,hy,hy',run_sliceBound (P:=P) w kk' hh cap _ zA zA,this]
   have hat:(Instr.sliceAt ty (a.eval x) (lo.map a.eval) (hi.map a.eval) (Option.map a.eval none)).run P w=(Instr.slice ty (a.eval x) (lo.map a.eval) (hi.map a.eval) none).run P w:=by
    simp[Instr.sliceAt,run_underlying hu]
   unfold execOp
   simp only[ho,Sem.run_bind,hat]
   rw[hex]
   simp only[Instr.slice,Sem.run_bind,run_underlying hu,Result.andThen_ok,hb1,yK hsz hsz0,Sem.run_pure,V.g]
   congr 2
   rcases hA with⟨⟨hemp,rfl⟩,hnu⟩|⟨rfl,rfl,hq⟩
   ·have e1:l=0:=zA
    have e2:hh=0:=zA
    subst e1 e2
    simp only[Cv.g,hnu,true_and,Int.sub_self,Int.toNat_zero,if_true,<-hemp]
    cases A<;>simp[Addr.add]
   ·by_cases hl:l=0
    ·subst hl
     have hq':∀z:Nat,(β n).nul=true/\z=0->False:=fun z hz=>by
      have:=hsi.2 hz.1
      rw[this]at hfit
      simp at hfit
      have:len=0:=by
       rcases Nat.eq_zero_or_pos len with h|h
       ·exact h
       ·have:=Nat.mul_pos h (Nat.pos_of_ne_zero hsz0);omega
      exact hq ⟨hz.1,this⟩
     simp only[Cv.g,Int.toNat_zero,HO,Jx,Nat.sub_zero,Int.sub_zero,if_neg (hq' _),Jj,Addr.add_lit]
     simp
    ·have hlt:l<len:=zA
     have hnu:(β n).nul=false:=by
      cases hz:(β n).nul with
      |false=>rfl
      |true=>
       have:=hsi.2 hz
       rw[this]at hfit
       simp at hfit
       have:=Nat.mul_pos (show 0<len by omega) (Nat.pos_of_ne_zero hsz0)
       omega
     have hne:((β n).siz-off)/sz≠l.toNat:=zA
     simp only[Cv.g,hnu,JS,false_and,if_false,if_neg hne,Jj,Addr.add_lit]
     have e1:hh.toNat-l.toNat=(hh-l).toNat:=zA
     have e2:((β n).siz-off)/sz-l.toNat=((β n).siz-(off+l.toNat*sz))/sz:=by
      rw[<-Nat.sub_sub,Nat.mul_comm l.toNat sz,Nat.sub_mul_div]
     rw[e1,e2,IC]
  ·rename_i gx s hx
   split at h<;>simp at h
   rename_i s1 l s2 hh hst h1 h2
   obtain⟨k1,rfl,rfl,rfl⟩:=h
   obtain⟨rfl,c1,c2,hl0,hlh,hhl⟩:=k1.2 hs
   have hu:=uf hst
   have hsz:s.size=s.data.size:=rfl
   exact Stp.pure fun β a hop w=>by
    have hex:=hop x (by simp[ho,Op.operands]) _ hx
    simp only[gv,V.g,Cv.g,cond_true]at hex
    have hlo:=uR h1 c1 (β:=β) (a:=a) (fun y hy z hz=>hop y (by simp[ho,Op.operands,hy]) z hz)
    have hhi:=uR h2 c2 (β:=β) (a:=a) (fun y hy z hz=>hop y (by simp[ho,Op.operands,hy]) z hz)
    have hb1:(Instr.sliceBounds false s.size s.size (lo.map a.eval) (hi.map a.eval) none).run P w= .ok (l.toNat,hh.toNat,s.size) w:=by
     rcases hlo with⟨rfl,rfl⟩|⟨y,kk,rfl,hy⟩<;>rcases hhi with⟨rfl,rfl⟩|⟨y',kk',rfl,hy'⟩
     ·simp[Instr.sliceBounds]
     ·simp[Instr.sliceBounds,hy',run_sliceBound (P:=P) w kk' hh s.size _ zA zA]
     ·simp[Instr.sliceBounds,hy,run_sliceBound (P:=P) w kk l s.size _ zA zA]
     ·have:=run_sliceBound (P:=P) w kk l hh.toNat .sliceB zA zA
      simp[Instr.sliceBounds,hy,hy',run_sliceBound (P:=P) w kk' hh s.size _ zA zA,this]
    have hat:(Instr.sliceAt ty (a.eval x) (lo.map a.eval) (hi.map a.eval) (Option.map a.eval none)).run P w=(Instr.slice ty (a.eval x) (lo.map a.eval) (hi.map a.eval) none).run P w:=by
     simp[Instr.sliceAt,run_underlying hu]
    have e1:hh.toNat-l.toNat=(hh-l).toNat:=zA
    unfold execOp
    simp only[ho,Sem.run_bind,hat]
    rw[hex]
    simp[Instr.slice,run_underlying hu,hb1,V.g,Cv.g,Wq,Lib.extract_eq,e1]
 case buildSlice ty len parts=>
  split at h<;>first|(cases h;done)|skip
  rename_i el sz hsl
  split at h<;>first|(cases h;done)|skip
  rename_i zs hz
  split at h<;>simp at h
  rename_i sc' cs hf
  obtain⟨k1,rfl,rfl,rfl⟩:=h
  obtain⟨c1,c2,c4⟩:=k1.2 hs
  exact Stp.buildSlice nx ho hsl hz c2 hf c1 (by simpa using c4)
 case makeSlice ty x y=>
  split at h<;>first|(cases h;done)|skip
  rename_i el sz hsl
  split at h<;>simp at h
  rename_i zs gx kl l gy kc c hz hx hy
  obtain⟨k1,rfl,rfl,rfl⟩:=h
  obtain⟨rfl,rfl,rfl,c1,c2,c3,c4⟩:=k1.2 hs
  exact Stp.makeSlice nx ho hsl hz (xC hx) (xC hy) c1 c2 c3 (by simpa using c4)
 case call c=>
  obtain⟨callee,as,tys⟩:=c
  cases callee<;>(try simp only at h)<;>try (cases h;done)
  rename_i b
  cases b<;>(try simp only at h)<;>try (cases h;done)
  ·split at h<;>first|(cases h;done)|skip
   rename_i s x t tx has htys
   obtain rfl:as= #[s,x]:=J7.1 has
   obtain rfl:tys= #[t,tx]:=J7.1 htys
   split at h<;>first|(cases h;done)|skip
   ·rename_i g n len sz el sz' hrs hsl
    split at h<;>simp at h
    rename_i b zs sc' k news hb hz hsrc
    obtain⟨k1,rfl,rfl,rfl⟩:=h
    obtain⟨rfl,rfl,c1,c2,c3,c4,c5,c6,c7⟩:=k1.2 hs
    exact Stp.append nx ho hsl hz hrs hb c1 c2 c3 (by simpa using c4) hsrc c5 c6 c7
   ·rename_i g el sz hrs hsl
    split at h<;>simp at h
    rename_i zs sc' k news hz hsrc
    obtain⟨k1,rfl,rfl,rfl⟩:=h
    obtain⟨rfl,c4,c5,c6,c7⟩:=k1.2 hs
    exact oU nx ho hsl hz hrs (by simpa using c4) hsrc c5 c6 c7
  ·split at h<;>first|(cases h;done)|skip
   rename_i x ty has htys
   obtain rfl:as= #[x]:=J7.1 has
   obtain rfl:tys= #[ty]:=J7.1 htys
   split at h<;>first|(cases h;done)|skip
   ·rename_i g n off len esz hx
    split at h<;>simp at h
    rename_i q hsl
    obtain⟨el,sz⟩:=q
    obtain⟨k1,rfl,rfl,rfl⟩:=h
    have:=k1.2 hs;subst this
    obtain⟨hu,_,_⟩:=yW hsl
    exact Stp.pure fun β a hop w=>by
     have hex:=hop x (by simp[ho,Op.operands,Call.operands]) _ hx
     simp only[gv,V.g,Cv.g,cond_true]at hex
     unfold execOp
     split at hex
     ·rename_i hq
      unfold Loc.emp at hex
      split at hex<;>simp[ho,resolve,invoke,builtin,hex,Builtin.len_,run_underlying hu,V.g,Cv.g,goInt,hq.2]
     ·simp[ho,resolve,invoke,builtin,hex,Builtin.len_,run_underlying hu,V.g,Cv.g,goInt]
   ·rename_i g o1 n1 c1 hx
    split at h<;>simp at h
    rename_i q hsl
    obtain⟨el,sz⟩:=q
    obtain⟨k1,rfl,rfl,rfl⟩:=h
    have:=k1.2 hs;subst this
    obtain⟨hu,_,_⟩:=yW hsl
    exact Stp.pure fun β a hop w=>by
     have hex:=hop x (by simp[ho,Op.operands,Call.operands]) _ hx
     simp only[gv,V.g,Cv.g,cond_true]at hex
     unfold execOp
     simp[ho,resolve,invoke,builtin,hex,Builtin.len_,run_underlying hu,V.g,Cv.g,goInt]
   ·rename_i g s hx
    split at h<;>simp at h
    rename_i hst
    obtain⟨k1,rfl,rfl,rfl⟩:=h
    have:=k1.2 hs;subst this
    have hu:=uf hst
    exact Stp.pure fun β a hop w=>by
     have hex:=hop x (by simp[ho,Op.operands,Call.operands]) _ hx
     simp only[gv,V.g,Cv.g,cond_true]at hex
     unfold execOp
     simp[ho,resolve,invoke,builtin,hex,Builtin.len_,run_underlying hu,V.g,Cv.g,goInt]
end Vg
namespace Vg
open Go.RowKit
theorem Rel.newRo {S:Bs}{w0 w w':World}{β:Vl}{M:Mem}(h:Rel S w0 β M w)(nm:Nat)(hn:M.get nm=none)(cs:List Cv)(siz:Nat)(el:TypeId)(hcs:∀b',Agree M β b'->cs.map (Cv.g b')=cs.map (Cv.g β))
  (hos:w'.os=w.os) (htp:w'.tape=w.tape) (hou:w'.output=w.output) (hsz:w'.heap.size=w.heap.size+1) (hold:∀i,i<w.heap.size->w'.heap[i]?=w.heap[i]?) (hr:w'.rangeAt w.heap.size 0 (cs.map (Cv.g β))) (hl:cs.length<=siz):
  Rel S w0 (fun k=>if k=nm then⟨w.heap.size,0,siz,false,none⟩else β k) ((nm,⟨true,cs,el⟩)::M) w':=by
 have hne:∀k b,M.get k=some b->k≠nm:=by rintro k b hk rfl;rw[hn]at hk;cases hk
 refine⟨⟨hos.trans h.fr.os,htp.trans h.fr.tape,hou.trans h.fr.output,IE h.fr.size zA,fun b hS hb=>?_⟩,⟨fun β' hag n b hb=>?_,fun n b hb hu=>?_,fun n m b b' hb hb' hnm hr hlv hu hu'=>?_⟩,fun n b hb hr hu hS=>?_,fun n l hl=>?_⟩
 ·rw[hold b (J1 hb h.fr.size)];exact h.fr.old b hS hb
 ·have hag0:Agree M β β':=fun k hk=>by
   have:=hag k (by rw[zE];split<;>simp_all)
   obtain⟨b,hb⟩:=JE.1 hk
   rw[this];exact if_neg (hne k b hb)
  rw[zE]at hb
  split at hb
  ·rename_i hk
   subst hk
   simp at hb
   subst hb
   have hl':β' n=⟨w.heap.size,0,siz,false,none⟩:=by have:=hag n (by rw[zE];simp);simpa using this
   unfold BkOk
   rw[if_neg (by simp[hl']),if_pos z9,hl']
   refine⟨?_,hl⟩
   rw[hcs β' hag0]
   exact hr
  ·have hold':=h.mem.ok β' hag0 n b hb
   cases hu:(β n).nul with
   |true=>
    have hβ:=hag0 n (by simp[hb])
    unfold BkOk at hold'⊢
    rw[if_pos (by rw[hβ];exact hu)]at hold'⊢
    exact hold'
   |false=>
    refine hold'.same ?_
    rw[hold _ ?_]
    rw[hag0 n (by simp[hb])]
    exact h.mem.there n b hb hu
 ·rw[zE]at hb
  split at hb
  ·rename_i hk;simp only[if_pos hk];omega
  ·rename_i hk
   simp only[if_neg hk]at hu⊢
   have:=h.mem.there n b hb hu
   omega
 ·rw[zE]at hb hb'
  split at hb
  ·rename_i hk
   split at hb'
   ·rename_i hk';omega
   ·rename_i hk'
    simp only[if_pos hk,if_neg hk']at hu'⊢
    have:=h.mem.there m b' hb' hu'
    omega
  ·rename_i hk
   split at hb'
   ·rename_i hk'
    simp only[if_pos hk',if_neg hk]at hu⊢
    have:=h.mem.there n b hb hu
    omega
   ·rename_i hk'
    simp only[if_neg hk',if_neg hk]at hu hu'⊢
    exact h.mem.apart n m b b' hb hb' hnm hr hlv hu hu'
 ·rw[zE]at hb
  split at hb
  ·rename_i hk
   simp at hb
   subst hb
   cases hr
  ·rename_i hk
   simp only[if_neg hk]at hS hu⊢
   exact h.own n b hb hr hu hS
 ·obtain⟨p1,p2⟩:=h.pin n l hl
  have hnn:n≠nm:=by rintro rfl;rw[hn]at p1;cases p1
  exact⟨by rw[zE,if_neg hnn];exact p1,by simp only[if_neg hnn];exact p2⟩
theorem lm {P:Program}{o:Oper}{e:Env}{M:Mem}(nm:Nat){src dst el:TypeId}{x:Operand}{s:ByteArray}(ho:o.op= .convert src dst x)(hx:rd e x=some (true,.c (.v (.string s))))(hs:(P.underlying src).isSome=true)(hd:yX P dst=some (el,1))(hk:vB P el=some .u8)(hn:M.get nm=none):
  Stp P o e M (.c (.sl nm 0 s.data.toList.length 1)) [(nm,⟨true,s.data.toList.map uQ,el⟩)]:=by
 intro S w0 β M' a w hsub hfr hrel hok K Q hkk
 have hn':M'.get nm=none:=by
  rcases hfr nm (by simp[Mem.get])with h|h
  ·rw[hn]at h;cases h
  ·exact h
 have hne:∀j b,M'.get j=some b->j≠nm:=fun j b hj hh=>by rw[hh,hn']at hj;cases hj
 have hev:=hok β (Agree.refl _ _) x (by simp[ho,Op.operands]) _ hx
 simp only[gv,V.g,Cv.g,cond_true]at hev
 obtain⟨u,hu⟩:=JE.1 hs
 obtain⟨hud,_,_⟩:=yW hd
 have hue:P.underlying el=some (.int .u8):=by
  unfold vB at hk
  split at hk<;>simp at hk
  rename_i k' hq
  rw[hq,hk]
 have hrun:=Go.Lib.run_convert_string_bytes (P:=P) w src dst el s hu hud hue
 have hge:=grownCap_ge w s.size 0 el
 have hss:s.size=s.data.toList.length:=rfl
 unfold Oper.wp execOp
 simp only[ho,hev,Sem.run_bind,hrun,Result.andThen_ok,Sem.run_pure]
 have hR:=hrel.newRo (w':=Go.Lib.bytesWorld w el s) nm hn' (s.data.toList.map uQ) (grownCap w s.size 0 el) el (fun b' _=>by simp[uQ,Cv.g]) rfl rfl rfl (Go.Lib.bytesWorld_size w el s) (fun i hi=>Go.Lib.bytesWorld_at_old w el s i hi) (fun j v hj=>by
   rw[JO,JO]at hj
   cases hq:s.data.toList[j]? with
   |none=>simp[hq]at hj
   |some b=>
    have hlt:j<s.size:=by rw[hss];exact(JW.1 hq).1
    simp only[hq,Jj,Ji,uQ,Cv.g]at hj
    rw[J4,Go.Lib.bytesWorld_cell w el s j hlt,<-hj,Kx,hq]
    rfl) (by simp only[Kv];omega)
 refine hkk _ _ _ (fun j hj=>?_) hR (fun β'' hag=>?_)
 ·obtain⟨c,hc⟩:=JE.1 hj
  exact if_neg (hne j c hc)
 ·have:=hag nm (by simp[Mem.get])
  simp only[V.g,Cv.g,this,if_true,JS,false_and,if_false,Nat.sub_zero,Nat.div_one,Jx]
  rw[hss]
theorem lw {P:Program}{o:Oper}{e:Env}{M:Mem}(nm:Nat){s x:Operand}{t tx el:TypeId}{sz k n off:Nat}{news:List Cv}{zs:List Value}{sc:Prop}(ho:o.op= .call {callee:= .builtin .append,args:= #[s,x],argTypes:= #[t,tx]})
  (ht:yX P t=some (el,sz)) (hz:zd P el=some zs) (hs:rd e s=some (true,.c (.s0 n off))) (hn:M.get nm=none)
  (hsrc:nQ P e M tx sz x=some (sc,k,news)) (hsc:sc) (hk0:k≠0) (hby:k*wD P el<=140737488355328) (h63:k<=9223372036854775807):
  Stp P o e M (.c (.sl nm 0 k sz)) [(nm,⟨false,news,el⟩)]:=by
 intro S w0 β M' a w hsub hfr hrel hok K Q hk
 have hn':M'.get nm=none:=by
  rcases hfr nm (by simp[Mem.get])with h|h
  ·rw[hn]at h;cases h
  ·exact h
 have hne:∀j b,M'.get j=some b->j≠nm:=fun j b hj hh=>by rw[hh,hn']at hj;cases hj
 have hev0:=hok β (Agree.refl _ _) s (by simp[ho,Op.operands,Call.operands]) _ hs
 obtain⟨A,hev⟩:∃A,a.eval s= .slice A 0 0:=by
  simp only[gv,V.g,Cv.g,cond_true]at hev0
  split at hev0
  ·unfold Loc.em0 at hev0
   split at hev0
   ·exact⟨_,hev0⟩
   ·exact⟨_,hev0⟩
  ·exact⟨_,hev0⟩
 obtain⟨h1,h2,h3⟩:=nP hsrc hsc hsub hrel (a:=a) (fun β' hag y hy=>hok β' hag x (by simp[ho,Op.operands,Call.operands]) y hy)
 obtain⟨hu,hsz,hsz0⟩:=yW ht
 obtain⟨i,z,hi,hz1,hz2,hz3⟩:=wa hz
 have hsi:i.size=sz:=by rw[<-wb hi];exact hsz
 subst hsi
 have hfc:(Builtin.firstCells i.size 0 (.slice A 0 0)).run P w.drew= .ok ([]:List Value).toArray w.drew:=by
  cases A with
  |none=>exact run_firstCells_none w.drew i.size 0 0 0
  |some ad=>
   have hl:=run_loadCells_list (P:=P) w.drew ad [] z9
   simp only[J9]at hl
   simp[Builtin.firstCells,hl]
 unfold Oper.wp execOp
 have hg:=run_append_grow_src (P:=P) w t tx o.type el i z hu hi hz1 A 0 0 [] hfc (a.eval x) k _ h1 zA zA (growslice_fits zA (by rw[<-vu hi];simpa using hby))
 simp only[J4,JG]at hg
 have hge:=grownCap_ge w k 0 el
 have hal:=(hrel.drew).allocJ nm hn' news (Builtin.zeroCells z.cells (grownCap w k 0 el-k)).toList el h2
 simp only[ho,resolve,invoke,builtin,Sem.run_bind,Sem.run_pure,Result.andThen_ok,HE,Ky,Kz,hev,hg]
 have e1:(news.map (Cv.g β)).toArray++Builtin.zeroCells z.cells (grownCap w k 0 el-k)=(news.map (Cv.g β)++(Builtin.zeroCells z.cells (grownCap w k 0 el-k)).toList).toArray:=by
  apply J7.1
  simp
 rw[e1]
 refine hk (fun j=>if j=nm then⟨w.heap.size,0,news.length+(Builtin.zeroCells z.cells (grownCap w k 0 el-k)).toList.length,false,none⟩else β j) _ _ (fun j hj=>?_) hal (fun β'' hag=>?_)
 ·obtain⟨c,hc⟩:=JE.1 hj
  exact if_neg (hne j c hc)
 ·have:=hag nm (by simp[Mem.get])
  simp only[V.g,Cv.g,this,if_true,JS,false_and,if_false,J4,Nat.sub_zero]
  rw[xY,hz2,h3,<-HS,Ih _ zA]
  congr 1
  omega
def ow (e:Env):List Operand->Option (Prop×List (Nat×Nat))
 |[]=>some (True,[])
 |x::r=>match rd e x,ow e r with
  |some (g,.c (.p n off)),some (sc,cs)=>some (g=true/\sc,(n,off)::cs)
  |_,_=>none
theorem lb {e:Env}{β:Vl}{a:Act}:∀{l:List Operand} {sc:Prop} {cs:List (Nat×Nat)},ow e l=some (sc,cs)->sc->(∀x,x∈l->∀y,rd e x=some y->a.eval x=gv β y)->l.map a.eval=cs.map fun c=>xl β c.1 c.2
 |[],sc,cs,h,_,_=>by simp[ow]at h;simp[h.2]
 |x::r,sc,cs,h,hs,hop=>by
  simp only[ow]at h
  split at h<;>simp at h
  rename_i g n off sc' cs' hx hr
  obtain⟨h1,rfl⟩:=h
  have hh:=h1.2 hs
  obtain⟨rfl,hs'⟩:=hh
  have:=hop x z9 _ hx
  simp only[gv,V.g,Cv.g,cond_true]at this
  simp only[Ky,this,lb hr hs' (fun y hy=>hop y (by simp[hy])),xl]
def jG (acc:Int):List (Option (Bool×Value))->Option (Prop×Int)
 |[]=>some (True,acc)
 |some (g,.int .i64 b)::r=>match jG (max acc b) r with
  |some (sc,n)=>some (g=true/\sc,n)
  |none=>none
 |_=>none
def V3:List (Option (Bool×Value))->Option (Prop×Int)
 |some (g,.int .i64 a)::r=>match jG a r with
  |some (sc,n)=>some (g=true/\sc,n)
  |none=>none
 |_=>none
theorem eH {P:Program}{w:World}(a b:Int):(Builtin.max2 (.int .i64 a) (.int .i64 b)).run P w= .ok (.int .i64 (max a b)) w:=by
 simp only[Builtin.max2]
 split<;>simp<;>omega
theorem eu {P:Program}{w:World}{e:Env}{ev:Operand->Value}:∀(l:List Operand) (acc n:Int) (sc:Prop),jG acc (l.map (rD e))=some (sc,n)->sc->(∀x∈l,∀g v,rD e x=some (g,v)->g=true->ev x=v)->
  ((l.map ev).foldlM Builtin.max2 (.int .i64 acc)).run P w= .ok (.int .i64 n) w
 |[],acc,n,sc,h,_,_=>by simp[jG]at h;simp[h.2]
 |x::l,acc,n,sc,h,hs,hev=>by
  rw[Ky,jG.eq_def]at h
  cases hx:rD e x with
  |none=>rw[hx]at h;simp at h
  |some q=>
   obtain⟨g,v⟩:=q
   rw[hx]at h
   split at h
   ·rename_i hh;cases hh
   ·rename_i g' b r hh
    cases hh
    split at h<;>simp at h
    rename_i sc' n' hr
    obtain⟨h1,rfl⟩:=h
    obtain⟨rfl,h2⟩:=h1.2 hs
    have ih:=eu (P:=P) (w:=w) l _ _ _ hr h2 (fun y hy=>hev y (by simp[hy]))
    have hv:=hev x z9 _ _ hx rfl
    rw[Ky,List.foldlM_cons,Sem.run_bind,hv,eH (P:=P)]
    exact ih
   ·cases h
theorem XO {P:Program}{w:World}{e:Env}{ev:Operand->Value}(l:List Operand)(n:Int)(sc:Prop)(tys:Array TypeId)(ty:TypeId)(h:V3 (l.map (rD e))=some (sc,n))(hs:sc)(hev:∀x∈l,∀g v,rD e x=some (g,v)->g=true->ev x=v):
  (Builtin.max_ tys ty (l.map ev).toArray).run P w= .ok (.int .i64 n) w:=by
 cases l with
 |nil=>simp[V3]at h
 |cons x l=>
  rw[Ky,V3.eq_def]at h
  cases hx:rD e x with
  |none=>rw[hx]at h;simp at h
  |some q=>
   obtain⟨g,v⟩:=q
   rw[hx]at h
   split at h
   ·rename_i g' b r hh
    cases hh
    split at h<;>simp at h
    rename_i sc' n' hr
    obtain⟨h1,rfl⟩:=h
    obtain⟨rfl,h2⟩:=h1.2 hs
    have ih:=eu (P:=P) (w:=w) (ev:=ev) l _ _ _ hr h2 (fun y hy=>hev y (by simp[hy]))
    have hv:=hev x z9 _ _ hx rfl
    simp only[Builtin.max_,Ky,hv]
    exact ih
   ·cases h
def Q4 (P:Program)(e:Env)(M:Mem)(nx:Nat):Op->Option (Prop×V×Mem×Nat)
 | .makeFunc (.func f) first captured=>match first.toList,ow e captured.toList with
  |[],some (sc,caps)=>some (sc,.c (.fn f caps),[],nx)
  |_,_=>none
 | .slice ty x lo (some hi) (some mx)=>match rd e x with
  |some (gx,.c (.sl n off len esz))=>match yX P ty,ph e 0 lo,ph e 0 (some hi),ph e 0 (some mx),M.get n with
   |some (_,sz),some (s1,l),some (s2,h),some (s3,m),some b=>some (gx=true/\sz=esz/\s1/\s2/\s3/\l=0/\h=0/\m=0/\off+len*esz<=b.cells.length,.c (.s0 n off),[],nx)
   |_,_,_,_,_=>none
  |_=>none
 | .call {callee:= .builtin .append,args:=as,argTypes:=tys}=>match as.toList,tys.toList with
  |[s,x],[t,tx]=>match rd e s,yX P t with
   |some (g,.c (.s0 _ _)),some (el,sz)=>match zd P el,nQ P e M tx sz x with
    |some _,some (sc,k,news)=>some (g=true/\(M.get nx).isNone=true/\sc/\k≠0/\k*wD P el<=140737488355328/\k<=9223372036854775807,.c (.sl nx 0 k sz),[(nx,⟨false,news,el⟩)],nx+1)
    |_,_=>none
   |_,_=>none
  |_,_=>none
 | .call {callee:= .builtin .max,args:=as,argTypes:=_}=>match V3 (as.toList.map (rD e))with
  |some (sc,n)=>some (sc,.c (.v (.int .i64 n)),[],nx)
  |none=>none
 | .convert src dst x=>match rD e x,yX P dst with
  |some (g,.string s),some (el,sz)=>match vB P el with
   |some .u8=>some (g=true/\sz=1/\(P.underlying src).isSome=true/\(M.get nx).isNone=true,.c (.sl nx 0 s.data.toList.length 1),[(nx,⟨true,s.data.toList.map uQ,el⟩)],nx+1)
   |_=>none
  |_,_=>none
 |_=>none
theorem XK {P:Program}{o:Oper}{e:Env}{M N:Mem}{nx nx':Nat}{v:V}{sc:Prop}(h:Q4 P e M nx o.op=some (sc,v,N,nx'))(hs:sc):Stp P o e M v N:=by
 cases ho:o.op<;>rw[ho]at h<;>simp only[Q4]at h<;>try (cases h;done)
 case makeFunc fn first captured=>
  cases fn<;>simp only at h<;>try (cases h;done)
  split at h<;>simp at h
  rename_i f sc' caps hf hc
  obtain⟨h1,rfl,rfl,rfl⟩:=h
  have hsc:=h1.2 hs
  exact Stp.pure fun β a hop w=>by
   have hcap:=lb hc hsc (a:=a) (β:=β) (fun y hy z hz=>hop y (by simp only[ho,Op.operands];simp at hy;simp[hy]) z hz)
   have hfe:first= #[]:=by simpa using hf
   subst hfe
   have hca:captured.map a.eval=(caps.map fun c=>xl β c.1 c.2).toArray:=by
    apply J7.1
    rw[Ie,hcap]
   unfold execOp
   simp[ho,Instr.makeFunc,hca,V.g,Cv.g]
 case slice ty x lo hi mx=>
  cases hi with
  |none=>cases h
  |some hi=>
  cases mx with
  |none=>cases h
  |some mx=>
  simp only at h
  split at h<;>first|(cases h;done)|skip
  rename_i gx n off len esz hx
  split at h<;>simp at h
  rename_i el sz s1 l s2 hh s3 m b hsl h1 h2 h3 hb
  obtain⟨k1,rfl,rfl,rfl⟩:=h
  obtain⟨rfl,rfl,c1,c2,c3,rfl,rfl,rfl,hfit⟩:=k1.2 hs
  obtain⟨hu,hsz,hsz0⟩:=yW hsl
  refine uw fun S w0 β M' a w hsub hrel hop=>?_
  have hex:=hop x (by simp[ho,Op.operands]) _ hx
  simp only[gv,V.g,cond_true]at hex
  have hsi:=hrel.siz hsub hb
  have hlo:=uR h1 c1 (β:=β) (a:=a) (fun y hy z hz=>hop y (by simp[ho,Op.operands,hy]) z hz)
  have hhi:=uR h2 c2 (β:=β) (a:=a) (fun y hy z hz=>hop y (by simp[ho,Op.operands];simp at hy;simp[hy]) z hz)
  have hmx:=uR h3 c3 (β:=β) (a:=a) (fun y hy z hz=>hop y (by simp[ho,Op.operands];simp at hy;simp[hy]) z hz)
  obtain⟨A,cap,hv,hA⟩:∃A cap,(Cv.sl n off len sz).g β= .slice A len cap/\((Value.slice A 0 0=(β n).em0/\(β n).nul=true)\/(A=some ⟨(β n).blk,(β n).org+off,none⟩/\(β n).nul=false)):=by
   by_cases hq:(β n).nul=true
   ·have hl0:len=0:=by
     have:=hsi.2 hq
     rw[this]at hfit
     simp at hfit
     rcases Nat.eq_zero_or_pos len with h|h
     ·exact h
     ·have:=Nat.mul_pos h (Nat.pos_of_ne_zero hsz0);omega
    obtain⟨A,cap,he,he0⟩:∃A cap,(β n).emp= .slice A 0 cap/\(β n).em0= .slice A 0 0:=by
     unfold Loc.emp Loc.em0
     cases (β n).odd with
     |none=>exact⟨_,_,rfl,rfl⟩
     |some x=>exact⟨_,_,rfl,rfl⟩
    refine⟨A,cap,?_,.inl ⟨he0.symm,hq⟩⟩
    subst hl0
    simp only[Cv.g]
    rw[if_pos ⟨hq,trivial⟩,he]
   ·have hq':(β n).nul=false:=by simpa using hq
    exact⟨_,_,by simp only[Cv.g];rw[if_neg (fun hh:(β n).nul=true/\len=0=>hq hh.1)],.inr ⟨rfl,hq'⟩⟩
  rw[hv]at hex
  have z0:∀kk (y:Nat) code,(Instr.sliceBound (.int kk 0) y code).run P w= .ok 0 w:=fun kk y code=>by
   have:=run_sliceBound (P:=P) w kk 0 y code zA zA
   simpa using this
  obtain⟨y',kk',hy',hev'⟩:∃y kk,some hi=some y/\a.eval y= .int kk 0:=by
   rcases hhi with⟨h,_⟩|h
   ·cases h
   ·exact h
  obtain⟨y'',kk'',hy'',hev''⟩:∃y kk,some mx=some y/\a.eval y= .int kk 0:=by
   rcases hmx with⟨h,_⟩|h
   ·cases h
   ·exact h
  cases hy';cases hy''
  have hb1:(Instr.sliceBounds true len cap (lo.map a.eval) (some (a.eval hi)) (some (a.eval mx))).run P w= .ok (0,0,0) w:=by
   rcases hlo with⟨rfl,_⟩|⟨y,kk,rfl,hy⟩
   ·simp[Instr.sliceBounds,hev',hev'',z0]
   ·simp[Instr.sliceBounds,hev',hev'',hy,z0]
  have hat:(Instr.sliceAt ty (a.eval x) (lo.map a.eval) (some (a.eval hi)) (some (a.eval mx))).run P w=(Instr.slice ty (a.eval x) (lo.map a.eval) (some (a.eval hi)) (some (a.eval mx))).run P w:=by
   simp[Instr.sliceAt,run_underlying hu]
  unfold execOp
  simp only[ho,Jj,Sem.run_bind,hat]
  rw[hex]
  simp only[Instr.slice,Sem.run_bind,run_underlying hu,Result.andThen_ok,hb1,yK hsz hsz0,Sem.run_pure,V.g]
  congr 2
  rcases hA with⟨he0,hnu⟩|⟨rfl,hnu⟩
  ·simp[Cv.g,hnu,<-he0]
  ·simp[Cv.g,hnu]
 case call c=>
  obtain⟨callee,as,tys⟩:=c
  cases callee<;>(try simp only at h)<;>try (cases h;done)
  rename_i b
  cases b<;>(try simp only at h)<;>try (cases h;done)
  ·split at h<;>first|(cases h;done)|skip
   rename_i s x t tx has hty
   have has':as= #[s,x]:=by cases as;simp_all
   have hty':tys= #[t,tx]:=by cases tys;simp_all
   subst has' hty'
   split at h<;>first|(cases h;done)|skip
   rename_i g n off el sz hs0 hsl
   split at h<;>simp at h
   rename_i zs sc' k news hz hsrc
   obtain⟨h1,rfl,rfl,rfl⟩:=h
   obtain⟨rfl,k1,k2,k3,k4,k5⟩:=h1.2 hs
   exact lw nx ho hsl hz hs0 (by simpa using k1) hsrc k2 k3 k4 k5
  ·split at h<;>simp at h
   rename_i sc' n hm
   obtain⟨h1,rfl,rfl,rfl⟩:=h
   have hsc:=h1.2 hs
   exact Stp.pure fun β a hop w=>by
    have hmx:=XO (P:=P) (w:=w) (ev:=a.eval) as.toList n sc' tys o.type hm hsc (fun x hx g v hr hg=>by
     have:=hop x (by rw[ho];exact Array.mem_def.2 hx|>fun h=>by simpa[Op.operands,Call.operands]using h) _ (xC hr)
     subst hg
     simpa[gv,V.g,Cv.g]using this)
    unfold execOp
    have e1:(as.toList.map a.eval).toArray=as.map a.eval:=by rw[<-Ie]
    rw[e1]at hmx
    simp[ho,resolve,invoke,builtin,V.g,Cv.g,hmx]
 case convert src dst x=>
  split at h<;>first|(cases h;done)|skip
  rename_i g s el sz hx hsl
  split at h<;>simp at h
  rename_i hk
  obtain⟨h1,rfl,rfl,rfl⟩:=h
  obtain⟨rfl,rfl,k1,k2⟩:=h1.2 hs
  exact lm nx ho (xC hx) k1 hsl hk (by simpa using k2)
def Wa (P:Program)(e:Env)(M:Mem)(nx:Nat)(op:Op):Option (Prop×V×Mem×Nat):=
 match Q5 P e M nx op with
 |some r=>some r
 |none=>Q4 P e M nx op
theorem jD {P:Program}{o:Oper}{e:Env}{M N:Mem}{nx nx':Nat}{v:V}{sc:Prop}(h:Wa P e M nx o.op=some (sc,v,N,nx'))(hs:sc):Stp P o e M v N:=by
 unfold Wa at h
 split at h
 ·rename_i r hr
  cases h
  exact XL hr hs
 ·exact XK h hs
end Vg
namespace Vg
open Go.RowKit
def pu (P:Program)(f:FuncId)(xs:List V)(v:V):Prop:=∀(β:Vl) (w:World),(callFunc f (xs.map (V.g β)).toArray).run P w= .ok (.value (v.g β)) w
def mI (P:Program)(f:FuncId)(xs:List V)(M:Mem)(v:V)(N:Mem):Prop:=CallOk P f xs M v N\/(N=[]/\pu P f xs v)
theorem fR {P:Program}{o:Oper}{e:Env}{M:Mem}{f:FuncId}{as:Array Operand}{tys:Array TypeId}{vs:List V}{v:V}(ho:o.op= .call {callee:= .value (.func f),args:=as,argTypes:=tys})
  (hvs:as.toList.map (rd e)=vs.map fun x=>some (true,x)) (hc:pu P f vs v):Stp P o e M v []:=by
 refine Stp.pure fun β a hop w=>?_
 have hargs:as.map a.eval=(vs.map (V.g β)).toArray:=by
  apply J7.1
  simp only[Ie]
  apply Jn
  intro i
  have hi:=congrArg (·[i]?) hvs
  simp only[JO,IH]at hi⊢
  cases hx:as[i]? with
  |none=>simp[hx]at hi⊢;cases hv:vs[i]?<;>simp_all
  |some x=>
   cases hv:vs[i]? with
   |none=>simp[hx,hv]at hi
   |some y=>
    simp[hx,hv]at hi
    have hm:x∈as:=I6 hx
    have:=hop x (by simp[ho,Op.operands,Call.operands,hm]) _ hi
    simpa[gv]using this
 unfold execOp
 rw[ho]
 simp only[resolve,Act.eval,Deferred.ofValue,invoke,Sem.run_bind,Sem.run_pure,Result.andThen_ok,hargs]
 have:=hc β w
 simpa using this
theorem fW {P:Program}{o:Oper}{e:Env}{M M1 N:Mem}{f:FuncId}{as:Array Operand}{tys:Array TypeId}{vs:List V}{v:V}(ho:o.op= .call {callee:= .value (.func f),args:=as,argTypes:=tys})
  (hvs:as.toList.map (rd e)=vs.map fun x=>some (true,x)) (hc:mI P f vs M1 v N) (hs:Sub M1 M) (hcl:ClM M1) (hfr:Fresh N M1 M):Stp P o e M v N:=by
 rcases hc with hc|⟨rfl,hc⟩
 ·exact Stp.call ho hvs hc hs hcl hfr
 ·exact fR ho hvs hc
def v6 (e:Env):Op->Option (Bool×FuncId×List (Option (Bool×V)))
 | .call {callee:= .value (.func f),args:=as,..}=>some (true,f,as.toList.map (rd e))
 | .call {callee:= .value (.tmp t),args:=as,..}=>match e.get t with
  |some (g,.c (.fn f caps))=>some (g,f,as.toList.map (rd e)++caps.map fun c=>some (true,nw c))
  |some (g,.c (.v (.func (.func f) first caps)))=>match first.toList with
   |[]=>some (g,f,as.toList.map (rd e)++caps.toList.map fun c=>some (true,v9 c))
   |_=>none
  |_=>none
 |_=>none
theorem rh {A:List (Option (Bool×V))}{caps:List Value}{xs:List V}(h:A++caps.map (fun c=>some (true,v9 c))=xs.map fun x=>some (true,x)):
  ∃ys,xs=ys++caps.map v9/\A=ys.map fun x=>some (true,x):=by
 obtain⟨ys,zs,rfl,h1,h2⟩:=List.map_eq_append_iff.1 h.symm
 refine⟨ys,?_,h1.symm⟩
 congr 1
 have:zs.map (fun x=>some (true,x))=(caps.map v9).map fun x=>some (true,x):=by rw[h2,Ja];rfl
 exact List.map_inj_right (fun a b hab=>by simpa using hab)|>.1 this
theorem pk {o:Oper}{e:Env}{as:Array Operand}{tys:Array TypeId}{vs:List V}{β:Vl}{a:Act}{cl:Callee}(ho:o.op= .call {callee:=cl,args:=as,argTypes:=tys})
  (hvs:as.toList.map (rd e)=vs.map fun x=>some (true,x)) (hop:∀x,x∈o.op.operands->∀y,rd e x=some y->a.eval x=gv β y):as.map a.eval=(vs.map (V.g β)).toArray:=by
 apply J7.1
 simp only[Ie]
 apply Jn
 intro i
 have hi:=congrArg (·[i]?) hvs
 simp only[JO,IH]at hi⊢
 cases hx:as[i]? with
 |none=>simp[hx]at hi⊢;cases hv:vs[i]?<;>simp_all
 |some x=>
  cases hv:vs[i]? with
  |none=>simp[hx,hv]at hi
  |some y=>
   simp[hx,hv]at hi
   have hm:x∈as:=I6 hx
   have:=hop x (by simp[ho,Op.operands,Call.operands,hm]) _ hi
   simpa[gv]using this
theorem nA {P:Program}{o:Oper}{e:Env}{M':Mem}{f:FuncId}{caps:Array Value}{x:Operand}{as:Array Operand}{tys:Array TypeId}{vs:List V}{β:Vl}{a:Act}{w:World}(ho:o.op= .call {callee:= .value x,args:=as,argTypes:=tys})
  (hx:rd e x=some (true,.c (.v (.func (.func f) #[] caps)))) (hvs:as.toList.map (rd e)=vs.map fun x=>some (true,x)) (hent:Enters P f) (hok:mE β M' e o a):(execOp a.eval o).run P w= .ok (.enter f ((vs++caps.toList.map v9).map (V.g β)).toArray) w:=by
 have hargs:=pk ho hvs (hok β (Agree.refl _ _))
 have hf:a.eval x= .func (.func f) #[] caps:=by
  have:=hok β (Agree.refl _ _) x (by simp[ho,Op.operands,Call.operands]) _ hx
  simpa[gv,V.g,Cv.g]using this
 have hcc:((vs++caps.toList.map v9).map (V.g β)).toArray=(vs.map (V.g β)).toArray++caps:=by
  apply J7.1
  simp[Function.comp_def,lW]
 have hrs:((do let d <-resolve a.eval {callee:= .value x,args:=as,argTypes:=tys} o.type;invoke d.target d.args:Sem Next)).run P w= .ok (.enter f ((vs++caps.toList.map v9).map (V.g β)).toArray) w:=by
  simp only[resolve,hf,Deferred.ofValue,invoke,hargs,Sem.run_bind,Sem.run_pure,Result.andThen_ok]
  rw[hent,hcc]
  simp
 unfold execOp
 rw[ho]
 exact hrs
theorem jg {P:Program}{o:Oper}{e:Env}{M:Mem}{f:FuncId}{caps:Array Value}{x:Operand}{as:Array Operand}{tys:Array TypeId}{vs:List V}{v:V}(ho:o.op= .call {callee:= .value x,args:=as,argTypes:=tys})
  (hx:rd e x=some (true,.c (.v (.func (.func f) #[] caps)))) (hvs:as.toList.map (rd e)=vs.map fun x=>some (true,x)) (hc:pu P f (vs++caps.toList.map v9) v):Stp P o e M v []:=by
 refine Stp.pure fun β a hop w=>?_
 have hargs:=pk (β:=β) (a:=a) ho hvs hop
 have hf:a.eval x= .func (.func f) #[] caps:=by
  have:=hop x (by simp[ho,Op.operands,Call.operands]) _ hx
  simpa[gv,V.g,Cv.g]using this
 have hcc:((vs++caps.toList.map v9).map (V.g β)).toArray=(vs.map (V.g β)).toArray++caps:=by
  apply J7.1
  simp[Function.comp_def,lW]
 unfold execOp
 rw[ho]
 simp only[resolve,hf,Deferred.ofValue,invoke,Sem.run_bind,Sem.run_pure,Result.andThen_ok,hargs]
 have:=hc β w
 rw[hcc]at this
 simpa using this
theorem qu {A:List (Option (Bool×V))}{caps:List (Nat×Nat)}{xs:List V}(h:A++caps.map (fun c=>some (true,nw c))=xs.map fun x=>some (true,x)):
  ∃ys,xs=ys++caps.map nw/\A=ys.map fun x=>some (true,x):=by
 obtain⟨ys,zs,rfl,h1,h2⟩:=List.map_eq_append_iff.1 h.symm
 refine⟨ys,?_,h1.symm⟩
 congr 1
 have:zs.map (fun x=>some (true,x))=(caps.map nw).map fun x=>some (true,x):=by rw[h2,Ja];rfl
 exact List.map_inj_right (fun a b hab=>by simpa using hab)|>.1 this
theorem jh {P:Program}{o:Oper}{e:Env}{M:Mem}{f:FuncId}{caps:List (Nat×Nat)}{x:Operand}{as:Array Operand}{tys:Array TypeId}{vs:List V}{v:V}(ho:o.op= .call {callee:= .value x,args:=as,argTypes:=tys})
  (hx:rd e x=some (true,.c (.fn f caps))) (hvs:as.toList.map (rd e)=vs.map fun x=>some (true,x)) (hc:pu P f (vs++caps.map nw) v):Stp P o e M v []:=by
 refine Stp.pure fun β a hop w=>?_
 have hargs:as.map a.eval=(vs.map (V.g β)).toArray:=by
  apply J7.1
  simp only[Ie]
  apply Jn
  intro i
  have hi:=congrArg (·[i]?) hvs
  simp only[JO,IH]at hi⊢
  cases hx:as[i]? with
  |none=>simp[hx]at hi⊢;cases hv:vs[i]?<;>simp_all
  |some x=>
   cases hv:vs[i]? with
   |none=>simp[hx,hv]at hi
   |some y=>
    simp[hx,hv]at hi
    have hm:x∈as:=I6 hx
    have:=hop x (by simp[ho,Op.operands,Call.operands,hm]) _ hi
    simpa[gv]using this
 have hf:a.eval x= .func (.func f) #[] (caps.map fun c=>xl β c.1 c.2).toArray:=by
  have:=hop x (by simp[ho,Op.operands,Call.operands]) _ hx
  simpa[gv,V.g,Cv.g]using this
 unfold execOp
 rw[ho]
 simp only[resolve,hf,Deferred.ofValue,invoke,Sem.run_bind,Sem.run_pure,Result.andThen_ok,hargs]
 have:=hc β w
 simpa[V.g,Cv.g,xl,Function.comp_def]using this
theorem fU {P:Program}{o:Oper}{e:Env}{M M1 N:Mem}{f:FuncId}{vs:List (Option (Bool×V))}{xs:List V}{v:V}(hq:v6 e o.op=some (true,f,vs))
  (hvs:vs=xs.map fun x=>some (true,x)) (hc:mI P f xs M1 v N) (hs:Sub M1 M) (hcl:ClM M1) (hfr:Fresh N M1 M):Stp P o e M v N:=by
 unfold v6 at hq
 split at hq
 ·rename_i f' as tys ho
  simp only[Ji,I3,true_and]at hq
  obtain⟨rfl,rfl⟩:=hq
  exact fW ho hvs hc hs hcl hfr
 ·rename_i t as tys ho
  split at hq
  ·rename_i g f' caps ht
   simp only[Ji,I3]at hq
   obtain⟨rfl,rfl,rfl⟩:=hq
   obtain⟨ys,rfl,hA⟩:=qu hvs
   rcases hc with hc|⟨rfl,hc⟩
   ·exact fV ho ht hA hc hs hcl hfr
   ·exact jh ho ht hA hc
  ·rename_i g f' first caps ht
   split at hq
   ·rename_i hfi
    have hfi:first= #[]:=by simpa using hfi
    subst hfi
    simp only[Ji,I3]at hq
    obtain⟨rfl,rfl,rfl⟩:=hq
    obtain⟨ys,rfl,hA⟩:=rh hvs
    rcases hc with hc|⟨rfl,hc⟩
    ·exact uV (fun β M' a w hok hent=>nA ho ht hA hent hok) hc hs hcl hfr
    ·exact jg ho ht hA hc
   ·cases hq
  ·cases hq
 ·cases hq
theorem nE {P:Program}{o:Oper}{e:Env}{M':Mem}{f:FuncId}{vs:List (Option (Bool×V))}{xs:List V}{β:Vl}{a:Act}{w:World}(hq:v6 e o.op=some (true,f,vs))
  (hvs:vs=xs.map fun x=>some (true,x)) (hent:Enters P f) (hok:mE β M' e o a):(execOp a.eval o).run P w= .ok (.enter f (xs.map (V.g β)).toArray) w:=by
 unfold v6 at hq
 split at hq
 ·rename_i f' as tys ho
  simp only[Ji,I3,true_and]at hq
  obtain⟨rfl,rfl⟩:=hq
  exact nD ho hvs hent hok
 ·rename_i t as tys ho
  split at hq
  ·rename_i g f' caps ht
   simp only[Ji,I3]at hq
   obtain⟨rfl,rfl,rfl⟩:=hq
   obtain⟨ys,rfl,hA⟩:=qu hvs
   exact nB ho ht hA hent hok
  ·rename_i g f' first caps ht
   split at hq
   ·rename_i hfi
    have hfi:first= #[]:=by simpa using hfi
    subst hfi
    simp only[Ji,I3]at hq
    obtain⟨rfl,rfl,rfl⟩:=hq
    obtain⟨ys,rfl,hA⟩:=rh hvs
    exact nA ho ht hA hent hok
   ·cases hq
  ·cases hq
 ·cases hq
def StpC (P:Program)(S:Bs)(w0:World)(o:Oper)(e:Env)(M:Mem)(v:V)(N:Mem):Prop:=
 ∀β M' a w,Sub M M'->Fresh N M M'->Rel S w0 β M' w->mE β M' e o a->
  ∀(K:Act->World->Prop) (Q:Exit->Act->World->Prop),
   (∀β' u w',Agree M' β β'->Rel S w0 β' (N++M') w'->(∀β'',Agree (N++M') β' β''->u=v.g β'')->K (a.put o.dst u) w')->o.wp P a w K Q
theorem Stp.toC {P:Program}{S:Bs}{w0:World}{o:Oper}{e:Env}{M:Mem}{v:V}{N:Mem}(h:Stp P o e M v N):StpC P S w0 o e M v N:=fun β M' a w=>h S w0 β M' a w
def jl (P:Program)(C:Cx)(f:FuncId)(xs:List V)(M:Mem)(v:V)(N:Mem):Prop:=mI P f xs M v N\/oG P C.S C.w0 f xs M v N
theorem ll {P:Program}{S:Bs}{w0:World}{o:Oper}{e:Env}{M M1 N:Mem}{f:FuncId}{vs:List (Option (Bool×V))}{xs:List V}{v:V}(hq:v6 e o.op=some (true,f,vs))
  (hvs:vs=xs.map fun x=>some (true,x)) (hc:oG P S w0 f xs M1 v N) (hs:Sub M1 M) (hfr:Fresh N M1 M):StpC P S w0 o e M v N:=by
 intro β M' a w hsub hfr' hrel hok K Q hk
 have hfresh:∀k,(N.get k).isSome=true->(M'.get k).isSome=true->(M1.get k).isSome=true:=by
  intro k h1 h2
  rcases hfr' k h1 with h|h
  ·rcases hfr k h1 with h3|h3
   ·exact h3
   ·rw[h3]at h;cases h
  ·rw[h]at h2;cases h2
 unfold Oper.wp
 rw[nE (M':=M') hq hvs hc.1 hok,Oper.upon_enter]
 refine(hc.2 β w M' hrel (hs.trans hsub) hfresh).mono ?_
 rintro en w' ⟨β2,u,rfl,h1,h2,h3⟩
 exact hk β2 u w' h1 h2 h3
theorem qD {P:Program}{C:Cx}{o:Oper}{e:Env}{M M1 N:Mem}{f:FuncId}{vs:List (Option (Bool×V))}{xs:List V}{v:V}(hq:v6 e o.op=some (true,f,vs))
  (hvs:vs=xs.map fun x=>some (true,x)) (hc:jl P C f xs M1 v N) (hs:Sub M1 M) (hcl:ClM M1) (hfr:Fresh N M1 M):StpC P C.S C.w0 o e M v N:=by
 rcases hc with hc|hc
 ·exact(fU hq hvs hc hs hcl hfr).toC
 ·exact ll hq hvs hc hs hfr
theorem W5 {P:Program}{nt:Nat}{C:Cx}{rg:Array Oper}{o:Oper}{l:List Oper}{r:List It}{e:Env}{M:Mem}{g:Bool}{v:V}{N:Mem}(hg:gd rg e o=some g)(hd:∀t,o.dst=some t->t<nt)
  (hN:g=true\/N=[]) (hs:g=true->StpC P C.S C.w0 o e M v N) (hr:Sm P nt C (.ops rg l::r) (e.put o.dst g v) (N++M)):Sm P nt C (.ops rg (o::l)::r) e M:=fun β a w h1 h2 h3 h4=>by
 have hw:Region.wanted o (yielded rg a.tmps)=g:=tV (β:=β) hg (fun j want t y _ _ hy=>h2 β (Agree.refl _ _) t y hy)
 show wpListIn (tj C.lp) 0 P rg (xO P C.lp C.Q r) (o::l) a w
 refine wpListIn_step fun K hK=>?_
 rw[hw]
 cases g with
 |true=>
  simp only[if_true]
  refine yw C.lp (tW hg).1 ?_
  refine hs rfl β M a w (Sub.refl _) (Fresh.same _ _) h1 (fun β' hb x _ y hy=>wY h2 hb hy) K _ ?_
  intro β' u w' hag hrel hu
  refine hK _ _ (hr β' _ w' hrel ?_ ?_ ?_)
  ·exact h2.put hag h3 hd (fun β'' hb=>by rw[hu β'' hb];rfl)
  ·cases o.dst<;>simp[Act.put,h3]
  ·cases o.dst<;>simp[Act.put,h4]
 |false=>
  simp only[JS,if_false]
  obtain rfl:N=[]:=by rcases hN with hN|hN;exact absurd hN z9;exact hN
  refine⟨fun f _=>p8 _ f,?_⟩
  refine hK _ _ (hr β _ w h1 ?_ ?_ ?_)
  ·exact h2.put (N:=[]) (Agree.refl _ _) h3 hd (fun β'' _=>rfl)
  ·cases o.dst<;>simp[Act.put,h3]
  ·cases o.dst<;>simp[Act.put,h4]
theorem Sm.enter {P:Program}{nt:Nat}{C:Cx}{rg:Array Oper}{o:Oper}{l:List Oper}{r:List It}{e:Env}{M:Mem}{f:FuncId}{vs:List (Option (Bool×V))}{xs:List V}(hg:gd rg e o=some true)(hq:v6 e o.op=some (true,f,vs))(hvs:vs=xs.map fun x=>some (true,x))(hent:Enters P f)
  (h:∀β (a:Act) w,Rel C.S C.w0 β M w->EnvOk β M e a->a.tmps.size=nt->a.defers=C.df->Calls P f (xs.map (V.g β)).toArray w fun en w'=>∃u,en= .returned u/\xO P C.lp C.Q (.ops rg l::r) .normal (a.put o.dst u) w'):Sm P nt C (.ops rg (o::l)::r) e M:=fun β a w h1 h2 h3 h4=>by
 have hw:Region.wanted o (yielded rg a.tmps)=true:=tV (β:=β) hg (fun j want t y _ _ hy=>h2 β (Agree.refl _ _) t y hy)
 show wpListIn (tj C.lp) 0 P rg (xO P C.lp C.Q r) (o::l) a w
 refine wpListIn_step fun K hK=>?_
 rw[hw]
 simp only[if_true]
 refine yw C.lp (tW hg).1 ?_
 unfold Oper.wp
 rw[nE (M':=M) hq hvs hent (fun β' hb x _ y hy=>wY h2 hb hy),Oper.upon_enter]
 refine(h β a w h1 h2 h3 h4).mono ?_
 rintro en w' ⟨u,rfl,hc⟩
 exact hK _ _ hc
def CallQ (P:Program)(nt:Nat)(C:Cx)(f:FuncId)(vs:List (Option (Bool×V)))(g:Bool)(dst:Option Nat)(todo:List It)(e:Env)(M:Mem):Prop:=
 (∃(M1 N:Mem) (v:V) (xs:List V),(g=true->vs=xs.map fun x=>some (true,x))/\(g=true->jl P C f xs M1 v N)/\Sub M1 M/\ClM M1/\Fresh N M1 M/\(g=true\/N=[])/\Sm P nt C todo (e.put dst g v) (N++M))\/
 (g=true/\∃xs:List V,vs=xs.map (fun x=>some (true,x))/\Enters P f/\∀β (a:Act) w,Rel C.S C.w0 β M w->EnvOk β M e a->a.tmps.size=nt->a.defers=C.df->
  Calls P f (xs.map (V.g β)).toArray w fun en w'=>∃u,en= .returned u/\xO P C.lp C.Q todo .normal (a.put dst u) w')
def Kb (P:Program)(nt:Nat)(C:Cx)(o:Oper)(g:Bool)(todo:List It)(e:Env)(M:Mem):Prop:=
 ∃(N:Mem) (v:V),(g=true->Stp P o e M v N)/\(g=true\/N=[])/\Sm P nt C todo (e.put o.dst g v) (N++M)
def yy (nt:Nat):Option Nat->Bool
 |some d=>decide (d<nt)
 |none=>true
def rM (id:Nat):List It->Option (List It)
 |[]=>none
 | .endB j::r=>bif j==id then some r else rM id r
 |_::r=>rM id r
def RetQ (C:Cx)(e:Env)(M:Mem):Prop:=
 ∀β (a:Act) w,Rel C.S C.w0 β M w->EnvOk β M e a->a.defers=C.df->C.Q .ret a w
def gN:Bool->Mem->Mem
 |true,N=>N
 |false,_=>[]
@[go_sem] theorem Ls (N:Mem):gN true N=N:=rfl
@[go_sem] theorem Lt (N:Mem):gN false N=[]:=rfl
@[go_sem] theorem Pk (g:Bool):gN g []=[]:=by cases g<;>rfl
theorem cY {P:Program}{nt:Nat}{C:Cx}{rg:Array Oper}{o:Oper}{l:List Oper}{r:List It}{e:Env}{M N:Mem}{v:V}{g:Bool}(hg:gd rg e o=some g)(hd:∀t,o.dst=some t->t<nt)(hN:g=true\/g=false\/N=[])(hs:g=true->Stp P o e M v N)(h:Sm P nt C (.ops rg l::r) (e.put o.dst g v) (gN g N++M)):Sm P nt C (.ops rg (o::l)::r) e M:=by
 rcases hN with rfl|rfl|rfl
 ·exact Sm.op hg hd (.inl rfl) hs h
 ·exact Sm.op (N:=[]) hg hd (.inr rfl) (fun hh=>by cases hh) h
 ·rw[Pk]at h
  exact Sm.op hg hd (.inr rfl) hs h
def run (P:Program)(nt:Nat)(C:Cx):Nat->List It->Env->Mem->Nat->Prop
 |0,todo,e,M,_=>Sm P nt C todo e M
 |fuel+1,todo,e,M,nx=>
  match todo with
  |[]=>Sm P nt C [] e M
  | .stop J::r=>Sm P nt C (.stop J::r) e M
  | .rnd b n::r=>
   match n with
   |0=>False
   |n+1=>run P nt C fuel (.code b:: .rnd b n::r) e M nx
  | .endB _::r=>run P nt C fuel r e M nx
  | .ops _ []::r=>run P nt C fuel r e M nx
  | .ops rg (o::l)::r=>
   match gd rg e o with
   |none=>Sm P nt C (.ops rg (o::l)::r) e M
   |some g=>
    match Wb P e M nx o.dst.isNone o.op with
    |some (sc,v,N,nx')=>(yy nt o.dst=true/\(g=true->sc)/\(g=true\/g=false\/N=[]))/\run P nt C fuel (.ops rg l::r) (e.put o.dst g v) (gN g N++M) nx'
    |none=>
     match Wa P e M nx o.op with
     |some (sc,v,N,nx')=>(yy nt o.dst=true/\(g=true->sc)/\(g=true\/g=false\/N=[]))/\run P nt C fuel (.ops rg l::r) (e.put o.dst g v) (gN g N++M) nx'
     |none=>
      match v6 e o.op with
      |some (g',f,vs)=>(yy nt o.dst=true/\(g=true->g'=true))/\CallQ P nt C f vs g o.dst (.ops rg l::r) e M
      |none=>Sm P nt C (.ops rg (o::l)::r) e M
  | .code c::r=>
   match c with
   | .skip=>run P nt C fuel r e M nx
   | .seq x y=>run P nt C fuel (.code x:: .code y::r) e M nx
   | .block id x=>run P nt C fuel (.code x:: .endB id::r) e M nx
   | .exit id=>
    match rM id r with
    |some r'=>run P nt C fuel r' e M nx
    |none=>False
   | .ret=>RetQ C e M
   | .region _ rg false=>run P nt C fuel (.ops rg rg.toList::r) e M nx
   | .cond c x y=>
    match rD e c with
    |some (g,.bool t)=>g=true/\(match t with|true=>run P nt C fuel (.code x::r) e M nx|false=>run P nt C fuel (.code y::r) e M nx)
    |_=>False
   |c=>Sm P nt C (.code c::r) e M
theorem rT {P:Program}{nt:Nat}{C:Cx}{id:Nat}{e:Env}{M:Mem}:∀{r r':List It},rM id r=some r'->Sm P nt C r' e M->Mw P nt C id r e M
 |[],_,h,_=>by cases h
 |it::r,r',h,k=>by
  intro β a w h1 h2 h3 h4
  cases it with
  |endB j=>
   simp only[rM]at h
   show(if id=j then xO P C.lp C.Q r .normal a w else xO P C.lp C.Q r (.exit id) a w)
   cases hj:(j==id)with
   |true=>
    rw[hj]at h
    simp at h hj
    subst h
    rw[if_pos hj.symm]
    exact k β a w h1 h2 h3 h4
   |false=>
    rw[hj]at h
    simp at h hj
    rw[if_neg (fun hh=>hj hh.symm)]
    exact rT h k β a w h1 h2 h3 h4
  |code c=>exact rT (r:=r) h k β a w h1 h2 h3 h4
  |ops rg l=>exact rT (r:=r) h k β a w h1 h2 h3 h4
  |stop J=>exact rT (r:=r) h k β a w h1 h2 h3 h4
  |rnd b n=>exact rT (r:=r) h k β a w h1 h2 h3 h4
theorem yP {P:Program}{nt:Nat}{C:Cx}:∀(fuel:Nat) (todo:List It) (e:Env) (M:Mem) (nx:Nat),run P nt C fuel todo e M nx->Sm P nt C todo e M:=by
 intro fuel
 induction fuel with
 |zero=>intro todo e M nx h;exact h
 |succ fuel ih=>
  intro todo e M nx h
  simp only[run]at h
  split at h
  ·exact h
  ·exact h
  ·split at h
   ·exact h.elim
   ·exact Sm.rnd (ih _ _ _ _ h)
  ·exact Sm.endB (ih _ _ _ _ h)
  ·exact fX (ih _ _ _ _ h)
  ·rename_i rg o l r
   split at h
   ·exact h
   ·rename_i g hg
    have hd:yy nt o.dst=true->∀t,o.dst=some t->t<nt:=by
     intro hh t ht
     rw[ht]at hh
     simpa[yy]using hh
    split at h
    ·rename_i sc v N nx' hop
     obtain⟨⟨h1,h2,h3⟩,h4⟩:=h
     exact cY hg (hd h1) h3 (fun hgt=>jE hop (h2 hgt)) (ih _ _ _ _ h4)
    ·split at h
     ·rename_i sc v N nx' hop
      obtain⟨⟨h1,h2,h3⟩,h4⟩:=h
      exact cY hg (hd h1) h3 (fun hgt=>jD hop (h2 hgt)) (ih _ _ _ _ h4)
     split at h
     ·rename_i g' f vs hop
      rcases h with⟨⟨h1,h2⟩,⟨M1,N,v,xs,k1,k2,k3,k4,k5,k6,k7⟩|⟨k1,xs,k2,k3,k4⟩⟩
      ·exact W5 hg (hd h1) k6 (fun hgt=>qD (by rw[hop,h2 hgt]) (k1 hgt) (k2 hgt) k3 k4 k5) k7
      ·subst k1
       exact Sm.enter hg (by rw[hop,h2 rfl]) k2 k3 k4
     ·exact h
  ·split at h
   ·exact Sm.skip (ih _ _ _ _ h)
   ·exact Sm.seq (ih _ _ _ _ h)
   ·exact Sm.block (ih _ _ _ _ h)
   ·split at h
    ·rename_i r' hr
     exact Sm.exit (rT hr (ih _ _ _ _ h))
    ·exact h.elim
   ·exact Sm.ret fun β a w h1 h2 _ h4=>h β a w h1 h2 h4
   ·exact Sm.region (ih _ _ _ _ h)
   ·split at h
    ·rename_i g t hc
     obtain⟨rfl,h⟩:=h
     refine Sm.cond (xC hc) (fun ht=>?_) (fun hf=>?_)
     ·subst ht;exact ih _ _ _ _ h
     ·subst hf;exact ih _ _ _ _ h
    ·exact h.elim
   ·exact h
theorem wn {nt:Nat}{d:Option Nat}(h:yy nt d=true):∀t,d=some t->t<nt:=by
 intro t ht
 rw[ht]at h
 simpa[yy]using h
theorem uW {P:Program}{nt:Nat}{C:Cx}{rg:Array Oper}{o:Oper}{l:List Oper}{r:List It}{e:Env}{M:Mem}{g:Bool}(hg:gd rg e o=some g)(hd:yy nt o.dst=true)(h:Kb P nt C o g (.ops rg l::r) e M):Sm P nt C (.ops rg (o::l)::r) e M:=by
 obtain⟨N,v,k1,k2,k3⟩:=h
 exact Sm.op hg (wn hd) k2 k1 k3
theorem x8 {P:Program}{nt:Nat}{C:Cx}{rg:Array Oper}{o:Oper}{l:List Oper}{r:List It}{e:Env}{M:Mem}{x y:Operand}{t1 t2:TypeId}{n off len esz:Nat}(hg:gd rg e o=some true)(hd:yy nt o.dst=true)(ho:o.op= .binOp .eql t1 x y t2)
  (hx:rd e x=some (true,.c (.sl n off len esz))) (hy:rd e y=some (true,.c (.v (.slice none 0 0)))) (hsl:(yX P t1).isSome=true)
  (ht:len=0->Sm P nt C (.ops rg l::r) (e.put o.dst true (.c (.v (.bool true)))) M) (hf:Sm P nt C (.ops rg l::r) (e.put o.dst true (.c (.v (.bool false)))) M):Sm P nt C (.ops rg (o::l)::r) e M:=fun β a w h1 h2 h3 h4=>by
 have hw:Region.wanted o (yielded rg a.tmps)=true:=tV (β:=β) hg (fun j want t y _ _ hy=>h2 β (Agree.refl _ _) t y hy)
 have hrun:∀v:Bool,(execOp a.eval o).run P w= .ok (.value (.bool v)) w->Sm P nt C (.ops rg l::r) (e.put o.dst true (.c (.v (.bool v)))) M->xO P C.lp C.Q (.ops rg (o::l)::r) .normal a w:=by
  intro v hv hS
  show wpListIn (tj C.lp) 0 P rg (xO P C.lp C.Q r) (o::l) a w
  refine wpListIn_step fun K hK=>?_
  rw[hw]
  simp only[if_true]
  refine yw C.lp (tW hg).1 ?_
  unfold Oper.wp
  rw[hv]
  refine hK _ _ (hS β _ w h1 ?_ ?_ ?_)
  ·exact h2.put (N:=[]) (Agree.refl _ _) h3 (wn hd) (fun β'' _=>rfl)
  ·cases o.dst<;>simp[Act.put,h3]
  ·cases o.dst<;>simp[Act.put,h4]
 have ex:a.eval x=(Cv.sl n off len esz).g β:=by
  have:=wY h2 (Agree.refl _ _) hx
  simpa[gv,V.g]using this
 have ey:a.eval y= .slice none 0 0:=by
  have:=wY h2 (Agree.refl _ _) hy
  simpa[gv,V.g,Cv.g]using this
 obtain⟨⟨el,sz⟩,hs⟩:=JE.1 hsl
 obtain⟨hu,_,_⟩:=yW hs
 by_cases hn:(β n).nul=true/\len=0
 ·cases hod:(β n).odd with
  |none=>
   refine hrun true ?_ (ht hn.2)
   have ex':a.eval x= .slice none 0 0:=by rw[ex];simp[Cv.g,hn,Loc.emp,hod]
   unfold execOp
   have hq:=fun w=>run_equal_slice_nil (P:=P) w t1 el none 0 0 hu
   simp[ho,ex',ey,eqGuard,binOp,hq]
  |some q=>
   refine hrun false ?_ hf
   have ex':a.eval x= .slice (some q.1) 0 q.2:=by rw[ex];simp[Cv.g,hn,Loc.emp,hod]
   unfold execOp
   have hq:=fun w=>run_equal_slice_nil (P:=P) w t1 el (some q.1) 0 q.2 hu
   simp[ho,ex',ey,eqGuard,binOp,hq]
 ·refine hrun false ?_ hf
  have ex':a.eval x= .slice (some ⟨(β n).blk,(β n).org+off,none⟩) len (((β n).siz-off)/esz):=by rw[ex];simp only[Cv.g,if_neg hn]
  unfold execOp
  have hq:=fun w=>run_equal_slice_nil (P:=P) w t1 el (some ⟨(β n).blk,(β n).org+off,none⟩) len (((β n).siz-off)/esz) hu
  simp[ho,ex',ey,eqGuard,binOp,hq]
def V.toW:V->Option W
 | .c x=>some (.c x)
 | .agg xs=>some (.agg xs)
 | .tup _=>none
theorem Z0 {v:V}{x:W}(h:v.toW=some x)(β:Vl):x.g β=v.g β:=by cases v<;>simp[V.toW]at h<;>subst h<;>rfl
def eS (P:Program)(e:Env)(M:Mem):ResultVar->Option (Prop×V)
 | .tmp t=>match e.get t with
  |some (g,v)=>some (g=true,v)
  |none=>none
 | .cell a ty=>match e.get a with
  |some (g,.c (.p n off))=>match M.get n,z5 P ty with
   |some b,some true=>some (g=true/\zm P ty≠0/\off+zm P ty<=b.cells.length,.agg ((b.cells.drop off).take (zm P ty)))
   |some b,some false=>match b.cells[off]? with
    |some c=>some (g=true,.c c)
    |none=>none
   |_,_=>none
  |_=>none
def mv (P:Program)(e:Env)(M:Mem):List ResultVar->Option (Prop×List W)
 |[]=>some (True,[])
 |x::r=>match eS P e M x,mv P e M r with
  |some (sc,v),some (sc',ws)=>match v.toW with
   |some y=>some (sc/\sc',y::ws)
   |none=>none
  |_,_=>none
def sA (P:Program)(e:Env)(M:Mem)(l:List ResultVar):Option (Prop×V):=
 match mv P e M l with
 |some (sc,[x])=>some (sc,x.toV)
 |some (sc,ws)=>some (sc,.tup ws)
 |none=>none
def ui (tmps:Array Value):ResultVar->Sem Value
 | .tmp t=>Pure.pure (tmps.getD t undef)
 | .cell b t=>do loadVar t (<-asAddr (tmps.getD b undef))
theorem pE (fn:Func)(tmps:Array Value):results fn tmps=(do let vs <-fn.results.mapM (ui tmps);Pure.pure (if h:vs.size=1 then vs[0]else .tuple vs)):=by
 unfold results
 congr 1
theorem bq {P:Program}{S:Bs}{w0 w:World}{β:Vl}{e:Env}{M:Mem}{a:Act}(hrel:Rel S w0 β M w)(hen:EnvOk β M e a){x:ResultVar}{sc:Prop}{v:V}(h:eS P e M x=some (sc,v))(hs:sc):
  (ui a.tmps x).run P w= .ok (v.g β) w:=by
 cases x with
 |tmp t=>
  simp only[eS]at h
  split at h<;>simp at h
  rename_i g v' hx
  obtain⟨h1,rfl⟩:=h
  have:=h1.2 hs;subst this
  have:=hen β (Agree.refl _ _) t _ hx
  simp only[gv,cond_true]at this
  show Sem.run P (Pure.pure (a.tmps.getD t undef)) w=_
  rw[this];rfl
 |cell b ty=>
  simp only[eS]at h
  split at h<;>first|(cases h;done)|skip
  rename_i g n off hx
  have he:=hen β (Agree.refl _ _) b _ hx
  split at h
  ·rename_i bk hb ha
   simp at h
   obtain⟨h1,rfl⟩:=h
   obtain⟨rfl,k1,k2⟩:=h1.2 hs
   simp only[gv,V.g,Cv.g,cond_true]at he
   have hr2:=uj (hrel.range (Sub.refl _) hb) off (zm P ty)
   have hlen:((bk.cells.map (Cv.g β)).drop off|>.take (zm P ty)).length=zm P ty:=by simp;omega
   unfold z5 at ha
   cases hu:P.underlying ty with
   |none=>simp[hu]at ha
   |some d=>
    have hd:d.isRow=true:=by cases d<;>simp_all
    have hld:=run_loadVar_mid (P:=P) w (β n).blk ((β n).org+off) ty _ d hr2 hu hd (by rw[hlen];exact uM rfl k1)
    simp only[ui,he,asAddr,Sem.run_bind,Sem.run_pure,Result.andThen_ok,hld]
    simp[V.g,ID,Iq]
  ·rename_i bk hb ha
   split at h<;>simp at h
   rename_i c hc
   obtain⟨h1,rfl⟩:=h
   have:=h1.2 hs;subst this
   simp only[gv,V.g,Cv.g,cond_true]at he
   have hcc:=(hrel.range (Sub.refl _) hb) off (c.g β) (by simp[hc])
   simp only[ui,he,asAddr,Sem.run_bind,Sem.run_pure,Result.andThen_ok,loadVar,xJ ha,JS,if_false,run_load,hcc,Sem.run_ite,V.g]
  ·cases h
theorem iF {P:Program}{S:Bs}{w0 w:World}{β:Vl}{e:Env}{M:Mem}{a:Act}(hrel:Rel S w0 β M w)(hen:EnvOk β M e a):∀(l:List ResultVar) (sc:Prop) (ws:List W),mv P e M l=some (sc,ws)->sc->
  (l.mapM (ui a.tmps)).run P w= .ok (ws.map (W.g β)) w
 |[],sc,ws,h,_=>by simp[mv]at h;simp[h.2]
 |x::l,sc,ws,h,hs=>by
  simp only[mv]at h
  split at h<;>first|(cases h;done)|skip
  rename_i sc1 v sc2 ws' h1 h2
  split at h<;>simp at h
  rename_i y hy
  obtain⟨hsc,rfl⟩:=h
  obtain⟨k1,k2⟩:=hsc.2 hs
  have e1:=bq hrel hen h1 k1
  have e2:=iF hrel hen l _ _ h2 k2
  rw[List.mapM_cons,Sem.run_bind,e1]
  simp only[Result.andThen_ok,Sem.run_bind,e2,Ky,Z0 hy]
  rfl
theorem uh {P:Program}{S:Bs}{w0 w:World}{β:Vl}{fn:Func}{e:Env}{M:Mem}{a:Act}(hrel:Rel S w0 β M w)(hen:EnvOk β M e a){sc:Prop}{r:V}(hres:sA P e M fn.results.toList=some (sc,r))(hs:sc):(results fn a.tmps).run P w= .ok (r.g β) w:=by
 rw[pE]
 have hm:∀ws,mv P e M fn.results.toList=some (sc,ws)->(fn.results.mapM (ui a.tmps)).run P w= .ok (ws.map (W.g β)).toArray w:=by
  intro ws hws
  rw[Array.mapM_eq_mapM_toList,Sem.run_map,iF hrel hen _ _ _ hws hs]
  rfl
 unfold sA at hres
 cases hL:mv P e M fn.results.toList with
 |none=>simp[hL]at hres
 |some y=>
  obtain⟨sc',ws⟩:=y
  rw[hL]at hres
  match ws,hres,hL with
  |[x],hres,hL=>
   simp at hres
   obtain⟨rfl',rfl⟩:=hres
   have hh:=hm [x] (by rw[hL,rfl'])
   rw[Sem.run_bind,hh]
   simp[gO]
  |[],hres,hL=>
   simp at hres
   obtain⟨rfl',rfl⟩:=hres
   have hh:=hm [] (by rw[hL,rfl'])
   rw[Sem.run_bind,hh]
   simp[V.g]
  |x::y::ws',hres,hL=>
   simp at hres
   obtain⟨rfl',rfl⟩:=hres
   have hh:=hm (x::y::ws') (by rw[hL,rfl'])
   rw[Sem.run_bind,hh]
   simp[V.g]
theorem zN {P:Program}{C:Cx}{fn:Func}{v:V}{NM:Mem}{e:Env}{M:Mem}(hR:yr P C fn v NM){sc:Prop}{r:V}(hres:sA P e M fn.results.toList=some (sc,r))(hs:sc)(hv:r=v)(hsub:Sub NM M)(hcm:ClM NM)(hcv:ClV NM v):RetQ C e M:=by
 intro β a w hrel hen hd
 subst hv
 refine hR.2.1 β a w (r.g β) ?_ (fun β'' hag=>(hcv β β'' hag).symm) hd ?_
 ·refine⟨hrel.fr,hrel.mem.sub hsub hcm,fun n b hb hr hu hS=>?_,fun n l hl=>⟨hR.1 n l hl,(hrel.pin n l hl).2⟩⟩
  obtain⟨b',hb',hw⟩:=hsub n b hb
  rcases hw with rfl|⟨h1,_⟩
  ·exact hrel.own n _ hb' hr hu hS
  ·rw[hr]at h1;cases h1
 ·exact uh hrel hen hres hs
end Vg
end Go.Proofs.YtbnkiacicnnmkaaGreat
