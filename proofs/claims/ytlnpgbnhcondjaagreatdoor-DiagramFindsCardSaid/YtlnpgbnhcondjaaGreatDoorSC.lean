/-  -/
import Derived.Test.YtlnpgbnhcondjaaGreatDoorPS
import Derived.Test.YtlnpgbnhcondjaaGreatDoorSH
import Derived.Test.YtlnpgbnhcondjaaGreatDoorRD
import Derived.Test.YtlnpgbnhcondjaaGreatDoorQH
namespace Go.Proofs.YtlnpgbnhcondjaaGreatDoor.Fx
open Vg Tf
set_option linter.unusedSimpArgs false
set_option linter.unusedVariables false
set_option maxRecDepth 100000
set_option maxHeartbeats 4000000
def rnP (f t:Str)(p:Po):Po:={p with nm:=rnS f t p.nm}
def rnB (f t:Str)(b:Bl):Bl:={b with nm:=rnS f t b.nm,ins:=b.ins.map (rnS f t)}
def renD (d:Dg)(f t:Str):Dg:={d with ins:=d.ins.map (rnP f t),bls:=d.bls.map (rnB f t),ous:=d.ous.map (rnS f t)}
end Go.Proofs.YtlnpgbnhcondjaaGreatDoor.Fx
namespace Go.Proofs.YtlnpgbnhcondjaaGreatDoor.Fx
set_option maxRecDepth 100000
set_option linter.unusedVariables false
set_option linter.unusedSimpArgs false
theorem idxS_ren {f t s:Str}(hs:s≠t):∀(l:List Str) (k:Nat),t∉l→idxS (rnS f t s) (l.map (rnS f t)) k=idxS s l k
 |[],_,_=>rfl
 |x::l,k,h=>by
  have hx:x≠t:=fun e=>h (by simp[e])
  have ih:=idxS_ren (f:=f) hs l (k+1) (fun e=>h (by simp[e]))
  rw[List.map_cons,idxS,idxS,ih]
  have:rnS f t x=rnS f t s↔x=s:=by
   unfold rnS
   by_cases h1:x=f
   ·by_cases h2:s=f
    ·simp[h1,h2]
    ·rw[if_pos h1,if_neg h2]
     exact⟨fun e=>absurd e.symm hs,fun e=>absurd (by rw[←e,h1]) h2⟩
   ·by_cases h2:s=f
    ·rw[if_neg h1,if_pos h2]
     exact⟨fun e=>absurd e hx,fun e=>absurd (by rw[e,h2]) h1⟩
    ·rw[if_neg h1,if_neg h2]
  by_cases he:x=s
  ·rw[if_pos he,if_pos (this.2 he)]
  ·rw[if_neg he,if_neg (fun e=>he (this.1 e))]
theorem sigs_ren {d:Dg}{f t:Str}:sigs (renD d f t)=(sigs d).map (rnS f t):=by
 unfold sigs renD
 simp only[List.map_append,List.map_map]
 rfl
theorem rn_back {f t x:Str}(hx:x≠t):rnS t f (rnS f t x)=x:=by
 unfold rnS
 by_cases h:x=f
 ·rw[if_pos h,if_pos rfl,h]
 ·rw[if_neg h,if_neg hx]
theorem fnd_no {l:List Str}{s:Str}(h:s∉l):fndQ l s= -1:=by
 have:∀(l:List Str) (k:Nat),s∉l→idxS s l k=none:=by
  intro l
  induction l with
  |nil=>intro k _;rfl
  |cons x l ih=>
   intro k hk
   simp only[List.mem_cons,not_or]at hk
   rw[idxS,if_neg (fun e=>hk.1 e.symm)]
   exact ih _ hk.2
 unfold fndQ
 rw[this l 0 h]
theorem fnd_ren {f t s:Str}{l:List Str}(hs:s≠t)(ht:t∉l):fndQ (l.map (rnS f t)) (rnS f t s)=fndQ l s:=by
 unfold fndQ
 rw[idxS_ren hs l 0 ht]
def useQ (d:Dg):List (List Int):=d.bls.map fun b=>b.ins.map (fndQ (sigs d))
theorem map_id_of {α:Type}{g:α→α}:∀{l:List α},(∀x∈l,g x=x)→l.map g=l
 |[],_=>rfl
 |x::l,h=>by rw[List.map_cons,h x (List.mem_cons_self ..),map_id_of fun y hy=>h y (List.mem_cons_of_mem _ hy)]
structure TnOk (d:Dg) (f t:Str):Prop where
 ok:dgOk d=true
 ot:nmOk t=true
 fm:f∈sigs d
 nt:t∉sigs d
 ins:∀b∈d.bls,t∉b.ins
 ous:t∉d.ous
theorem TnOk.ne {d:Dg}{f t:Str}(k:TnOk d f t):f≠t:=fun h=>k.nt (h▸k.fm)
theorem TnOk.uses {d:Dg}{f t:Str}(k:TnOk d f t):useQ (renD d f t)=useQ d:=by
 unfold useQ
 show(d.bls.map (rnB f t)).map _=_
 rw[List.map_map]
 refine List.map_congr_left fun b hb=>?_
 show(b.ins.map (rnS f t)).map _=_
 rw[List.map_map]
 refine List.map_congr_left fun s hs=>?_
 show fndQ (sigs (renD d f t)) (rnS f t s)=_
 rw[sigs_ren]
 exact fnd_ren (fun e=>k.ins b hb (e▸hs)) k.nt
theorem TnOk.find {d:Dg}{f t:Str}(k:TnOk d f t):fndQ (sigs (renD d f t)) t=fndQ (sigs d) f:=by
 rw[sigs_ren]
 have:=fnd_ren (f:=f) (l:=sigs d) k.ne k.nt
 have e:rnS f t f=t:=if_pos rfl
 rw[e]at this;exact this
theorem TnOk.gone {d:Dg}{f t:Str}(k:TnOk d f t):fndQ (sigs (renD d f t)) f= -1:=by
 refine fnd_no fun h=>?_
 rw[sigs_ren]at h
 obtain⟨s,hs,he⟩:=List.mem_map.1 h
 unfold rnS at he
 split at he
 ·exact k.ne he.symm
 ·rename_i h2;exact h2 he
theorem TnOk.back {d:Dg}{f t:Str}(k:TnOk d f t):renD (renD d f t) t f=d:=by
 have h1:∀x∈d.ins,rnP t f (rnP f t x)=x:=fun x hx=>by
  have:x.nm≠t:=fun e=>k.nt (by rw[←e];exact List.mem_append_left _ (List.mem_map_of_mem hx))
  unfold rnP
  simp only[rn_back this]
 have h2:∀x∈d.bls,rnB t f (rnB f t x)=x:=fun x hx=>by
  have hn:x.nm≠t:=fun e=>k.nt (by rw[←e];exact List.mem_append_right _ (List.mem_map_of_mem hx))
  unfold rnB
  simp only[rn_back hn,List.map_map]
  rw[map_id_of (g:=rnS t f ∘ rnS f t) fun s hs=>rn_back fun e=>k.ins x hx (e▸hs)]
 unfold renD
 simp only[List.map_map]
 rw[map_id_of (g:=rnP t f ∘ rnP f t) h1,map_id_of (g:=rnB t f ∘ rnB f t) h2,map_id_of (g:=rnS t f ∘ rnS f t) fun s hs=>rn_back fun e=>k.ous (e▸hs)]
end Go.Proofs.YtlnpgbnhcondjaaGreatDoor.Fx
namespace Go.Proofs.YtlnpgbnhcondjaaGreatDoor.Fx
open Vg Tf
set_option linter.unusedSimpArgs false
set_option linter.unusedVariables false
set_option maxRecDepth 100000
set_option maxHeartbeats 4000000
theorem strs_fl (l:List Str):(strsR l).flatten=l.map sv:=by
 unfold strsR
 induction l with
 |nil=>rfl
 |cons x l ih=>simp only[List.map_cons,List.flatten_cons,ih];rfl
end Go.Proofs.YtlnpgbnhcondjaaGreatDoor.Fx
