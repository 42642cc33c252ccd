/-  -/
import Derived.Test.YtlnpgbnhcondjaaGreatDoorPS
import Derived.Test.YtlnpgbnhcondjaaGreatDoorY7
import Derived.Test.YtlnpgbnhcondjaaGreatDoorY0
namespace Go.Proofs.YtlnpgbnhcondjaaGreatDoor.Fx
open Vg Tf
set_option linter.unusedSimpArgs false
set_option linter.unusedVariables false
set_option maxRecDepth 100000
set_option maxHeartbeats 4000000
@[go_sem ↓] theorem plS_1_11d:plS 1 11=[(0,11)]:=rfl
@[go_sem ↓] theorem plS_1_3d:plS 1 3=[(0,3)]:=rfl
@[go_sem ↓] theorem plS_1_4e:plS 1 4=[(0,4)]:=rfl
@[go_sem ↓] theorem plS_1_6d:plS 1 6=[(0,6)]:=rfl
def SubV (M':Mem):List Nat→Mem→Prop
 |_,[]=>True
 |seen,(n,b)::r=>(n∈seen∨∃b',M'.get n=some b'∧Wk b b')∧SubV M' (n::seen) r
theorem SubV.sub {M':Mem}:∀{M:Mem} {seen:List Nat},SubV M' seen M→∀n b,n∉seen→M.get n=some b→∃b',M'.get n=some b'∧Wk b b'
 |[],_,_,n,b,_,h=>by cases h
 |(m,c)::M,seen,hS,n,b,hn,h=>by
  rw[Mem.get_cons]at h
  split at h
  ·rename_i hm
   subst hm
   cases h
   rcases hS.1 with h1|h1
   ·exact absurd h1 hn
   ·exact h1
  ·rename_i hm
   exact SubV.sub hS.2 n b (by simp only[List.mem_cons,not_or];exact⟨hm,hn⟩) h
theorem SubV.sub0 {M M':Mem}(h:SubV M' [] M):Sub M M':=fun n b hb=>h.sub n b (by simp) hb
theorem nameN_ (n:Nat)(hn:rnOk [(3,n),(1,1),(2,2)]=true)(T:List Tk)(hT:T.length≤100000)(sT:STk T)(p:Ps)(h:p.at_<T.length)(cs:List Cv)(hv:cs.all Cv.isV=true)(off:Nat)(ho:off<cs.length)(ty:TypeId):
  CallOk Tryz.prog 149 [.c (.p 1 0),.c (.p n off)] [(1,⟨false,psC T p,96⟩),(n,⟨false,cs,ty⟩),(2,⟨true,rowsC (T.map Tk.r),57⟩)] (Bo (namP T p).1.isSome) ((1,⟨false,psC T (namP T p).2,96⟩)::(match (namP T p).1 with|some s=>[(n,⟨false,cs.set off (sC s),ty⟩)]|none=>[])):=by
 have h0:=(name_ T hT sT p h cs hv off ho ty).ren (rn_inj [(3,n),(1,1),(2,2)] hn)
 have hr1:Mem.ren (rn [(3,n),(1,1),(2,2)]) (pD T p cs ty)=[(1,⟨false,psC T p,96⟩),(n,⟨false,cs,ty⟩),(2,⟨true,rowsC (T.map Tk.r),57⟩)]:=by
  simp only[pD,Mem.ren,List.map_cons,List.map_nil,renV hv,renV (rowsC_isV _)];rfl
 rw[hr1]at h0
 cases hi:(namP T p).1 with
 |none=>rw[hi]at h0;exact h0
 |some s=>
  rw[hi]at h0
  simp only[Mem.ren,List.map_cons,List.map_nil,renV (setV hv)]at h0
  exact h0
theorem integerN_ (n:Nat)(hn:rnOk [(3,n),(1,1),(2,2)]=true)(T:List Tk)(hT:T.length≤100000)(p:Ps)(h:p.at_<T.length)(hN:(hereP T p).k=2→CallOk Tryz.prog 266 [S (hereP T p).s] [] (.tup [Wi (nmbQ (hereP T p).s).1,Wi (nmbQ (hereP T p).s).2]) [])(cs:List Cv)(hv:cs.all Cv.isV=true)(off:Nat)(ho:off<cs.length)(ty:TypeId):
  CallOk Tryz.prog 231 [.c (.p 1 0),.c (.p n off)] [(1,⟨false,psC T p,96⟩),(n,⟨false,cs,ty⟩),(2,⟨true,rowsC (T.map Tk.r),57⟩)] (Bo (intP T p).1.isSome) ((1,⟨false,psC T (intP T p).2,96⟩)::(match (intP T p).1 with|some s=>[(n,⟨false,cs.set off (.v (.int .i64 s)),ty⟩)]|none=>[])):=by
 have h0:=(integer_ T hT p h hN cs hv off ho ty).ren (rn_inj [(3,n),(1,1),(2,2)] hn)
 have hr1:Mem.ren (rn [(3,n),(1,1),(2,2)]) (pD T p cs ty)=[(1,⟨false,psC T p,96⟩),(n,⟨false,cs,ty⟩),(2,⟨true,rowsC (T.map Tk.r),57⟩)]:=by
  simp only[pD,Mem.ren,List.map_cons,List.map_nil,renV hv,renV (rowsC_isV _)];rfl
 rw[hr1]at h0
 cases hi:(intP T p).1 with
 |none=>rw[hi]at h0;exact h0
 |some s=>
  rw[hi]at h0
  simp only[Mem.ren,List.map_cons,List.map_nil,renV (setV hv)]at h0
  exact h0
theorem unL_isV (u:Un):(unL u).all Cv.isV=true:=rfl
theorem midV {c0 c1:List Cv}(v0:c0.all Cv.isV=true)(v1:c1.all Cv.isV=true)(x:List Cv)(hx:x.all Cv.isV=true):(c0++x++c1).all Cv.isV=true:=by rw[List.all_append,List.all_append,v0,v1,hx];rfl
theorem unitN_ (n:Nat)(hn:rnOk [(3,n),(1,1),(2,2)]=true)(T:List Tk)(hT:T.length≤40000)(g:GTk T)(sT:STk T)(p:Ps)(h:p.at_<T.length)(c0 c1:List Cv)(v0:c0.all Cv.isV=true)(v1:c1.all Cv.isV=true)(ty:TypeId)(u0:Un):
  CallOk Tryz.prog 232 [.c (.p 1 0),.c (.p n c0.length)] [(1,⟨false,psC T p,96⟩),(n,⟨false,c0++unL u0++c1,ty⟩),(2,⟨true,rowsC (T.map Tk.r),57⟩)] (Bo (untP T p).1.isSome) ((1,⟨false,psC T (untP T p).2,96⟩)::(match (untP T p).1 with|some u=>[(n,⟨false,c0++unL u++c1,ty⟩)]|none=>[])):=by
 have h0:=(unit_ T hT g sT p h c0 c1 v0 v1 ty u0).ren (rn_inj [(3,n),(1,1),(2,2)] hn)
 have hr1:Mem.ren (rn [(3,n),(1,1),(2,2)]) (pD T p (c0++unL u0++c1) ty)=[(1,⟨false,psC T p,96⟩),(n,⟨false,c0++unL u0++c1,ty⟩),(2,⟨true,rowsC (T.map Tk.r),57⟩)]:=by
  simp only[pD,Mem.ren,List.map_cons,List.map_nil,renV (midV v0 v1 _ (unL_isV u0)),renV (rowsC_isV _)];rfl
 rw[hr1]at h0
 cases hi:(untP T p).1 with
 |none=>rw[hi]at h0;exact h0
 |some s=>
  rw[hi]at h0
  simp only[Mem.ren,List.map_cons,List.map_nil,renV (midV v0 v1 _ (unL_isV s))]at h0
  exact h0
theorem integersN_ {H:Hp}(n m:Nat)(hn:rnOk [(3,n),(1,1),(2,2),(6,m)]=true)(T:List Tk)(hT:T.length≤40000)(g:GTk T)(p:Ps)(h:p.at_<T.length)(hN:∀q:Ps,(hereP T q).k=2→CallOk Tryz.prog 266 [S (hereP T q).s] [] (.tup [Wi (nmbQ (hereP T q).s).1,Wi (nmbQ (hereP T q).s).2]) [])(a b:Str)(c0 c1:List Cv)(v0:c0.all Cv.isV=true)(v1:c1.all Cv.isV=true)(ty:TypeId):
  CallX H Tryz.prog 234 [.c (.p 1 0),.c (.p n c0.length),S a,S b] [(1,⟨false,psC T p,96⟩),(n,⟨false,c0++ .v (.slice none 0 0)::c1,ty⟩),(2,⟨true,rowsC (T.map Tk.r),57⟩)] (fun _:List Int=>Bo (itsP T a b 40000 [] p).1.isSome) (fun x=>[(1,⟨false,psC T (itsP T a b 40000 [] p).2,96⟩),(n,⟨false,c0++ .sl m 0 x.length 1::c1,ty⟩),(m,⟨false,x.map iC,3⟩)]) (fun x _=>∀l,(itsP T a b 40000 [] p).1=some l→x=l):=by
 have h0:=(integers_ (H:=H) T hT g p h hN a b c0 c1 v0 v1 ty).ren (rn_inj [(3,n),(1,1),(2,2),(6,m)] hn)
 have e6:rn [(3,n),(1,1),(2,2),(6,m)] 6=m:=rfl
 have hr1:Mem.ren (rn [(3,n),(1,1),(2,2),(6,m)]) (pD T p (c0++ .v (.slice none 0 0)::c1) ty)=[(1,⟨false,psC T p,96⟩),(n,⟨false,c0++ .v (.slice none 0 0)::c1,ty⟩),(2,⟨true,rowsC (T.map Tk.r),57⟩)]:=by
  simp only[pD,Mem.ren,List.map_cons,List.map_nil,ren_mid v0 v1,renV (rowsC_isV _)];rfl
 rw[hr1]at h0
 simp only[Mem.ren,List.map_cons,List.map_nil,ren_mid v0 v1,renV (v_iC2 _),Cv.ren,e6]at h0
 exact h0
theorem namesN_ {H:Hp}(n m:Nat)(hn:rnOk [(3,n),(1,1),(2,2),(6,m)]=true)(T:List Tk)(hT:T.length≤40000)(g:GTk T)(sT:STk T)(p:Ps)(h:p.at_<T.length)(a b:Str)(c0 c1:List Cv)(v0:c0.all Cv.isV=true)(v1:c1.all Cv.isV=true)(ty:TypeId):
  CallX H Tryz.prog 235 [.c (.p 1 0),.c (.p n c0.length),S a,S b] [(1,⟨false,psC T p,96⟩),(n,⟨false,c0++ .v (.slice none 0 0)::c1,ty⟩),(2,⟨true,rowsC (T.map Tk.r),57⟩)] (fun _:List Str=>Bo (nmsP T a b 40000 [] p).1.isSome) (fun x=>[(1,⟨false,psC T (nmsP T a b 40000 [] p).2,96⟩),(n,⟨false,c0++ .sl m 0 x.length 1::c1,ty⟩),(m,⟨false,x.map sC,9⟩)]) (fun x _=>∀l,(nmsP T a b 40000 [] p).1=some l→x=l):=by
 have h0:=(names_ (H:=H) T hT g sT p h a b c0 c1 v0 v1 ty).ren (rn_inj [(3,n),(1,1),(2,2),(6,m)] hn)
 have e6:rn [(3,n),(1,1),(2,2),(6,m)] 6=m:=rfl
 have hr1:Mem.ren (rn [(3,n),(1,1),(2,2),(6,m)]) (pD T p (c0++ .v (.slice none 0 0)::c1) ty)=[(1,⟨false,psC T p,96⟩),(n,⟨false,c0++ .v (.slice none 0 0)::c1,ty⟩),(2,⟨true,rowsC (T.map Tk.r),57⟩)]:=by
  simp only[pD,Mem.ren,List.map_cons,List.map_nil,ren_mid v0 v1,renV (rowsC_isV _)];rfl
 rw[hr1]at h0
 simp only[Mem.ren,List.map_cons,List.map_nil,ren_mid v0 v1,renV (v_sC2 _),Cv.ren,e6]at h0
 exact h0
@[reducible,go_sem] def nm6 (k:Nat)(i:Nat):Nat:=bif k==i then 20+i else 10+i
@[reducible,go_sem] def dgC (d:DgL):List Cv:=[.v (sv d.nm),.sl 10 0 d.tys.length 11,.sl 11 0 d.cus.length 3,.sl 12 0 d.mas.length 4,.sl 13 0 d.ins.length 4,.sl 14 0 d.bls.length 6,.sl 15 0 d.ous.length 1]
@[reducible,go_sem] def dgR:List (Nat×Bk):=[(10,⟨true,[],93⟩),(11,⟨true,[],110⟩),(12,⟨true,[],115⟩),(13,⟨true,[],118⟩),(14,⟨true,[],82⟩),(15,⟨true,[],9⟩)]
structure DgL.inn (H:Hp) (d:DgL):Prop where
 cus:∀c∈d.cus,c.ok H
 mas:∀m∈d.mas,m.ok H
 bls:∀b∈d.bls,b.ok H
theorem DgL.inn.mono {H H':Hp}(h:H.le H'){d:DgL}(k:d.inn H):d.inn H':=⟨fun c hc=>(k.cus c hc).mono h,fun c hc=>(k.mas c hc).mono h,fun c hc=>(k.bls c hc).mono h⟩
end Go.Proofs.YtlnpgbnhcondjaaGreatDoor.Fx
