/-  -/
import Derived.Test.YtlnpgbnhcondjaaGreatDoorTf
import Derived.Test.YtlnpgbnhcondjaaGreatDoorYI
namespace Go.Proofs.YtlnpgbnhcondjaaGreatDoor.Fx
set_option linter.unusedVariables false
set_option linter.unusedSimpArgs false
set_option linter.unusedSectionVars false
set_option maxRecDepth 10000
section
variable (U:List Tk)
def rIs (k:Nat)(s:Str)(p:Ps):Bool:=p.e==0&&((hereP U p).k==k&&(hereP U p).s==s)
def rTak (k:Nat)(s:Str)(p:Ps):Ps:=bif rIs U k s p then advP p else wrnP U p
def rNam (p:Ps):Str×Ps:=bif p.e==0&&nmOk (hereP U p).s then((hereP U p).s,advP p)else([],wrnP U p)
def rNum (p:Ps):Int×Ps:=bif p.e==0&&(hereP U p).k==2 then((nmbQ (hereP U p).s).1,advP p)else(0,wrnP U p)
def rNuL:Nat→List Int→Ps→List Int×Ps
 |0,l,p=>(l,p)
 |f+1,l,p=>bif p.e==0&&(hereP U p).k==2 then rNuL f (l++[(rNum U p).1]) (rNum U p).2 else(l,p)
def rNus (p:Ps):List Int×Ps:=rNuL U 40000 [(rNum U p).1] (rNum U p).2
def rEnd (p:Ps):Ps:=bif p.e==0&& !((hereP U p).k==4)then wrnP U p else p
def rRef (i:Nat)(e:Int)(p:Ps):Ps:=stopP p (U.getD i tk0).l (U.getD i tk0).c e
def rbd {α β:Type}(y:α×Ps)(g:α→Ps→β×Ps):β×Ps:=g y.1 y.2
def rSgn (p:Ps):Bool×Ps:=bif rIs U 1 sgnT p then(true,advP p)else(false,rTak U 1 usgT p)
def rCol:Nat→Str→Ps→Str×Ps
 |0,s,p=>(s,p)
 |f+1,s,p=>bif p.e==0&& !((hereP U p).k==4)then rCol f (s++(hereP U p).s) (advP p)else(s,p)
def rUn2 (k0:Nat)(s:Str×Ps):Un×Ps:=
 ((prs s.1).1,bif (prs s.1).2==0 then(bif s.2.e==0&&s.1==[]then wrnP U s.2 else s.2)else rRef U k0 3 (bif s.2.e==0&&s.1==[]then wrnP U s.2 else s.2))
def rUnt (p:Ps):Un×Ps:=rUn2 U p.at_ (rCol U 40000 [] p)
def rOk (b:Bool)(p:Ps):Ps:=bif b then p else rRef U 0 1 p
def rFl (m:Nat)(p:Ps):Ps:=bif decide (30<m+1)then rRef U 0 5 p else p
def rTyp (p:Ps):Td×Ps:=rbd (rNam U p) fun nm p=>rbd ((),rTak U 3 [61] p) fun _ p=>rbd (rNum U p) fun b p=>rbd (rSgn U p) fun sg p=>rbd (rNum U p) fun num p=>rbd (rNum U p) fun off p=>rbd (rNum U p) fun den p=>rbd (rUnt U p) fun u p=>
 (⟨nm,mkFt b sg num off den u⟩,rOk U (fok (mkFt b sg num off den u)) p)
def rPrs:Nat→List Int→List Int→Ps→(List Int×List Int)×Ps
 |0,xs,ys,p=>((xs,ys),p)
 |f+1,xs,ys,p=>rbd (rNum U p) fun x p=>rbd (rNum U p) fun y p=>bif rIs U 3 [44] p then rPrs f (xs++[x]) (ys++[y]) (advP p)else((xs++[x],ys++[y]),p)
def rCls {β:Type}(p:Ps)(g:Ps→β×Ps):β×Ps:=g (rEnd U (rTak U 3 [41] p))
def rCur (p:Ps):Cu×Ps:=rbd (rNam U p) fun nm p=>rbd ((),rTak U 3 [61] p) fun _ p=>rbd ((),rTak U 3 [40] p) fun _ p=>rbd (rPrs U 40000 [] [] p) fun xy p=>rCls U p fun p=>(⟨nm,xy.1,xy.2⟩,rOk U (cuOk xy.1 xy.2) p)
def rRws:Nat→List (List Int)→Ps→List (List Int)×Ps
 |0,zs,p=>(zs,p)
 |f+1,zs,p=>rbd (rNus U p) fun z p=>bif rIs U 3 [44] p then rRws f (zs++[z]) (advP p)else(zs++[z],p)
def rMap (p:Ps):Mp×Ps:=rbd (rNam U p) fun nm p=>rbd ((),rTak U 3 [61] p) fun _ p=>rbd ((),rTak U 3 [40] p) fun _ p=>rbd (rNus U p) fun xs p=>rbd ((),rTak U 3 [59] p) fun _ p=>rbd (rNus U p) fun ys p=>rbd ((),rTak U 3 [59] p) fun _ p=>rbd (rRws U 40000 [] p) fun zs p=>rCls U p fun p=>
 (⟨nm,xs,ys,zs⟩,rOk U (maOk xs ys zs) p)
def rInp (p:Ps):Po×Ps:=rbd (rNam U p) fun nm p=>rbd ((),rTak U 3 [58] p) fun _ p=>rbd (rNam U p) fun ty p=>rbd (rNum U p) fun lo p=>rbd (rNum U p) fun hi p=>(⟨nm,ty,lo,hi⟩,rEnd U p)
def rNms:Nat→List Str→Ps→List Str×Ps
 |0,l,p=>(l,p)
 |f+1,l,p=>rbd (rNam U p) fun s p=>bif rIs U 3 [44] p then rNms f (l++[s]) (advP p)else(l++[s],p)
def rCms:Nat→List Int→Ps→List Int×Ps
 |0,l,p=>(l,p)
 |f+1,l,p=>rbd (rNum U p) fun n p=>bif rIs U 3 [44] p then rCms f (l++[n]) (advP p)else(l++[n],p)
def rArs (p:Ps):List Str×Ps:=bif !rIs U 3 [59] p&& !rIs U 3 [41] p then rNms U 40000 [] p else([],p)
def rKs (p:Ps):List Int×Ps:=bif rIs U 3 [59] p then rCms U 40000 [] (advP p)else([],p)
def rKq (p:Ps):Option (Nat×Nat×Nat):=bif p.e==0 then kindQ (hereP U p).s else none
def rKd (p:Ps):(Str×Nat×Nat×Nat)×Ps:=match rKq U p with
 |some x=>(((hereP U p).s,x),advP p)
 |none=>(([],0,0,0),wrnP U p)
def rTb (t:Nat)(l:List Str):List Str×Str:=bif decide (0<t)&&decide (0<l.length)then(l.take (l.length-1),l.getD (l.length-1) [])else(l,[])
def rBlE (i:Nat)(a k t:Nat)(b:Bl)(p:Ps):Bl×Ps:=(b,bif !(decide (b.ins.length=a))||(!(decide (b.ks.length=k))||(decide (0<t)&&b.tb==[]))then rRef U i 1 p else p)
def rBl2 (i a k t:Nat)(kd nm:Str)(p:Ps):Bl×Ps:=rbd ((),rTak U 3 [40] p) fun _ p=>rbd (rArs U p) fun l p=>rbd (rKs U p) fun ks p=>rbd ((),rTak U 3 [41] p) fun _ p=>rbd ((),rTak U 3 [58] p) fun _ p=>
 rbd (rNam U p) fun ty p=>rBlE U i a k t ⟨nm,kd,ty,(rTb t l).1,(rTb t l).2,ks⟩ (rEnd U p)
def rBlk (p:Ps):Bl×Ps:=rbd (rNam U p) fun nm p=>rbd ((),rTak U 3 [61] p) fun _ p=>rbd (rKd U p) fun kd q=>rBl2 U p.at_ kd.2.1 kd.2.2.1 kd.2.2.2 kd.1 nm q
def rOut (m:Nat)(p:Ps):List Str×Ps:=rbd (rNms U 40000 [] p) fun l p=>(l,bif decide (30<m+l.length)then rRef U 0 5 (rEnd U p)else rEnd U p)
def rBf (m:Nat)(p:Ps):Ps:=bif decide (200<m+1)then rRef U 0 5 p else p
def rAdd (d:Dg):Dg×Ps:=
 if (U.getD 0 tk0).s=[116,121,112,101]then rbd (rTyp U ⟨1,0,0,0⟩) fun x p=>({d with tys:=d.tys++[x]},rFl U d.tys.length p)
 else if (U.getD 0 tk0).s=[99,117,114,118,101]then rbd (rCur U ⟨1,0,0,0⟩) fun x p=>({d with cus:=d.cus++[x]},rFl U d.cus.length p)
 else if (U.getD 0 tk0).s=[109,97,112]then rbd (rMap U ⟨1,0,0,0⟩) fun x p=>({d with mas:=d.mas++[x]},rFl U d.mas.length p)
 else if (U.getD 0 tk0).s=[105,110]then rbd (rInp U ⟨1,0,0,0⟩) fun x p=>({d with ins:=d.ins++[x]},rFl U d.ins.length p)
 else if (U.getD 0 tk0).s=[98,108,111,99,107]then rbd (rBlk U ⟨1,0,0,0⟩) fun x p=>({d with bls:=d.bls++[x]},rBf U d.bls.length p)
 else if (U.getD 0 tk0).s=[111,117,116]then rbd (rOut U d.ous.length ⟨1,0,0,0⟩) fun x p=>({d with ous:=d.ous++x},p)
 else(d,wrnP U ps0)
def rBeg (d:Dg):Dg×Ps:=rbd (rNam U (rTak U 1 diaT ps0)) fun nm p=>({d with nm:=nm},rEnd U p)
end
def er (p:Ps):Int×Nat×Nat:=(p.e,p.l,p.c)
def PR {α:Type}(x:Option α×Ps)(y:α×Ps):Prop:=match x.1 with
 |some a=>y=(a,x.2)∧x.2.e=0
 |none=>y.2.e≠0∧er y.2=er x.2
theorem PR.some {α:Type}{a:α}{p:Ps}(h:p.e=0):PR (Option.some a,p) (a,p):=⟨rfl,h⟩
theorem PR.none {α:Type}{y:α×Ps}{p:Ps}(h:p.e≠0)(he:er y.2=er p):PR ((Option.none:Option α),p) y:=⟨fun hh=>h (by rw[←(Prod.mk.inj he).1];exact hh),he⟩
theorem er_e {p q:Ps}(h:er p=er q):p.e=q.e:=(Prod.mk.inj h).1
theorem stop_stk {p:Ps}(h:p.e≠0)(l c:Nat)(e:Int):stopP p l c e=p:=by unfold stopP;rw[beq_eq_false_iff_ne.2 h];rfl
def TkG (t:Tk):Prop:=(t.k=4∧t.s=[])∨(TkV t.k t.s∧1≤t.k∧t.k≤3)
theorem TkV.le {k:Nat}{t:Str}(h:TkV k t)(h0:1≤k):leB (t.getD 0 0)=true↔k=1:=by
 have h1:=h.h [] [] (fun c hc=>by cases hc)
 have hn:=h.n
 rw[List.append_nil,List.nil_append]at h1
 have hlen:t.length≠0:=fun hh=>hn (List.length_eq_zero_iff.1 hh)
 unfold scnQ at h1
 simp only[List.length_nil]at h1
 by_cases h2:t.getD 0 0=32∨t.getD 0 0=9
 ·rw[if_pos h2]at h1
  have:=(Prod.mk.inj h1).1
  omega
 rw[if_neg h2]at h1
 by_cases h3:leB (t.getD 0 0)=true
 ·rw[if_pos h3]at h1
  split at h1
  ·have:=(Prod.mk.inj (Prod.mk.inj h1).2).1
   omega
  ·exact⟨fun _=>(Prod.mk.inj h1).1.symm,fun _=>h3⟩
 rw[if_neg h3]at h1
 refine⟨fun h=>absurd h h3,fun h=>?_⟩
 subst h
 exfalso
 split at h1
 ·split at h1
  ·cases (Prod.mk.inj h1).1
  ·split at h1<;>cases (Prod.mk.inj h1).1
 ·split at h1<;>cases (Prod.mk.inj h1).1
theorem TkG.k1 {t:Tk}(h:TkG t):leB (t.s.getD 0 0)=true↔t.k=1:=by
 rcases h with⟨h1,h2⟩|⟨h1,h2,h3⟩
 ·rw[h1,h2];decide
 ·exact h1.le h2
theorem nmOk_le {s:Str}(h:nmOk s=true):leB (s.getD 0 0)=true:=by
 unfold nmOk at h
 simp only[Bool.and_eq_true]at h
 exact h.2.2.1
theorem kindQ_le {s:Str}(h:(kindQ s).isSome=true):leB (s.getD 0 0)=true:=by
 unfold kindQ at h
 rw[Option.isSome_map]at h
 obtain⟨r,hr⟩:=Option.isSome_iff_exists.1 h
 have h1:=List.mem_of_find?_eq_some hr
 have h2:=List.find?_some hr
 have h2:r.1=s:=eq_of_beq h2
 rw[←h2]
 have:kindT.all (fun r=>leB (r.1.getD 0 0))=true:=by decide
 exact List.all_eq_true.1 this r h1
structure VT (U:List Tk):Prop where
 g:GTk U
 v:∀i,i<U.length→TkG (U.getD i tk0)
 n:U.length≤40000
section
variable {U:List Tk} (V:VT U)
theorem wrn_stk {p:Ps}(h:p.e≠0):wrnP U p=p:=stop_stk h _ _ _
theorem rIs_stk {p:Ps}(h:p.e≠0)(k:Nat)(s:Str):rIs U k s p=false:=by unfold rIs;rw[beq_eq_false_iff_ne.2 h];rfl
theorem rTak_stk {p:Ps}(h:p.e≠0)(k:Nat)(s:Str):rTak U k s p=p:=by unfold rTak;rw[rIs_stk h,cond_false,wrn_stk h]
theorem rNam_stk {p:Ps}(h:p.e≠0):(rNam U p).2=p:=by unfold rNam;rw[beq_eq_false_iff_ne.2 h,Bool.false_and,cond_false];exact wrn_stk h
theorem rNum_stk {p:Ps}(h:p.e≠0):(rNum U p).2=p:=by unfold rNum;rw[beq_eq_false_iff_ne.2 h,Bool.false_and,cond_false];exact wrn_stk h
theorem rEnd_stk {p:Ps}(h:p.e≠0):rEnd U p=p:=by unfold rEnd;rw[beq_eq_false_iff_ne.2 h,Bool.false_and];rfl
theorem rRef_stk {p:Ps}(h:p.e≠0)(i:Nat)(e:Int):rRef U i e p=p:=stop_stk h _ _ _
theorem rNuL_stk {p:Ps}(h:p.e≠0)(f:Nat)(l:List Int):rNuL U f l p=(l,p):=by
 cases f with
 |zero=>rfl
 |succ f=>rw[rNuL,beq_eq_false_iff_ne.2 h];rfl
theorem rNus_stk {p:Ps}(h:p.e≠0):(rNus U p).2=p:=by unfold rNus;rw[rNum_stk h,rNuL_stk h]
include V in
theorem is3 {p:Ps}(h:p.at_<U.length)(e:p.e=0){s:Str}(hs:leB (s.getD 0 0)=false):rIs U 3 s p=isP U s p:=by
 unfold rIs isP
 rw[e]
 have hk:=(V.v _ h).k1
 unfold hereP
 cases hb:(U.getD p.at_ tk0).s==s with
 |false=>simp
 |true=>
  rw[eq_of_beq hb,hs]at hk
  have:((U.getD p.at_ tk0).k==1)=false:=beq_eq_false_iff_ne.2 fun h=>by have:=hk.2 h;cases this
  rw[this];rfl
include V in
theorem is1 {p:Ps}(h:p.at_<U.length)(e:p.e=0){s:Str}(hs:leB (s.getD 0 0)=true):rIs U 1 s p=isP U s p:=by
 unfold rIs isP
 rw[e]
 have hk:=(V.v _ h).k1
 unfold hereP
 cases hb:(U.getD p.at_ tk0).s==s with
 |false=>simp
 |true=>
  rw[eq_of_beq hb,hs]at hk
  have:(U.getD p.at_ tk0).k=1:=hk.1 rfl
  rw[this];rfl
include V in
theorem nam_two (p:Ps)(he:p.e=0)(hp:p.at_<U.length):(namP U p=(none,wrnP U p)∧(rNam U p)=([],wrnP U p))∨∃s,s≠[]∧namP U p=(some s,advP p)∧rNam U p=(s,advP p)∧(advP p).at_<U.length:=by
 have hk:=(V.v _ hp).k1
 have ho:=nam_on V.g hp
 unfold namP rNam at*
 rw[he]
 cases hn:nmOk (hereP U p).s with
 |false=>left;rw[Bool.and_false];exact⟨rfl,rfl⟩
 |true=>
  right
  have h1:(hereP U p).k=1:=hk.1 (nmOk_le hn)
  rw[h1,hn]at ho
  rw[h1]
  refine⟨_,fun h0=>?_,rfl,rfl,ho.1.2⟩
  rw[h0]at hn;cases hn
include V in
theorem num_two (p:Ps)(he:p.e=0)(hp:p.at_<U.length):(intP U p=(none,wrnP U p)∧rNum U p=(0,wrnP U p))∨∃n,intP U p=(some n,advP p)∧rNum U p=(n,advP p)∧(advP p).at_<U.length:=by
 have ho:=int_on V.g hp
 unfold intP rNum at*
 rw[he]
 cases hn:(hereP U p).k==2 with
 |false=>left;rw[Bool.and_false];exact⟨rfl,rfl⟩
 |true=>right;rw[hn]at ho;exact⟨_,rfl,rfl,ho.1.2⟩
include V in
theorem tak_two (k:Nat)(s:Str)(p:Ps)(hi:rIs U k s p=isP U s p)(hp:p.at_<U.length):(takP U s p=(false,wrnP U p)∧rTak U k s p=wrnP U p)∨(takP U s p=(true,advP p)∧rTak U k s p=advP p∧(advP p).at_<U.length):=by
 have ho:=tak_on V.g s hp
 unfold takP rTak at*
 rw[hi]
 cases hn:isP U s p with
 |false=>left;exact⟨rfl,rfl⟩
 |true=>right;rw[hn]at ho;exact⟨rfl,rfl,ho.2⟩
def PF (U:List Tk){α:Type}(F:Ps→Option α×Ps)(G:Ps→α×Ps):Prop:=(∀p,p.e=0→p.at_<U.length→PR (F p) (G p))∧∀p,p.e≠0→er (G p).2=er p
include V
theorem PF.nam {α:Type}{F:Str→Ps→Option α×Ps}{G:Str→Ps→α×Ps}(h:∀s,PF U (F s) (G s)):PF U (fun p=>bnd (namP U p) (F)) (fun p=>rbd (rNam U p) G):=by
 refine⟨fun p he hp=>?_,fun p he=>?_⟩
 ·show PR (bnd (namP U p) F) (rbd (rNam U p) G)
  rcases nam_two V p he hp with⟨h1,h2⟩|⟨s,_,h1,h2,h3⟩
  ·rw[h1,h2]
   exact PR.none (wrnE p) ((h []).2 _ (wrnE p))
  ·rw[h1,h2]
   exact(h s).1 (advP p) he h3
 ·show er (G _ _).2=_
  rw[rNam_stk he]
  exact(h _).2 p he
theorem PF.num {α:Type}{F:Int→Ps→Option α×Ps}{G:Int→Ps→α×Ps}(h:∀s,PF U (F s) (G s)):PF U (fun p=>bnd (intP U p) (F)) (fun p=>rbd (rNum U p) G):=by
 refine⟨fun p he hp=>?_,fun p he=>?_⟩
 ·show PR (bnd (intP U p) F) (rbd (rNum U p) G)
  rcases num_two V p he hp with⟨h1,h2⟩|⟨s,h1,h2,h3⟩
  ·rw[h1,h2]
   exact PR.none (wrnE p) ((h 0).2 _ (wrnE p))
  ·rw[h1,h2]
   exact(h s).1 (advP p) he h3
 ·show er (G _ _).2=_
  rw[rNum_stk he]
  exact(h _).2 p he
theorem PF.takG {α:Type}{F:Ps→Option α×Ps}{G:Ps→α×Ps}(h:PF U F G)(k:Nat)(s:Str)(hi:∀p:Ps,p.at_<U.length→p.e=0→rIs U k s p=isP U s p):PF U (fun p=>bndB (takP U s p) F) (fun p=>rbd ((),rTak U k s p) fun _=>G):=by
 refine⟨fun p he hp=>?_,fun p he=>?_⟩
 ·show PR (bndB (takP U s p) F) (G (rTak U k s p))
  rcases tak_two V k s p (hi p hp he) hp with⟨h1,h2⟩|⟨h1,h2,h3⟩
  ·rw[h1,h2]
   exact PR.none (wrnE p) (h.2 _ (wrnE p))
  ·rw[h1,h2]
   exact h.1 (advP p) he h3
 ·show er (G (rTak U k s p)).2=_
  rw[rTak_stk he]
  exact h.2 p he
theorem PF.tak {α:Type}{F:Ps→Option α×Ps}{G:Ps→α×Ps}(h:PF U F G)(s:Str)(hs:leB (s.getD 0 0)=false):PF U (fun p=>bndB (takP U s p) F) (fun p=>rbd ((),rTak U 3 s p) fun _=>G):=PF.takG V h 3 s fun p hp he=>is3 V hp he hs
omit V in
theorem PF.fin {α:Type}(x:α)(b:Bool)(m:Nat):PF U (fun p=>bif !b then(none,stopP p (U.getD 0 tk0).l (U.getD 0 tk0).c 1)else bndB (fulP (U.getD 0 tk0) m 30 p) fun p=>(some x,p)) (fun p=>(x,rFl U m (rOk U b p))):=by
 refine⟨fun p he hp=>?_,fun p he=>?_⟩
 ·cases b with
  |false=>
   have h1:=stop_e p (U.getD 0 tk0).l (U.getD 0 tk0).c (e:=1) (by decide)
   refine PR.none h1 ?_
   show er (rFl U m (stopP p _ _ 1))=_
   unfold rFl
   rw[rRef_stk h1]
   cases decide (30<m+1)<;>rfl
  |true=>
   show PR (bndB (fulP (U.getD 0 tk0) m 30 p) _) (x,rFl U m p)
   unfold fulP rFl
   have:decide (30<m+1)=decide (30≤m):=by rw[decide_eq_decide];omega
   rw[this]
   cases decide (30≤m)with
   |true=>exact PR.none (stop_e p _ _ (by decide)) rfl
   |false=>exact PR.some he
 ·show er (rFl U m (rOk U b p))=_
  unfold rFl rOk
  cases b<;>simp only[cond_true,cond_false,rRef_stk he]<;>cases decide (30<m+1)<;>simp only[cond_true,cond_false,rRef_stk he]
theorem PF.sgn {α:Type}{F:Bool→Ps→Option α×Ps}{G:Bool→Ps→α×Ps}(h:∀s,PF U (F s) (G s)):PF U (fun p=>bif !isP U sgnT p&& !isP U usgT p then(none,wrnP U p)else F (isP U sgnT p) (advP p)) (fun p=>rbd (rSgn U p) G):=by
 refine⟨fun p he hp=>?_,fun p he=>?_⟩
 ·show PR (bif !isP U sgnT p&& !isP U usgT p then(none,wrnP U p)else F (isP U sgnT p) (advP p)) (G (rSgn U p).1 (rSgn U p).2)
  unfold rSgn rTak
  rw[is1 V hp he (by decide),is1 V hp he (by decide)]
  cases h1:isP U sgnT p with
  |true=>
   simp only[Bool.not_true,Bool.false_and,cond_false,cond_true]
   exact(h true).1 (advP p) he (is_on V.g hp h1).2
  |false=>
   cases h2:isP U usgT p with
   |true=>
    simp only[Bool.not_true,Bool.and_false,cond_false,cond_true]
    exact(h false).1 (advP p) he (is_on V.g hp h2).2
   |false=>
    simp only[Bool.not_false,Bool.and_true,cond_false,cond_true]
    exact PR.none (wrnE p) ((h false).2 _ (wrnE p))
 ·show er (G (rSgn U p).1 (rSgn U p).2).2=_
  have:(rSgn U p).2=p:=by unfold rSgn;rw[rIs_stk he,cond_false];exact rTak_stk he _ _
  rw[this]
  exact(h _).2 p he
omit V in
theorem rCol_stk {p:Ps}(h:p.e≠0)(f:Nat)(l:Str):rCol U f l p=(l,p):=by
 cases f with
 |zero=>rfl
 |succ f=>rw[rCol,beq_eq_false_iff_ne.2 h];rfl
omit V in
theorem rCol_eq:∀(f:Nat) (s:Str) (p:Ps),p.e=0→rCol U f s p=colP U f s p
 |0,_,_,_=>rfl
 |f+1,s,p,h=>by
  rw[rCol,colP,h]
  cases (hereP U p).k==4 with
  |true=>rfl
  |false=>exact rCol_eq f _ (advP p) h
theorem col_ne:∀(f:Nat) (s:Str) (p:Ps),p.at_<U.length→s≠[]→(colP U f s p).1≠[]
 |0,s,p,_,h=>h
 |f+1,s,p,hp,h=>by
  rw[colP]
  cases hk:(hereP U p).k==4 with
  |true=>exact h
  |false=>exact col_ne f _ _ (adv_on V.g hp (by simpa using hk)).1.2 (by simp[h])
omit V in
theorem rPrs_stk {p:Ps}(h:p.e≠0)(f:Nat)(xs ys:List Int):(rPrs U f xs ys p).2=p:=by
 cases f with
 |zero=>rfl
 |succ f=>
  rw[rPrs]
  unfold rbd
  simp only[rNum_stk h,rIs_stk h,cond_false]
theorem prs_ref:∀(f:Nat) (xs ys:List Int) (p:Ps),p.e=0→p.at_<U.length→U.length≤p.at_+f→PR (prsP U f xs ys p) (rPrs U f xs ys p)
 |0,xs,ys,p,he,hp,hf=>by omega
 |f+1,xs,ys,p,he,hp,hf=>by
  rw[prsP,rPrs]
  rcases num_two V p he hp with⟨h1,h2⟩|⟨x,h1,h2,h3⟩
  ·have hw:=wrnE (U:=U) p
   rw[h1,h2]
   refine PR.none hw ?_
   unfold rbd
   simp only[rNum_stk hw,rIs_stk hw,cond_false]
  ·rw[h1,h2]
   simp only[bnd,rbd]
   rcases num_two V (advP p) he h3 with⟨h4,h5⟩|⟨y,h4,h5,h6⟩
   ·have hw:=wrnE (U:=U) (advP p)
    rw[h4,h5]
    refine PR.none hw ?_
    simp only[rIs_stk hw,cond_false]
   ·rw[h4,h5]
    simp only[bnd]
    show PR (bif isP U [44] (advP (advP p))then _ else _) (bif rIs U 3 [44] (advP (advP p))then _ else _)
    rw[is3 V h6 he (by decide)]
    cases hb:isP U [44] (advP (advP p))with
    |false=>exact PR.some he
    |true=>
     have h7:=is_on V.g h6 hb
     have h8:(advP (advP (advP p))).at_=p.at_+1+1+1:=rfl
     exact prs_ref f _ _ _ he h7.2 (by omega)
theorem PR.bnd {α β:Type}{x:Option α×Ps}{y:α×Ps}{F:α→Ps→Option β×Ps}{G:α→Ps→β×Ps}(hx:PR x y)(ho:x.2.at_<U.length)(h:∀s,PF U (F s) (G s)):PR (Fx.bnd x F) (rbd y G):=by
 obtain⟨o,p⟩:=x
 cases o with
 |none=>
  obtain⟨h1,h2⟩:=hx
  have he:p.e≠0:=fun hh=>h1 (by rw[er_e h2];exact hh)
  exact PR.none he (((h _).2 _ h1).trans h2)
 |some a=>
  obtain⟨h1,h2⟩:=hx
  subst h1
  exact(h a).1 p h2 ho
theorem unt_two (p:Ps)(he:p.e=0)(hp:p.at_<U.length):PR (untP U p) (rUnt U p):=by
 have hon:=col_on V.g 40000 [] p hp
 have hce:=col_e V.g 40000 [] p
 unfold untP rUnt rUn2
 rw[rCol_eq _ _ _ he]
 have hne:¬(hereP U p).k=4→∀n,(colP U (n+1) [] p).1≠[]:=fun hk n=>by
  rw[colP,beq_eq_false_iff_ne.2 hk]
  refine col_ne V _ _ _ (adv_on V.g hp hk).1.2 ?_
  rw[List.nil_append]
  rcases V.v _ hp with⟨q,_⟩|⟨q,_⟩
  ·exact absurd q hk
  ·exact q.n
 have hc4:(hereP U p).k=4→∀n,colP U (n+1) [] p=([],p):=fun hk n=>by
  rw[colP,hk];rfl
 have hne:¬(hereP U p).k=4→(colP U 40000 [] p).1≠[]:=fun hk=>hne hk 39999
 have hc4:(hereP U p).k=4→colP U 40000 [] p=([],p):=fun hk=>hc4 hk 39999
 generalize colP U 40000 [] p=s at*
 by_cases hk:(hereP U p).k=4
 ·rw[hc4 hk,hk]
  have hw:=wrnE (U:=U) p
  show PR (none,wrnP U p) ((prs []).1,bif (prs []).2==0 then(bif p.e==0&&([]:Str)==[]then wrnP U p else p)else rRef U p.at_ 3 (bif p.e==0&&([]:Str)==[]then wrnP U p else p))
  rw[he]
  refine PR.none hw ?_
  show er (bif (prs []).2==0 then wrnP U p else rRef U p.at_ 3 (wrnP U p))=_
  rw[rRef_stk hw]
  cases (prs []).2==0<;>rfl
 ·have hb:(s.1==[])=false:=beq_eq_false_iff_ne.2 (hne hk)
  rw[hb,Bool.and_false,cond_false,beq_eq_false_iff_ne.2 hk,cond_false]
  cases hu:(prs s.1).2==0 with
  |true=>exact PR.some (by rw[hce];exact he)
  |false=>exact PR.none (stop_e _ _ _ (by decide)) rfl
theorem PF.unt {α:Type}{F:Un→Ps→Option α×Ps}{G:Un→Ps→α×Ps}(h:∀s,PF U (F s) (G s)):PF U (fun p=>Fx.bnd (untP U p) F) (fun p=>rbd (rUnt U p) G):=by
 refine⟨fun p he hp=>PR.bnd V (unt_two V p he hp) (unt_on V.g hp).2 h,fun p he=>?_⟩
 show er (G (rUnt U p).1 (rUnt U p).2).2=_
 have:(rUnt U p).2=p:=by
  unfold rUnt rUn2
  rw[rCol_stk he]
  simp only[beq_eq_false_iff_ne.2 he,Bool.false_and,cond_false,rRef_stk he]
  cases (prs []).2==0<;>rfl
 rw[this]
 exact(h _).2 p he
omit V in
theorem rbd_def {α β:Type}(y:α×Ps)(g:α→Ps→β×Ps):rbd y g=g y.1 y.2:=rfl
omit V in
theorem rbd_assoc {α β γ:Type}(y:α×Ps)(g:α→Ps→β×Ps)(h:β→Ps→γ×Ps):rbd (rbd y g) h=rbd y fun a p=>rbd (g a p) h:=rfl
theorem typ_in (m:Nat)(nm:Str)(b:Int)(sg:Bool):PF U (fun p=>Fx.bnd (intP U p) fun num p=>Fx.bnd (intP U p) fun off p=>Fx.bnd (intP U p) fun den p=>Fx.bnd (untP U p) fun u p=>bif !fok (mkFt b sg num off den u)then(none,stopP p (U.getD 0 tk0).l (U.getD 0 tk0).c 1)else bndB (fulP (U.getD 0 tk0) m 30 p) fun p=>(some (⟨nm,mkFt b sg num off den u⟩:Td),p))
  (fun p=>rbd (rNum U p) fun num p=>rbd (rNum U p) fun off p=>rbd (rNum U p) fun den p=>rbd (rUnt U p) fun u p=>((⟨nm,mkFt b sg num off den u⟩:Td),rFl U m (rOk U (fok (mkFt b sg num off den u)) p))):=
 PF.num V fun num=>PF.num V fun off=>PF.num V fun den=>PF.unt V fun u=>PF.fin _ _ m
theorem typ_ref (m:Nat):PF U (typP U (U.getD 0 tk0) m) (fun p=>rbd (rTyp U p) fun x p=>(x,rFl U m p)):=by
 have e:(fun p=>rbd (rTyp U p) fun x p=>(x,rFl U m p))=fun p=>rbd (rNam U p) fun nm p=>rbd ((),rTak U 3 [61] p) fun _ p=>rbd (rNum U p) fun b p=>rbd (rSgn U p) fun sg p=>rbd (rNum U p) fun num p=>rbd (rNum U p) fun off p=>rbd (rNum U p) fun den p=>rbd (rUnt U p) fun u p=>((⟨nm,mkFt b sg num off den u⟩:Td),rFl U m (rOk U (fok (mkFt b sg num off den u)) p)):=by
  funext p
  unfold rTyp
  simp only[rbd_assoc]
  rfl
 rw[e]
 exact PF.nam V fun nm=>PF.tak V (PF.num V fun b=>PF.sgn V fun sg=>typ_in V m nm b sg) [61] (by decide)
theorem PF.cls {α:Type}{F:Ps→Option α×Ps}{G:Ps→α×Ps}(h:PF U F G):PF U (fun p=>clsP U p F) (fun p=>rCls U p G):=by
 refine⟨fun p he hp=>?_,fun p he=>?_⟩
 ·show PR (clsP U p F) (G (rEnd U (rTak U 3 [41] p)))
  unfold clsP
  rcases tak_two V 3 [41] p (is3 V hp he (by decide)) hp with⟨h1,h2⟩|⟨h1,h2,h3⟩
  ·have hw:=wrnE (U:=U) p
   rw[h1,h2]
   simp only[Bool.not_false,cond_true]
   have hnol:nolP U (wrnP U p)=wrnP U p:=by unfold nolP;rw[beq_eq_false_iff_ne.2 hw];rfl
   rw[hnol,rEnd_stk hw]
   exact PR.none hw (h.2 _ hw)
  ·rw[h1,h2]
   simp only[Bool.not_true,cond_false]
   have he1:(advP p).e=0:=he
   unfold rEnd
   rw[he1]
   cases hk:(hereP U (advP p)).k==4 with
   |true=>exact h.1 (advP p) he h3
   |false=>
    have hw:=wrnE (U:=U) (advP p)
    have:nolP U (advP p)=wrnP U (advP p):=by
     unfold nolP endP wrnP
     rw[he1,hk];rfl
    simp only[Bool.not_false,cond_true,beq_self_eq_true,Bool.and_true]
    rw[this]
    exact PR.none hw (h.2 _ hw)
 ·show er (G (rEnd U (rTak U 3 [41] p))).2=_
  rw[rTak_stk he,rEnd_stk he]
  exact h.2 p he
theorem PF.prs {α:Type}{F:List Int×List Int→Ps→Option α×Ps}{G:List Int×List Int→Ps→α×Ps}(h:∀s,PF U (F s) (G s)):PF U (fun p=>Fx.bnd (prsP U 40000 [] [] p) F) (fun p=>rbd (rPrs U 40000 [] [] p) G):=by
 refine⟨fun p he hp=>PR.bnd V (prs_ref V _ _ _ p he hp (by have:=V.n;omega)) (prsP_on V.g _ _ _ p hp).2 h,fun p he=>?_⟩
 show er (G _ _).2=_
 rw[rPrs_stk he]
 exact(h _).2 p he
theorem cur_ref (m:Nat):PF U (curP U (U.getD 0 tk0) m) (fun p=>rbd (rCur U p) fun x p=>(x,rFl U m p)):=
 PF.nam V fun nm=>PF.tak V (PF.tak V (PF.prs V fun xy=>PF.cls V (PF.fin _ _ m)) [40] (by decide)) [61] (by decide)
theorem nul_its (a b:Str):∀(f f':Nat) (l:List Int) (p:Ps),p.e=0→p.at_<U.length→U.length≤p.at_+f→U.length≤p.at_+f'→l≠[]→
  (rNuL U f l p).2.e=0∧(rNuL U f l p).2.at_<U.length∧itsP U a b f' l p=(bif isP U a (rNuL U f l p).2||isP U b (rNuL U f l p).2 then(some (rNuL U f l p).1,(rNuL U f l p).2)else(none,wrnP U (rNuL U f l p).2))
 |0,_,l,p,he,hp,hf,hf',hl=>by omega
 |_+1,0,l,p,he,hp,hf,hf',hl=>by omega
 |f+1,f'+1,l,p,he,hp,hf,hf',hl=>by
  have h0:(!l.isEmpty)=true:=by cases l with|nil=>exact absurd rfl hl|cons=>rfl
  rw[rNuL,itsP,h0,he]
  cases hk:(hereP U p).k==2 with
  |true=>
   have hk2:=eq_of_beq hk
   have hi:∀s,isP U s p=false:=fun s=>by unfold isP;rw[hk2];rfl
   have ho:=int_on V.g hp
   unfold intP rNum at*
   rw[hi,hi,he,hk]
   rw[hk]at ho
   have hg:=ho.2 rfl
   exact nul_its a b f f' _ (advP p) he ho.1.2 (by have:(advP p).at_=p.at_+1:=rfl;omega) (by have:(advP p).at_=p.at_+1:=rfl;omega) (by simp)
  |false=>
   simp only[Bool.and_false,cond_false,Bool.true_and]
   refine⟨he,hp,?_⟩
   cases isP U a p||isP U b p with
   |true=>rfl
   |false=>unfold intP;rw[hk];rfl
theorem nus_its (a b:Str)(p:Ps)(he:p.e=0)(hp:p.at_<U.length):(itsP U a b 40000 [] p=(none,wrnP U p)∧(rNus U p).2=wrnP U p)∨
  ∃l q,rNus U p=(l,q)∧q.e=0∧q.at_<U.length∧p.at_<q.at_∧itsP U a b 40000 [] p=(bif isP U a q||isP U b q then(some l,q)else(none,wrnP U q)):=by
 have hn:=V.n
 cases hk:(hereP U p).k==2 with
 |false=>
  left
  refine⟨?_,?_⟩
  ·have h0:∀n,itsP U a b (n+1) [] p=(none,wrnP U p):=fun n=>by
    rw[itsP]
    unfold intP;rw[hk];rfl
   exact h0 39999
  ·have:rNum U p=(0,wrnP U p):=by unfold rNum;rw[hk,Bool.and_false];rfl
   unfold rNus
   rw[this,rNuL_stk (wrnE p)]
 |true=>
  right
  have hr:rNum U p=((nmbQ (hereP U p).s).1,advP p):=by unfold rNum;rw[hk,he];rfl
  have hii:intP U p=(some (nmbQ (hereP U p).s).1,advP p):=by unfold intP;rw[hk];rfl
  have ho:=int_on V.g hp
  rw[hii]at ho
  have h1:=nul_its V a b 40000 39999 [(nmbQ (hereP U p).s).1] (advP p) he ho.1.2 (by omega) (by have:(advP p).at_=p.at_+1:=rfl;omega) (by simp)
  have hon:=its_on V.g a b 39999 [(nmbQ (hereP U p).s).1] (advP p) ho.1.2
  refine⟨(rNuL U 40000 [(nmbQ (hereP U p).s).1] (advP p)).1,(rNuL U 40000 [(nmbQ (hereP U p).s).1] (advP p)).2,by unfold rNus;rw[hr],h1.1,h1.2.1,?_,?_⟩
  ·show p.at_<(rNuL U 40000 [(nmbQ (hereP U p).s).1] (advP p)).2.at_
   have h3:(itsP U a b 39999 [(nmbQ (hereP U p).s).1] (advP p)).2.at_=(rNuL U 40000 [(nmbQ (hereP U p).s).1] (advP p)).2.at_:=by
    rw[h1.2.2]
    cases isP U a (rNuL U 40000 [(nmbQ (hereP U p).s).1] (advP p)).2||isP U b (rNuL U 40000 [(nmbQ (hereP U p).s).1] (advP p)).2 with
    |true=>rfl
    |false=>exact wrn_at _
   have h2:=hon.1
   rw[h3]at h2
   have:(advP p).at_=p.at_+1:=rfl
   omega
  ·have e1:∀n,itsP U a b (n+1) [] p=itsP U a b n [(nmbQ (hereP U p).s).1] (advP p):=fun n=>by
    rw[itsP,hii];rfl
   exact(e1 39999).trans h1.2.2
theorem PF.its59 {α:Type}{F:List Int→Ps→Option α×Ps}{G:List Int→Ps→α×Ps}(h:∀s,PF U (F s) (G s)):PF U (fun p=>Fx.bnd (itsP U [59] [59] 40000 [] p) fun l p=>bndB (takP U [59] p) (F l)) (fun p=>rbd (rNus U p) fun l p=>rbd ((),rTak U 3 [59] p) fun _=>G l):=by
 refine⟨fun p he hp=>?_,fun p he=>?_⟩
 ·show PR (Fx.bnd (itsP U [59] [59] 40000 [] p) fun l p=>bndB (takP U [59] p) (F l)) (rbd (rNus U p) fun l p=>rbd ((),rTak U 3 [59] p) fun _=>G l)
  rcases nus_its V [59] [59] p he hp with⟨h1,h2⟩|⟨l,q,h1,h2,h3,_,h4⟩
  ·have hw:=wrnE (U:=U) p
   rw[h1]
   refine PR.none hw ?_
   show er (G (rNus U p).1 (rTak U 3 [59] (rNus U p).2)).2=_
   rw[h2,rTak_stk hw]
   exact(h _).2 _ hw
  ·rw[h4,h1]
   show PR _ (G l (rTak U 3 [59] q))
   unfold rTak
   rw[is3 V h3 h2 (by decide)]
   cases hb:isP U [59] q with
   |true=>
    have hq:=(is_on V.g h3 hb).2
    show PR (bndB (takP U [59] q) (F l)) _
    unfold takP
    rw[hb]
    exact(h l).1 (advP q) h2 hq
   |false=>exact PR.none (wrnE q) ((h l).2 _ (wrnE q))
 ·show er (G (rNus U p).1 (rTak U 3 [59] (rNus U p).2)).2=_
  rw[rNus_stk he,rTak_stk he]
  exact(h _).2 p he
omit V in
theorem rRws_stk {p:Ps}(h:p.e≠0)(f:Nat)(zs:List (List Int)):(rRws U f zs p).2=p:=by
 cases f with
 |zero=>rfl
 |succ f=>
  rw[rRws]
  unfold rbd
  simp only[rNus_stk h,rIs_stk h,cond_false]
theorem rws_ref:∀(f:Nat) (zs:List (List Int)) (p:Ps),p.e=0→p.at_<U.length→U.length≤p.at_+f→
  ((rRws U f zs p).2.e≠0∧∃q,rwsP U f zs p=(none,q)∧er (rRws U f zs p).2=er q)∨
  ((rRws U f zs p).2.e=0∧(rRws U f zs p).2.at_<U.length∧rwsP U f zs p=(bif isP U [41] (rRws U f zs p).2 then(some (rRws U f zs p).1,(rRws U f zs p).2)else(none,wrnP U (rRws U f zs p).2)))
 |0,zs,p,he,hp,hf=>by omega
 |f+1,zs,p,he,hp,hf=>by
  rw[rwsP,rRws]
  unfold rbd
  rcases nus_its V [44] [41] p he hp with⟨h1,h2⟩|⟨l,q,h1,h2,h3,h5,h4⟩
  ·have hw:=wrnE (U:=U) p
   left
   rw[h1]
   simp only[h2,rIs_stk hw,cond_false]
   exact⟨hw,_,rfl,rfl⟩
  ·rw[h4,h1]
   simp only
   rw[is3 V h3 h2 (by decide)]
   cases hb:isP U [44] q with
   |true=>
    have hq:=(is_on V.g h3 hb).2
    have e1:(bnd (some l,q) fun z p=>bif isP U [44] p then rwsP U f (zs++[z]) (advP p)else(some (zs++[z]),p))=rwsP U f (zs++[l]) (advP q):=by
     show(bif isP U [44] q then _ else _)=_
     rw[hb];rfl
    simp only[Bool.true_or,cond_true]
    rw[e1]
    have:(advP q).at_=q.at_+1:=rfl
    exact rws_ref f _ (advP q) h2 hq (by omega)
   |false=>
    right
    simp only[Bool.false_or,cond_false]
    refine⟨h2,h3,?_⟩
    cases hc:isP U [41] q with
    |true=>
     show(bif isP U [44] q then _ else _)=_
     rw[hb];rfl
    |false=>rfl
theorem PF.rws {α:Type}{F:List (List Int)→Ps→Option α×Ps}{G:List (List Int)→Ps→α×Ps}(h:∀s,PF U (F s) (G s)):PF U (fun p=>Fx.bnd (rwsP U 40000 [] p) fun zs p=>clsP U p (F zs)) (fun p=>rbd (rRws U 40000 [] p) fun zs p=>rCls U p (G zs)):=by
 refine⟨fun p he hp=>?_,fun p he=>?_⟩
 ·show PR (Fx.bnd (rwsP U 40000 [] p) fun zs p=>clsP U p (F zs)) (rbd (rRws U 40000 [] p) fun zs p=>rCls U p (G zs))
  rcases rws_ref V 40000 [] p he hp (by have:=V.n;omega)with⟨h1,q,h2,h3⟩|⟨h1,h2,h3⟩
  ·rw[h2]
   refine PR.none (by rw[←er_e h3];exact h1) ?_
   show er (G (rRws U 40000 [] p).1 (rEnd U (rTak U 3 [41] (rRws U 40000 [] p).2))).2=_
   rw[rTak_stk h1,rEnd_stk h1,(h _).2 _ h1,h3]
  ·rw[h3]
   show PR _ (rCls U (rRws U 40000 [] p).2 (G (rRws U 40000 [] p).1))
   generalize rRws U 40000 [] p=y at*
   cases hb:isP U [41] y.2 with
   |true=>exact(PF.cls V (h y.1)).1 y.2 h1 h2
   |false=>
    refine PR.none (wrnE y.2) ?_
    show er (G y.1 (rEnd U (rTak U 3 [41] y.2))).2=_
    have:rTak U 3 [41] y.2=wrnP U y.2:=by unfold rTak;rw[is3 V h2 h1 (by decide),hb];rfl
    rw[this,rEnd_stk (wrnE y.2)]
    exact(h _).2 _ (wrnE y.2)
 ·show er (G _ (rEnd U (rTak U 3 [41] (rRws U 40000 [] p).2))).2=_
  rw[rRws_stk he,rTak_stk he,rEnd_stk he]
  exact(h _).2 p he
theorem map_ref (m:Nat):PF U (mapP U (U.getD 0 tk0) m) (fun p=>rbd (rMap U p) fun x p=>(x,rFl U m p)):=
 PF.nam V fun nm=>PF.tak V (PF.tak V (PF.its59 V fun xs=>PF.its59 V fun ys=>PF.rws V fun zs=>PF.fin _ _ m) [40] (by decide)) [61] (by decide)
omit V in
theorem PF.ful {α:Type}(x:α)(m lim:Nat)(R:Ps→Ps)(hR:∀p,R p=bif decide (lim≤m)then rRef U 0 5 p else p):PF U (fun p=>bndB (fulP (U.getD 0 tk0) m lim p) fun p=>(some x,p)) (fun p=>(x,R p)):=by
 refine⟨fun p he hp=>?_,fun p he=>?_⟩
 ·dsimp only
  rw[hR]
  unfold fulP
  cases decide (lim≤m)with
  |true=>exact PR.none (stop_e p _ _ (by decide)) rfl
  |false=>exact PR.some he
 ·show er (R p)=_
  rw[hR]
  cases decide (lim≤m)with
  |true=>rw[cond_true,rRef_stk he]
  |false=>rfl
theorem PF.end {α:Type}{F:Ps→Option α×Ps}{G:Ps→α×Ps}(h:PF U F G):PF U (fun p=>bif !((hereP U p).k==4)then(none,(endP U p).2)else F p) (fun p=>G (rEnd U p)):=by
 refine⟨fun p he hp=>?_,fun p he=>?_⟩
 ·dsimp only
  unfold rEnd
  rw[he]
  cases hk:(hereP U p).k==4 with
  |true=>exact h.1 p he hp
  |false=>
   have:(endP U p).2=wrnP U p:=by unfold endP wrnP;rw[hk];rfl
   rw[this]
   exact PR.none (wrnE p) (h.2 _ (wrnE p))
 ·show er (G (rEnd U p)).2=_
  rw[rEnd_stk he]
  exact h.2 p he
omit V in
theorem rFl_eq (m:Nat)(p:Ps):rFl U m p=bif decide (30≤m)then rRef U 0 5 p else p:=by
 unfold rFl
 have:decide (30<m+1)=decide (30≤m):=by rw[decide_eq_decide];omega
 rw[this]
theorem inp_ref (m:Nat):PF U (inpP U (U.getD 0 tk0) m) (fun p=>rbd (rInp U p) fun x p=>(x,rFl U m p)):=
 PF.nam V fun nm=>PF.tak V (PF.nam V fun ty=>PF.num V fun lo=>PF.num V fun hi=>PF.end V (PF.ful _ m 30 _ (rFl_eq m))) [58] (by decide)
omit V in
theorem rNms_stk {p:Ps}(h:p.e≠0)(f:Nat)(l:List Str):(rNms U f l p).2=p:=by
 cases f with
 |zero=>rfl
 |succ f=>
  rw[rNms]
  unfold rbd
  simp only[rNam_stk h,rIs_stk h,cond_false]
theorem nms_ref:∀(f:Nat) (l:List Str) (p:Ps),p.e=0→p.at_<U.length→U.length≤p.at_+f→(∀s∈l,s≠[])→
  ((rNms U f l p).2.e≠0∧∃q,nmsP U [59] [41] f l p=(none,q)∧er (rNms U f l p).2=er q)∨
  ((rNms U f l p).2.e=0∧(rNms U f l p).2.at_<U.length∧(∀s∈(rNms U f l p).1,s≠[])∧nmsP U [59] [41] f l p=(bif isP U [59] (rNms U f l p).2||isP U [41] (rNms U f l p).2 then(some (rNms U f l p).1,(rNms U f l p).2)else(none,wrnP U (rNms U f l p).2)))
 |0,l,p,he,hp,hf,hl=>by omega
 |f+1,l,p,he,hp,hf,hl=>by
  rw[nmsP,rNms]
  unfold rbd
  rcases nam_two V p he hp with⟨h1,h2⟩|⟨s,hs,h1,h2,h3⟩
  ·have hw:=wrnE (U:=U) p
   left
   rw[h1,h2]
   simp only[rIs_stk hw,cond_false]
   exact⟨hw,_,rfl,rfl⟩
  ·rw[h1,h2]
   simp only
   rw[is3 V h3 he (by decide)]
   have hl2:∀x∈l++[s],x≠[]:=fun x hx=>by
    rcases List.mem_append.1 hx with h|h
    ·exact hl x h
    ·rw[List.mem_singleton]at h;subst h;exact hs
   show(_∧∃q,(bif isP U [59] (advP p)||isP U [41] (advP p)then(some (l++[s]),advP p)else bndB (takP U [44] (advP p)) fun p=>nmsP U [59] [41] f (l++[s]) p)=(none,q)∧_)∨(_∧_∧_∧(bif isP U [59] (advP p)||isP U [41] (advP p)then(some (l++[s]),advP p)else bndB (takP U [44] (advP p)) fun p=>nmsP U [59] [41] f (l++[s]) p)=_)
   cases hb:isP U [44] (advP p)with
   |true=>
    have hq:=(is_on V.g h3 hb).2
    have hx:(hereP U (advP p)).s=[44]:=by unfold isP at hb;rw[Bool.and_eq_true]at hb;exact eq_of_beq hb.2
    have h59:isP U [59] (advP p)=false:=by unfold isP;rw[hx,Bool.and_eq_false_iff];right;decide
    have h41:isP U [41] (advP p)=false:=by unfold isP;rw[hx,Bool.and_eq_false_iff];right;decide
    have ht:takP U [44] (advP p)=(true,advP (advP p)):=by unfold takP;rw[hb];rfl
    rw[h59,h41,ht]
    have a1:(advP (advP p)).at_=p.at_+1+1:=rfl
    exact nms_ref f _ (advP (advP p)) he hq (by omega) hl2
   |false=>
    right
    simp only[cond_false]
    refine⟨he,h3,hl2,?_⟩
    have ht:takP U [44] (advP p)=(false,wrnP U (advP p)):=by unfold takP;rw[hb];rfl
    rw[ht];rfl
theorem cms_ref:∀(f:Nat) (l:List Int) (p:Ps),p.e=0→p.at_<U.length→U.length≤p.at_+f→PR (cmsP U f l p) (rCms U f l p)
 |0,l,p,he,hp,hf=>by omega
 |f+1,l,p,he,hp,hf=>by
  rw[cmsP,rCms]
  rcases num_two V p he hp with⟨h1,h2⟩|⟨x,h1,h2,h3⟩
  ·have hw:=wrnE (U:=U) p
   rw[h1,h2]
   refine PR.none hw ?_
   unfold rbd
   simp only[rIs_stk hw,cond_false]
  ·rw[h1,h2]
   have he1:(advP p).e=0:=he
   show PR (bif isP U [44] (advP p)then _ else _) (bif rIs U 3 [44] (advP p)then _ else _)
   rw[is3 V h3 he1 (by decide)]
   cases hb:isP U [44] (advP p)with
   |false=>exact PR.some he
   |true=>
    have h7:=is_on V.g h3 hb
    have a1:(advP (advP p)).at_=p.at_+1+1:=rfl
    exact cms_ref f _ (advP (advP p)) he h7.2 (by omega)
theorem PF.ks {α:Type}{F:List Int→Ps→Option α×Ps}{G:List Int→Ps→α×Ps}(h:∀s,PF U (F s) (G s)):PF U (fun p=>Fx.bnd (ksP U p) F) (fun p=>rbd (rKs U p) G):=by
 refine⟨fun p he hp=>?_,fun p he=>?_⟩
 ·dsimp only
  unfold ksP rKs
  rw[is3 V hp he (by decide)]
  cases hb:isP U [59] p with
  |false=>exact(h []).1 p he hp
  |true=>
   have h7:=is_on V.g hp hb
   have a1:(advP p).at_=p.at_+1:=rfl
   exact PR.bnd V (cms_ref V _ _ _ he h7.2 (by have:=V.n;omega)) (cms_on V.g _ _ _ h7.2).2 h
 ·show er (G (rKs U p).1 (rKs U p).2).2=_
  have:rKs U p=([],p):=by unfold rKs;rw[rIs_stk he];rfl
  rw[this]
  exact(h _).2 p he
theorem PF.ars {α:Type}{F:List Str→List Int→Ps→Option α×Ps}{G:List Str→List Int→Ps→α×Ps}(h:∀l ks,(∀s∈l,s≠[])→PF U (F l ks) (G l ks))(hs:∀l ks (p:Ps),p.e≠0→er (G l ks p).2=er p):
  PF U (fun p=>Fx.bnd (arsP U p) fun l p=>Fx.bnd (ksP U p) fun ks p=>bndB (takP U [41] p) (F l ks)) (fun p=>rbd (rArs U p) fun l p=>rbd (rKs U p) fun ks p=>rbd ((),rTak U 3 [41] p) fun _=>G l ks):=by
 have hin:∀l,(∀s∈l,s≠[])→PF U (fun p=>Fx.bnd (ksP U p) fun ks p=>bndB (takP U [41] p) (F l ks)) (fun p=>rbd (rKs U p) fun ks p=>rbd ((),rTak U 3 [41] p) fun _=>G l ks):=fun l hl=>PF.ks V fun ks=>PF.tak V (h l ks hl) [41] (by decide)
 have hst:∀l (p:Ps),p.e≠0→er (rbd (rKs U p) fun ks p=>rbd ((),rTak U 3 [41] p) fun _=>G l ks).2=er p:=fun l p he=>by
  have:rKs U p=([],p):=by unfold rKs;rw[rIs_stk he];rfl
  rw[this]
  show er (G l [] (rTak U 3 [41] p)).2=_
  rw[rTak_stk he]
  exact hs l [] p he
 refine⟨fun p he hp=>?_,fun p he=>?_⟩
 ·dsimp only
  unfold arsP rArs
  rw[is3 V hp he (by decide),is3 V hp he (by decide)]
  cases h41:isP U [41] p with
  |true=>rw[Bool.not_true,Bool.and_false];exact(hin [] (by simp)).1 p he hp
  |false=>
   cases h59:isP U [59] p with
   |true=>exact(hin [] (by simp)).1 p he hp
   |false=>
    have hN:=nms_ref V 40000 [] p he hp (by have:=V.n;omega) (by simp)
    generalize (40000:Nat)=N at hN⊢
    simp only[Bool.not_false,Bool.and_self,cond_true,Bool.or_self,cond_false]
    rcases hN with⟨h1,q,h2,h3⟩|⟨h1,h2,h4,h3⟩
    ·rw[h2]
     refine PR.none (by rw[←er_e h3];exact h1) ?_
     rw[rbd_def (rNms U N [] p)]
     rw[hst _ _ h1,h3]
    ·rw[h3]
     rw[rbd_def (rNms U N [] p)]
     generalize rNms U N [] p=y at*
     cases hb:isP U [59] y.2||isP U [41] y.2 with
     |true=>exact(hin y.1 h4).1 y.2 h1 h2
     |false=>
      rw[Bool.or_eq_false_iff]at hb
      refine PR.none (wrnE y.2) ?_
      have e1:rKs U y.2=([],y.2):=by unfold rKs;rw[is3 V h2 h1 (by decide),hb.1];rfl
      rw[e1]
      show er (G y.1 [] (rTak U 3 [41] y.2)).2=_
      have:rTak U 3 [41] y.2=wrnP U y.2:=by unfold rTak;rw[is3 V h2 h1 (by decide),hb.2];rfl
      rw[this]
      exact hs _ _ _ (wrnE y.2)
 ·have e0:(rArs U p).2=p:=by
   unfold rArs
   rw[rIs_stk he,rIs_stk he]
   exact rNms_stk he _ _
  dsimp only
  generalize rArs U p=y at e0⊢
  subst e0
  exact hst y.1 y.2 he
omit V in
theorem rBf_eq (m:Nat)(p:Ps):rBf U m p=bif decide (200≤m)then rRef U 0 5 p else p:=by
 unfold rBf
 have:decide (200<m+1)=decide (200≤m):=by rw[decide_eq_decide];omega
 rw[this]
theorem tb_eq (a k t:Nat)(l:List Str)(ks:List Int)(hl:∀s∈l,s≠[]):
  (!(decide (l.length=a+min t 1))|| !(decide (ks.length=k)))=(!(decide ((rTb t l).1.length=a))||(!(decide (ks.length=k))||(decide (0<t)&&(rTb t l).2==[])))∧
  ((!(decide (l.length=a+min t 1))|| !(decide (ks.length=k)))=false→(rTb t l).1=l.take a∧(rTb t l).2=bif decide (1≤t)then l.getD a []else[]):=by
 unfold rTb
 by_cases ht:0<t
 ·have hm:min t 1=1:=by omega
  rw[hm,decide_eq_true ht,decide_eq_true (show 1≤t from ht)]
  by_cases h0:0<l.length
  ·rw[decide_eq_true h0]
   simp only[Bool.and_true,cond_true,Bool.true_and]
   have hlast:(l.getD (l.length-1) []==[])=false:=by
    rw[beq_eq_false_iff_ne,List.getD_eq_getElem?_getD,List.getElem?_eq_getElem (by omega)]
    exact hl _ (List.getElem_mem _)
   have hd:decide (l.length=a+1)=decide ((l.take (l.length-1)).length=a):=by rw[decide_eq_decide,List.length_take];omega
   rw[hlast,hd,Bool.or_false]
   refine⟨rfl,fun hh=>?_⟩
   rw[Bool.or_eq_false_iff,Bool.not_eq_false',decide_eq_true_eq,List.length_take]at hh
   have:l.length-1=a:=by omega
   rw[this];exact⟨rfl,rfl⟩
  ·have:l=[]:=List.length_eq_zero_iff.1 (by omega)
   subst this
   simp
 ·have:t=0:=by omega
  subst this
  simp
  intro h1 _
  rw[←h1,List.take_length]
theorem blk_fin (f kd:Tk)(i a k t:Nat)(nm ty:Str)(m:Nat)(l:List Str)(ks:List Int)(hl:∀s∈l,s≠[])(hf:f=U.getD 0 tk0)(hi:U.getD i tk0=kd):
  PF U (fun p=>bif !(decide (l.length=a+min t 1))|| !(decide (ks.length=k))then(none,stopP p kd.l kd.c 1)else bndB (fulP f m 200 p) fun p=>(some (⟨nm,kd.s,ty,l.take a,bif decide (1≤t)then l.getD a []else[],ks⟩:Bl),p))
   (fun p=>rbd (rBlE U i a k t ⟨nm,kd.s,ty,(rTb t l).1,(rTb t l).2,ks⟩ p) fun x p=>(x,rBf U m p)):=by
 obtain⟨h1,h2⟩:=tb_eq V a k t l ks hl
 subst hf
 unfold rBlE rbd
 simp only
 rw[←h1]
 cases hc:(!(decide (l.length=a+min t 1))|| !(decide (ks.length=k)))with
 |true=>
  refine⟨fun p he hp=>?_,fun p he=>?_⟩
  ·have hs:=stop_e p kd.l kd.c (e:=1) (by decide)
   refine PR.none hs ?_
   show er (rBf U m (rRef U i 1 p))=_
   have e1:rRef U i 1 p=stopP p kd.l kd.c 1:=by unfold rRef;rw[hi]
   rw[e1,rBf_eq]
   cases decide (200≤m)with
   |true=>rw[cond_true,rRef_stk hs]
   |false=>rfl
  ·show er (rBf U m (rRef U i 1 p))=_
   rw[rRef_stk he,rBf_eq]
   cases decide (200≤m)with
   |true=>rw[cond_true,rRef_stk he]
   |false=>rfl
 |false=>
  obtain⟨q1,q2⟩:=h2 hc
  rw[q1,q2]
  exact PF.ful _ m 200 _ (rBf_eq m)
omit V in
theorem rArs_stk {p:Ps}(h:p.e≠0):(rArs U p).2=p:=by
 unfold rArs
 rw[rIs_stk h,rIs_stk h]
 exact rNms_stk h _ _
omit V in
theorem rKs_stk {p:Ps}(h:p.e≠0):rKs U p=([],p):=by unfold rKs;rw[rIs_stk h];rfl
omit V in
theorem bl2_stk {p:Ps}(h:p.e≠0)(i a k t m:Nat)(kd nm:Str):er (rbd (rBl2 U i a k t kd nm p) fun x p=>(x,rBf U m p)).2=er p:=by
 have hE:∀(q:Ps),q=p→∀b,er (rBf U m (rBlE U i a k t b q).2)=er p:=fun q hq b=>by
  subst hq
  unfold rBlE
  dsimp only
  rw[rRef_stk h]
  have:(bif !(decide (b.ins.length=a))||(!(decide (b.ks.length=k))||(decide (0<t)&&b.tb==[]))then q else q)=q:=by
   cases (!(decide (b.ins.length=a))||(!(decide (b.ks.length=k))||(decide (0<t)&&b.tb==[])))<;>rfl
  rw[this,rBf_eq,rRef_stk h]
  cases decide (200≤m)<;>rfl
 unfold rBl2 rbd
 dsimp only
 refine hE _ ?_ _
 have e1:(rArs U (rTak U 3 [40] p)).2=p:=by rw[rTak_stk h];exact rArs_stk h
 rw[e1,rKs_stk h]
 dsimp only
 rw[rTak_stk h,rTak_stk h,rNam_stk h,rEnd_stk h]
theorem bl2_ref (m i a k t:Nat)(kd:Tk)(nm:Str)(hi:U.getD i tk0=kd):PF U (bk2P U (U.getD 0 tk0) kd a k t nm m) (fun p=>rbd (rBl2 U i a k t kd.s nm p) fun x p=>(x,rBf U m p)):=by
 refine⟨fun p he hp=>?_,fun p he=>bl2_stk he i a k t m kd.s nm⟩
 refine(PF.tak V (PF.ars V (F:=fun l ks p=>bndB (takP U [58] p) fun p=>Fx.bnd (namP U p) fun ty p=>bif !((hereP U p).k==4)then(none,(endP U p).2)else bif !(decide (l.length=a+min t 1))|| !(decide (ks.length=k))then(none,stopP p kd.l kd.c 1)else bndB (fulP (U.getD 0 tk0) m 200 p) fun p=>(some (⟨nm,kd.s,ty,l.take a,bif decide (1≤t)then l.getD a []else[],ks⟩:Bl),p))
  (G:=fun l ks p=>rbd ((),rTak U 3 [58] p) fun _ p=>rbd (rNam U p) fun ty p=>(fun p=>rbd (rBlE U i a k t ⟨nm,kd.s,ty,(rTb t l).1,(rTb t l).2,ks⟩ p) fun x p=>(x,rBf U m p)) (rEnd U p))
  (fun l ks hl=>PF.tak V (PF.nam V fun ty=>PF.end V (blk_fin V _ _ i a k t nm ty m l ks hl rfl hi)) [58] (by decide)) (fun l ks p he=>?_)) [40] (by decide)).1 p he hp
 unfold rbd
 dsimp only
 rw[rTak_stk he,rNam_stk he,rEnd_stk he]
 unfold rBlE
 dsimp only
 rw[rRef_stk he]
 have:∀c:Bool,(bif c then p else p)=p:=fun c=>by cases c<;>rfl
 rw[this,rBf_eq,rRef_stk he]
 cases decide (200≤m)<;>rfl
theorem blk_ref (m:Nat):PF U (blkP U (U.getD 0 tk0) m) (fun p=>rbd (rBlk U p) fun x p=>(x,rBf U m p)):=by
 have hin:∀nm:Str,PF U (fun p=>bif !((hereP U p).k==1)|| !(kindQ (hereP U p).s).isSome then(none,wrnP U p)else
   bk2P U (U.getD 0 tk0) (hereP U p) ((kindQ (hereP U p).s).getD (0,0,0)).1 ((kindQ (hereP U p).s).getD (0,0,0)).2.1 ((kindQ (hereP U p).s).getD (0,0,0)).2.2 nm m (advP p))
   (fun p=>rbd (rKd U p) fun kd q=>rbd (rBl2 U p.at_ kd.2.1 kd.2.2.1 kd.2.2.2 kd.1 nm q) fun x p=>(x,rBf U m p)):=fun nm=>by
  refine⟨fun p he hp=>?_,fun p he=>?_⟩
  ·have hk:=(V.v _ hp).k1
   dsimp only
   unfold rKd rKq
   rw[he]
   cases hq:kindQ (hereP U p).s with
   |none=>
    rw[Option.isSome_none,Bool.not_false,Bool.or_true]
    have hw:=wrnE (U:=U) p
    exact PR.none hw (bl2_stk hw _ _ _ _ _ _ _)
   |some x=>
    obtain⟨a,k,t⟩:=x
    have h1:(hereP U p).k=1:=hk.1 (kindQ_le (by show(kindQ (hereP U p).s).isSome=true;rw[hq];rfl))
    rw[h1]
    have hadv:=(adv_on V.g hp (by rw[h1];decide)).1.2
    exact(bl2_ref V m p.at_ a k t (hereP U p) nm rfl).1 (advP p) he hadv
  ·have:rKd U p=(([],0,0,0),p):=by
    unfold rKd rKq
    rw[beq_eq_false_iff_ne.2 he]
    show(([],0,0,0),wrnP U p)=_
    rw[wrn_stk he]
   dsimp only
   rw[this]
   exact bl2_stk he _ _ _ _ _ _ _
 exact PF.nam V fun nm=>PF.tak V (hin nm) [61] (by decide)
theorem ous_ref:∀(f:Nat) (l:List Str) (p:Ps),p.e=0→p.at_<U.length→U.length≤p.at_+f→PR (ousP U f l p) (rNms U f l p)
 |0,l,p,he,hp,hf=>by omega
 |f+1,l,p,he,hp,hf=>by
  rw[ousP,rNms]
  unfold rbd
  rcases nam_two V p he hp with⟨h1,h2⟩|⟨s,hs,h1,h2,h3⟩
  ·have hw:=wrnE (U:=U) p
   rw[h1,h2]
   refine PR.none hw ?_
   simp only[rIs_stk hw,cond_false]
  ·rw[h1,h2]
   have he1:(advP p).e=0:=he
   show PR (bif isP U [44] (advP p)then _ else _) (bif rIs U 3 [44] (advP p)then _ else _)
   rw[is3 V h3 he1 (by decide)]
   cases hb:isP U [44] (advP p)with
   |false=>exact PR.some he
   |true=>
    have h7:=is_on V.g h3 hb
    have a1:(advP (advP p)).at_=p.at_+1+1:=rfl
    exact ous_ref f _ (advP (advP p)) he h7.2 (by omega)
theorem out_ref (m:Nat):PF U (outP U (U.getD 0 tk0) m) (fun p=>rOut U m p):=by
 have hin:∀l:List Str,PF U (fun p=>bif !((hereP U p).k==4)then(none,(endP U p).2)else bif decide (30<m+l.length)then(none,stopP p (U.getD 0 tk0).l (U.getD 0 tk0).c 5)else(some l,p)) (fun p=>(fun q=>(l,bif decide (30<m+l.length)then rRef U 0 5 q else q)) (rEnd U p)):=fun l=>PF.end V (F:=fun p=>bif decide (30<m+l.length)then(none,stopP p (U.getD 0 tk0).l (U.getD 0 tk0).c 5)else(some l,p)) (G:=fun q=>(l,bif decide (30<m+l.length)then rRef U 0 5 q else q)) (by
  refine⟨fun p he hp=>?_,fun p he=>?_⟩
  all_goals dsimp only
  ·cases decide (30<m+l.length)with
   |true=>exact PR.none (stop_e p _ _ (by decide)) rfl
   |false=>exact PR.some he
  ·cases decide (30<m+l.length)with
   |true=>show er (rRef U 0 5 p)=_;rw[rRef_stk he]
   |false=>rfl)
 refine⟨fun p he hp=>PR.bnd V (ous_ref V _ _ p he hp (by have:=V.n;omega)) (ous_on V.g _ _ p hp).2 hin,fun p he=>?_⟩
 show er ((fun l p=>(fun q=>(l,bif decide (30<m+l.length)then rRef U 0 5 q else q)) (rEnd U p)) (rNms U 40000 [] p).1 (rNms U 40000 [] p).2).2=_
 rw[rNms_stk he]
 exact(hin _).2 p he
end
end Go.Proofs.YtlnpgbnhcondjaaGreatDoor.Fx
