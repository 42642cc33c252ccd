/-  -/
import Derived.Test.YtlnpgbnhcondjaaGreatDoorTf
import Derived.Test.YtlnpgbnhcondjaaGreatDoorQ3
import Derived.Test.YtlnpgbnhcondjaaGreatDoorQ7
import Derived.Test.YtlnpgbnhcondjaaGreatDoorMA
import Derived.Test.YtlnpgbnhcondjaaGreatDoorMB
import Derived.Test.YtlnpgbnhcondjaaGreatDoorU5
import Derived.Laws.BitsAll
import Derived.Laws.Externs
namespace Go.Proofs.YtlnpgbnhcondjaaGreatDoor.Fx
set_option linter.unusedVariables false
structure Tk where
 k:Nat
 s:Str
 l:Nat
 c:Nat
def tk0:Tk:=⟨0,[],0,0⟩
def ngB (s:Str):Bool:=s.getD 0 0==45
def dgT (s:Str):Str:=bif ngB s then s.drop 1 else s
def canQ (s:Str):Bool:= !(dgT s==[])&&(!((dgT s).getD 0 0==48)||(decide ((dgT s).length=1)&& !ngB s))
def digV (l:Str):Nat:=l.foldl (fun a c=>a*10+(c.toNat-48)) 0
def numV (s:Str):Int:=bif ngB s then-(digV (dgT s):Int)else(digV (dgT s):Int)
def aprQ (s:Str):Int×Int:=
 if 24<s.length then(0,5)else if (dgT s==[]||((dgT s).getD 0 0==48&&decide (1<s.length)))=true then(0,3)else if (dgT s).all diB=false then(0,3)
 else if-9223372036854775808≤numV s∧numV s≤9223372036854775807 then(numV s,0)else(0,9)
def grtQ (s:Str):Bool:= !((aprQ s).2==0)||(decide (1099511627776<(aprQ s).1)||decide ((aprQ s).1< -1099511627776))
def nmbQ (s:Str):Int×Int:=if (aprQ s).2≠0 then(0,(aprQ s).2)else if 1099511627776<(aprQ s).1∨(aprQ s).1< -1099511627776 then(0,2)else((aprQ s).1,0)
def run1 (p:UInt8→Bool)(s:Str)(k:Nat):Nat:=((s.drop k).takeWhile p).length
def symL:Str:=[40,41,44,61,58,59,42,47,94]
def subS2 (s:Str)(at_ n:Nat):Str:=(s.drop at_).take n
def scnQ (l:Str)(at_:Nat):Nat×Nat×Int:=
 let c:=l.getD at_ 0
 if c=32∨c=9 then(0,1,0)
 else if leB c=true then(if 24<run1 inB l at_ then(0,0,5)else(1,run1 inB l at_,0))
 else if (diB c||(c==45&&(decide (at_+1<l.length)&&diB (l.getD (at_+1) 0))))=true then
  let n:=1+run1 diB l (at_+1)
  if ((decide (at_+n<l.length)&&(leB (l.getD (at_+n) 0)||l.getD (at_+n) 0==95))|| !canQ (subS2 l at_ n))=true then(0,0,3)
  else if grtQ (subS2 l at_ n)=true then(0,0,9)else(2,n,0)
 else if symL.contains c=true then(3,1,0)else(0,0,3)
def badB (c:UInt8):Bool:=decide (126<c.toNat)||(decide (c.toNat<32)&& !(c==9))
def badK (l:Str):Nat→Nat→Option Nat
 |0,_=>none
 |f+1,k=>if k<l.length then(if badB (l.getD k 0)=true then some k else badK l f (k+1))else none
def linQ (ln:Nat)(l:Str):Nat→Nat→List Tk×Option (Nat×Int)
 |0,_=>([],none)
 |f+1,k=>
  if l.length≤k then([],none)
  else if l.getD k 0=35 then(match badK l (l.length+1) k with
   |some j=>([],some (j,3))
   |none=>([],none))
  else if (scnQ l k).2.2≠0 then([],some (k,(scnQ l k).2.2))
  else((if (scnQ l k).1=0 then[]else[⟨(scnQ l k).1,subS2 l k (scnQ l k).2.1,ln,k+1⟩])++(linQ ln l f (k+(scnQ l k).2.1)).1,(linQ ln l f (k+(scnQ l k).2.1)).2)
def lnsQ:Nat→List Str→List Tk×(Nat×Nat)×Int
 |_,[]=>([],(0,0),0)
 |i,l::ls=>match (linQ (i+1) l (l.length+1) 0).2 with
  |some (k,e)=>([],(i+1,k+1),e)
  |none=>if (lnsQ (i+1) ls).2.2≠0 then([],(lnsQ (i+1) ls).2)else
   ((linQ (i+1) l (l.length+1) 0).1++(if (linQ (i+1) l (l.length+1) 0).1.isEmpty=true then[]else[⟨4,[],i+1,l.length+1⟩])++(lnsQ (i+1) ls).1,(0,0),0)
def tokQ (s:Str):List Tk×(Nat×Nat)×Int:=if 16384<s.length then([],(0,0),5)else lnsQ 0 (splB 10 s)
structure Ps where
 at_:Nat
 e:Int
 l:Nat
 c:Nat
section
variable (T:List Tk)
def hereP (p:Ps):Tk:=T.getD p.at_ tk0
def stopP (p:Ps)(l c:Nat)(e:Int):Ps:=bif p.e==0 then⟨p.at_,e,l,c⟩else p
def wrnP (p:Ps):Ps:=stopP p (hereP T p).l (hereP T p).c (bif (hereP T p).k==4 then 4 else 3)
def isP (s:Str)(p:Ps):Bool:=((hereP T p).k==1||(hereP T p).k==3)&&(hereP T p).s==s
def advP (p:Ps):Ps:={p with at_:=p.at_+1}
def takP (s:Str)(p:Ps):Bool×Ps:=bif isP T s p then(true,advP p)else(false,wrnP T p)
def namP (p:Ps):Option Str×Ps:=bif (hereP T p).k==1&&nmOk (hereP T p).s then(some (hereP T p).s,advP p)else(none,wrnP T p)
def intP (p:Ps):Option Int×Ps:=bif (hereP T p).k==2 then(some (nmbQ (hereP T p).s).1,advP p)else(none,wrnP T p)
def endP (p:Ps):Bool×Ps:=bif (hereP T p).k==4 then(true,advP p)else(false,stopP p (hereP T p).l (hereP T p).c 3)
def fulP (f:Tk)(many limit:Nat)(p:Ps):Bool×Ps:=bif decide (limit≤many)then(false,stopP p f.l f.c 5)else(true,p)
def bnd {α β:Type}(x:Option α×Ps)(f:α→Ps→Option β×Ps):Option β×Ps:=match x with
 |(none,p)=>(none,p)
 |(some a,p)=>f a p
def bndB {β:Type}(x:Bool×Ps)(f:Ps→Option β×Ps):Option β×Ps:=match x with
 |(false,p)=>(none,p)
 |(true,p)=>f p
def itsP (a b:Str):Nat→List Int→Ps→Option (List Int)×Ps
 |0,_,p=>(none,p)
 |f+1,l,p=>bif !l.isEmpty&&(isP T a p||isP T b p)then(some l,p)else bnd (intP T p) fun n q=>itsP a b f (l++[n]) q
def colP:Nat→Str→Ps→Str×Ps
 |0,s,p=>(s,p)
 |f+1,s,p=>bif (hereP T p).k==4 then(s,p)else colP f (s++(hereP T p).s) (advP p)
def untP (p:Ps):Option Un×Ps:=
 bif (hereP T p).k==4 then(none,wrnP T p)else
 bif (prs (colP T 40000 [] p).1).2==0 then(some (prs (colP T 40000 [] p).1).1,(colP T 40000 [] p).2)else(none,stopP (colP T 40000 [] p).2 (hereP T p).l (hereP T p).c 3)
def sgnT:Str:=[115,105,103,110,101,100]
def usgT:Str:=[117,110,115,105,103,110,101,100]
def mkFt (bits:Int)(sg:Bool)(num off den:Int)(u:Un):Ft:=⟨bits,sg,num,off,den,u.m,u.kg,u.s,u.a,u.k⟩
def typP (f:Tk)(m:Nat)(p:Ps):Option Td×Ps:=
 bnd (namP T p) fun nm p=>bndB (takP T [61] p) fun p=>bnd (intP T p) fun bits p=>
 bif !isP T sgnT p&& !isP T usgT p then(none,wrnP T p)else
 let sg:=isP T sgnT p
 bnd (intP T (advP p)) fun num p=>bnd (intP T p) fun off p=>bnd (intP T p) fun den p=>bnd (untP T p) fun u p=>
 bif !fok (mkFt bits sg num off den u)then(none,stopP p f.l f.c 1)else bndB (fulP f m 30 p) fun p=>(some ⟨nm,mkFt bits sg num off den u⟩,p)
def prsP:Nat→List Int→List Int→Ps→Option (List Int×List Int)×Ps
 |0,_,_,p=>(none,p)
 |f+1,xs,ys,p=>bnd (intP T p) fun x p=>bnd (intP T p) fun y p=>bif isP T [44] p then prsP f (xs++[x]) (ys++[y]) (advP p)else(some (xs++[x],ys++[y]),p)
def nolP (p:Ps):Ps:=bif p.e==0 then(endP T p).2 else p
def clsP {α:Type}(p:Ps)(f:Ps→Option α×Ps):Option α×Ps:=
 bif !(takP T [41] p).1 then(none,nolP T (takP T [41] p).2)else bif !((hereP T (takP T [41] p).2).k==4)then(none,nolP T (takP T [41] p).2)else f (takP T [41] p).2
def curP (f:Tk)(m:Nat)(p:Ps):Option Cu×Ps:=
 bnd (namP T p) fun nm p=>bndB (takP T [61] p) fun p=>bndB (takP T [40] p) fun p=>bnd (prsP T 40000 [] [] p) fun xy p=>clsP T p fun p=>
 bif !cuOk xy.1 xy.2 then(none,stopP p f.l f.c 1)else bndB (fulP f m 30 p) fun p=>(some ⟨nm,xy.1,xy.2⟩,p)
def rwsP:Nat→List (List Int)→Ps→Option (List (List Int))×Ps
 |0,_,p=>(none,p)
 |f+1,zs,p=>bnd (itsP T [44] [41] 40000 [] p) fun z p=>bif isP T [44] p then rwsP f (zs++[z]) (advP p)else(some (zs++[z]),p)
def mapP (f:Tk)(m:Nat)(p:Ps):Option Mp×Ps:=
 bnd (namP T p) fun nm p=>bndB (takP T [61] p) fun p=>bndB (takP T [40] p) fun p=>bnd (itsP T [59] [59] 40000 [] p) fun xs p=>bndB (takP T [59] p) fun p=>
 bnd (itsP T [59] [59] 40000 [] p) fun ys p=>bndB (takP T [59] p) fun p=>bnd (rwsP T 40000 [] p) fun zs p=>clsP T p fun p=>
 bif !maOk xs ys zs then(none,stopP p f.l f.c 1)else bndB (fulP f m 30 p) fun p=>(some ⟨nm,xs,ys,zs⟩,p)
def inpP (f:Tk)(m:Nat)(p:Ps):Option Po×Ps:=
 bnd (namP T p) fun nm p=>bndB (takP T [58] p) fun p=>bnd (namP T p) fun ty p=>bnd (intP T p) fun lo p=>bnd (intP T p) fun hi p=>
 bif !((hereP T p).k==4)then(none,(endP T p).2)else bndB (fulP f m 30 p) fun p=>(some ⟨nm,ty,lo,hi⟩,p)
def nmsP (a b:Str):Nat→List Str→Ps→Option (List Str)×Ps
 |0,_,p=>(none,p)
 |f+1,l,p=>bnd (namP T p) fun s p=>bif isP T a p||isP T b p then(some (l++[s]),p)else bndB (takP T [44] p) fun p=>nmsP a b f (l++[s]) p
def cmsP:Nat→List Int→Ps→Option (List Int)×Ps
 |0,_,p=>(none,p)
 |f+1,l,p=>bnd (intP T p) fun n p=>bif isP T [44] p then cmsP f (l++[n]) (advP p)else(some (l++[n]),p)
def arsP (p:Ps):Option (List Str)×Ps:=bif isP T [41] p||isP T [59] p then(some [],p)else nmsP T [59] [41] 40000 [] p
def ksP (p:Ps):Option (List Int)×Ps:=bif isP T [59] p then cmsP T 40000 [] (advP p)else(some [],p)
def bk2P (f kd:Tk)(a k t:Nat)(nm:Str)(m:Nat)(p:Ps):Option Bl×Ps:=
 bndB (takP T [40] p) fun p=>bnd (arsP T p) fun ins p=>bnd (ksP T p) fun ks p=>bndB (takP T [41] p) fun p=>bndB (takP T [58] p) fun p=>bnd (namP T p) fun ty p=>
 bif !((hereP T p).k==4)then(none,(endP T p).2)else
 bif !(decide (ins.length=a+min t 1))|| !(decide (ks.length=k))then(none,stopP p kd.l kd.c 1)else bndB (fulP f m 200 p) fun p=>
 (some ⟨nm,kd.s,ty,ins.take a,bif decide (1≤t)then ins.getD a []else[],ks⟩,p)
def blkP (f:Tk)(m:Nat)(p:Ps):Option Bl×Ps:=
 bnd (namP T p) fun nm p=>bndB (takP T [61] p) fun p=>
 bif !((hereP T p).k==1)|| !(kindQ (hereP T p).s).isSome then(none,wrnP T p)else
 bk2P T f (hereP T p) ((kindQ (hereP T p).s).getD (0,0,0)).1 ((kindQ (hereP T p).s).getD (0,0,0)).2.1 ((kindQ (hereP T p).s).getD (0,0,0)).2.2 nm m (advP p)
def ousP:Nat→List Str→Ps→Option (List Str)×Ps
 |0,_,p=>(none,p)
 |f+1,l,p=>bnd (namP T p) fun s p=>bif isP T [44] p then ousP f (l++[s]) (advP p)else(some (l++[s]),p)
def outP (f:Tk)(m:Nat)(p:Ps):Option (List Str)×Ps:=
 bnd (ousP T 40000 [] p) fun l p=>bif !((hereP T p).k==4)then(none,(endP T p).2)else bif decide (30<m+l.length)then(none,stopP p f.l f.c 5)else(some l,p)
def d0:Dg:=⟨[],[],[],[],[],[],[]⟩
def redP (f:Tk)(d:Dg)(p:Ps):Option (Option Dg×Ps):=
 if f.s=[116,121,112,101]then some ((typP T f d.tys.length p).1.map fun x=>{d with tys:=d.tys++[x]},(typP T f d.tys.length p).2)
 else if f.s=[99,117,114,118,101]then some ((curP T f d.cus.length p).1.map fun x=>{d with cus:=d.cus++[x]},(curP T f d.cus.length p).2)
 else if f.s=[109,97,112]then some ((mapP T f d.mas.length p).1.map fun x=>{d with mas:=d.mas++[x]},(mapP T f d.mas.length p).2)
 else if f.s=[105,110]then some ((inpP T f d.ins.length p).1.map fun x=>{d with ins:=d.ins++[x]},(inpP T f d.ins.length p).2)
 else if f.s=[98,108,111,99,107]then some ((blkP T f d.bls.length p).1.map fun x=>{d with bls:=d.bls++[x]},(blkP T f d.bls.length p).2)
 else if f.s=[111,117,116]then some ((outP T f d.ous.length p).1.map fun x=>{d with ous:=d.ous++x},(outP T f d.ous.length p).2)
 else none
def diaT:Str:=[100,105,97,103,114,97,109]
def lneP (beg:Bool)(d:Dg)(p:Ps):Option Dg×Ps:=
 bif beg then(bndB (takP T diaT p) fun p=>bnd (namP T p) fun nm p=>bndB (endP T p) fun p=>(some {d with nm:=nm},p))
 else bif !((hereP T p).k==1)then(none,wrnP T p)else match redP T (hereP T p) d (advP p)with
 |none=>(none,wrnP T p)
 |some x=>bnd x fun d p=>bndB (endP T p) fun p=>(some d,p)
def parL:Nat→Dg→Ps→Dg×(Nat×Nat)×Int
 |0,d,p=>(d,(0,0),0)
 |f+1,d,p=>if p.at_<T.length then(match (lneP T (p.at_==0) d p).1 with
  |none=>(d0,((lneP T (p.at_==0) d p).2.l,(lneP T (p.at_==0) d p).2.c),(lneP T (p.at_==0) d p).2.e)
  |some d'=>parL f d' (lneP T (p.at_==0) d p).2)else(d,(0,0),0)
end
def parD (s:Str):Dg×(Nat×Nat)×Int:=
 if (tokQ s).2.2≠0 then(d0,(tokQ s).2.1,(tokQ s).2.2)else if (tokQ s).1=[]then(d0,(0,0),4)else parL (tokQ s).1 40000 d0 ⟨0,0,0,0⟩
def awT:Str:=[100,105,97,103,114,97,109,32,100,10,116,121,112,101,32,116,32,61,32,49,54,32,115,105,103,110,101,100,32,49,32,48,32,52,32,49,47,115,10,105,110,32,110,32,58,32,116,32,48,32,52,48,48,48,10,98,108,111,99,107,32,104,97,108,102,32,61,32,100,105,118,40,110,44,32,116,119,111,41,32,58,32,116,10,98,108,111,99,107,32,116,119,111,32,61,32,99,111,110,115,116,40,59,32,50,41,32,58,32,117,10]
def awD:Dg:=⟨[100],[⟨[116],⟨16,true,1,0,4,0,0, -1,0,0⟩⟩],[],[],[⟨[110],[116],0,4000⟩],[⟨[104,97,108,102],[100,105,118],[116],[[110],[116,119,111]],[],[]⟩,⟨[116,119,111],[99,111,110,115,116],[117],[],[],[2]⟩],[]⟩
set_option linter.unusedSimpArgs false
set_option linter.unusedVariables false
set_option maxRecDepth 100000
theorem awP:parD awT=(awD,(0,0),0):=by rfl
set_option linter.unusedSimpArgs false
def GTk (T:List Tk):Prop:=∀i,i+1=T.length→(T.getD i tk0).k=4
section
variable {T:List Tk}
def onP (T:List Tk)(p q:Ps):Prop:=p.at_≤q.at_∧q.at_<T.length
theorem onP.refl {p:Ps}(h:p.at_<T.length):onP T p p:=⟨Nat.le_refl _,h⟩
theorem onP.trans {p q r:Ps}(h:onP T p q)(k:onP T q r):onP T p r:=⟨Nat.le_trans h.1 k.1,k.2⟩
theorem stop_at (p:Ps)(l c:Nat)(e:Int):(stopP p l c e).at_=p.at_:=by unfold stopP;cases p.e==0<;>rfl
theorem wrn_at (p:Ps):(wrnP T p).at_=p.at_:=stop_at ..
theorem wrn_on {p:Ps}(h:p.at_<T.length):onP T p (wrnP T p):=by unfold onP;rw[wrn_at];omega
theorem stop_on {p:Ps}(h:p.at_<T.length)(l c:Nat)(e:Int):onP T p (stopP p l c e):=by unfold onP;rw[stop_at];omega
theorem adv_on (g:GTk T){p:Ps}(h:p.at_<T.length)(hk:(hereP T p).k≠4):onP T p (advP p)∧p.at_<(advP p).at_:=by
 have:p.at_+1≠T.length:=fun e=>hk (g _ e)
 unfold onP advP
 simp only
 omega
theorem is_k {p:Ps}{s:Str}(h:isP T s p=true):(hereP T p).k≠4:=by
 unfold isP at h
 simp only[Bool.and_eq_true,Bool.or_eq_true,beq_iff_eq]at h
 omega
theorem tak_on (g:GTk T)(s:Str){p:Ps}(h:p.at_<T.length):onP T p (takP T s p).2:=by
 unfold takP
 cases hi:isP T s p with
 |true=>exact(adv_on g h (is_k hi)).1
 |false=>exact wrn_on h
theorem nam_on (g:GTk T){p:Ps}(h:p.at_<T.length):onP T p (namP T p).2∧((namP T p).1.isSome=true→p.at_<(namP T p).2.at_):=by
 unfold namP
 cases hi:((hereP T p).k==1&&nmOk (hereP T p).s)with
 |true=>
  have hk:(hereP T p).k≠4:=by simp only[Bool.and_eq_true,beq_iff_eq]at hi;omega
  have:=adv_on g h hk
  exact⟨this.1,fun _=>this.2⟩
 |false=>exact⟨wrn_on h,fun h=>by cases h⟩
theorem int_on (g:GTk T){p:Ps}(h:p.at_<T.length):onP T p (intP T p).2∧((intP T p).1.isSome=true→p.at_<(intP T p).2.at_):=by
 unfold intP
 cases hi:((hereP T p).k==2)with
 |true=>
  have hk:(hereP T p).k≠4:=by simp only[beq_iff_eq]at hi;omega
  have:=adv_on g h hk
  exact⟨this.1,fun _=>this.2⟩
 |false=>exact⟨wrn_on h,fun h=>by cases h⟩
theorem ful_on {p:Ps}(h:p.at_<T.length)(f:Tk)(m l:Nat):onP T p (fulP f m l p).2:=by
 unfold fulP
 cases decide (l≤m)with
 |true=>exact stop_on h _ _ _
 |false=>exact onP.refl h
theorem bnd_on {α β:Type}{p:Ps}{x:Option α×Ps}{f:α→Ps→Option β×Ps}(hx:onP T p x.2)(hf:∀a q,x.1=some a→x.2=q→onP T p q→onP T q (f a q).2):onP T p (bnd x f).2:=by
 obtain⟨o,q⟩:=x
 cases o with
 |none=>exact hx
 |some a=>exact onP.trans hx (hf a q rfl rfl hx)
theorem bndB_on {β:Type}{p:Ps}{x:Bool×Ps}{f:Ps→Option β×Ps}(hx:onP T p x.2)(hf:∀q,x.1=true→x.2=q→onP T p q→onP T q (f q).2):onP T p (bndB x f).2:=by
 obtain⟨o,q⟩:=x
 cases o with
 |false=>exact hx
 |true=>exact onP.trans hx (hf q rfl rfl hx)
theorem bif_on {β:Type}{p:Ps}{c:Bool}{x y:β×Ps}(hx:c=true→onP T p x.2)(hy:c=false→onP T p y.2):onP T p (bif c then x else y).2:=by
 cases c with
 |true=>exact hx rfl
 |false=>exact hy rfl
theorem its_on (g:GTk T)(a b:Str):∀(f:Nat) (l:List Int) (p:Ps),p.at_<T.length→onP T p (itsP T a b f l p).2
 |0,l,p,h=>onP.refl h
 |f+1,l,p,h=>by
  unfold itsP
  exact bif_on (fun _=>onP.refl h) fun _=>bnd_on (int_on g h).1 fun n q _ _ hq=>its_on g a b f _ q hq.2
theorem col_on (g:GTk T):∀(f:Nat) (s:Str) (p:Ps),p.at_<T.length→onP T p (colP T f s p).2
 |0,s,p,h=>onP.refl h
 |f+1,s,p,h=>by
  unfold colP
  refine bif_on (fun _=>onP.refl h) fun hk=>?_
  have ha:=(adv_on g h (by simpa using hk)).1
  exact ha.trans (col_on g f _ _ ha.2)
theorem unt_on (g:GTk T){p:Ps}(h:p.at_<T.length):onP T p (untP T p).2:=by
 unfold untP
 have hc:=col_on g 40000 [] p h
 exact bif_on (fun _=>wrn_on h) fun _=>bif_on (fun _=>hc) fun _=>hc.trans (stop_on hc.2 _ _ _)
theorem is_on (g:GTk T){p:Ps}{s:Str}(h:p.at_<T.length)(hi:isP T s p=true):onP T p (advP p):=(adv_on g h (is_k hi)).1
theorem typ_on (g:GTk T)(f:Tk)(m:Nat){p:Ps}(h:p.at_<T.length):onP T p (typP T f m p).2:=by
 unfold typP
 refine bnd_on (nam_on g h).1 fun nm q _ _ hq=>bndB_on (tak_on g _ hq.2) fun q _ _ hq=>bnd_on (int_on g hq.2).1 fun b q _ _ hq=>bif_on (fun _=>wrn_on hq.2) fun hs=>?_
 have ha:onP T q (advP q):=by
  rw[Bool.and_eq_false_iff,Bool.not_eq_false',Bool.not_eq_false']at hs
  rcases hs with hs|hs
  ·exact is_on g hq.2 hs
  ·exact is_on g hq.2 hs
 refine ha.trans ?_
 refine bnd_on (int_on g ha.2).1 fun nm q _ _ hq=>bnd_on (int_on g hq.2).1 fun nm q _ _ hq=>bnd_on (int_on g hq.2).1 fun nm q _ _ hq=>bnd_on (unt_on g hq.2) fun u q _ _ hq=>bif_on (fun _=>stop_on hq.2 _ _ _) fun _=>bndB_on (ful_on hq.2 _ _ _) fun q _ _ hq=>onP.refl hq.2
theorem prsP_on (g:GTk T):∀(f:Nat) (xs ys:List Int) (p:Ps),p.at_<T.length→onP T p (prsP T f xs ys p).2
 |0,_,_,p,h=>onP.refl h
 |f+1,xs,ys,p,h=>by
  unfold prsP
  exact bnd_on (int_on g h).1 fun x q _ _ hq=>bnd_on (int_on g hq.2).1 fun y q _ _ hq=>bif_on (fun hi=>(is_on g hq.2 hi).trans (prsP_on g f _ _ _ (is_on g hq.2 hi).2)) fun _=>onP.refl hq.2
theorem end_at (p:Ps)(h:¬(hereP T p).k=4):(endP T p).2.at_=p.at_:=by
 unfold endP
 rw[beq_eq_false_iff_ne.2 h]
 exact stop_at ..
theorem end_on {p:Ps}(h:p.at_<T.length)(hk:¬(hereP T p).k=4):onP T p (endP T p).2:=by unfold onP;rw[end_at p hk];omega
theorem cls_on (g:GTk T){α:Type}{p:Ps}(h:p.at_<T.length){f:Ps→Option α×Ps}(hf:∀q,onP T p q→(hereP T q).k=4→onP T q (f q).2):onP T p (clsP T p f).2:=by
 have ht:=tak_on g [41] h
 have hn:∀q:Ps,q.at_<T.length→¬(hereP T q).k=4→onP T q (nolP T q):=fun q hq hk=>by
  unfold nolP
  cases q.e==0 with
  |true=>exact end_on hq hk
  |false=>exact onP.refl hq
 unfold clsP
 refine bif_on (fun hb=>?_) fun _=>bif_on (fun h4=>?_) fun h4=>?_
 ·refine ht.trans ?_
  generalize hq:takP T [41] p=x at*
  obtain⟨b,q⟩:=x
  simp only at ht hb⊢
  unfold nolP
  have hb:b=false:=by simpa using hb
  subst hb
  have hqe:q=wrnP T p:=by
   unfold takP at hq
   cases hi:isP T [41] p with
   |true=>rw[hi]at hq;cases hq
   |false=>rw[hi]at hq;exact(Prod.mk.inj hq).2.symm
  cases he:q.e==0 with
  |false=>exact onP.refl ht.2
  |true=>
   -- an error stands there
   exfalso
   rw[hqe]at he
   unfold wrnP stopP at he
   cases h0:p.e==0 with
   |false=>rw[h0]at he;simp only[cond_false]at he;rw[h0]at he;cases he
   |true=>rw[h0]at he;simp only[cond_true]at he;cases hk4:(hereP T p).k==4<;>rw[hk4]at he<;>cases he
 ·exact ht.trans (hn _ ht.2 (by simpa using h4))
 ·exact ht.trans (hf _ ht (by simpa using h4))
theorem cur_on (g:GTk T)(f:Tk)(m:Nat){p:Ps}(h:p.at_<T.length):onP T p (curP T f m p).2:=by
 unfold curP
 exact bnd_on (nam_on g h).1 fun nm q _ _ hq=>bndB_on (tak_on g _ hq.2) fun q _ _ hq=>bndB_on (tak_on g _ hq.2) fun q _ _ hq=>bnd_on (prsP_on g _ _ _ _ hq.2) fun xy q _ _ hq=>cls_on g hq.2 (fun q hq _=>bif_on (fun _=>stop_on hq.2 _ _ _) fun _=>bndB_on (ful_on hq.2 _ _ _) fun q _ _ hq=>onP.refl hq.2)
theorem rws_on (g:GTk T):∀(f:Nat) (zs:List (List Int)) (p:Ps),p.at_<T.length→onP T p (rwsP T f zs p).2
 |0,_,p,h=>onP.refl h
 |f+1,zs,p,h=>by
  unfold rwsP
  exact bnd_on (its_on g _ _ _ _ _ h) fun x q _ _ hq=>bif_on (fun hi=>(is_on g hq.2 hi).trans (rws_on g f _ _ (is_on g hq.2 hi).2)) fun _=>onP.refl hq.2
theorem map_on (g:GTk T)(f:Tk)(m:Nat){p:Ps}(h:p.at_<T.length):onP T p (mapP T f m p).2:=by
 unfold mapP
 exact bnd_on (nam_on g h).1 fun nm q _ _ hq=>bndB_on (tak_on g _ hq.2) fun q _ _ hq=>bndB_on (tak_on g _ hq.2) fun q _ _ hq=>bnd_on (its_on g _ _ _ _ _ hq.2) fun xy q _ _ hq=>bndB_on (tak_on g _ hq.2) fun q _ _ hq=>
  bnd_on (its_on g _ _ _ _ _ hq.2) fun xy q _ _ hq=>bndB_on (tak_on g _ hq.2) fun q _ _ hq=>bnd_on (rws_on g _ _ _ hq.2) fun xy q _ _ hq=>cls_on g hq.2 (fun q hq _=>bif_on (fun _=>stop_on hq.2 _ _ _) fun _=>bndB_on (ful_on hq.2 _ _ _) fun q _ _ hq=>onP.refl hq.2)
theorem inp_on (g:GTk T)(f:Tk)(m:Nat){p:Ps}(h:p.at_<T.length):onP T p (inpP T f m p).2:=by
 unfold inpP
 exact bnd_on (nam_on g h).1 fun nm q _ _ hq=>bndB_on (tak_on g _ hq.2) fun q _ _ hq=>bnd_on (nam_on g hq.2).1 fun nm q _ _ hq=>bnd_on (int_on g hq.2).1 fun nm q _ _ hq=>bnd_on (int_on g hq.2).1 fun nm q _ _ hq=>
  bif_on (fun hk=>end_on hq.2 (by simpa using hk)) fun _=>bndB_on (ful_on hq.2 _ _ _) fun q _ _ hq=>onP.refl hq.2
theorem nms_on (g:GTk T)(a b:Str):∀(f:Nat) (l:List Str) (p:Ps),p.at_<T.length→onP T p (nmsP T a b f l p).2
 |0,_,p,h=>onP.refl h
 |f+1,l,p,h=>by
  unfold nmsP
  exact bnd_on (nam_on g h).1 fun x q _ _ hq=>bif_on (fun hi=>onP.refl hq.2) fun _=>bndB_on (tak_on g _ hq.2) fun q _ _ hq=>nms_on g a b f _ _ hq.2
theorem cms_on (g:GTk T):∀(f:Nat) (l:List Int) (p:Ps),p.at_<T.length→onP T p (cmsP T f l p).2
 |0,_,p,h=>onP.refl h
 |f+1,l,p,h=>by
  unfold cmsP
  exact bnd_on (int_on g h).1 fun x q _ _ hq=>bif_on (fun hi=>(is_on g hq.2 hi).trans (cms_on g f _ _ (is_on g hq.2 hi).2)) fun _=>onP.refl hq.2
theorem ars_on (g:GTk T){p:Ps}(h:p.at_<T.length):onP T p (arsP T p).2:=by
 unfold arsP
 exact bif_on (fun _=>onP.refl h) fun _=>nms_on g _ _ _ _ _ h
theorem ks_on (g:GTk T){p:Ps}(h:p.at_<T.length):onP T p (ksP T p).2:=by
 unfold ksP
 exact bif_on (fun hi=>(is_on g h hi).trans (cms_on g _ _ _ (is_on g h hi).2)) fun _=>onP.refl h
theorem bk2_on (g:GTk T)(f kd:Tk)(a k t:Nat)(nm:Str)(m:Nat){p:Ps}(h:p.at_<T.length):onP T p (bk2P T f kd a k t nm m p).2:=by
 unfold bk2P
 exact bndB_on (tak_on g _ h) fun q _ _ hq=>bnd_on (ars_on g hq.2) fun x q _ _ hq=>bnd_on (ks_on g hq.2) fun x q _ _ hq=>bndB_on (tak_on g _ hq.2) fun q _ _ hq=>bndB_on (tak_on g _ hq.2) fun q _ _ hq=>bnd_on (nam_on g hq.2).1 fun x q _ _ hq=>
  bif_on (fun hk=>end_on hq.2 (by simpa using hk)) fun _=>bif_on (fun _=>stop_on hq.2 _ _ _) fun _=>bndB_on (ful_on hq.2 _ _ _) fun q _ _ hq=>onP.refl hq.2
theorem blk_on (g:GTk T)(f:Tk)(m:Nat){p:Ps}(h:p.at_<T.length):onP T p (blkP T f m p).2:=by
 unfold blkP
 refine bnd_on (nam_on g h).1 fun nm q _ _ hq=>bndB_on (tak_on g _ hq.2) fun q _ _ hq=>bif_on (fun _=>wrn_on hq.2) fun hs=>?_
 have hk:(hereP T q).k≠4:=by
  rw[Bool.or_eq_false_iff]at hs
  have:=hs.1
  simp only[Bool.not_eq_false',beq_iff_eq]at this
  omega
 have ha:=(adv_on g hq.2 hk).1
 exact ha.trans (bk2_on g _ _ _ _ _ _ _ ha.2)
theorem ous_on (g:GTk T):∀(f:Nat) (l:List Str) (p:Ps),p.at_<T.length→onP T p (ousP T f l p).2
 |0,_,p,h=>onP.refl h
 |f+1,l,p,h=>by
  unfold ousP
  exact bnd_on (nam_on g h).1 fun x q _ _ hq=>bif_on (fun hi=>(is_on g hq.2 hi).trans (ous_on g f _ _ (is_on g hq.2 hi).2)) fun _=>onP.refl hq.2
theorem out_on (g:GTk T)(f:Tk)(m:Nat){p:Ps}(h:p.at_<T.length):onP T p (outP T f m p).2:=by
 unfold outP
 exact bnd_on (ous_on g _ _ _ h) fun x q _ _ hq=>bif_on (fun hk=>end_on hq.2 (by simpa using hk)) fun _=>bif_on (fun _=>stop_on hq.2 _ _ _) fun _=>onP.refl hq.2
end
set_option linter.unusedSimpArgs false
set_option linter.unusedSectionVars false
structure SimT (Q:Nat×Nat→Nat×Nat→Prop) (T U:List Tk) (o:Nat):Prop where
 g:GTk U
 k:∀i,i<U.length→(T.getD (i+o) tk0).k=(U.getD i tk0).k
 s:∀i,i<U.length→(T.getD (i+o) tk0).s=(U.getD i tk0).s
 q:∀i,i<U.length→Q ((T.getD (i+o) tk0).l,(T.getD (i+o) tk0).c) ((U.getD i tk0).l,(U.getD i tk0).c)
section
variable {Q:Nat×Nat→Nat×Nat→Prop} {T U:List Tk} {o:Nat} (h:SimT Q T U o)
def SimP (Q:Nat×Nat→Nat×Nat→Prop)(U:List Tk)(o:Nat)(p q:Ps):Prop:=p.at_=q.at_+o∧q.at_<U.length∧p.e=q.e∧(p.e≠0→Q (p.l,p.c) (q.l,q.c))
def SimR (Q:Nat×Nat→Nat×Nat→Prop)(U:List Tk)(o:Nat){α:Type}(x y:α×Ps):Prop:=x.1=y.1∧SimP Q U o x.2 y.2
include h
theorem here_k {p q:Ps}(hs:SimP Q U o p q):(hereP T p).k=(hereP U q).k:=by unfold hereP;rw[hs.1];exact h.k _ hs.2.1
theorem here_s {p q:Ps}(hs:SimP Q U o p q):(hereP T p).s=(hereP U q).s:=by unfold hereP;rw[hs.1];exact h.s _ hs.2.1
theorem here_q {p q:Ps}(hs:SimP Q U o p q):Q ((hereP T p).l,(hereP T p).c) ((hereP U q).l,(hereP U q).c):=by unfold hereP;rw[hs.1];exact h.q _ hs.2.1
omit h in
theorem stop_sim {p q:Ps}(hs:SimP Q U o p q){l c l' c':Nat}(e:Int)(hq:Q (l,c) (l',c')):SimP Q U o (stopP p l c e) (stopP q l' c' e):=by
 obtain⟨a,b,c,d⟩:=hs
 unfold stopP
 rw[c]
 cases he:q.e==0 with
 |true=>exact⟨a,b,rfl,fun _=>hq⟩
 |false=>exact⟨a,b,c,d⟩
theorem wrn_sim {p q:Ps}(hs:SimP Q U o p q):SimP Q U o (wrnP T p) (wrnP U q):=by
 unfold wrnP
 rw[here_k h hs]
 exact stop_sim hs _ (here_q h hs)
theorem is_sim {p q:Ps}(hs:SimP Q U o p q)(s:Str):isP T s p=isP U s q:=by unfold isP;rw[here_k h hs,here_s h hs]
theorem adv_sim {p q:Ps}(hs:SimP Q U o p q)(hk:(hereP U q).k≠4):SimP Q U o (advP p) (advP q):=by
 obtain⟨a,b,c,d⟩:=hs
 have hlt:=(adv_on h.g b hk).1.2
 exact⟨by unfold advP;simp only;omega,hlt,c,d⟩
theorem tak_sim {p q:Ps}(hs:SimP Q U o p q)(s:Str):SimR Q U o (takP T s p) (takP U s q):=by
 unfold takP
 rw[is_sim h hs]
 cases hi:isP U s q with
 |true=>exact⟨rfl,adv_sim h hs (is_k hi)⟩
 |false=>exact⟨rfl,wrn_sim h hs⟩
theorem nam_sim {p q:Ps}(hs:SimP Q U o p q):SimR Q U o (namP T p) (namP U q):=by
 unfold namP
 rw[here_k h hs,here_s h hs]
 cases hi:((hereP U q).k==1&&nmOk (hereP U q).s)with
 |true=>exact⟨rfl,adv_sim h hs (by simp only[Bool.and_eq_true,beq_iff_eq]at hi;omega)⟩
 |false=>exact⟨rfl,wrn_sim h hs⟩
theorem int_sim {p q:Ps}(hs:SimP Q U o p q):SimR Q U o (intP T p) (intP U q):=by
 unfold intP
 rw[here_k h hs,here_s h hs]
 cases hi:((hereP U q).k==2)with
 |true=>exact⟨rfl,adv_sim h hs (by simp only[beq_iff_eq]at hi;omega)⟩
 |false=>exact⟨rfl,wrn_sim h hs⟩
omit h in
theorem bnd_sim {α β:Type}{x y:Option α×Ps}{f g:α→Ps→Option β×Ps}(hx:SimR Q U o x y)(hf:∀a p q,SimP Q U o p q→SimR Q U o (f a p) (g a q)):SimR Q U o (bnd x f) (bnd y g):=by
 obtain⟨a,p⟩:=x
 obtain⟨b,q⟩:=y
 obtain⟨h1,h2⟩:=hx
 simp only at h1 h2
 subst h1
 cases a with
 |none=>exact⟨rfl,h2⟩
 |some a=>exact hf a p q h2
omit h in
theorem bndB_sim {β:Type}{x y:Bool×Ps}{f g:Ps→Option β×Ps}(hx:SimR Q U o x y)(hf:∀p q,SimP Q U o p q→SimR Q U o (f p) (g q)):SimR Q U o (bndB x f) (bndB y g):=by
 obtain⟨a,p⟩:=x
 obtain⟨b,q⟩:=y
 obtain⟨h1,h2⟩:=hx
 simp only at h1 h2
 subst h1
 cases a with
 |false=>exact⟨rfl,h2⟩
 |true=>exact hf p q h2
omit h in
theorem bif_sim {β:Type}{c d:Bool}{x y x' y':β×Ps}(hc:c=d)(hx:d=true→SimR Q U o x x')(hy:d=false→SimR Q U o y y'):SimR Q U o (bif c then x else y) (bif d then x' else y'):=by
 subst hc
 cases c with
 |true=>exact hx rfl
 |false=>exact hy rfl
omit h in
theorem ful_sim {p q:Ps}(hs:SimP Q U o p q){f f':Tk}(hf:Q (f.l,f.c) (f'.l,f'.c))(m l:Nat):SimR Q U o (fulP f m l p) (fulP f' m l q):=by
 unfold fulP
 exact bif_sim rfl (fun _=>⟨rfl,stop_sim hs _ hf⟩) fun _=>⟨rfl,hs⟩
theorem its_sim (a b:Str):∀(f:Nat) (l:List Int) (p q:Ps),SimP Q U o p q→SimR Q U o (itsP T a b f l p) (itsP U a b f l q)
 |0,l,p,q,hs=>⟨rfl,hs⟩
 |f+1,l,p,q,hs=>by
  unfold itsP
  refine bif_sim (by rw[is_sim h hs,is_sim h hs]) (fun _=>⟨rfl,hs⟩) fun _=>bnd_sim (int_sim h hs) fun n p q hs=>its_sim a b f _ p q hs
theorem col_sim:∀(f:Nat) (s:Str) (p q:Ps),SimP Q U o p q→SimR Q U o (colP T f s p) (colP U f s q)
 |0,l,p,q,hs=>⟨rfl,hs⟩
 |f+1,l,p,q,hs=>by
  unfold colP
  rw[here_s h hs]
  exact bif_sim (by rw[here_k h hs]) (fun _=>⟨rfl,hs⟩) fun hk=>col_sim f _ _ _ (adv_sim h hs (by simpa using hk))
theorem unt_sim {p q:Ps}(hs:SimP Q U o p q):SimR Q U o (untP T p) (untP U q):=by
 have hc:=col_sim h 40000 [] p q hs
 unfold untP
 refine bif_sim (by rw[here_k h hs]) (fun _=>⟨rfl,wrn_sim h hs⟩) fun _=>?_
 rw[hc.1]
 exact bif_sim rfl (fun _=>⟨rfl,hc.2⟩) fun _=>⟨rfl,stop_sim hc.2 _ (here_q h hs)⟩
theorem typ_sim {p q:Ps}(hs:SimP Q U o p q){f f':Tk}(hf:Q (f.l,f.c) (f'.l,f'.c))(m:Nat):SimR Q U o (typP T f m p) (typP U f' m q):=by
 unfold typP
 refine bnd_sim (nam_sim h hs) fun nm p q hs=>bndB_sim (tak_sim h hs _) fun p q hs=>bnd_sim (int_sim h hs) fun b p q hs=>bif_sim (by rw[is_sim h hs,is_sim h hs]) (fun _=>⟨rfl,wrn_sim h hs⟩) fun hb=>?_
 have ha:SimP Q U o (advP p) (advP q):=by
  rw[Bool.and_eq_false_iff,Bool.not_eq_false',Bool.not_eq_false']at hb
  rcases hb with hb|hb
  ·exact adv_sim h hs (is_k hb)
  ·exact adv_sim h hs (is_k hb)
 rw[is_sim h hs]
 exact bnd_sim (int_sim h ha) fun nm p q hs=>bnd_sim (int_sim h hs) fun nm p q hs=>bnd_sim (int_sim h hs) fun nm p q hs=>bnd_sim (unt_sim h hs) fun u p q hs=>bif_sim rfl (fun _=>⟨rfl,stop_sim hs _ hf⟩) fun _=>bndB_sim (ful_sim hs hf _ _) fun p q hs=>⟨rfl,hs⟩
theorem prs_sim:∀(f:Nat) (xs ys:List Int) (p q:Ps),SimP Q U o p q→SimR Q U o (prsP T f xs ys p) (prsP U f xs ys q)
 |0,_,_,p,q,hs=>⟨rfl,hs⟩
 |f+1,xs,ys,p,q,hs=>by
  unfold prsP
  exact bnd_sim (int_sim h hs) fun x p q hs=>bnd_sim (int_sim h hs) fun y p q hs=>bif_sim (is_sim h hs _) (fun hi=>prs_sim f _ _ _ _ (adv_sim h hs (is_k hi))) fun _=>⟨rfl,hs⟩
theorem end_simF {p q:Ps}(hs:SimP Q U o p q)(hk:(hereP U q).k≠4):SimR Q U o (endP T p) (endP U q):=by
 unfold endP
 rw[here_k h hs,beq_eq_false_iff_ne.2 hk]
 exact⟨rfl,stop_sim hs _ (here_q h hs)⟩
theorem nol_sim {p q:Ps}(hs:SimP Q U o p q)(hk:q.e=0→(hereP U q).k≠4):SimP Q U o (nolP T p) (nolP U q):=by
 unfold nolP
 rw[hs.2.2.1]
 cases he:q.e==0 with
 |true=>exact(end_simF h hs (hk (eq_of_beq he))).2
 |false=>exact hs
theorem wrn_e (q:Ps):(wrnP U q).e≠0:=by
 unfold wrnP stopP
 cases h0:q.e==0 with
 |true=>simp only[cond_true];cases (hereP U q).k==4<;>decide
 |false=>simp only[cond_false];simpa using h0
theorem cls_sim {α:Type}{p q:Ps}(hs:SimP Q U o p q){f g:Ps→Option α×Ps}(hf:∀p q,SimP Q U o p q→SimR Q U o (f p) (g q)):SimR Q U o (clsP T p f) (clsP U q g):=by
 have ht:=tak_sim h hs [41]
 unfold clsP
 rw[ht.1,here_k h ht.2]
 refine bif_sim rfl (fun hb=>⟨rfl,nol_sim h ht.2 fun he=>?_⟩) fun _=>bif_sim rfl (fun h4=>⟨rfl,nol_sim h ht.2 fun _=>by simpa using h4⟩) fun _=>hf _ _ ht.2
 exfalso
 unfold takP at hb he
 cases hi:isP U [41] q with
 |true=>rw[hi]at hb;cases hb
 |false=>rw[hi]at he;exact wrn_e h q he
theorem cur_sim {p q:Ps}(hs:SimP Q U o p q){f f':Tk}(hf:Q (f.l,f.c) (f'.l,f'.c))(m:Nat):SimR Q U o (curP T f m p) (curP U f' m q):=by
 unfold curP
 exact bnd_sim (nam_sim h hs) fun nm p q hs=>bndB_sim (tak_sim h hs _) fun p q hs=>bndB_sim (tak_sim h hs _) fun p q hs=>bnd_sim (prs_sim h _ _ _ _ _ hs) fun xy p q hs=>cls_sim h hs fun p q hs=>bif_sim rfl (fun _=>⟨rfl,stop_sim hs _ hf⟩) fun _=>bndB_sim (ful_sim hs hf _ _) fun p q hs=>⟨rfl,hs⟩
theorem rws_sim:∀(f:Nat) (zs:List (List Int)) (p q:Ps),SimP Q U o p q→SimR Q U o (rwsP T f zs p) (rwsP U f zs q)
 |0,_,p,q,hs=>⟨rfl,hs⟩
 |f+1,zs,p,q,hs=>by
  unfold rwsP
  exact bnd_sim (its_sim h _ _ _ _ _ _ hs) fun x p q hs=>bif_sim (is_sim h hs _) (fun hi=>rws_sim f _ _ _ (adv_sim h hs (is_k hi))) fun _=>⟨rfl,hs⟩
theorem map_sim {p q:Ps}(hs:SimP Q U o p q){f f':Tk}(hf:Q (f.l,f.c) (f'.l,f'.c))(m:Nat):SimR Q U o (mapP T f m p) (mapP U f' m q):=by
 unfold mapP
 exact bnd_sim (nam_sim h hs) fun nm p q hs=>bndB_sim (tak_sim h hs _) fun p q hs=>bndB_sim (tak_sim h hs _) fun p q hs=>bnd_sim (its_sim h _ _ _ _ _ _ hs) fun xs p q hs=>bndB_sim (tak_sim h hs _) fun p q hs=>
  bnd_sim (its_sim h _ _ _ _ _ _ hs) fun ys p q hs=>bndB_sim (tak_sim h hs _) fun p q hs=>bnd_sim (rws_sim h _ _ _ _ hs) fun zs p q hs=>cls_sim h hs fun p q hs=>bif_sim rfl (fun _=>⟨rfl,stop_sim hs _ hf⟩) fun _=>bndB_sim (ful_sim hs hf _ _) fun p q hs=>⟨rfl,hs⟩
theorem inp_sim {p q:Ps}(hs:SimP Q U o p q){f f':Tk}(hf:Q (f.l,f.c) (f'.l,f'.c))(m:Nat):SimR Q U o (inpP T f m p) (inpP U f' m q):=by
 unfold inpP
 exact bnd_sim (nam_sim h hs) fun nm p q hs=>bndB_sim (tak_sim h hs _) fun p q hs=>bnd_sim (nam_sim h hs) fun nm p q hs=>bnd_sim (int_sim h hs) fun lo p q hs=>bnd_sim (int_sim h hs) fun hi p q hs=>
  bif_sim (by rw[here_k h hs]) (fun hk=>⟨rfl,(end_simF h hs (by simpa using hk)).2⟩) fun _=>bndB_sim (ful_sim hs hf _ _) fun p q hs=>⟨rfl,hs⟩
theorem nms_sim (a b:Str):∀(f:Nat) (l:List Str) (p q:Ps),SimP Q U o p q→SimR Q U o (nmsP T a b f l p) (nmsP U a b f l q)
 |0,_,p,q,hs=>⟨rfl,hs⟩
 |f+1,l,p,q,hs=>by
  unfold nmsP
  exact bnd_sim (nam_sim h hs) fun x p q hs=>bif_sim (by rw[is_sim h hs,is_sim h hs]) (fun _=>⟨rfl,hs⟩) fun _=>bndB_sim (tak_sim h hs _) fun p q hs=>nms_sim a b f _ _ _ hs
theorem cms_sim:∀(f:Nat) (l:List Int) (p q:Ps),SimP Q U o p q→SimR Q U o (cmsP T f l p) (cmsP U f l q)
 |0,_,p,q,hs=>⟨rfl,hs⟩
 |f+1,l,p,q,hs=>by
  unfold cmsP
  exact bnd_sim (int_sim h hs) fun x p q hs=>bif_sim (is_sim h hs _) (fun hi=>cms_sim f _ _ _ (adv_sim h hs (is_k hi))) fun _=>⟨rfl,hs⟩
theorem ars_sim {p q:Ps}(hs:SimP Q U o p q):SimR Q U o (arsP T p) (arsP U q):=by
 unfold arsP
 exact bif_sim (by rw[is_sim h hs,is_sim h hs]) (fun _=>⟨rfl,hs⟩) fun _=>nms_sim h _ _ _ _ _ _ hs
theorem ks_sim {p q:Ps}(hs:SimP Q U o p q):SimR Q U o (ksP T p) (ksP U q):=by
 unfold ksP
 exact bif_sim (is_sim h hs _) (fun hi=>cms_sim h _ _ _ _ (adv_sim h hs (is_k hi))) fun _=>⟨rfl,hs⟩
theorem bk2_sim {p q:Ps}(hs:SimP Q U o p q){f f' kd kd':Tk}(hf:Q (f.l,f.c) (f'.l,f'.c))(hk:Q (kd.l,kd.c) (kd'.l,kd'.c))(hks:kd.s=kd'.s)(a k t:Nat)(nm:Str)(m:Nat):SimR Q U o (bk2P T f kd a k t nm m p) (bk2P U f' kd' a k t nm m q):=by
 unfold bk2P
 exact bndB_sim (tak_sim h hs _) fun p q hs=>bnd_sim (ars_sim h hs) fun x p q hs=>bnd_sim (ks_sim h hs) fun x p q hs=>bndB_sim (tak_sim h hs _) fun p q hs=>bndB_sim (tak_sim h hs _) fun p q hs=>bnd_sim (nam_sim h hs) fun x p q hs=>
  bif_sim (by rw[here_k h hs]) (fun hk=>⟨rfl,(end_simF h hs (by simpa using hk)).2⟩) fun _=>bif_sim rfl (fun _=>⟨rfl,stop_sim hs _ hk⟩) fun _=>bndB_sim (ful_sim hs hf _ _) fun p q hs=>⟨by simp only[hks],hs⟩
theorem blk_sim {p q:Ps}(hs:SimP Q U o p q){f f':Tk}(hf:Q (f.l,f.c) (f'.l,f'.c))(m:Nat):SimR Q U o (blkP T f m p) (blkP U f' m q):=by
 unfold blkP
 refine bnd_sim (nam_sim h hs) fun nm p q hs=>bndB_sim (tak_sim h hs _) fun p q hs=>bif_sim (by rw[here_k h hs,here_s h hs]) (fun _=>⟨rfl,wrn_sim h hs⟩) fun hb=>?_
 have hk:(hereP U q).k≠4:=by
  rw[Bool.or_eq_false_iff]at hb
  have:=hb.1
  simp only[Bool.not_eq_false',beq_iff_eq]at this
  omega
 rw[here_s h hs]
 exact bk2_sim h (adv_sim h hs hk) hf (here_q h hs) (here_s h hs) _ _ _ _ _
theorem ous_sim:∀(f:Nat) (l:List Str) (p q:Ps),SimP Q U o p q→SimR Q U o (ousP T f l p) (ousP U f l q)
 |0,_,p,q,hs=>⟨rfl,hs⟩
 |f+1,l,p,q,hs=>by
  unfold ousP
  exact bnd_sim (nam_sim h hs) fun x p q hs=>bif_sim (is_sim h hs _) (fun hi=>ous_sim f _ _ _ (adv_sim h hs (is_k hi))) fun _=>⟨rfl,hs⟩
theorem out_sim {p q:Ps}(hs:SimP Q U o p q){f f':Tk}(hf:Q (f.l,f.c) (f'.l,f'.c))(m:Nat):SimR Q U o (outP T f m p) (outP U f' m q):=by
 unfold outP
 exact bnd_sim (ous_sim h _ _ _ _ hs) fun l p q hs=>bif_sim (by rw[here_k h hs]) (fun hk=>⟨rfl,(end_simF h hs (by simpa using hk)).2⟩) fun _=>bif_sim rfl (fun _=>⟨rfl,stop_sim hs _ hf⟩) fun _=>⟨rfl,hs⟩
end
open Vg Tf
set_option linter.unusedSimpArgs false
set_option maxRecDepth 100000
set_option maxHeartbeats 4000000
def fillM {α:Type}(f:α→Str×Value):List α→Al
 |[]=>[]
 |x::l=>aput (fillM f l) ⟨(f x).1.toArray⟩ (f x).2
def fillS:List Str→Nat→Al
 |[],_=>[]
 |x::l,k=>aput (fillS l (k+1)) ⟨x.toArray⟩ (iv k)
def idxS (s:Str):List Str→Nat→Option Nat
 |[],_=>none
 |x::l,k=>if x=s then some k else idxS s l (k+1)
def ftV (t:Ft):Value:= .agg (ftR t).toArray
def tdF (t:Td):Str×Value:=(t.nm,ftV t.ty)
def cuF (c:CuL):Str×Value:=(c.c.nm,.agg #[vsl c.x c.c.xs.length,vsl c.y c.c.ys.length])
def maF (m:MpL):Str×Value:=(m.nm,.agg #[vsl m.x m.xs.length,vsl m.y m.ys.length,vsl m.z m.zs.length])
structure ChkOk (H:Hp) (cp:Value) (d:DgL) (bT bC bM bS:Nat):Prop where
 p:PtH H cp (d.r++[.map (some bT),.map (some bC),.map (some bM),.map (some bS)])
 t:MpB H bT (fillM tdF d.tys)
 c:MpB H bC (fillM cuF d.cus)
 m:MpB H bM (fillM maF d.mas)
 s:MpB H bS (fillS (sigs d.c) 0)
theorem cokV {L:List Nat}{cs:List Cv}(h:cs.all Cv.isV=true):cs.all (Cv.cok L)=true:=by
 rw[List.all_eq_true]at h⊢
 intro c hc
 have:=h c hc
 cases c<;>simp[Cv.isV]at this<;>rfl
set_option linter.unusedSimpArgs false
theorem getD_set {s:List Bool}{k:Nat}(j:Nat)(h:k<s.length):(s.set k true).getD j false=if k=j then true else s.getD j false:=by
 simp only[List.getD_eq_getElem?_getD,List.getElem?_set]
 by_cases hj:k=j
 ·subst hj;simp[h]
 ·simp[hj]
open Vg Tf
set_option linter.unusedSimpArgs false
set_option maxRecDepth 100000
set_option maxHeartbeats 4000000
def ft0:Ft:=⟨0,false,0,0,0,0,0,0,0,0⟩
def tyQ (l:List Td)(s:Str):Option Ft:=(l.find? (fun t=>t.nm==s)).map (·.ty)
def tyN (l:List Td)(s:Str):Ft:=(tyQ l s).getD ft0
def sgN (l:List Str)(s:Str):Nat:=(idxS s l 0).getD 0
@[reducible] def cuV (c:CuL):List Cv:=[.v (.slice c.x.o c.c.xs.length c.x.c),.v (.slice c.y.o c.c.ys.length c.y.c)]
@[reducible] def maV (m:MpL):List Cv:=[.v (.slice m.x.o m.xs.length m.x.c),.v (.slice m.y.o m.ys.length m.y.c),.v (.slice m.z.o m.zs.length m.z.c)]
section
variable {C:Cx} {o:Oper} {e:Env} {M:Mem} {m x:Operand} {b:Nat} {s:Str}
end
structure Ck (H:Hp) (cp:Value) (d:DgL) (bT bC bM bS:Nat):Prop where
 o:d.ok H
 s:d.sm
 n1:d.ins.length≤1000000
 n2:d.bls.length≤1000000
 c:ChkOk H cp d bT bC bM bS
open Vg Tf
set_option linter.unusedSimpArgs false
set_option maxRecDepth 100000
set_option maxHeartbeats 4000000
def delS:Str:=[100,101,108,97,121]
def nee1 (l:List Str)(n:Nat)(s:Str):List Nat:=if n≤sgN l s then[sgN l s-n]else[]
def need (l:List Str)(n:Nat)(b:Bl):List Nat:=if b.kd==delS then[]else b.ins.flatMap (nee1 l n)
@[reducible] def nC (n:Nat):Cv:= .v (.int .i64 (n:Int))
open Vg Tf
set_option linter.unusedSimpArgs false
set_option maxRecDepth 100000
set_option maxHeartbeats 4000000
@[reducible] def bC (b:Bool):Cv:= .v (.bool b)
open Vg Tf
set_option linter.unusedSimpArgs false
set_option maxRecDepth 100000
set_option maxHeartbeats 4000000
open Vg Tf
set_option linter.unusedSimpArgs false
set_option maxRecDepth 100000
set_option maxHeartbeats 4000000
def tnAt (d:Dg)(i:Nat):Str:=if i<d.ins.length then(d.ins.map (·.ty)).getD i []else(d.bls.map (·.ty)).getD (i-d.ins.length) []
def tyAt (d:Dg)(i:Nat):Ft:=tyN d.tys (tnAt d i)
open Vg Tf
set_option linter.unusedSimpArgs false
set_option maxRecDepth 100000
set_option maxHeartbeats 4000000
open Vg Tf
set_option linter.unusedSimpArgs false
set_option maxRecDepth 100000
set_option maxHeartbeats 4000000
open Vg Tf
set_option linter.unusedSimpArgs false
set_option maxRecDepth 100000
set_option maxHeartbeats 4000000
theorem kind_mem {s:Str}{q:Nat×Nat×Nat}(h:kindQ s=some q):(s,q)∈kindT:=by
 unfold kindQ at h
 cases hf:kindT.find? (fun r=>r.1==s)with
 |none=>rw[hf]at h;cases h
 |some r=>
  rw[hf]at h
  simp only[Option.map_some,Option.some.injEq]at h
  have h1:=List.find?_some hf
  have h2:=List.mem_of_find?_eq_some hf
  have:r.1=s:=by simpa using h1
  subst this
  rw[←h];exact h2
@[go_sem ↓] theorem plS_1_5:plS 1 5=[(0,5)]:=rfl
theorem _root_.Go.Proofs.YtlnpgbnhcondjaaGreatDoor.Vg.Known.vslx {H:Hp}{β:Vl}{n:Nat}{b:Bk}(h:Known H β n b){sz:Nat}{rows:List (List Value)}(hr:∀r∈rows,r.length=sz)(hc:b.cells=rowsC rows):∃s:Sv,gval β (.sl n 0 rows.length sz)=vsl s rows.length∧SlH H (vsl s rows.length) sz rows:=by
 have h1:=h.sl hr hc
 obtain⟨s,hs⟩:∃s:Sv,gval β (.sl n 0 rows.length sz)=vsl s rows.length:=by
  unfold gval
  simp only[Cv.g]
  split
  ·rename_i hh;rw[hh.2];unfold Loc.emp;split<;>first|exact⟨⟨none,0⟩,rfl⟩|exact⟨⟨some _,_⟩,rfl⟩
  ·exact⟨⟨_,_⟩,rfl⟩
 exact⟨s,hs,by rw[←hs];exact h1⟩
open Vg Tf
set_option linter.unusedSimpArgs false
set_option maxRecDepth 100000
set_option maxHeartbeats 4000000
open Vg Tf
set_option linter.unusedSimpArgs false
set_option maxRecDepth 100000
set_option maxHeartbeats 4000000
@[go_sem ↓] theorem plS_4_1:plS 4 1=[(0,1),(1,1),(2,1),(3,1)]:=rfl
open Vg Tf
set_option linter.unusedSimpArgs false
set_option maxRecDepth 100000
abbrev cu (n:Int):Cv:= .v (.int .u64 n)
open Vg Tf
set_option linter.unusedSimpArgs false
set_option maxRecDepth 100000
@[go_sem] def va (t:Ft)(r:Int):V:= .agg [ci t.bits,.v (.bool t.signed),ci t.num,ci t.off,ci t.den,ci t.m,ci t.kg,ci t.s,ci t.a,ci t.k,ci r]
@[go_sem] def rg (lo hi:Int):V:= .agg [ci lo,ci hi]
def fixR (t:Ft)(n d:Int):Int:=min (max (rnd 3 (n*t.den-t.off*d) (d*t.num)) (flo t)) (fhi t)
end Go.Proofs.YtlnpgbnhcondjaaGreatDoor.Fx
