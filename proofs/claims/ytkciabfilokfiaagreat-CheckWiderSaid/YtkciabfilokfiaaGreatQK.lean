/-  -/
import Derived.Test.YtkciabfilokfiaaGreatPS
import Derived.Test.YtkciabfilokfiaaGreatXG1
import Derived.Test.YtkciabfilokfiaaGreatQJ
namespace Go.Proofs.YtkciabfilokfiaaGreat.Fx
open Vg Tf
set_option linter.unusedSimpArgs false
set_option linter.unusedVariables false
set_option maxRecDepth 100000
set_option maxHeartbeats 4000000
def uS (a b:Ft):Bool:=(a.m==b.m)&&((a.kg==b.kg)&&((a.s==b.s)&&((a.a==b.a)&&(a.k==b.k))))
def lErr (a:Ft)(x:Int)(b:Ft)(y:Int):Int:=if (fok a&&fin a x)=false∨(fok b&&fin b y)=false then 1 else if uS a b=false then 12 else 0
def lB (a:Ft)(x:Int)(b:Ft)(y:Int):Bool:=if lErr a x b y=0 then decide (fnu a x*b.den<fnu b y*a.den)else false
theorem fless_ (a:Ft)(x:Int)(b:Ft)(y:Int):CallOk Tryz.prog 268 [va a x,va b y] [] (.tup [.c (.v (.bool (lB a x b y))),Wi (lErr a x b y)]) []:=by
 refine CallOk.mk 100 Tryz.func268 rfl en268 (by simp[Tryz.ntmps268]) (by simp[ClV,V.g,Cv.g,va,fx,ci]) fun C hR=>?_
 refine vv ?_
 refine CallQ.pure 106 (valid5 a x) rfl ?_
 cases h1:(fok a&&fin a x)with
 |false=>
  have e:lErr a x b y=1:=by rw[lErr,if_pos (.inl h1)]
  rw[lB,e]at hR
  refine vv ?_
  refine CallQ.guard 106 (fun hh=>by cases hh) (fun hh=>by cases hh) (xs:=[]) (v:=Bo true) ?_
  refine vv ?_
  exact RetQ.pure hR rfl (vv trivial) rvr (ClV.of rfl)
 |true=>
  refine vv ?_
  refine CallQ.pure 106 (valid5 b y) rfl ?_
  cases h2:(fok b&&fin b y)with
  |false=>
   have e:lErr a x b y=1:=by rw[lErr,if_pos (.inr h2)]
   rw[lB,e]at hR
   refine vv ?_
   exact RetQ.pure hR rfl (vv trivial) rvr (ClV.of rfl)
  |true=>
   refine vv ?_
   simp only[←uS.eq_1]
   cases h3:uS a b with
   |false=>
    have e:lErr a x b y=12:=by rw[lErr,if_neg (by rw[h1,h2];simp),if_pos h3]
    rw[lB,e]at hR
    refine vv ?_
    exact RetQ.pure hR rfl (vv trivial) rvr (ClV.of rfl)
   |true=>
    have e:lErr a x b y=0:=by rw[lErr,if_neg (by rw[h1,h2];simp),if_neg (by rw[h3];simp)]
    rw[lB,e,if_pos rfl]at hR
    simp only[Bool.and_eq_true]at h1 h2
    have n1:=fnu_bd h1.1 h1.2
    have n2:=fnu_bd h2.1 h2.2
    have hf:=fok_bd h1.1
    have hg:=fok_bd h2.1
    have p1:=bd_mul (a:=fnu a x) (b:=b.den) (A:=4503600701112320) (B:=1048576) (by omega) (by omega) (by omega) (by omega)
    have p2:=bd_mul (a:=fnu b y) (b:=a.den) (A:=4503600701112320) (B:=1048576) (by omega) (by omega) (by omega) (by omega)
    refine vv ?_
    refine CallQ.pure 106 (number5 a x h1.1 h1.2) rfl ?_
    refine vv ?_
    refine CallQ.pure 106 (number5 b y h2.1 h2.2) rfl ?_
    refine vv ?_
    refine CallQ.pure 106 (of_ (fnu b y) (by omega) (by omega)) rfl ?_
    refine vv ?_
    refine CallQ.pure 106 (wtimes (fnu b y) a.den (by omega) (by omega) (by omega) (by omega)) rfl ?_
    refine vv ?_
    refine CallQ.pure 106 (of_ (fnu a x) (by omega) (by omega)) rfl ?_
    refine vv ?_
    refine CallQ.pure 106 (wtimes (fnu a x) b.den (by omega) (by omega) (by omega) (by omega)) rfl ?_
    refine vv ?_
    refine CallQ.pure 106 (atmost (fnu b y*a.den) (fnu a x*b.den) (by omega) (by omega) (by omega) (by omega)) rfl ?_
    refine vv ?_
    refine RetQ.pure hR rfl (vv trivial) ?_ (ClV.of rfl)
    have:(!decide (fnu b y*a.den≤fnu a x*b.den))=decide (fnu a x*b.den<fnu b y*a.den):=by
     rw[Bool.eq_iff_iff];simp
    rw[this]
def mT (g:Bool)(a:Ft)(b:Ft)(e:Int):Ft:=if e=0 then(bif g then b else a)else z0
def gErr (a:Ft)(x:Int)(t:Ft):Int:=if (fok a&&fin a x)=false∨fok t=false then 1 else if uS a t=false then 12 else 0
def gT (a:Ft)(x:Int)(t:Ft):Ft:=if gErr a x t=0 then t else z0
def gR (s:Int)(a:Ft)(x:Int)(t:Ft):Int:=if gErr a x t=0 then fixR t (fnu a x*s) a.den else 0
theorem change_ (a:Ft)(x:Int)(t:Ft)(s:Int)(hs:s=1∨s= -1):CallOk Tryz.prog 239 [va a x,fx t,I s] [] (.tup [.agg (vaL (gT a x t) (gR s a x t)),Wi (gErr a x t)]) []:=by
 refine CallOk.mk 100 Tryz.func239 rfl en239 (by simp[Tryz.ntmps239]) (by simp[ClV,V.g,Cv.g,va,fx,ci]) fun C hR=>?_
 refine vv ?_
 refine CallQ.pure 106 (valid5 a x) rfl ?_
 cases h1:(fok a&&fin a x)with
 |false=>
  have e:gErr a x t=1:=by rw[gErr,if_pos (.inl h1)]
  rw[gT,gR,e]at hR
  refine vv ?_
  refine CallQ.guard 106 (fun hh=>by cases hh) (fun hh=>by cases hh) (xs:=[]) (v:=Bo true) ?_
  refine vv ?_
  exact RetQ.pure hR rfl (vv trivial) rvr (ClV.of rfl)
 |true=>
  refine vv ?_
  refine CallQ.pure 106 (fvalid t) rfl ?_
  cases h2:fok t with
  |false=>
   have e:gErr a x t=1:=by rw[gErr,if_pos (.inr h2)]
   rw[gT,gR,e]at hR
   refine vv ?_
   exact RetQ.pure hR rfl (vv trivial) rvr (ClV.of rfl)
  |true=>
   refine vv ?_
   simp only[←uS.eq_1]
   cases h3:uS a t with
   |false=>
    have e:gErr a x t=12:=by rw[gErr,if_neg (by rw[h1,h2];simp),if_pos h3]
    rw[gT,gR,e]at hR
    refine vv ?_
    exact RetQ.pure hR rfl (vv trivial) rvr (ClV.of rfl)
   |true=>
    have e:gErr a x t=0:=by rw[gErr,if_neg (by rw[h1,h2];simp),if_neg (by rw[h3];simp)]
    rw[gT,gR,e,if_pos rfl,if_pos rfl]at hR
    simp only[Bool.and_eq_true]at h1
    have n1:=fnu_bd h1.1 h1.2
    have hf:=fok_bd h1.1
    have p1:=bd_mul (a:=fnu a x) (b:=s) (A:=4503600701112320) (B:=1) (by omega) (by omega) (by omega) (by omega)
    refine vv ?_
    refine CallQ.pure 106 (number5 a x h1.1 h1.2) rfl ?_
    refine vv ?_
    refine Sm.dg 106 8 mix ?_
    refine vv ?_
    refine DCallQ.pure 106 (of_ (fnu a x) (by omega) (by omega)) rfl ?_
    refine vv ?_
    refine DCallQ.pure 106 (wtimes (fnu a x) s (by omega) (by omega) (by omega) (by omega)) rfl ?_
    refine vv ?_
    refine DCallQ.pure 106 (of_ a.den (by omega) (by omega)) rfl ?_
    simp only[wd_def]
    refine vv ?_
    refine CallQ.pure 106 (result_ t (fnu a x*s) a.den h2 (by omega) (by omega) (by omega) (by omega)) rfl ?_
    refine vv ?_
    exact RetQ.pure hR rfl (vv trivial) rvr (ClV.of rfl)
theorem fneg_ (a:Ft)(x:Int)(t:Ft):CallOk Tryz.prog 212 [va a x,fx t] [] (.tup [.agg (vaL (gT a x t) (gR (-1) a x t)),Wi (gErr a x t)]) []:=by
 refine CallOk.mk 100 Tryz.func212 rfl en212 (by simp[Tryz.ntmps212]) (by simp[ClV,V.g,Cv.g,va,fx,ci]) fun C hR=>?_
 refine vv ?_
 refine CallQ.pure 106 (change_ a x t (-1) (.inr rfl)) rfl ?_
 refine vv ?_
 exact RetQ.pure hR rfl (vv trivial) rvr (ClV.of rfl)
theorem fconv_ (a:Ft)(x:Int)(t:Ft):CallOk Tryz.prog 220 [va a x,fx t] [] (.tup [.agg (vaL (gT a x t) (gR 1 a x t)),Wi (gErr a x t)]) []:=by
 refine CallOk.mk 100 Tryz.func220 rfl en220 (by simp[Tryz.ntmps220]) (by simp[ClV,V.g,Cv.g,va,fx,ci]) fun C hR=>?_
 refine vv ?_
 refine CallQ.pure 106 (change_ a x t 1 (.inl rfl)) rfl ?_
 refine vv ?_
 exact RetQ.pure hR rfl (vv trivial) rvr (ClV.of rfl)
end Go.Proofs.YtkciabfilokfiaaGreat.Fx
namespace Go.Proofs.YtkciabfilokfiaaGreat.Fx
open Vg Tf
set_option linter.unusedSimpArgs false
set_option linter.unusedVariables false
set_option maxRecDepth 100000
set_option maxHeartbeats 4000000
@[reducible] def rC (r:Int×Int):List Cv:=[.v (.int .i64 r.1),.v (.int .i64 r.2)]
@[reducible] def rA (r:Int×Int):V:= .agg (rC r)
def truR (m n:Bool):Int×Int:=(bif n then 0 else 1,bif m then 1 else 0)
theorem truth_ (m n:Bool):CallOk Tryz.prog 218 [Bo m,Bo n] [] (rA (truR m n)) []:=by
 cases m<;>cases n<;>
 ·refine CallOk.mkN 100 Tryz.func218 rfl en218 (by simp[Tryz.ntmps218]) (ClA.of rfl) rfl rfl fun C hR hP=>?_
  refine vv ?_
  exact RetQ.of hR rfl (vv trivial) rvv (Sub.nil _) ClM.nil (ClV.of rfl)
def mayQ (r:Int×Int):Bool×Bool:=(!((r.1==0)&&(r.2==0)),bif decide (r.1≤0)then decide (0≤r.2)else false)
theorem may_ (r:Int×Int):CallOk Tryz.prog 215 [rA r] [] (.tup [Wb1 (mayQ r).1,Wb1 (mayQ r).2]) []:=by
 refine CallOk.mkN 100 Tryz.func215 rfl en215 (by simp[Tryz.ntmps215]) (ClA.of rfl) rfl rfl fun C hR hP=>?_
 refine vv ?_
 refine Sm.dg 110 12 mix ?_
 refine vv ?_
 exact RetQ.of hR rfl scc rvv (Sub.nil _) ClM.nil (ClV.of rfl)
def hulR (a b:Int×Int):Int×Int:=(min a.1 b.1,max a.2 b.2)
theorem hull_ (a b:Int×Int):CallOk Tryz.prog 173 [rA a,rA b] [] (rA (hulR a b)) []:=by
 refine CallOk.mkN 100 Tryz.func173 rfl en173 (by simp[Tryz.ntmps173]) (ClA.of rfl) rfl rfl fun C hR hP=>?_
 refine vv ?_
 exact RetQ.of hR rfl (vv trivial) rvv (Sub.nil _) ClM.nil (ClV.of rfl)
def limR (r:Int×Int)(lo hi:Int):Int×Int:=(min (max r.1 lo) hi,min (max r.2 lo) hi)
theorem limited_ (r:Int×Int)(lo hi:Int):CallOk Tryz.prog 213 [rA r,I lo,I hi] [] (rA (limR r lo hi)) []:=by
 refine CallOk.mkN 100 Tryz.func213 rfl en213 (by simp[Tryz.ntmps213]) (ClA.of rfl) rfl rfl fun C hR hP=>?_
 refine vv ?_
 exact RetQ.of hR rfl (vv trivial) rvv (Sub.nil _) ClM.nil (ClV.of rfl)
theorem raw_ (t:Ft)(x e:Int):CallOk Tryz.prog 211 [.agg (vaL t x),I e] [] (I x) []:=by
 refine CallOk.mkN 100 Tryz.func211 rfl en211 (by simp[Tryz.ntmps211]) (ClA.of rfl) rfl rfl fun C hR hP=>?_
 refine vv ?_
 exact RetQ.int hR rfl scc rfl
theorem less_ (a b:Int)(ta tb:Ft):CallOk Tryz.prog 242 [I a,.agg (ftC ta),I b,.agg (ftC tb)] [] (Bo (lB ta a tb b)) []:=by
 refine CallOk.mkN 100 Tryz.func242 rfl en242 (by simp[Tryz.ntmps242]) (ClA.of rfl) rfl rfl fun C hR hP=>?_
 refine vv ?_
 refine CallQ.pure 110 (fless_ ta a tb b) rfl ?_
 refine vv ?_
 exact RetQ.bool hR rfl scc rfl
theorem conv1_ (x:Int)(a b:Ft):CallOk Tryz.prog 219 [I x,.c (.p 1 0),.c (.p 2 0)] [(1,⟨true,ftC a,43⟩),(2,⟨true,ftC b,43⟩)] (I (gR 1 a x b)) []:=by
 refine CallOk.mkN 100 Tryz.func219 rfl en219 (by simp[Tryz.ntmps219]) (ClA.of rfl) rfl rfl fun C hR hP=>?_
 refine vv ?_
 refine CallQ.pure 110 (fconv_ a x b) rfl ?_
 refine vv ?_
 refine CallQ.pure 110 (raw_ (gT a x b) (gR 1 a x b) (gErr a x b)) rfl ?_
 refine vv ?_
 exact RetQ.of hR rfl scc rfl (Sub.refl _) (ClM.of rfl) (ClV.of rfl)
def cnvR (r:Int×Int)(a b:Ft):Int×Int:=(gR 1 a r.1 b,gR 1 a r.2 b)
theorem converted_ (r:Int×Int)(a b:Ft):CallOk Tryz.prog 174 [rA r,.agg (ftC a),.agg (ftC b)] [] (rA (cnvR r a b)) []:=by
 refine CallOk.mkN 100 Tryz.func174 rfl en174 (by simp[Tryz.ntmps174]) (ClA.of rfl) rfl rfl fun C hR hP=>?_
 refine vv ?_
 refine Sm.dg 110 7 mix ?_
 refine vv ?_
 refine DCallQ.ren [(1,101),(2,102)] 120 (conv1_ r.1 a b) (ClM.of rfl) rfl rfl ?_ rfl (.inr rfl) rfl rfl ?_
 ·exact⟨⟨⟨false,ftC a,43⟩,rfl,.inr ⟨rfl,[],rfl⟩⟩,⟨⟨false,ftC b,43⟩,rfl,.inr ⟨rfl,[],rfl⟩⟩,trivial⟩
 refine vv ?_
 refine CallQ.ren [(1,101),(2,102)] 130 (conv1_ r.2 a b) (ClM.of rfl) rfl rfl ?_ rfl (.inr rfl) ?_
 ·exact⟨⟨⟨false,ftC a,43⟩,rfl,.inr ⟨rfl,[],rfl⟩⟩,⟨⟨false,ftC b,43⟩,rfl,.inr ⟨rfl,[],rfl⟩⟩,trivial⟩
 refine vv ?_
 exact RetQ.of hR rfl (vv trivial) rvv (Sub.nil _) ClM.nil (ClV.of rfl)
end Go.Proofs.YtkciabfilokfiaaGreat.Fx
