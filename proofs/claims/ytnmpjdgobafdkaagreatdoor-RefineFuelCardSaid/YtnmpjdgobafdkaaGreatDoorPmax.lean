/- refineFuel_proved. -/
import Derived.Test.YtnmpjdgobafdkaaGreatDoorPmaw
set_option maxRecDepth 100000
set_option maxHeartbeats 16000000
set_option linter.all false
noncomputable section
namespace Go.Proofs.YtnmpjdgobafdkaaGreatDoor
section
open Go.RowKit Go.Ev
section
variable {B:List BD} {L M:List SD}
def m5 {a b c:Bool} {k:Nat} (h:dU (.z a b c k::B) L): ∃x M,L= .z x::M/\Sg a b c x/\Bz k x/\dU B M:=by
 obtain ⟨d,M,e,f,g⟩:=h;cases d<;>first|exact False.elim f|exact ⟨_,M,e,f.1,f.2,g⟩
def sP {p:Bool} {k:Nat} (h:dU (.n p k::B) L): ∃x M,L= .n x::M/\(p=true->0<x)/\Bn k x/\dU B M:=by
 obtain ⟨d,M,e,a,b⟩:=h;cases d<;>first|exact False.elim a|exact ⟨_,M,e,a.1,a.2,b⟩
def qq {l u:Int} (h:dU (.i l u::B) L): ∃x M,L= .i x::M/\l<=x/\x<=u/\dU B M:=by
 obtain ⟨d,M,e,a,b⟩:=h;cases d<;>first|exact False.elim a|exact ⟨_,M,e,a.1,a.2,b⟩
def aiK {l u:Int} (h:dU (.u l u::B) L): ∃x M,L= .u x::M/\l<=(x:Int)/\(x:Int)<=u/\dU B M:=by
 obtain ⟨d,M,e,a,b⟩:=h;cases d<;>first|exact False.elim a|exact ⟨_,M,e,a.1,a.2,b⟩
def gH:dU [] []:=rfl
def pS {a b c:Bool} {k:Nat} {x:Int} (h:Sg a b c x) (h':Bz k x) (t:dU B M):dU (.z a b c k::B) (.z x::M):=⟨_,_,rfl,⟨h,h'⟩,t⟩
def xK {p:Bool} {k x:Nat} (h:p=true->0<x) (h':Bn k x) (t:dU B M):dU (.n p k::B) (.n x::M):=⟨_,_,rfl,⟨h,h'⟩,t⟩
def oU {l u x:Int} (h:l<=x) (h':x<=u) (t:dU B M):dU (.i l u::B) (.i x::M):=⟨_,_,rfl,⟨h,h'⟩,t⟩
def sQ {x:Int} :Sg true true true x:=⟨fun _=>rfl,fun _=>rfl,fun _=>rfl⟩
def Oa {x:Nat} :false=true->0<x:=fun q=>by cases q
def iG {L:List SD} : ∀x∈([]:List (Nat×List Nat)),nH L x:=fun _ h=>by cases h
def jN {L:List SD} : ∀x∈([]:List (Nat×BD)),x.2.ok (aU L x.1):=fun _ h=>by cases h
def yK {L:List SD} {r:Nat×List Nat} (h:nH L r): ∀x∈ [r],nH L x:=fun _ a=>by simp_all
def aiL {L:List SD} {r:Nat×List Nat} {l:List (Nat×List Nat)} (h:nH L r) (t: ∀x∈l,nH L x): ∀x∈r::l,nH L x:=fun _ a=>by grind
def C5 {L:List SD} {r:Nat×BD} {l:List (Nat×BD)} (h:r.2.ok (aU L r.1)) (t: ∀x∈l,x.2.ok (aU L x.1)): ∀x∈r::l,x.2.ok (aU L x.1):=fun _ a=>by grind
def jt {f:FuncId} {P:FuncId->Prop} (h:P f): ∀g,some f=some g->P g:=fun g e=>by simp_all
end
def kn (j:Nat):Kd:= .n (.n j)
def kz (j:Nat):Kd:= .z (.z j)
def ki (j:Nat):Kd:= .i (.i j)
def kd (j:Nat):Kd:= .d (.z j) (.i (j+1))
def zz (k:Nat):BD:= .z true true true k
def dK (a:List BD) (r:Kd):List Alt:= [⟨a,[],[],r⟩]
def jO:Cn:=⟨none,[.x],[],[],[]⟩
def zw (l h:Int) (c:Nat):Bool:=gw 0 l&&Nat.ble h.toNat c
def Xp (f:FuncId) (N:Nat->Nat->Nat) (t:Bool->Bool->Bool) (c:Nat):List BD->Cn
 | [.n p i,.n q j]=>cond (Nat.ble i c&&Nat.ble j c) ⟨some f,[.n p i,.n q j],[],[kn 0,kn 1],dK [.n (t p q) (N i j)] (kn 2)⟩ jO
 |_=>jO
def Ob (f:FuncId) (N:Nat->Nat->Nat) (t:Bool->Bool) (c d:Nat):List BD->Cn
 | [.n p i,.i l u]=>cond (Nat.ble i c&&zw l u d) ⟨some f,[.n p i,.i l u],[],[kn 0,ki 1],dK [.n (t p) (N i u.toNat)] (kn 2)⟩ jO
 |_=>jO
def Ss (f:FuncId) (N:Nat->Nat->Nat) (t:Bool->Bool->Bool->Bool->Bool->Bool->Bool×Bool×Bool) (c:Nat):List BD->Cn
 | [.z a b e i,.z d g h j]=>cond (Nat.ble i c&&Nat.ble j c) ⟨some f,[.z a b e i,.z d g h j],[],[kz 0,kz 1],dK [.z (t a b e d g h).1 (t a b e d g h).2.1 (t a b e d g h).2.2 (N i j)] (kz 2)⟩ jO
 |_=>jO
def Xq (f:FuncId) (N:Nat->Nat->Nat) (t:Bool->Bool->Bool->Bool) (c d:Nat):List BD->Cn
 | [.z a b e i,.i l u]=>cond (Nat.ble i c&&zw l u d) ⟨some f,[.z a b e i,.i l u],[],[kz 0,ki 1],dK [.z a (t a b e) e (N i u.toNat)] (kz 2)⟩ jO
 |_=>jO
def bl (n:Nat):Nat:=cond (Nat.beq n 0) 0 (Nat.succ (Nat.log2 n))
def ate:List BD->Cn:=fun _=>⟨some 60,[],[],[.i (.k .u64 1)],dK [.n true 1] (kn 0)⟩
def atf:=Ob 144 (fun i u=>i+u) (fun p=>p) 20000000 1048576
def atg:=Ob 133 (fun i _=>i) (fun _=>false) 20000000 1048576
def ath:=Ob 136 (fun i _=>i) (fun _=>false) 20000000 1048576
def ati:=Ob 277 (fun i u=>i*u+1) (fun p=>p) 300000 64
def atj:=Xp 134 (fun i j=>Ld i j+1) (fun p q=>p||q) 20000000
def atk:=Xp 322 (fun i j=>i+j) (fun p q=>p&&q) 20000000
def aiM:List BD->Cn
 | [.n p i,.u l h,.u a b]=>cond (Nat.ble i 20000000&&((gw 0 l&&gw h 4294967295)&&(gw 0 a&&gw b 4294967295))) ⟨some 163,[.n p i,.u l h,.u a b],[],[kn 0,.i (.u 1),.i (.u 2)],dK [.n ((p&&gw 1 l)||gw 1 a) (i+33)] (kn 3)⟩ jO
 |_=>jO
def aiN:List BD->Cn
 | [.n p i]=>cond (Nat.ble i 20000000) ⟨some 127,[.n p i],[],[kn 0],dK [.i 0 i] (ki 1)⟩ jO
 |_=>jO
def aiO:List BD->Cn
 | [.n p i,.n true j]=>cond (Nat.ble i 20000000&&Nat.ble j 20000000) ⟨some 184,[.n p i,.n true j],[],[kn 0,kn 1],dK [.n false i,.n false i] (.t3 (kn 2) (kn 3) (.b true))⟩ jO
 |_=>jO
def aiP:List BD->Cn
 | [.n p i]=>cond (Nat.ble i 900000) ⟨some 323,[.n p i],[],[kn 0],dK [.n p (i+1),.n false i] (.t (kn 1) (kn 2))⟩ jO
 |_=>jO
def aiQ:List BD->Cn
 | [.n p i]=>cond (Nat.ble i 900000) ⟨some 279,[.n p i],[],[kn 0],[⟨[.n p (i+1)],[],[],.t (kn 1) (.b true)⟩,⟨[.n false (i+1)],[],[],.t (kn 1) (.b false)⟩]⟩ jO
 |_=>jO
def aiR:List BD->Cn
 | [.i l h]=>cond (gw (-4611686018427387904) l&&gw h 4611686018427387904) ⟨some 31,[.i l h],[],[ki 0],dK [.z (vo (gw 0 l)) (gw l 0&&gw 0 h) (vo (gw h 0)) (bl (Ld l.natAbs h.natAbs))] (kz 1)⟩ jO
 |_=>jO
def aiS (b:Bool):List BD->Cn
 | [.n p i]=>cond (Nat.ble i 20000000) ⟨some 116,[.n p i],[],[.b b,kn 0],dK [.z b (vo p) (vo b) i] (kz 1)⟩ jO
 |_=>jO
def aiT (b:Bool):List BD->Cn
 | [.n p i]=>cond (Nat.ble i 20000000&&imp b p) ⟨some 116,[.n p i],[],[.b b,kn 0],dK [.y b (vo p) true i] (.z (.s b 1))⟩ jO
 |_=>jO
def aiU:List BD->Cn
 | [.z a b c i]=>cond (Nat.ble i 20000000) ⟨some 146,[.z a b c i],[],[kz 0],[⟨[.z c b a i],[],[(9,[0,1])],kz 1⟩]⟩ jO
 |_=>jO
def atl:=Ss 83 (fun i j=>Ld i j+1) (fun a _ e b _ d=>(a||b,true,e||d)) 10000000
def atm:=Ss 329 (fun i j=>Ld i j+1) (fun a _ e b _ d=>(a||d,true,e||b)) 10000000
def atn:=Ss 310 (fun i j=>i+j) (fun _ _ _ _ _ _=>(true,true,true)) 10000000
def ato:=Xq 128 (fun i u=>i+u) (fun _ b _=>b) 10000000 1048576
def atp:=Xq 85 (fun i _=>i) (fun _ b e=>b||e) 10000000 1048576
def Xr (n:Nat) (i:Nat):List Alt:= [⟨[],[(n,.z true false false i)],[],gz (-1)⟩,⟨[],[(n,.z false true false i)],[],gz 0⟩,⟨[],[(n,.z false false true i)],[],gz 1⟩]
def aiV:List BD->Cn
 | [.z a b c i]=>cond (Nat.ble i 20000000) ⟨some 126,[.z a b c i],[],[kz 0],Xr 0 i⟩ jO
 |_=>jO
def aiW:List BD->Cn
 | [.z a b c i,.z d e f j]=>⟨some 76,[.z a b c i,.z d e f j],[],[kz 0,kz 1],dK [.i (-1) 1] (ki 2)⟩
 |_=>jO
def aiX:List BD->Cn
 | [.z a b c i,.z d false e j]=>cond (Nat.ble i 10000000&&Nat.ble j 10000000) ⟨some 145,[.z a b c i,.z d false e j],[],[kz 0,kz 1],dK [zz (i+1),zz j] (.t3 (kz 2) (kz 3) (.b true))⟩ jO
 |_=>jO
def atq (n:Nat):n<2^bl n:=by
 unfold bl;by_cases h:n=0
 ·simp_all
 ·have:Nat.beq n 0=false:=by cases e:Nat.beq n 0 with|false=>rfl|true=>simp_all
  rw [this];exact Nat.lt_log2_self
def rT:Holds jO:=fun L h=>by
 obtain ⟨d,_,_,h,_⟩:=h;cases d<;>exact False.elim h
def hc {b:Bool} {c:Cn} (h:b=true->Holds c):Holds (cond b c jO):=by
 cases b
 ·exact rT
 simp_all
def C6 {i j c d:Nat} (h:(Nat.ble i c&&Nat.ble j d)=true):i<=c/\j<=d:=⟨bq (aY h).1,bq (aY h).2⟩
def aiY {l h x:Int} {c:Nat} (q:zw l h c=true) (d:l<=x) (e:x<=h):x=((x.toNat:Nat):Int)/\x.toNat<=h.toNat/\h.toNat<=c:=by
 obtain ⟨a,b⟩:=aY (show (gw 0 l&&Nat.ble h.toNat c)=true from q);have:=oT a;have:=bq b;omega
def Xs (a b:Nat):Ld a b=max a b:=by
 unfold Ld;cases h:Nat.ble a b
 ·have: ¬a<=b:=fun q=>by rw [nk q] at h;cases h
  show a=_;omega
 simp_all
def aiZ {f:FuncId} {N:Nat->Nat->Nat} {t:Bool->Bool->Bool} {c:Nat} (h: ∀ {i j x y:Nat},i<=c->j<=c->Bn i x->Bn j y-> ∃s,Bn (N i j) s/\(∀p q,(p=true->0<x)->(q=true->0<y)->t p q=true->0<s)/\bJ Tryz.prog bw f [fw x,fw y] (fw s)):
 ∀l,Holds (Xp f N t c l):=fun l=>by
 unfold Xp;split
 ·refine hc fun b L a _=> ?_
  obtain ⟨x,L,rfl,k,o,a⟩:=sP a;obtain ⟨y,L,rfl,m,u,a⟩:=sP a;obtain rfl:L= []:=a;obtain ⟨s,d,e,g⟩:=h (C6 b).1 (C6 b).2 o u;exact ⟨_,jc _,[.n s],xK (e _ _ k m) d gH,jN,iG,jt g⟩
 ·exact rT
def Xt {f:FuncId} {N:Nat->Nat->Nat} {t:Bool->Bool} {c d:Nat} (h: ∀ {i x s u:Nat},i<=c->u<=d->Bn i x->s<=u-> ∃z,Bn (N i u) z/\(∀p,(p=true->0<x)->t p=true->0<z)/\bJ Tryz.prog bw f [fw x,bj (.int .i64 (s:Int))] (fw z)):
 ∀l,Holds (Ob f N t c d l):=fun l=>by
 unfold Ob;split
 ·refine hc fun e L a _=> ?_
  obtain ⟨x,L,rfl,A,D,a⟩:=sP a;obtain ⟨y,L,rfl,g,C,a⟩:=qq a;obtain rfl:L= []:=a;obtain ⟨j,k,m⟩:=aiY (aY e).2 g C;obtain ⟨s,o,q,b⟩:=h (bq (aY e).1) m D k;rw [<-j] at b;exact ⟨_,jc _,[.n s],xK (q _ A) o gH,jN,iG,jt b⟩
 ·exact rT
def acn {f:FuncId} {N:Nat->Nat->Nat} {t:Bool->Bool->Bool->Bool->Bool->Bool->Bool×Bool×Bool} {c:Nat} (h: ∀ {i j:Nat} {x y:Int},i<=c->j<=c->Bz i x->Bz j y-> ∃s,Bz (N i j) s/\
 (∀a b e g k m,Sg a b e x->Sg g k m y->Sg (t a b e g k m).1 (t a b e g k m).2.1 (t a b e g k m).2.2 s)/\bJ Tryz.prog bw f [dN x,dN y] (dN s)): ∀l,Holds (Ss f N t c l):=fun l=>by
 unfold Ss;split
 ·refine hc fun o L d _=> ?_
  obtain ⟨x,L,rfl,A,D,d⟩:=m5 d;obtain ⟨y,L,rfl,C,E,d⟩:=m5 d;obtain rfl:L= []:=d;obtain ⟨s,p,q,u⟩:=h (C6 o).1 (C6 o).2 D E;exact ⟨_,jc _,[.z s],pS (q _ _ _ _ _ _ A C) p gH,jN,iG,jt u⟩
 ·exact rT
def ai0 {f:FuncId} {N:Nat->Nat->Nat} {t:Bool->Bool->Bool->Bool} {c d:Nat} (h: ∀ {i s u:Nat} {x:Int},i<=c->u<=d->Bz i x->s<=u-> ∃z,Bz (N i u) z/\(∀a b e,Sg a b e x->Sg a (t a b e) e z)/\bJ Tryz.prog bw f [dN x,bj (.int .i64 (s:Int))] (dN z)):
 ∀l,Holds (Xq f N t c d l):=fun l=>by
 unfold Xq;split
 ·refine hc fun k L g _=> ?_
  obtain ⟨x,L,rfl,D,F,g⟩:=m5 g;obtain ⟨y,L,rfl,m,E,g⟩:=qq g;obtain rfl:L= []:=g;obtain ⟨o,p,q⟩:=aiY (aY k).2 m E;obtain ⟨s,A,C,j⟩:=h (bq (aY k).1) q F p;rw [<-o] at j;exact ⟨_,jc _,[.z s],pS (C _ _ _ D) A gH,jN,iG,jt j⟩
 ·exact rT
def mk (c:List BD->Cn) (h: ∀l,Holds (c l)):bo:=⟨c,fun _=>true,fun l _=>h l⟩
def qs:bo:=mk ate fun l L d _=>by
 obtain rfl:L= []:=d;obtain ⟨m,e,a,b⟩:=KJ (n:=1);exact ⟨_,jc _,[.n m],xK (fun _=>by omega) (by rw [a];show 1<2^1;decide) gH,jN,iG,jt b⟩
def Xu:bo:=mk atf (Xt fun {i x s u} e j k g=>by
 obtain ⟨m,a,b,d⟩:=Q6 (s:=s) (c:=u) k rfl g j e;exact ⟨m,a,fun p f h=>by rw [b];exact ji (f h) (aO (by decide)),d⟩)
def ai1:bo:=mk atg (Xt fun {i x s u} d k f j=>by
 obtain ⟨m,a,g,b⟩:=ag2 (s:=s) f rfl (by omega) d;exact ⟨m,a,fun p h e=>(by cases e),b⟩)
def ai2:bo:=mk ath (Xt fun {i x s u} d k f j=>by
 obtain ⟨m,a,g,b⟩:=aqv (s:=s) f rfl (by omega) d;exact ⟨m,a,fun p h e=>(by cases e),b⟩)
def Su:bo:=mk ati (Xt fun {i x s u} e l j g=>by
 obtain ⟨m,a,b,d⟩:=arx (k:=s) j (by omega) e;exact ⟨m,Lo a (dH (bH (aq _) g)),fun p f h=>by rw [b];exact aO (f h),d⟩)
def Lx:bo:=mk atj (aiZ fun {i j x y} d e k l=>by
 obtain ⟨s,a,m,b⟩:=Q7 k l d e;refine ⟨s,by rw [Xs];exact a,fun p q f g h=> ?_,b⟩;rcases dw _ _▸h with r|r
 ·have:=f r;omega
 ·have:=g r;omega)
def ai3:bo:=mk atk (aiZ fun {i j x y} e f l m=>by
 obtain ⟨s,a,b,d⟩:=ahu l m e f;exact ⟨s,a,fun p q g k h=>by rw [b];exact ji (g (aY h).1) (k (aY h).2),d⟩)
def yL:bo:=mk aiM fun l=>by
 unfold aiM;split
 ·refine hc fun b L a _=> ?_
  obtain ⟨x,L,rfl,d,e,a⟩:=sP a;obtain ⟨y,L,rfl,p,u,a⟩:=aiK a;obtain ⟨z,L,rfl,A,C,a⟩:=aiK a;obtain rfl:L= []:=a;obtain ⟨f,q⟩:=aY b;have k:=oT (aY (aY q).1).2;have o:=oT (aY (aY q).2).2;obtain ⟨s,g,h,i⟩:=arv (m:=y) (c:=z) e (bq f);refine ⟨_,jc _,[.n s],xK (fun t=> ?_) g gH,jN,iG,jt i⟩;rw [h];rcases dw _ _▸t with t|t
  ·have j:=d (aY t).1
   have D:=oT (aY t).2;have:=ji j (show 0<y by omega);omega
  ·have:=oT t;omega
 ·exact rT
def Sv:bo:=mk aiN fun l=>by
 unfold aiN;split
 ·refine hc fun e L a _=> ?_
  obtain ⟨x,L,rfl,j,f,a⟩:=sP a;obtain rfl:L= []:=a;obtain ⟨b,g,h,d⟩:=F7 f (bq e);exact ⟨_,jc _,[.i b],oU (by omega) (by omega) gH,jN,iG,jt d⟩
 ·exact rT
def atr:bo:=mk aiO fun l=>by
 unfold aiO;split
 ·refine hc fun b L a _=> ?_
  obtain ⟨x,L,rfl,o,h,a⟩:=sP a;obtain ⟨y,L,rfl,g,i,a⟩:=sP a;obtain rfl:L= []:=a;obtain ⟨q,r,d,j,e,k,m,f⟩:=ahv h i (C6 b).1 (C6 b).2 (g rfl);exact ⟨_,jc _,[.n q,.n r],xK Oa d (xK Oa e gH),jN,iG,jt f⟩
 ·exact rT
def ats:bo:=mk aiP fun l=>by
 unfold aiP;split
 ·refine hc fun g L a _=> ?_
  obtain ⟨x,L,rfl,h,i,a⟩:=sP a;obtain rfl:L= []:=a;obtain ⟨r,e,b,d,j,k,m,f⟩:=WW i (bq g);refine ⟨_,jc _,[.n r,.n e],xK (fun q=> ?_) b (xK Oa d gH),jN,iG,jt f⟩;have:=h q;rcases cC r with t|t
  ·subst t;omega
  ·exact t
 ·exact rT
def att {k n:Nat} (m:Bn k n) (y:k<=900000): ∃r b,Bn (k+1) r/\(b=true->0<n->0<r)/\bJ Tryz.prog bw 279 [fw n] (o9 (fw r) (bj (.bool b))):=by
 obtain ⟨f,d,j,q,s,u,x,g⟩:=WW m;by_cases i:d=0
 ·have a:decide ((mB (d):Int)≠0)=false:=(ahX (d)).trans (by rw [i];rfl)
  refine ⟨f,true,j,fun _ p=>gF fun e=> ?_,?_⟩
  ·simp_all
  exact fP [.n n,.n f,.n d] [] 0 [.cm .neq (.len 2) (.l 0) false] [⟨323,[cU 0],.t (cU 1) (cU 2)⟩] [cU 0] (.t (cU 1) (.b true)) (by kernel_rfl) (.k a .nil) (.k g .nil)
 ·have a:decide ((mB (d):Int)≠0)=true:=(ahX (d)).trans (decide_eq_true i)
  refine ⟨0,false,aO (by decide),fun h=>absurd h (by decide),?_⟩;exact fP [.n n,.n f,.n d] [] 0 [.cm .neq (.len 2) (.l 0) true] [⟨323,[cU 0],.t (cU 1) (cU 2)⟩] [cU 0] (.t (.n (.o)) (.b false)) (by kernel_rfl) (.k a .nil) (.k g .nil)
def atu:bo:=mk aiQ fun l=>by
 unfold aiQ;split
 ·refine hc fun g L a _=> ?_
  obtain ⟨x,L,rfl,h,i,a⟩:=sP a;obtain rfl:L= []:=a;obtain ⟨r,b,d,f,e⟩:=att i (bq g);cases b
  ·exact ⟨_,aw _ (jc _),[.n r],xK Oa d gH,jN,iG,jt e⟩
  ·exact ⟨_,aE,[.n r],xK (fun q=>f rfl (h q)) d gH,jN,iG,jt e⟩
 ·exact rT
def Sw:bo:=mk aiR fun l=>by
 unfold aiR;split
 ·rename_i l h
  refine hc fun b L a _=> ?_
  obtain ⟨x,L,rfl,f,g,a⟩:=qq a;obtain rfl:L= []:=a;have c1:=oT (aY b).1;have e:=oT (aY b).2;obtain ⟨z,i,j,d⟩:=NL (n:=x) ⟨by omega,by omega⟩;refine ⟨_,jc _,[.z z],pS ⟨fun t=> ?_,fun t=> ?_,fun t=> ?_⟩ ?_ gH,jN,iG,jt d⟩
  ·rw [BF,decide_eq_false (by omega)];rfl
  ·rw [BF,BF,decide_eq_true (by omega),decide_eq_true (by omega)];rfl
  ·rw [BF,decide_eq_false (by omega)];rfl
  ·have:=atq (Ld l.natAbs h.natAbs)
   rw [Xs] at this⊢;show z.natAbs<_;omega
 ·exact rT
def lx (b:Bool):bo:=mk (aiS b) fun l=>by
 unfold aiS;split
 ·rename_i p k
  refine hc fun e L a _=> ?_
  obtain ⟨x,L,rfl,f,g,a⟩:=sP a;obtain rfl:L= []:=a;obtain ⟨z,h,d,i⟩:=nu (b:=b) g (bq e);refine ⟨_,jc _,[.z z],pS ⟨fun t=> ?_,fun t=> ?_,fun t=> ?_⟩ h gH,jN,iG,jt i⟩
  ·cases b
   ·rw [d] at t;exact absurd t (by show¬((x:Nat):Int)<0;omega)
   ·rfl
  ·cases p
   ·rfl
   ·have:=f rfl
    rw [d] at t;cases b
    ·exact absurd t (by show¬((x:Nat):Int)=0;omega)
    ·exact absurd t (by show¬ -((x:Nat):Int)=0;omega)
  ·cases b
   ·rfl
   ·rw [d] at t;exact absurd t (by show¬0< -((x:Nat):Int);omega)
 ·exact rT
def ai4 (b:Bool):bo:=mk (aiT b) fun l=>by
 unfold aiT;split
 ·rename_i p k
  refine hc fun f L a _=> ?_
  obtain ⟨x,L,rfl,g,h,a⟩:=sP a;obtain rfl:L= []:=a;obtain ⟨z,i,d,j⟩:=nu (b:=b) h (bq (aY f).1);have e:decide (z<0)=b:=by
   cases b
   ·exact decide_eq_false (by rw [d];show¬((x:Nat):Int)<0;omega)
   ·have:=g (Gu (aY f).2 rfl)
    exact decide_eq_true (by rw [d];show-((x:Nat):Int)<0;omega)
  refine ⟨_,jc _,[.zs z b e],⟨_,_,rfl,⟨rfl,⟨fun t=> ?_,fun t=> ?_,fun _=>rfl⟩,i⟩,rfl⟩,jN,iG,jt j⟩
  ·rw [<-e];exact decide_eq_true t
  ·cases p
   ·rfl
   ·have:=g rfl
    rw [d] at t;cases b
    ·exact absurd t (by show¬((x:Nat):Int)=0;omega)
    ·exact absurd t (by show¬ -((x:Nat):Int)=0;omega)
 ·exact rT
def Sx:bo:=mk aiU fun l=>by
 unfold aiU;split
 ·refine hc fun d L a _=> ?_
  obtain ⟨x,L,rfl,b,e,a⟩:=m5 a;obtain rfl:L= []:=a;obtain ⟨z,f,g,h⟩:=Bg e (bq d);exact ⟨_,jc _,[.z z],pS ⟨fun t=>b.2.2 (by omega),fun t=>b.2.1 (by omega),fun t=>b.1 (by omega)⟩ f gH,jN,yK g,jt h⟩
 ·exact rT
def Sz {a b:Bool} (h:a=true):(a||b)=true:=by rw [h];rfl
def SA {a b:Bool} (h:b=true):(a||b)=true:=by rw [h];cases a<;>rfl
def aco:bo:=mk atl (acn fun {i j x y} l m o p=>by
 obtain ⟨s,g,A,k⟩:=xD o p l m;refine ⟨s,by rw [Xs];exact g,fun a b e q u z d f=>⟨fun t=> ?_,fun _=>rfl,fun t=> ?_⟩,k⟩
 ·by_cases h:x<0
  ·exact Sz (d.1 h)
  ·exact SA (f.1 (by omega))
 ·by_cases h:0<x
  ·exact Sz (d.2.2 h)
  ·exact SA (f.2.2 (by omega)))
def atv:bo:=mk atm (acn fun {i j x y} l m o p=>by
 obtain ⟨s,g,A,k⟩:=RC o p l m;refine ⟨s,by rw [Xs];exact g,fun a b e q u z d f=>⟨fun t=> ?_,fun _=>rfl,fun t=> ?_⟩,k⟩
 ·by_cases h:x<0
  ·exact Sz (d.1 h)
  ·exact SA (f.2.2 (by omega))
 ·by_cases h:0<x
  ·exact Sz (d.2.2 h)
  ·exact SA (f.1 (by omega)))
def acp:bo:=mk atn (acn fun {i j x y} g h k l=>by
 obtain ⟨s,d,q,f⟩:=KX k l g h;exact ⟨s,d,fun a b e m o p t u=>sQ,f⟩)
def acq:bo:=mk ato (ai0 fun {i s u x} k l o d=>by
 obtain ⟨m,g,h,j⟩:=zW (s:=s) (c:=u) o rfl d l k;have f:(0:Int)<2^s:=by
  have:(0:Nat)<2^s:=aO (by decide);exact_mod_cast this
 refine ⟨m,g,fun a b e d=> ?_,j⟩;subst h;exact ⟨fun t=>d.1 (by rcases (pw x 0) with q|q;exact q;have:=iW q (cX f);omega),fun t=>d.2.1 (by rcases Int.mul_eq_zero.1 t with q|q;exact q;omega),fun t=>d.2.2 (by rcases (pw 0 x) with q|q;exact q;have:=iW (show 0<= -x by omega) (cX f);rw [mL] at this;omega)⟩)
def Xv:bo:=mk atp (ai0 fun {i s u x} k o l d=>by
 obtain ⟨m,h,g,j⟩:=Nh (s:=s) l rfl (by omega) k;have f:(0:Int)<2^s:=by
  have:(0:Nat)<2^s:=aO (by decide);exact_mod_cast this
 refine ⟨m,h,fun a b e d=>⟨fun t=> ?_,fun t=> ?_,fun t=> ?_⟩,j⟩
 ·refine d.1 ?_
  rw [g] at t;rcases (pw x 0) with q|q
  ·exact q
  ·have:=jC q (cX f);omega
 ·rcases dp x 0 with q|q|q
  ·have:=g8 q f;omega
  ·exact Sz (d.2.1 q)
  ·exact SA (d.2.2 q)
 ·refine d.2.2 ?_
  rcases dp x 0 with q|q|q
  ·have:=g8 q f;omega
  ·rw [g,q,Int.zero_ediv] at t;omega
  ·exact q)
def atw {n i:Nat} {x:Int} {c:Cn} {L:List SD} {f:FuncId} (k:Bz i x) (o:aU L n= .z x) (l:c.al=Xr n i) (j:c.f=some f) (h:bJ Tryz.prog bw f (c.ks.map (Kd.rel L)) (bj (.int .i64 x.sign))):
 ∃a∈c.al,∃M,dU a.nb M/\(∀y∈a.rf,y.2.ok (aU L y.1))/\(∀y∈a.rr,nH (L++M) y)/\ ∀f,c.f=some f->bJ Tryz.prog bw f (c.ks.map (Kd.rel L)) (a.r.rel (L++M)):=by
 rw [l];have e: ∀b:BD,b.ok (.z x)-> ∀y∈ [(n,b)],y.2.ok (aU L y.1):=fun b m y p=>by
  simp_all
 rcases dp x 0 with q|q|q
 ·rw [cF q] at h
  exact ⟨_,aE,[],gH,e _ ⟨⟨fun _=>rfl,fun t=>by omega,fun t=>by omega⟩,k⟩,iG,fun g d=>by rw [j] at d;cases d;exact h⟩
 ·rw [q,Int.sign_zero] at h
  exact ⟨_,aw _ aE,[],gH,e _ ⟨⟨fun t=>by omega,fun t=>rfl,fun t=>by omega⟩,k⟩,iG,fun g d=>by rw [j] at d;cases d;exact h⟩
 ·rw [cO q] at h
  exact ⟨_,aw _ (aw _ aE),[],gH,e _ ⟨⟨fun t=>by omega,fun t=>by omega,fun _=>rfl⟩,k⟩,iG,fun g d=>by rw [j] at d;cases d;exact h⟩
def ai5:bo:=mk aiV fun l=>by
 unfold aiV;split
 ·refine hc fun e L a _=> ?_
  obtain ⟨x,L,rfl,f,b,a⟩:=m5 a;obtain rfl:L= []:=a;obtain ⟨c,rfl,d⟩:=abo b (bq e);exact atw b rfl rfl rfl d
 ·exact rT
def ai6 (x y:Int): -1<=vL x y/\vL x y<=1:=by unfold vL;omega
def ai7:bo:=mk aiW fun l=>by
 unfold aiW;split
 ·intro L a _
  obtain ⟨x,L,rfl,d,f,a⟩:=m5 a;obtain ⟨y,L,rfl,e,g,a⟩:=m5 a;obtain rfl:L= []:=a;obtain ⟨c,rfl,b⟩:=Ih (x:=x) (y:=y);have:=ai6 x y;exact ⟨_,jc _,[.i (vL x y)],oU this.1 this.2 gH,jN,iG,jt b⟩
 ·exact rT
def ai8:bo:=mk aiX fun l=>by
 unfold aiX;split
 ·refine hc fun b L a _=> ?_
  obtain ⟨x,L,rfl,o,i,a⟩:=m5 a;obtain ⟨y,L,rfl,h,j,a⟩:=m5 a;obtain rfl:L= []:=a;obtain ⟨z,u,d,f,k,m,g⟩:=Ns i j (C6 b).1 (C6 b).2 (fun e=>by have:=h.2.1 e;cases this);exact ⟨_,jc _,[.z z,.z u],pS sQ d (pS sQ f gH),jN,iG,jt g⟩
 ·exact rT
end
section
open Go.RowKit Go.Ev
variable {a b:Int} {n C x g:Nat}
def SB (z:Int) (n:Nat):(z/2^n).natAbs<=z.natAbs/2^n+1:=by
 have d:(0:Int)<2^n:=eC (by decide);have e:0<2^n:=aO (n:=n) (show 0<2 by decide);have hc:((2^n:Nat):Int)=2^n:=by simp_all
 have l:=du z.natAbs (2^n);have m:=dj z.natAbs e;have j:((z.natAbs/2^n:Nat):Int)*2^n+((z.natAbs % 2^n:Nat):Int)=(z.natAbs:Int):=by
  grind
 have o:((z.natAbs % 2^n:Nat):Int)<2^n:=by omega
 generalize z.natAbs/2^n=k at*;generalize ((z.natAbs % 2^n:Nat):Int)=r at*;generalize f:(2:Int)^n=P at*;have h:z/P<=(k:Int):=by
  refine jS (gU d ?_);grind
 have i: -((k:Int)+1)<=z/P:=by
  rw [fL d,mL,Int.add_mul,Int.one_mul];omega
 omega
def Od (z:Int) (n:Nat):(-(-z/2^n)).natAbs<=z.natAbs/2^n+1:=by
 rw [iL];have:=SB (-z) n;simp_all
def acr (f:b.natAbs<=C*2^n:=by omega):(a*b).natAbs/2^n<=a.natAbs*C:=by
 have e:0<2^n:=aO (n:=n) (show 0<2 by decide);rw [dP];have d:a.natAbs*b.natAbs<=a.natAbs*C*2^n:=by rw [bF];exact aR _ f
 exact aK (eh d) (Nat.le_of_eq (oW _ e))
def Oe (d:b.natAbs<=C*2^n):(a*b/2^n).natAbs<=a.natAbs*C+1:=by
 have:=SB (a*b) n;have:=acr (a:=a) d;omega
def acs (d:b.natAbs<=C*2^n):(-(-(a*b)/2^n)).natAbs<=a.natAbs*C+1:=by
 have:=Od (a*b) n;have:=acr (a:=a) d;omega
def Bz.sub {i j:Nat} {x y:Int} (d:Bz i x) (e:Bz j y):Bz (max i j+1) (x-y):=by
 rw [Int.sub_eq_add_neg];exact d.add e.neg
structure lS where
 a:Int
 b:Int
 c:Int
 d:Int
 i:Nat
 m:Bool
def atx {h:Nat} (e:x<2^g) (d:g<=h:=by omega):x<2^h:=az e (aG (by decide) d)
def Gy {d e:Nat} (h:e<=d) (f:0<e:=by decide):x/d<=x/e:=Nat.div_le_div_left h f
def acu (i:x<2^g) (f:8<=x): ∃H,8<=H/\2^g=2*H/\2^(g-1)=H/\4<=g:=by
 have d:4<=g:=by
  refine dG fun h=> ?_
  have:2^g<=2^3:=aG (by decide) (by omega);omega
 have e:2^g=2*2^(g-1):=by
  conv=>lhs;rw [show g=(g-1)+1 by omega,bI,bE]
 have:2^3<=2^(g-1):=aG (by decide) (by omega);simp_all
end
section
open Go.RowKit Go.Ev
variable {i b K D:Nat} {q r n a t:Int}
def IX:List Ev.Way:= [.r,.r,.l,.r,.k]
def yM:Func:=Tryz.f351
def acv:mJ IX (nD yM)=some (.loop (ka IX yM)):=by kernel_rfl
def IY (q r n:Int) (x:lS):Fr:=⟨[⟨4,285,4,cD x.a x.b⟩,⟨5,285,4,cD q r⟩,⟨8,285,4,ZS⟩,⟨9,285,4,cD x.c x.d⟩],[(2,bj (.int .u32 ((x.i:Nat):Int))),(3,bj (.int .i64 n)),(10,bj (.bool x.m))]⟩
def acw (b K:Nat) (x:lS):Prop:= ∃g,x.b.natAbs<2^g/\x.a.natAbs<2^(b+8*min x.i 18)/\(x.i<16->g<=b+8*x.i)/\x.i+2*g<=K/\Bz (K+x.i) x.c/\Bz (K+x.i) x.d
def ai9 (h:i<=100000:=by omega):2<=(i+1)*(i+2)/\(16<=i->306<=(i+1)*(i+2)):=by
 refine ⟨?_,fun h=> ?_⟩
 ·grind
 ·have:=bH (show 17<=i+1 by omega) (show 18<=i+2 by omega);omega
def aja {g v y:Nat} (u:2*b+300<=K) (l:v<2^g) (j:8<=v) (z:i<16->g<=b+8*i) (A:i+2*g<=K) (k:2<=D) (e:16<=i->306<=D) (B:y<=(v*16+1)/D+1):
 ∃d,y<2^d/\(i+2<16->d<=b+8*(i+2))/\i+2+2*d<=K:=by
 obtain ⟨H,s,m,o,p⟩:=acu l j;by_cases h:i<16
 ·refine ⟨g+4,?_,by omega,by omega⟩
  have f:=Gy (x:=v*16+1) k;grind
 ·refine ⟨g-1,?_,by omega,by omega⟩
  have f:=Gy (x:=v*16+1) (e (by omega));omega
def ajb {u x:Nat} (k:u<2^(b+8*min i 18)) (f:2<=D) (d:16<=i->306<=D) (j:4<=b) (l:x=(u*16+1)/D\/x<=(u*16+1)/D):x<2^(b+8*min (i+2) 18):=by
 have g:x<=(u*16+1)/D:=by omega
 by_cases h:i<16
 ·have e:=Gy (x:=u*16+1) f
  rw [show b+8*min (i+2) 18=(b+8*min i 18)+16 by omega,bC];omega
 ·have e:=Gy (x:=u*16+1) (d (by omega))
  refine az (m:=2^(b+8*min i 18)) ?_ (aG (by decide) (by omega));omega
def aty {kq kr:Nat} (hq:Bz kq q) (hr:Bz kr r) (Xw:kq<=1000000) (Xx:kr<=1000000) (hn:0<=n/\n<=1048576) (B:q.natAbs<=16*2^n.toNat) (C:r.natAbs<=16*2^n.toNat) (nf:4<=b) (hK:2*b+300<=K:=by omega) (hK2:K<=50000:=by omega): ∀x,acw b K x->
 (∃y,acw b K y/\(fun z:lS=>K-z.i) y<(fun z:lS=>K-z.i) x/\(∀o:lS,(Zb 50000 o.b/\Zb 200000 o.c/\Zb 200000 o.d)->(Zb 50000 o.b/\Zb 200000 o.c/\Zb 200000 o.d))/\qp yM.ntmps (ka IX yM) (IY q r n x) .normal (IY q r n y))\/
 (∃o:lS,(Zb 50000 o.b/\Zb 200000 o.c/\Zb 200000 o.d)/\Out.exit 0≠ .normal/\qp yM.ntmps (ka IX yM) (IY q r n x) (.exit 0) (IY q r n o)):=by
 rintro ⟨a,t,c,d,i,m⟩ ⟨g,A,M,O,X,hc,l⟩;simp only at A M O X hc l;have om:Bz (b+8*min i 18) a:=M;have N:Bz g t:=A;cases m
 ·have c1:=RS (a:=a) N
  by_cases F:t.natAbs<8
  ·rw [decide_eq_true F] at c1
   refine .inr ⟨⟨a,t,c,d,i,false⟩,⟨⟨g,by omega,A⟩,⟨_,by omega,hc⟩,⟨_,by omega,l⟩⟩,by simp,?_⟩;exact tr [.z a,.z t,.z q,.z r,.z c,.z d,.u i,.i n] [] 0 [] [⟨349,[ah 0 1],.b true⟩] ⟨[⟨4,285,4,ah 0 1⟩,⟨5,285,4,ah 2 3⟩,⟨8,285,4,.lit zS⟩,⟨9,285,4,ah 4 5⟩],[(2,.i (.u 6)),(3,aA 7),(10,.b false)]⟩ ⟨[⟨4,285,4,ah 0 1⟩,⟨5,285,4,ah 2 3⟩,⟨8,285,4,.lit zS⟩,⟨9,285,4,ah 4 5⟩],[(2,.i (.u 6)),(3,aA 7),(10,.b false)]⟩ (fun d=>by kernel_rfl) .nil (.k c1 .nil)
  ·rw [decide_eq_false F] at c1
   obtain ⟨x2,y3,U,W,E,P⟩:=EA (n:=n) om N hq hr;have VC:(i+1)*(i+2)<=60000*60001:=bH (by omega) (by omega);have e:=ai9 (i:=i);have w1:IntKind.u32.wrap (((i:Nat):Int)+1)=(((i+1):Nat):Int):=by rw [di _ (by omega)];omega
   have w2:IntKind.u32.wrap (((i:Nat):Int)+2)=(((i+2):Nat):Int):=by rw [di _ (by omega)];omega
   have w3:IntKind.u32.wrap ((((i+1):Nat):Int)*(((i+2):Nat):Int))=((((i+1)*(i+2)):Nat):Int):=by rw [di _ (by omega),eB]
   obtain ⟨f,j,S,Y,I,sL⟩:=RU (d:=((i+1)*(i+2))) U W;obtain ⟨p,s,wE,rQ,J,lQ⟩:=Ez hc l S Y;have Q:j.natAbs<=(t.natAbs*16+1)/((i+1)*(i+2))+1:=aK I.2.2.1 (dH (eh (by rw [E.2];exact acs C)));have R:f.natAbs<=(a.natAbs*16+1)/((i+1)*(i+2)):=by rw [I.1,E.1];exact eh (Oe B)
   obtain ⟨T,G,Z,k3⟩:=aja hK A (by omega) O X e.1 e.2 Q;have H:=ajb M e.1 e.2 nf (.inr R);have k5:Bz (K+i) f:=az H (aG (by decide) (by omega));have k6:Bz (K+i) j:=az G (aG (by decide) (by omega));have k7:Bz (K+(i+2)) p:=by rw [J.1];exact (hc.add k5).mono (by omega)
   have k8:Bz (K+(i+2)) s:=by rw [J.2];exact (l.add k6).mono (by omega)
   refine .inl ⟨⟨f,j,p,s,i+2,true⟩,⟨T,G,H,Z,k3,k7,k8⟩,by grind,fun o h=>h,?_⟩;exact tr [.z a,.z t,.z q,.z r,.i n,.z x2,.z y3,.u i,.u (i+1),.u (i+2),.u ((i+1)*(i+2)),.z f,.z j,.z c,.z d,.z p,.z s] [] 0 [.ar .add (.u 7) (.k .u32 1) (.u 8),.ar .add (.u 7) (.k .u32 2) (.u 9),.ar .mul (.u 8) (.u 9) (.u 10)] [⟨349,[ah 0 1],.b false⟩,⟨348,[ah 0 1,ah 2 3,aA 4],ah 5 6⟩,⟨350,[ah 5 6,.i (.u 10)],ah 11 12⟩,⟨327,[ah 13 14,ah 11 12],ah 15 16⟩] ⟨[⟨4,285,4,ah 0 1⟩,⟨5,285,4,ah 2 3⟩,⟨8,285,4,.lit zS⟩,⟨9,285,4,ah 13 14⟩],[(2,.i (.u 7)),(3,aA 4),(10,.b false)]⟩ ⟨[⟨4,285,4,ah 11 12⟩,⟨5,285,4,ah 2 3⟩,⟨8,285,4,.lit zS⟩,⟨9,285,4,ah 15 16⟩],[(2,.i (.u 9)),(3,aA 4),(10,.b true)]⟩ (fun d=>by kernel_rfl) (.k w1 (.k w2 (.k w3 .nil))) (.k c1 (.k P (.k sL (.k lQ .nil))))
 ·have c1:=RS (a:=a) N
  by_cases F:t.natAbs<8
  ·rw [decide_eq_true F] at c1
   refine .inr ⟨⟨a,t,c,d,i,true⟩,⟨⟨g,by omega,A⟩,⟨_,by omega,hc⟩,⟨_,by omega,l⟩⟩,by simp,?_⟩;exact tr [.z a,.z t,.z q,.z r,.z c,.z d,.u i,.i n] [] 0 [] [⟨349,[ah 0 1],.b true⟩] ⟨[⟨4,285,4,ah 0 1⟩,⟨5,285,4,ah 2 3⟩,⟨8,285,4,.lit zS⟩,⟨9,285,4,ah 4 5⟩],[(2,.i (.u 6)),(3,aA 7),(10,.b true)]⟩ ⟨[⟨4,285,4,ah 0 1⟩,⟨5,285,4,ah 2 3⟩,⟨8,285,4,.lit zS⟩,⟨9,285,4,ah 4 5⟩],[(2,.i (.u 6)),(3,aA 7),(10,.b true)]⟩ (fun d=>by kernel_rfl) .nil (.k c1 .nil)
  ·rw [decide_eq_false F] at c1
   obtain ⟨x2,y3,U,W,E,P⟩:=EA (n:=n) om N hq hr;have VC:(i+1)*(i+2)<=60000*60001:=bH (by omega) (by omega);have e:=ai9 (i:=i);have w1:IntKind.u32.wrap (((i:Nat):Int)+1)=(((i+1):Nat):Int):=by rw [di _ (by omega)];omega
   have w2:IntKind.u32.wrap (((i:Nat):Int)+2)=(((i+2):Nat):Int):=by rw [di _ (by omega)];omega
   have w3:IntKind.u32.wrap ((((i+1):Nat):Int)*(((i+2):Nat):Int))=((((i+1)*(i+2)):Nat):Int):=by rw [di _ (by omega),eB]
   obtain ⟨f,j,S,Y,I,sL⟩:=RU (d:=((i+1)*(i+2))) U W;obtain ⟨p,s,wE,rQ,J,lQ⟩:=Iz hc l S Y;have Q:j.natAbs<=(t.natAbs*16+1)/((i+1)*(i+2))+1:=aK I.2.2.1 (dH (eh (by rw [E.2];exact acs C)));have R:f.natAbs<=(a.natAbs*16+1)/((i+1)*(i+2)):=by rw [I.1,E.1];exact eh (Oe B)
   obtain ⟨T,G,Z,k3⟩:=aja hK A (by omega) O X e.1 e.2 Q;have H:=ajb M e.1 e.2 nf (.inr R);have k5:Bz (K+i) f:=az H (aG (by decide) (by omega));have k6:Bz (K+i) j:=az G (aG (by decide) (by omega));have k7:Bz (K+(i+2)) p:=by rw [J.1];exact (hc.sub k6).mono (by omega)
   have k8:Bz (K+(i+2)) s:=by rw [J.2];exact (l.sub k5).mono (by omega)
   refine .inl ⟨⟨f,j,p,s,i+2,false⟩,⟨T,G,H,Z,k3,k7,k8⟩,by grind,fun o h=>h,?_⟩;exact tr [.z a,.z t,.z q,.z r,.i n,.z x2,.z y3,.u i,.u (i+1),.u (i+2),.u ((i+1)*(i+2)),.z f,.z j,.z c,.z d,.z p,.z s] [] 0 [.ar .add (.u 7) (.k .u32 1) (.u 8),.ar .add (.u 7) (.k .u32 2) (.u 9),.ar .mul (.u 8) (.u 9) (.u 10)] [⟨349,[ah 0 1],.b false⟩,⟨348,[ah 0 1,ah 2 3,aA 4],ah 5 6⟩,⟨350,[ah 5 6,.i (.u 10)],ah 11 12⟩,⟨290,[ah 13 14,ah 11 12],ah 15 16⟩] ⟨[⟨4,285,4,ah 0 1⟩,⟨5,285,4,ah 2 3⟩,⟨8,285,4,.lit zS⟩,⟨9,285,4,ah 13 14⟩],[(2,.i (.u 7)),(3,aA 4),(10,.b true)]⟩ ⟨[⟨4,285,4,ah 11 12⟩,⟨5,285,4,ah 2 3⟩,⟨8,285,4,.lit zS⟩,⟨9,285,4,ah 15 16⟩],[(2,.i (.u 9)),(3,aA 4),(10,.b false)]⟩ (fun d=>by kernel_rfl) (.k w1 (.k w2 (.k w3 .nil))) (.k c1 (.k P (.k sL (.k lQ .nil))))
def atz :BB yM.ntmps IX (nD yM) (.loop (ka IX yM)) ⟨[],Af [cD a t,cD q r,bj (.int .u32 ((i:Nat):Int)),bj (.int .i64 n)] 0⟩ (IY q r n ⟨a,t,a,t,i,true⟩):=by
 exact La [.z a,.z t,.z q,.z r,.u i,.i n] [] 0 [] [] ⟨[],[(0,ah 0 1),(1,ah 2 3),(2,.i (.u 4)),(3,aA 5)]⟩ ⟨[⟨4,285,4,ah 0 1⟩,⟨5,285,4,ah 2 3⟩,⟨8,285,4,.lit zS⟩,⟨9,285,4,ah 0 1⟩],[(2,.i (.u 4)),(3,aA 5),(10,.b true)]⟩ acv (fun d=>by kernel_rfl) .nil .nil
def atA (o:lS) (h:Zb 50000 o.b/\Zb 200000 o.c/\Zb 200000 o.d): ∃x y,Zb 300000 x/\Zb 300000 y/\xI yM.ntmps IX (.exit 0) (nD yM) yM (IY q r n o) (cD x y):=by
 obtain ⟨a,t,c,d,i,m⟩:=o;obtain ⟨⟨G,E,s⟩,⟨F,B,hc⟩,⟨kd,C,p⟩⟩:=h;simp only at s hc p;cases m
 ·obtain ⟨e,f,j,l,A,g⟩:=NP hc p s
  exact ⟨e,f,⟨_,by omega,j⟩,⟨_,by omega,l⟩,Gr [.z c,.z d,.z t,.z e,.z f,.z a,.z q,.z r,.u i,.i n] [] 0 [] [⟨292,[ah 0 1,aL 2],ah 3 4⟩] ⟨[⟨4,285,4,ah 5 2⟩,⟨5,285,4,ah 6 7⟩,⟨8,285,4,.lit zS⟩,⟨9,285,4,ah 0 1⟩],[(2,.i (.u 8)),(3,aA 9),(10,.b false)]⟩ (ah 3 4) acv (fun d=>by kernel_rfl) .nil (.k g .nil)⟩
 ·obtain ⟨e,f,j,l,A,g⟩:=NP hc p s
  exact ⟨e,f,⟨_,by omega,j⟩,⟨_,by omega,l⟩,Gr [.z c,.z d,.z t,.z e,.z f,.z a,.z q,.z r,.u i,.i n] [] 0 [] [⟨292,[ah 0 1,aL 2],ah 3 4⟩] ⟨[⟨4,285,4,ah 5 2⟩,⟨5,285,4,ah 6 7⟩,⟨8,285,4,.lit zS⟩,⟨9,285,4,ah 0 1⟩],[(2,.i (.u 8)),(3,aA 9),(10,.b true)]⟩ (ah 3 4) acv (fun d=>by kernel_rfl) .nil (.k g .nil)⟩
def aje (g:Bz b a) (h:Bz b t) (p:4<=b) (H:b<=20000) (hi:i<=2) (A:0<=n/\n<=1048576) (C:q.natAbs<=16*2^n.toNat) (E:r.natAbs<=16*2^n.toNat) (e:Zb 1000000 q) (f:Zb 1000000 r): ∃x y,Zb 300000 x/\Zb 300000 y/\
 bJ Tryz.prog bw 351 [cD a t,cD q r,bj (.int .u32 ((i:Nat):Int)),bj (.int .i64 n)] (cD x y):=by
 obtain ⟨J,l,j⟩:=e;obtain ⟨M,m,k⟩:=f;obtain ⟨K,I⟩:=pT (2*b+300);obtain ⟨o,B,u⟩:=II (nt:=yM.ntmps) (c:=ka IX yM) (out:= .exit 0) (IY q r n) (fun z=>K-z.i) (acw b K) (IY q r n) (fun _ o=>Zb 50000 o.b/\Zb 200000 o.c/\Zb 200000 o.d) (aty j k l m A C E p) ⟨a,t,a,t,i,true⟩
  ⟨b,h,az g (aG (by decide) (by omega)),fun _=>by omega,by show i+2*b<=K;omega,g.mono (by omega),h.mono (by omega)⟩
 obtain ⟨x,y,F,G,s⟩:=atA (q:=q) (r:=r) (n:=n) o B;exact ⟨x,y,F,G,R0 Tryz.func351 (by kernel_rfl) (by rw [show Tryz.f351.ntmps=_ from Tryz.ntmps351];simp) atz u s⟩
end
section
open Go.RowKit Go.Ev
variable {n K:Nat} {b:Bool} {s:Int}
structure IZ where
 p:Nat
 s:Int
 i:Nat
def I0:List Ev.Way:= [.r,.r,.r,.r,.l,.k]
def yN:Func:=Tryz.f288
def ajf:mJ I0 (nD yN)=some (.loop (ka I0 yN)):=by kernel_rfl
def I1 (n:Nat) (b:Bool) (x:IZ):Fr:=⟨[⟨6,285,4,ZS⟩,⟨10,37,2,dN x.s⟩],[(0,bj (.int .u32 ((n:Nat):Int))),(2,bj (.bool b)),(7,fw x.p),(11,bj (.int .i64 ((x.i:Nat):Int)))]⟩
def acx (K:Nat) (x:IZ):Prop:= ∃g,x.p<2^g/\x.i+g<=K/\Bz (K+x.i) x.s
def Xz (K n:Nat) (x o:IZ):Prop:=o.i<=K/\Zb (2*K) o.s/\(o.s-x.s).natAbs<=2*x.p/\(x.i=0->(o.s-x.s-(x.p:Int)).natAbs<=2*(x.p/n/n))
def atB {p g:Nat} (j:p<2^g) (d:p≠0) (a:2<=n):p/n/n<2^(g-1)/\1<=g/\4*(p/n/n)<=p:=by
 have i:1<=g:=by
  grind
 have e:2^g=2*2^(g-1):=by
  conv=>lhs;rw [show g=(g-1)+1 by omega,bI,bE]
 have f:=Gy (x:=p) a;have h:=Gy (x:=p/n) a;omega
def atC (sU:2<=n) (hn:n<65536) (hK:K<=100000:=by omega): ∀x,acx K x->
 (∃y,acx K y/\(fun z:IZ=>K-z.i) y<(fun z:IZ=>K-z.i) x/\(∀o:IZ,Xz K n y o->Xz K n x o)/\qp yN.ntmps (ka I0 yN) (I1 n b x) .normal (I1 n b y))\/
 (∃o:IZ,Xz K n x o/\Out.exit 0≠ .normal/\qp yN.ntmps (ka I0 yN) (I1 n b x) (.exit 0) (I1 n b o)):=by
 rintro ⟨p,s,i⟩ ⟨g,h,hk,E⟩;simp only at h hk E;have h:Bn g p:=h;by_cases D:p=0
 ·have F:decide (0<(mB (p):Int))=false:=(Ig (p)).trans (by rw [D];rfl)
  refine .inr ⟨⟨p,s,i⟩,⟨by grind,⟨_,by omega,E⟩,by simp,fun _=>by simp [D]⟩,by simp,?_⟩;exact tr [.n p,.z s,.u n,.i ((i:Nat):Int)] [] 0 [.cm .gtr (.len 0) (.l 0) false] [] ⟨[⟨6,285,4,.lit zS⟩,⟨10,37,2,aL 1⟩],[(0,.i (.u 2)),(2,.b b),(7,cU 0),(11,aA 3)]⟩ ⟨[⟨6,285,4,.lit zS⟩,⟨10,37,2,aL 1⟩],[(0,.i (.u 2)),(2,.b b),(7,cU 0),(11,aA 3)]⟩ (fun d=>by cases b<;>kernel_rfl) (by cases b<;>exact (.k F .nil)) (by cases b<;>exact .nil)
 ·have F:decide (0<(mB (p):Int))=true:=(Ig (p)).trans (decide_eq_true D)
  obtain ⟨k1,k2,k3⟩:=atB h D sU;have w2:=aC (2*((i:Nat):Int)) (by omega);have w3:=aC ((2*((i:Nat):Int))+1) (by omega);have w9:IntKind.u32.wrap ((2*((i:Nat):Int))+1)=((2*i+1:Nat):Int):=by rw [di _ (by omega)];omega
  obtain ⟨m,r5,Z,X,e8,h9,wm⟩:=F8 (d:=(2*i+1)) h;have w8:((i:Nat):Int).tmod 2=((i % 2:Nat):Int):=by rfl
  by_cases j9:(((i % 2):Nat):Int)=1
  ·have e:=decide_eq_true j9
   obtain ⟨B,P,C,G⟩:=nu (b:=(b&&true)) Z;obtain ⟨A,rQ,qo,Q⟩:=xD E P;obtain ⟨j,q,H,f,Bw,xH,J⟩:=F8 (d:=n) h;obtain ⟨a,t,Ak,I,Lz,N,M⟩:=F8 (d:=n) H;have U:=aC (((i:Nat):Int)+1) (by omega);have W:IntKind.i64.wrap (((i:Nat):Int)+1)=(((i+1):Nat):Int):=by omega
   have e3:a=p/n/n:=by rw [I,f]
   have e4:m<=p:=by rw [X];exact bT _ _
   have e5:B.natAbs=m:=by rw [C,vX]
   have O:Bz (K+(i+1)) A:=by grind
   refine .inl ⟨⟨a,A,i+1⟩,⟨g-1,by simp_all,by grind,O⟩,by grind,?_,?_⟩
   ·rintro o ⟨R,S,T,-⟩
    simp only at T;refine ⟨R,S,?_,fun Y=> ?_⟩
    all_goals grind
   ·exact tr [.n p,.i ((i:Nat):Int),.i (2*((i:Nat):Int)),.i ((2*((i:Nat):Int))+1),.u (2*i+1),.n m,.u r5,.i (((i % 2):Nat):Int),.z B,.z s,.z A,.u n,.n j,.u q,.n a,.u t,.i (((i:Nat):Int)+1),.i (((i+1):Nat):Int)] [] 0 [.cm .gtr (.len 0) (.l 0) true,.ar .mul (.l 2) (.i 1) (.i 2),.ar .add (.i 2) (.l 1) (.i 3),.cv (.i 3) (.u 4),.ar .rem (.i 1) (.l 2) (.i 7),.cm .eql (.i 7) (.l 1) true,.ar .add (.i 1) (.l 1) (.i 17)] [⟨108,[cU 0,.i (.u 4)],.t3 (cU 5) (.i (.u 6)) (.b true)⟩,⟨116,[.b (b&&true),cU 5],aL 8⟩,⟨83,[aL 9,aL 8],aL 10⟩,⟨108,[cU 0,.i (.u 11)],.t3 (cU 12) (.i (.u 13)) (.b true)⟩,⟨108,[cU 12,.i (.u 11)],.t3 (cU 14) (.i (.u 15)) (.b true)⟩] ⟨[⟨6,285,4,.lit zS⟩,⟨10,37,2,aL 9⟩],[(0,.i (.u 11)),(2,.b b),(7,cU 0),(11,aA 1)]⟩ ⟨[⟨6,285,4,.lit zS⟩,⟨10,37,2,aL 10⟩],[(0,.i (.u 11)),(2,.b b),(7,cU 14),(11,aA 17)]⟩ (fun d=>by cases b<;>kernel_rfl) (by cases b<;>exact (.k F (.k w2 (.k w3 (.k w9 (.k ⟨(by decide:(2:Int)≠0),w8⟩ (.k e (.k W .nil)))))))) (by cases b<;>exact (.k wm (.k G (.k Q (.k J (.k M .nil))))))
  ·have e:=decide_eq_false j9
   obtain ⟨B,P,C,G⟩:=nu (b:=(b&&false)) Z;obtain ⟨A,rQ,qo,Q⟩:=xD E P;obtain ⟨j,q,H,f,Bw,xH,J⟩:=F8 (d:=n) h;obtain ⟨a,t,Ak,I,Lz,N,M⟩:=F8 (d:=n) H;have U:=aC (((i:Nat):Int)+1) (by omega);have W:IntKind.i64.wrap (((i:Nat):Int)+1)=(((i+1):Nat):Int):=by omega
   have e3:a=p/n/n:=by rw [I,f]
   have e4:m<=p:=by rw [X];exact bT _ _
   have e5:B.natAbs=m:=by rw [C,vX]
   have O:Bz (K+(i+1)) A:=by grind
   refine .inl ⟨⟨a,A,i+1⟩,⟨g-1,by simp_all,by grind,O⟩,by grind,?_,?_⟩
   ·rintro o ⟨R,S,T,-⟩
    simp only at T;refine ⟨R,S,?_,fun Y=> ?_⟩
    ·grind
    ·change i=0 at Y;show (o.s-s-(p:Int)).natAbs<=2*(p/n/n);exact by have e6:B=(p:Int):=(by rw [C,Bool.and_false];show ((m:Nat):Int)=_;simp_all);omega
   ·exact tr [.n p,.i ((i:Nat):Int),.i (2*((i:Nat):Int)),.i ((2*((i:Nat):Int))+1),.u (2*i+1),.n m,.u r5,.i (((i % 2):Nat):Int),.z B,.z s,.z A,.u n,.n j,.u q,.n a,.u t,.i (((i:Nat):Int)+1),.i (((i+1):Nat):Int)] [] 0 [.cm .gtr (.len 0) (.l 0) true,.ar .mul (.l 2) (.i 1) (.i 2),.ar .add (.i 2) (.l 1) (.i 3),.cv (.i 3) (.u 4),.ar .rem (.i 1) (.l 2) (.i 7),.cm .eql (.i 7) (.l 1) false,.ar .add (.i 1) (.l 1) (.i 17)] [⟨108,[cU 0,.i (.u 4)],.t3 (cU 5) (.i (.u 6)) (.b true)⟩,⟨116,[.b (b&&false),cU 5],aL 8⟩,⟨83,[aL 9,aL 8],aL 10⟩,⟨108,[cU 0,.i (.u 11)],.t3 (cU 12) (.i (.u 13)) (.b true)⟩,⟨108,[cU 12,.i (.u 11)],.t3 (cU 14) (.i (.u 15)) (.b true)⟩] ⟨[⟨6,285,4,.lit zS⟩,⟨10,37,2,aL 9⟩],[(0,.i (.u 11)),(2,.b b),(7,cU 0),(11,aA 1)]⟩ ⟨[⟨6,285,4,.lit zS⟩,⟨10,37,2,aL 10⟩],[(0,.i (.u 11)),(2,.b b),(7,cU 14),(11,aA 17)]⟩ (fun d=>by cases b<;>kernel_rfl) (by cases b<;>exact (.k F (.k w2 (.k w3 (.k w9 (.k ⟨(by decide:(2:Int)≠0),w8⟩ (.k e (.k W .nil)))))))) (by cases b<;>exact (.k wm (.k G (.k Q (.k J (.k M .nil))))))
def atD {c:Nat} (F:2<=n) (A:n<65536) (B:0<=s/\s<=(c:Int):=by omega) (hc:c<=1000000:=by omega):BB yN.ntmps I0 (nD yN) (.loop (ka I0 yN)) ⟨[],Af [bj (.int .u32 ((n:Nat):Int)),bj (.int .i64 s),bj (.bool b)] 0⟩ (I1 n b ⟨2^s.toNat/n,0,0⟩):=by
 obtain ⟨q,m,x,g⟩:=KJ (n:=1);obtain ⟨t,p,y,h⟩:=Q6 (s:=(s).toNat) (c:=c) m (by omega:(s:Int)=(((s).toNat:Nat):Int));obtain ⟨e,a,C,D,l,E,f⟩:=F8 (d:=n) p;have j:e=2^s.toNat/n:=by simp_all
 rw [<-j];exact La [.n q,.i s,.n t,.u n,.n e,.u a] [] 0 [] [⟨60,[.i (.k .u64 1)],cU 0⟩,⟨144,[cU 0,aA 1],cU 2⟩,⟨108,[cU 2,.i (.u 3)],.t3 (cU 4) (.i (.u 5)) (.b true)⟩] ⟨[],[(0,.i (.u 3)),(1,aA 1),(2,.b b)]⟩ ⟨[⟨6,285,4,.lit zS⟩,⟨10,37,2,.z (.o)⟩],[(0,.i (.u 3)),(2,.b b),(7,cU 4),(11,gz 0)]⟩ ajf (fun d=>by cases b<;>kernel_rfl) (by cases b<;>exact .nil) (by cases b<;>exact (.k g (.k h (.k f .nil))))
def atE (F:K<=100000) (o:IZ) (j:o.i<=K) (m:Zb (2*K) o.s): ∃x y,Zb 300000 x/\Zb 300000 y/\x=o.s-3*((o.i:Int)+2)/\y=o.s+3*((o.i:Int)+2)/\xI yN.ntmps I0 (.exit 0) (nD yN) yN (I1 n b o) (cD x y):=by
 obtain ⟨p,s,i⟩:=o;obtain ⟨k,G,a⟩:=m;simp only at j a⊢;have c1:=NM (x:=s);have B:=aC (((i:Nat):Int)+2) (by omega);have C:=aC (3*(((i:Nat):Int)+2)) (by omega);obtain ⟨D,q,E,g⟩:=NL (n:=(3*(((i:Nat):Int)+2)));obtain ⟨e,f,h,t,H,A⟩:=NP a a q;exact ⟨e,f,⟨_,by omega,h⟩,⟨_,by omega,t⟩,by omega,by omega,Gr [.z s,.i ((i:Nat):Int),.i (((i:Nat):Int)+2),.i (3*(((i:Nat):Int)+2)),.z D,.z e,.z f,.u n,.n p] [] 0 [.ar .add (.i 1) (.l 2) (.i 2),.ar .mul (.l 3) (.i 2) (.i 3)] [⟨291,[aL 0],ah 0 0⟩,⟨31,[aA 3],aL 4⟩,⟨292,[ah 0 0,aL 4],ah 5 6⟩] ⟨[⟨6,285,4,.lit zS⟩,⟨10,37,2,aL 0⟩],[(0,.i (.u 7)),(2,.b b),(7,cU 8),(11,aA 1)]⟩ (ah 5 6) ajf (fun d=>by cases b<;>kernel_rfl) (by cases b<;>exact (.k B (.k C .nil))) (by cases b<;>exact (.k c1 (.k g (.k A .nil))))⟩
def SC (d:2<=n:=by decide) (a:n<65536:=by decide) (u:0<=s/\s<=100000:=by omega): ∃x y,Zb 300000 x/\Zb 300000 y/\
 ((x-((2^s.toNat/n:Nat):Int)).natAbs<=2*(2^s.toNat/n/n/n)+3*(s.toNat+2)/\(y-((2^s.toNat/n:Nat):Int)).natAbs<=2*(2^s.toNat/n/n/n)+3*(s.toNat+2)/\x<=y/\y-x<=6*(s+2))/\
 bJ Tryz.prog bw 288 [bj (.int .u32 ((n:Nat):Int)),bj (.int .i64 s),bj (.bool b)] (cD x y):=by
 obtain ⟨c,hc⟩: ∃c:Nat,c=s.toNat:=⟨_,rfl⟩;obtain ⟨o,⟨e,f,t,g⟩,k⟩:=II (nt:=yN.ntmps) (c:=ka I0 yN) (out:= .exit 0) (I1 n b) (fun z=>c-z.i) (acx c) (I1 n b) (Xz c n) (atC d a) ⟨2^s.toNat/n,0,0⟩
  ⟨c,by show 2^s.toNat/n<2^c;rw [<-hc];exact Nat.div_lt_self (aO (by decide)) (by omega),by show 0+c<=c;omega,aO (by decide)⟩
 obtain ⟨x,y,l,m,p,q,j⟩:=atE (n:=n) (b:=b) (by omega) o e f;have h:=g rfl;simp only at h;refine ⟨x,y,l,m,⟨by omega,by omega,by omega,by omega⟩,R0 Tryz.func288 (by kernel_rfl) (by rw [show Tryz.f288.ntmps=_ from Tryz.ntmps288];simp) (atD d a (c:=c)) k j⟩
end
end Go.Proofs.YtnmpjdgobafdkaaGreatDoor
