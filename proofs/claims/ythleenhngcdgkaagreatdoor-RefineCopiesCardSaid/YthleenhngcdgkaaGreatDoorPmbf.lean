/- refineCopies_proved. -/
import Derived.Test.YthleenhngcdgkaaGreatDoorPmbe
set_option maxRecDepth 100000
set_option maxHeartbeats 16000000
set_option linter.all false
noncomputable section
namespace Go.Proofs.YthleenhngcdgkaaGreatDoor
section
open Go.Proofs.Tryz Go Go.RowKit Go.Ev
variable {w a k n:Int} {M:List SD} {nt base g cap:Nat} {B:List BD} {r:Rs} {R:World->Value->Prop} {S Z:Nat->Prop} {x:Nx}
structure Oc where
 m:Int
 e:Int
 n:Int
 f:Int
 s:Int
variable {o:Oc}
variable {l:List Oc}
structure Oc.Ok (o:Oc):Prop where
 hm:Bz 65536 o.m
 e0: -65536<=o.e
 e1:o.e<=65536
 hn:Bz 65536 o.n
 f0: -65536<=o.f
 f1:o.f<=65536
 s0:0<=o.s
 s1:o.s<=11
def Oc.K (o:Oc):World->Value->Prop:=XL o.m o.e o.n o.f o.s
def Oc.L (o:Oc):List SD:= [.z o.m,.i o.e,.z o.n,.i o.f,.i o.s]
def lL:Oc:=⟨0,0,0,0,0⟩
def Oc.Ok.all (h:o.Ok) (t:dY B M):dY (zz 65536::eb::zz 65536::eb:: .i 0 11::B) (.z o.m:: .i o.e:: .z o.n:: .i o.f:: .i o.s::M):=qh s7 h.hm (pw h.e0 h.e1 (qh s7 h.hn (pw h.f0 h.f1 (pw h.s0 h.s1 t))))
def UQ (h:dY [zz 65536,eb,zz 65536,eb,.i 0 11] M): ∃o:Oc,o.Ok/\M=o.L:=by
 obtain ⟨m,M,rfl,_,b,h⟩:=nG h;obtain ⟨e,M,rfl,d,j,h⟩:=qC h;obtain ⟨n,M,rfl,_,p,h⟩:=nG h;obtain ⟨f,M,rfl,q,t,h⟩:=qC h;obtain ⟨s,M,rfl,u,y,h⟩:=qC h;obtain rfl:M= []:=h;exact ⟨⟨m,e,n,f,s⟩,⟨b,d,j,p,q,t,u,y⟩,rfl⟩
def aEA (h:r.Ok) (C:r.s=1) (F:0<=w) (G:w<=4096): ∃c o:Oc,o.Ok/\bH prog bw 54 [sU r.p r.q,bj (.int .i64 w)] (pF (nU c.m c.e c.n c.f) (bj (.int .i64 c.s)))/\bH prog bw 53 [nU c.m c.e c.n c.f,bj (.int .i64 c.s)] o.K:=by
 obtain ⟨a,u,M,t,_,_,hc⟩:=awU.h [] rfl [.z r.p,.n r.q,.i w] (qh s7 (DF h.hp (by decide)) (yq (fun _=>h.pos C) (Mi h.hq) (pw (by omega) (by omega) gS))) iV;obtain rfl:=cB.1 u;obtain ⟨c,d,rfl⟩:=UQ t;obtain ⟨b,y,E,D,_,_,A⟩:=yu.h [] rfl [.z c.m,.i c.e,.z c.n,.i c.f,.i c.s] (d.all gS) iV;obtain rfl:=cB.1 y;obtain ⟨o,j,rfl⟩:=UQ D;exact ⟨c,o,j,hc _ rfl,A _ rfl⟩
def CI (nt:Nat) (l:List Value):Act:= {tmps:=(⟨l⟩:Array Value)++Array.replicate (nt-(⟨l⟩:Array Value).size) undef,defers:= []}
def amX {l:List Value} (h:l.length<=nt):nt<=(CI nt l).tmps.size/\ ∀t,nt<=t->(CI nt l).tmps.getD t undef=undef:=by
 refine ⟨by simp [CI];omega,fun t b=> ?_⟩;simp only [CI,cM,gP];grind
def H4 {l:List Value} {j:Nat} (h:j<l.length:=by simp):(CI nt l).tmps.getD j undef=l.getD j undef:=by
 simp only [CI,cM,gP];simp_all
def aez {f:FuncId} {b:Func} {c:Code} {x:Go.Ev.Fr} (j:prog.funcs[f]? =some b) (i:b.body=some c) (h:yn b.ntmps [.l] .normal (Tp b) b x R) {w:World} {l:List Value} (p:pn bw S base w b.ntmps x (CI b.ntmps l) w):
 Calls prog f ⟨l⟩ w fun e d=> ∃y,e= .returned y/\jw S d (fun C=>R C y)/\Below base w d:=by
 refine abj j i ?_;have q:=h S base w _ w p;have e:nW b=c:=by unfold nW;rw [i];rfl
 unfold Tp at q;rw [e] at q;refine wp_mono (show c.wp prog (LV prog b S base w R) (CI b.ntmps l) w from q) fun e D d m=> ?_
 obtain ⟨s,t,u,v,z,A⟩:=m;exact ⟨s,[],d,v,by rw [t];rfl,rfl,z,v,rfl,A,u⟩
def aeA {w:World} {l:List Value} {h:List FB} {m:List (Nat×(World->Value->Prop))} {B:List Nat} (i:l.length<=nt) (t: ∀b,S b->b<base) (d:base<=w.heap.size) (s:B.Nodup) (j: ∀b∈B,base<=b) (u:jw (fun k=>S k\/base<=k) w bw) (p:LS (wY S B) (CI nt l) w h B) (q:OE (wY S B) (CI nt l) w m):
 pn bw S base w nt ⟨h,m⟩ (CI nt l) w:=
 ⟨aG _ _,(amX i).1,(amX i).2,rfl,t,d,B,s,j,fun z f=>u z fun b d y=>f b d fun e=>y (e.imp id (j b)),p,q⟩
def Nn (v:Value) (f:List Int) (l:List Oc) (w:Int) (o:Oc):Prop:= ∀(S:Nat->Prop) (base:Nat) (W:World) (h:Value) (dW:List Value),(∀b,S b->b<base)->base<=W.heap.size->jw (fun k=>S k\/base<=k) W bw->dW.length=f.length->(f= []->h= .slice none 0 0)->W.ownsRow base 113 7 h dW.length (dW.flatMap oq)->
 (∀j,j<f.length->jw (fun k=>S k\/base<=k) W fun d=>(l.getD (f.getD j 0).toNat lL).K d (dW.getD j (.bool false)))->
 Calls prog 56 #[v,h,.int .i64 w] W fun e d=> ∃y,e= .returned y/\jw S d (fun i=>o.K i y)/\Below base W d
def aeB {Z':Nat->Prop} {w:World} {Φ:World->Prop} (h:jw Z w Φ) (f: ∀k,Z' k->Z k):jw Z' w Φ:=fun m d=>h m fun b i j=>d b i fun e=>j (f b e)
def aeC (n:Nat):List Alt:= [⟨[zz 65536,eb,zz 65536,eb,.i 0 11],[],[],.out (.z n) (.i (n+1)) (.z (n+2)) (.i (n+3)) (.i (n+4))⟩]
def aeD: ∃c,f56.body=some c:=⟨_,rfl⟩
def aeE:prog.funcs[56]? =some f56:=by kernel_rfl
def aeF:3<=f56.ntmps:=by decide
def amY (h:Pc ⟨none,[ww],[],[],aeC 1⟩ ⟨[],[(0,.nd k (.l 0) (.l 0) (.l 0) []),(1,.nil),(2,ki 0)]⟩ f56) (m:0<=w) (p:w<=4096): ∃o:Oc,o.Ok/\Nn (.agg #[.int .i64 k,.int .i64 0,.int .i64 0,.int .i64 0,.string ⟨⟨[]⟩⟩]) [] l w o:=by
 obtain ⟨a,u,M,q,_,_,hc⟩:=h [.i w] (pw m p gS) iV;obtain rfl:=cB.1 u;obtain ⟨o,y,rfl⟩:=UQ q;obtain ⟨c,d⟩:=aeD;refine ⟨o,y,fun S base W A dW s z t D f E C=> ?_⟩;obtain rfl:=f rfl;exact aez aeE d hc (l:= [_,_,_]) (aeA aeF s z j4 (fun b d=>by cases d) t rfl ⟨fun e _=>H4 (j:=0),fun e _=>H4 (j:=1),fun e _=>H4 (j:=2),trivial⟩)
def ZA {x:Int} (h:m64.ok (.i x)) (t:dY B M):dY (m64::B) (.i x::M):=⟨_,_,rfl,h,t⟩
def amZ {W:World} {n:Nat} {b:Value} {xs:List Value} (h:W.ownsRow base 113 7 b n xs) (u:0<n:=by simp): ∃g cap,b= .slice (some ⟨g,0,none⟩) n cap/\base<=g/\acj W g 113 7 xs cap:=by
 rcases h.2 with ⟨rfl,e⟩|⟨g,cap,cur,e,d,p,q,s,t,f⟩
 ·omega
 ·refine ⟨g,cap,e,d,cur.toList.drop (n*7),(0,0),?_,?_,fun j _ i=>by simp at i⟩
  ·have m:xs++cur.toList.drop (n*7)=cur.toList:=by rw [<-f,eS]
   simp_all
  grind
def aeG {w:World} {v:Value} (h:o.K w v):v= .agg ⟨oq v⟩:=by
 obtain ⟨a,b,rfl,_⟩:=h;rfl
def am0 {a:Act} {w:World} {e:TypeId} {s:Nat} {cs:List Value} {V:Value} (t:Nat) (i:t % 1024=1) (j:OD t g cap=V) (b:acj w g e s cs cap) (d:jw Z w fun f=>R f (.agg ⟨cs⟩)) (h:a.tmps.getD 1 undef=V):LS Z a w [⟨t,e,s,R⟩] [g]:=
 ⟨g,[],rfl,⟨cs,cap,b,d,by simp_all⟩,rfl⟩
def aEB :OD 2049 g cap= .slice (some ⟨g,0,none⟩) 1 cap:=by kernel_rfl
def aEC :OD 3073 g cap= .slice (some ⟨g,0,none⟩) 2 cap:=by kernel_rfl
def KA {lo hi:Int} {p:KI} (h:Pc ⟨none,[zz 65536,eb,zz 65536,eb,.i 0 11,m64,.i lo hi,ww],[],[],aeC 8⟩ ⟨[⟨2049,113,7,.out (.z 0) (.i 1) (.z 2) (.i 3) (.i 4)⟩],[(0,.nd k (.i 5) (.l 0) p []),(2,ki 7)]⟩ f56)
 (m: ∀o:Oc,p.val (o.L++ [SD.i a,SD.i n,SD.i w])=n) (E:0<=w) (F:w<=4096) (O: ∀o∈l,o.Ok) (a0:0<=a) (a1:a<l.length) (t:l.length<=100000) (T:lo<=n:=by decide) (U:n<=hi:=by decide): ∃o:Oc,o.Ok/\Nn (.agg #[.int .i64 k,.int .i64 a,.int .i64 0,.int .i64 n,.string ⟨⟨[]⟩⟩]) [a] l w o:=by
 obtain ⟨x,y⟩:=pS (l.getD a.toNat lL);have A:x.Ok:=by
  have:a.toNat<l.length:=by omega
  rw [<-y,aD,aO this];exact O _ (fW this)
 obtain ⟨b,f,M,G,_,_,hc⟩:=h (x.L++ [SD.i a,SD.i n,SD.i w]) (A.all (ZA (yv (by omega) (by omega)) (pw T U (pw E F gS)))) iV;obtain rfl:=cB.1 f;obtain ⟨o,P,rfl⟩:=UQ G;obtain ⟨c,f⟩:=aeD;refine ⟨o,P,fun S base W av dW H X I Q IV Y D=> ?_⟩;obtain ⟨d,rfl⟩: ∃d,dW= [d]:=me.1 Q;obtain ⟨g,cap,rfl,s,vJ⟩:=amZ Y;have u:=D 0 (by simp);have C:d= .agg ⟨oq d⟩:=aeG (u W fun _ _ _=>rfl);have J: ∀k,wY S [g] k->S k\/base<=k:=fun k N=>N.imp id fun e=>by
  rcases cB.1 e with rfl;exact s
 refine aez aeE f hc (l:= [_,_,_]) (aeA (B:= [g]) aeF H X (by simp) (fun b f=>by rcases cB.1 f with rfl;exact s) I (am0 2049 (by decide) aEB vJ ?_ (H4 (j:=1))) ⟨fun w' _=> ?_,fun w' _=>H4 (j:=2),trivial⟩)
 ·have q:=aeB u J
  rw [show l.getD (([a]:List Int).getD 0 0).toNat lL=x from y,show ([d]:List Value).getD 0 (.bool false)= .agg ⟨oq d⟩ from C] at q;rw [show ([d]:List Value).flatMap oq=oq d by simp];exact q
 ·show (CI _ _).tmps.getD 0 undef= .agg #[.int .i64 k,.int .i64 a,.int .i64 0,.int .i64 (p.val (x.L++ [SD.i a,SD.i n,SD.i w])),.string ⟨⟨[]⟩⟩]
  rw [m];exact H4 (j:=0)
def ZC {c:Int} (h:Pc ⟨none,[zz 65536,eb,zz 65536,eb,.i 0 11,zz 65536,eb,zz 65536,eb,.i 0 11,m64,m64,ww],[],[],aeC 13⟩ ⟨[⟨3073,113,7,.cat (.out (.z 0) (.i 1) (.z 2) (.i 3) (.i 4)) (.out (.z 5) (.i 6) (.z 7) (.i 8) (.i 9))⟩],[(0,.nd k (.i 10) (.i 11) (.l 0) []),(2,ki 12)]⟩ f56)
 (C:0<=w) (D:w<=4096) (hl: ∀o∈l,o.Ok) (Q:0<=a) (a1:a<l.length) (c0:0<=c) (c1:c<l.length) (G:l.length<=100000): ∃o:Oc,o.Ok/\Nn (.agg #[.int .i64 k,.int .i64 a,.int .i64 c,.int .i64 0,.string ⟨⟨[]⟩⟩]) [a,c] l w o:=by
 have O: ∀z:Int,0<=z->z<l.length->(l.getD z.toNat lL).Ok:=fun z C D=>by
  have:z.toNat<l.length:=by omega
  rw [aD,aO this];exact hl _ (fW this)
 have u:=O a Q a1;have s:=O c c0 c1;obtain ⟨x,J⟩:=pS (l.getD a.toNat lL);obtain ⟨y,N⟩:=pS (l.getD c.toNat lL);rw [J] at u;rw [N] at s;obtain ⟨b,m,M,X,_,_,hc⟩:=h (x.L++(y.L++ [SD.i a,SD.i c,SD.i w])) (u.all (s.all (ZA (yv (by omega) (by omega)) (ZA (yv (by omega) (by omega)) (pw C D gS))))) iV;obtain rfl:=cB.1 m;obtain ⟨o,ho,rfl⟩:=UQ X;obtain ⟨c',m⟩:=aeD;refine ⟨o,ho,fun S base W av dW Y oy hT hv IV pQ A=> ?_⟩;obtain ⟨d,f,rfl⟩: ∃d f,dW= [d,f]:=by
  match dW,hv with
  | [d,f],_=>exact ⟨d,f,rfl⟩
 obtain ⟨g,cap,rfl,F,vJ⟩:=amZ pQ;have H:=A 0 (by simp);have I:=A 1 (by simp);have T:d= .agg ⟨oq d⟩:=aeG (H W fun _ _ _=>rfl);have U:f= .agg ⟨oq f⟩:=aeG (I W fun _ _ _=>rfl);have E: ∀k,wY S [g] k->S k\/base<=k:=fun k hk=>hk.imp id fun e=>by
  rcases cB.1 e with rfl;exact F
 refine aez aeE m hc (l:= [_,_,_]) (aeA (B:= [g]) aeF Y oy (by simp) (fun b m=>by rcases cB.1 m with rfl;exact F) hT (am0 3073 (by decide) aEC vJ ?_ (H4 (j:=1))) ⟨fun t _=>H4 (j:=0),fun t _=>H4 (j:=2),trivial⟩);have q:=aeB H E;have P:=aeB I E;rw [show l.getD (([a,c]:List Int).getD 0 0).toNat lL=x from J,show ([d,f]:List Value).getD 0 (.bool false)= .agg ⟨oq d⟩ from T] at q;rw [show l.getD (([a,c]:List Int).getD 1 0).toNat lL=y from N,show ([d,f]:List Value).getD 1 (.bool false)= .agg ⟨oq f⟩ from U] at P;rw [show ([d,f]:List Value).flatMap oq=oq d++oq f by simp];exact fun t p=>⟨_,_,rfl,q t p,P t p⟩
def am1 (x:Nx):Value:= .agg #[.int .i64 x.k,.int .i64 x.a,.int .i64 x.b,.int .i64 x.n,.string ⟨⟨x.t⟩⟩]
def am2 (x:Nx):List Int:=if arity x.k=0 then [] else if arity x.k=1 then [x.a] else [x.a,x.b]
def Np (o:Oc):KI.val (o.L++ [SD.i a,SD.i 0,SD.i w]) (.l 0)=0:=rfl
def aED (o:Oc):KI.val (o.L++ [SD.i a,SD.i n,SD.i w]) (.i 6)=n:=rfl
def aEE (h:Y5 l.length x.k x.a x.b x.n x.t) (s:x.k≠1) (j: ∀o∈l,o.Ok) (d:l.length<=100000) (e:0<=w) (f:w<=4096): ∃o:Oc,o.Ok/\Nn (am1 x) (am2 x) l w o:=by
 obtain ⟨k,a,b,n,t⟩:=x;obtain ⟨A,C,nm,z,y,q,i,u,m,ar,p⟩:=h;simp only at A C nm z y q i u m ar p s;obtain rfl:=y s;have s:k=3\/k=4\/k=5\/k=6\/k=7\/k=8\/k=9\/k=10\/k=11\/k=12\/k=13\/k=14\/k=15\/k=16:=by omega
 rcases s with rfl|rfl|rfl|rfl|rfl|rfl|rfl|rfl|rfl|rfl|rfl|rfl|rfl|rfl
 ·obtain rfl:=u (by decide)
  obtain rfl:=m (by decide);obtain rfl:=i (by decide);exact amY axW e f
 ·obtain rfl:=u (by decide)
  obtain rfl:=m (by decide);obtain rfl:=i (by decide);exact amY axX e f
 ·obtain rfl:=m (by decide)
  obtain rfl:=i (by decide);exact KA (n:=0) axY Np e f j (ar (by decide)).1 (ar (by decide)).2 d
 ·obtain rfl:=i (by decide)
  exact ZC ax4 e f j (ar (by decide)).1 (ar (by decide)).2 (p (by decide) (by decide)).1 (p (by decide) (by decide)).2 d
 ·obtain rfl:=i (by decide)
  exact ZC ax5 e f j (ar (by decide)).1 (ar (by decide)).2 (p (by decide) (by decide)).1 (p (by decide) (by decide)).2 d
 ·obtain rfl:=i (by decide)
  exact ZC ax6 e f j (ar (by decide)).1 (ar (by decide)).2 (p (by decide) (by decide)).1 (p (by decide) (by decide)).2 d
 ·obtain rfl:=i (by decide)
  exact ZC ax7 e f j (ar (by decide)).1 (ar (by decide)).2 (p (by decide) (by decide)).1 (p (by decide) (by decide)).2 d
 ·obtain rfl:=m (by decide)
  have D:=q rfl;exact KA (n:=n) axZ aED e f j (ar (by decide)).1 (ar (by decide)).2 d (by omega) (by omega)
 ·obtain rfl:=m (by decide)
  obtain rfl:=i (by decide);exact KA (n:=0) ax0 Np e f j (ar (by decide)).1 (ar (by decide)).2 d
 ·obtain rfl:=m (by decide)
  obtain rfl:=i (by decide);exact KA (n:=0) ax1 Np e f j (ar (by decide)).1 (ar (by decide)).2 d
 ·obtain rfl:=m (by decide)
  obtain rfl:=i (by decide);exact KA (n:=0) ax2 Np e f j (ar (by decide)).1 (ar (by decide)).2 d
 ·obtain rfl:=m (by decide)
  obtain rfl:=i (by decide);exact KA (n:=0) aBq Np e f j (ar (by decide)).1 (ar (by decide)).2 d
 ·obtain rfl:=m (by decide)
  obtain rfl:=i (by decide);exact KA (n:=0) aBr Np e f j (ar (by decide)).1 (ar (by decide)).2 d
 ·obtain rfl:=m (by decide)
  obtain rfl:=i (by decide);exact KA (n:=0) ax3 Np e f j (ar (by decide)).1 (ar (by decide)).2 d
def aeH (x:Nx) (r:Rs) (l:List Oc) (w:Int) (o:Oc):Prop:=(r.s=2->o=⟨0,0,0,0,11⟩)/\(r.s=1-> ∃c:Oc,bH prog bw 54 [sU r.p r.q,bj (.int .i64 w)] (pF (nU c.m c.e c.n c.f) (bj (.int .i64 c.s)))/\bH prog bw 53 [nU c.m c.e c.n c.f,bj (.int .i64 c.s)] o.K)/\(r.s≠1->r.s≠2->Nn (am1 x) (am2 x) l w o)
def am3 (L:List Nx) (l2:List Rs) (w:Int) (lo:List Oc):Prop:=(∀o∈lo,o.Ok)/\ ∀i,i<lo.length->aeH (L.getD i Cu) (l2.getD i eR) (lo.take i) w (lo.getD i lL)
def aEF (h:Y5 l.length x.k x.a x.b x.n x.t) (y:r.Ok) (hc:x.k=1->r.s=1) (u: ∀o∈l,o.Ok) (d:l.length<=100000) (m:0<=w) (p:w<=4096): ∃o:Oc,o.Ok/\aeH x r l w o:=by
 by_cases i:r.s=2
 ·exact ⟨⟨0,0,0,0,11⟩,⟨akG,by decide,by decide,akG,by decide,by decide,by decide,by decide⟩,fun _=>rfl,fun e=>by omega,fun _ e=>absurd i e⟩
 ·by_cases f:r.s=1
  ·obtain ⟨c,o,j,z,A⟩:=aEA y f m p
   exact ⟨o,j,fun e=>absurd e i,fun _=>⟨c,z,A⟩,fun e=>absurd f e⟩
  ·obtain ⟨o,j,q⟩:=aEE h (fun e=>f (hc e)) u d m p
   exact ⟨o,j,fun e=>absurd e i,fun e=>absurd e f,fun _ _=>q⟩
def am4 {L:List Nx} {l2:List Rs} (j:adL L) (b:L.length<=100000) (m: ∀i,i<L.length->(l2.getD i eR).Ok/\((L.getD i Cu).k=1->(l2.getD i eR).s=1)) {w:Int} (d:0<=w) (f:w<=4096): ∀k,k<=L.length-> ∃q:List Oc,q.length=k/\am3 L l2 w q
 |0,_=>⟨[],rfl,(fun r h=>by cases h),fun i h=>absurd h (iw _)⟩
 |k+1,z=>by
  obtain ⟨l,e,u,D⟩:=am4 j b m d f k (by omega);have p:=j k (by omega);have t:=m k (by omega);rw [<-e] at p;obtain ⟨o,A,hc⟩:=aEF (r:=l2.getD k eR) p t.1 (by simp_all) u (by omega) d f;refine ⟨l++ [o],by simp [e],fun x C=> ?_,fun i y=> ?_⟩
  all_goals grind
end
section
open Go.Proofs.Tryz Go Go.RowKit Go.Ev
def aEG:tQ.map (fun s=>s.data.toList)=adK:=by kernel_rfl
def aEH {L:List bI} (o:GI L) (u:NN L):adL (L.map zO):=fun i j=>by
 rw [ir] at j;have d:=o.nd i j;have f:=o.fit i j;have h:=u i j;have s:(L.map zO).getD i Cu=zO (L.getD i dP):=by
  simp_all
 rw [s];generalize L.getD i dP=x at d f h;obtain ⟨k,a,b,n,t⟩:=x;have p:=d.k1;have q:=d.k2;simp only at p q h;refine ⟨p,q,h,fun e=> ?_,fun e=> ?_,d.pow,d.lW,fun e=> ?_,fun e=> ?_,fun e=> ?_,fun e m=> ?_⟩
 ·rw [<-aEG]
  exact List.mem_map_of_mem (d.Ct e)
 ·have:t=ByteArray.empty:=d.pP e h
  subst this;rfl
 ·exact f.a0 (by show arity k=0;have e:k<=4:=e;unfold arity;simp_all)
 ·exact f.b0 (by
   show arity k<2;have e:k<=5\/10<=k:=e;unfold arity;grind)
 ·have e:5<=k:=e
  refine f.args a ?_;unfold args;simp only;have:arity k≠0:=by unfold arity;grind
  grind
 ·have e:6<=k:=e
  have m:k<=9:=m;refine f.args b ?_;unfold args;simp only;have:arity k=2:=by unfold arity;grind
  simp_all
def Bk (o:Oc) (a:Option Addr) (k c:Nat) (b:Option Addr) (l d:Nat):Value:= .agg #[.bool (decide (o.m<0)),.slice a k c,.int .i64 o.e,.bool (decide (o.n<0)),.slice b l d,.int .i64 o.f,.int .i64 o.s]
def H6 (o:Oc) (a:Option Addr) (k c:Nat) (b:Option Addr) (l d:Nat):Value:= .agg #[.bool (decide (o.m<0)),.slice a k c,.int .i64 o.e,.bool (decide (o.n<0)),.slice b l d,.int .i64 o.f]
def am5 {o:Oc} {w:World} {v:Value} (h:o.K w v): ∃a k c b l d,v=Bk o a k c b l d:=by
 obtain ⟨x,y,rfl,e,f⟩:=h;obtain ⟨a,k,c,rfl,_⟩:=e.form;obtain ⟨b,l,d,rfl,_⟩:=f.form;exact ⟨a,k,c,b,l,d,rfl⟩
section
variable {w0:World} {g:Nat}
def aEI {r:Rs} {c:Oc} {w:Int} (B:bH prog bw 54 [sU r.p r.q,bj (.int .i64 w)] (pF (nU c.m c.e c.n c.f) (bj (.int .i64 c.s)))) (C:jw (· =g) w0 bw) (E:g<w0.heap.size) {x:Value} (G:jw (· =g) w0 fun w'=>sU r.p r.q w' x):
 Calls prog 54 #[x,.int .i64 w] w0 fun e w'=> ∃a k d b l h,e= .returned (.tuple #[H6 c a k d b l h,.int .i64 c.s])/\jw (· =g) w' (fun o=>nU c.m c.e c.n c.f o (H6 c a k d b l h))/\Below w0.heap.size w0 w':=by
 refine (B (· =g) w0 [x,.int .i64 w] (fun b D=>D▸E) C (fun w' j=>⟨_,_,rfl,G w' j,_,_,rfl,rfl,rfl⟩)).mono ?_;rintro e w' ⟨v,rfl,t,A⟩;obtain ⟨u,s,rfl,⟨y,z,rfl,I,J⟩,rfl⟩:=t w' fun _ _ _=>rfl
 obtain ⟨a,k,d,rfl,_⟩:=I.form;obtain ⟨b,l,h,rfl,_⟩:=J.form;refine ⟨a,k,d,b,l,h,rfl,fun o H=> ?_,A⟩;obtain ⟨N,M,e,F,_⟩:=t o H;cases e;exact F
def aEJ {c o:Oc} (t:bH prog bw 53 [nU c.m c.e c.n c.f,bj (.int .i64 c.s)] o.K) (u:jw (· =g) w0 bw) (z:g<w0.heap.size) {x:Value} (A:jw (· =g) w0 fun w'=>nU c.m c.e c.n c.f w' x):
 Calls prog 53 #[x,.int .i64 c.s] w0 fun e w'=> ∃a k d b l h,e= .returned (Bk o a k d b l h)/\jw (· =g) w' (fun B=>o.K B (Bk o a k d b l h))/\Below w0.heap.size w0 w':=by
 refine (t (· =g) w0 [x,.int .i64 c.s] (fun b y=>y▸z) u (fun w' j=>⟨_,_,rfl,A w' j,_,_,rfl,rfl,rfl⟩)).mono ?_;rintro e w' ⟨v,rfl,p,q⟩;obtain ⟨a,k,d,b,l,h,rfl⟩:=am5 (p w' fun _ _ _=>rfl);exact ⟨a,k,d,b,l,h,rfl,p,q⟩
end
def ZD (h:Array Value) (k:Nat) (o:Oc) (a:Option Addr) (n c:Nat) (b:Option Addr) (l d:Nat):Prop:=h[k]? =some (.bool (decide (o.m<0)))/\h[k+1]? =some (.slice a n c)/\h[k+2]? =some (.int .i64 o.e)/\h[k+3]? =some (.bool (decide (o.n<0)))/\h[k+4]? =some (.slice b l d)/\h[k+5]? =some (.int .i64 o.f)/\h[k+6]? =some (.int .i64 o.s)
structure tU (Wb wr:World) (g n:Nat) (l:List Oc) (i:Nat):Prop where
 below:Below Wb.heap.size Wb wr
 hg:Wb.heap.size<=g
 row: ∃arr,wr.heap[g]? =some (.cells arr 113 (0,0))/\arr.size=n*7/\(∀j,i<=j->j<n->ZD arr (j*7) lL none 0 0 none 0 0)/\ ∀j,j<i-> ∃a m c b k d,ZD arr (j*7) (l.getD j lL) a m c b k d/\jw (· =g) wr fun w'=>(l.getD j lL).K w' (Bk (l.getD j lL) a m c b k d)
section
variable {Wb wr w':World} {g n i:Nat} {l:List Oc}
def tU.blt (h:tU Wb wr g n l i):g<wr.heap.size:=by
 obtain ⟨a,e,_⟩:=h.row;grind
def tU.later (h:tU Wb wr g n l i) (o:Below wr.heap.size wr w'):tU Wb w' g n l i:=by
 obtain ⟨f,e,p,q,s⟩:=h.row;refine ⟨h.below.trans (o.mono h.below.size),h.hg,f,(o.block _ h.blt).trans e,p,q,fun j t=> ?_⟩;obtain ⟨a,m,c,b,k,d,u,x⟩:=s j t;exact ⟨a,m,c,b,k,d,u,Hz x (Fr.iE o) (fun _ _ e=>e)⟩
def aeI {w:World} {j:Array Value} {t:TypeId} {k:Nat} {o:Oc} {a:Option Addr} {m c:Nat} {b:Option Addr} {l d:Nat} (e:w.heap[g]? =some (.cells j t (0,0))) (h:ZD j k o a m c b l d):
 (w.cell? ⟨g,k,none⟩=some (.bool (decide (o.m<0)))/\w.cell? ⟨g,k+1,none⟩=some (.slice a m c)/\w.cell? ⟨g,k+2,none⟩=some (.int .i64 o.e)/\w.cell? ⟨g,k+3,none⟩=some (.bool (decide (o.n<0)))/\w.cell? ⟨g,k+4,none⟩=some (.slice b l d)/\w.cell? ⟨g,k+5,none⟩=some (.int .i64 o.f)/\w.cell? ⟨g,k+6,none⟩=some (.int .i64 o.s))/\
 w.frozen? ⟨g,k,none⟩=false/\w.frozen? ⟨g,k+1,none⟩=false/\w.frozen? ⟨g,k+2,none⟩=false/\w.frozen? ⟨g,k+3,none⟩=false/\w.frozen? ⟨g,k+4,none⟩=false/\w.frozen? ⟨g,k+5,none⟩=false/\w.frozen? ⟨g,k+6,none⟩=false:=by
 obtain ⟨p,q,u,x,y,z,A⟩:=h;exact ⟨⟨(g5 e p).1,(g5 e q).1,(g5 e u).1,(g5 e x).1,(g5 e y).1,(g5 e z).1,(g5 e A).1⟩,(g5 e p).2,(g5 e q).2,(g5 e u).2,(g5 e x).2,(g5 e y).2,(g5 e z).2,(g5 e A).2⟩
def CJ (w:World) (g k:Nat) (o:Oc) (a:Option Addr) (m c:Nat) (b:Option Addr) (j d:Nat):World:=((((((w.setCell ⟨g,k,none⟩ (.bool (decide (o.m<0)))).setCell ⟨g,k+1,none⟩ (.slice a m c)).setCell ⟨g,k+2,none⟩ (.int .i64 o.e)).setCell ⟨g,k+3,none⟩ (.bool (decide (o.n<0)))).setCell ⟨g,k+4,none⟩ (.slice b j d)).setCell ⟨g,k+5,none⟩ (.int .i64 o.f)).setCell ⟨g,k+6,none⟩ (.int .i64 o.s)
def tU.next (h:tU Wb wr g n l i) (hi:i<n) {a:Option Addr} {m c:Nat} {b:Option Addr} {j d:Nat} (p:jw (· =g) wr fun w'=>(l.getD i lL).K w' (Bk (l.getD i lL) a m c b j d)):tU Wb (CJ wr g (i*7) (l.getD i lL) a m c b j d) g n l (i+1):=by
 obtain ⟨s,e,O,z,A⟩:=h.row;have f:Fr (· =g) wr (CJ wr g (i*7) (l.getD i lL) a m c b j d):=(((((((Fr.refl (· =g) wr).setCell (a:=⟨g,i*7,none⟩) _ (fun _=>rfl)).setCell (a:=⟨g,i*7+1,none⟩) _ (fun _=>rfl)).setCell (a:=⟨g,i*7+2,none⟩) _ (fun _=>rfl)).setCell (a:=⟨g,i*7+3,none⟩) _ (fun _=>rfl)).setCell (a:=⟨g,i*7+4,none⟩) _ (fun _=>rfl)).setCell (a:=⟨g,i*7+5,none⟩) _ (fun _=>rfl)).setCell (a:=⟨g,i*7+6,none⟩) _ (fun _=>rfl);refine ⟨h.below.trans (f.oe (fun k p e=>by have:=h.hg;omega) h.below.size),h.hg,_,heap_set (heap_set (heap_set (heap_set (heap_set (heap_set (heap_set e)))))),?_,fun y P B=> ?_,fun y Q=> ?_⟩
 ·simp_all
 ·obtain ⟨F,G,H,I,J,M,N⟩:=z y (by omega) B
  refine ⟨?_,?_,?_,?_,?_,?_,?_⟩<;>(repeat rw [bX (by omega)])<;>assumption
 ·by_cases o:y=i
  ·subst o
   refine ⟨a,m,c,b,j,d,⟨?_,?_,?_,?_,?_,?_,?_⟩,Hz p f (fun _ _ e=>e)⟩
   all_goals
    (repeat rw [bX (by omega)])
    rw [dJ (by (try simp only [Array.size_setIfInBounds]);omega)]
  ·obtain ⟨q,E,u,t,D,x,⟨F,G,H,I,J,M,N⟩,C⟩:=A y (by omega)
   refine ⟨q,E,u,t,D,x,⟨?_,?_,?_,?_,?_,?_,?_⟩,Hz C f (fun _ _ e=>e)⟩<;>(repeat rw [bX (by omega)])<;>assumption
end
structure Nq (wb wr:World) (g:Nat) (l:List Oc) (zs:List Int) (dW:List Value) (q:Nat) (av:Value):Prop where
 below:Below wb.heap.size wb wr
 row:wr.ownsRow wb.heap.size 113 7 av q ((dW.take q).flatMap oq)
 nil:q=0->av= .slice none 0 0
def am6:(prog.info? 113).map (fun i=>(i.zero,i.size,i.bytes))=some (some (.agg #[.bool false,.slice none 0 0,.int .i64 0,.bool false,.slice none 0 0,.int .i64 0,.int .i64 0]),7,88):=by kernel_rfl
def aEK {d:Array Oper} {b:List Oper} {o:Oper} {a:Act} {w:World} {Q:Exit->Act->World->Prop} (M:o.guard=none) (s x:Operand) (F:o.op= .call {callee:= .builtin .append,args:= #[s,x],argTypes:= #[105,105]})
 (base:Nat) (J:base<=w.heap.size) (v:Value) (q:Nat) (xs:List Value) (G:a.eval s=v) (t:w.ownsRow base 113 7 v q xs) (B:Nat) {c:Oc} {a1:Option Addr} {k1 c1:Nat} {a2:Option Addr} {k2 c2:Nat} (H:a.eval x= .slice (some ⟨B,0,none⟩) 1 1)
 (E:w.heap[B]? =some (.cells #[.bool (decide (c.m<0)),.slice a1 k1 c1,.int .i64 c.e,.bool (decide (c.n<0)),.slice a2 k2 c2,.int .i64 c.f,.int .i64 c.s] 113 (0,0))) (O:q<=100)
 (h: ∀g cap w',w'.ownsRow base 113 7 (.slice (some ⟨g,0,none⟩) (q+1) cap) (q+1) (xs++oq (Bk c a1 k1 c1 a2 k2 c2))->Fr (fun k=>v.ownBlock=some k) w w'->wpList prog d Q b (a.put o.dst (.slice (some ⟨g,0,none⟩) (q+1) cap)) w'):wpList prog d Q (o::b) a w:=by
 obtain ⟨I,p,z,A,y⟩:=info_parts am6;refine wpList_append_lies w M s x 105 F base 113 I _ 7 88 underlying105 p z A y rfl (by omega) v q xs G t ⟨B,0,none⟩ 1 1 [.bool (decide (c.m<0)),.slice a1 k1 c1,.int .i64 c.e,.bool (decide (c.n<0)),.slice a2 k2 c2,.int .i64 c.f,.int .i64 c.s] H rfl (World.news_of_block (cs:= #[.bool (decide (c.m<0)),.slice a1 k1 c1,.int .i64 c.e,.bool (decide (c.n<0)),.slice a2 k2 c2,.int .i64 c.f,.int .i64 c.s]) E)
  (by intro u j;simp at j;rcases j with rfl|rfl|rfl|rfl|rfl|rfl|rfl<;>rfl) (by omega) (by unfold maxLen;omega) (by omega) J w.heap.size rfl ?_
 intro g cap w' C D N _;exact h g cap w' C (vW D)
def aEL {v:Value} {p:List Int} {l:List Oc} {w:Int} {o:Oc} (A:Nn v p l w o) {f wr:World} {g:Nat} {dW:List Value} {q:Value} (B:jw (fun k=>k=g\/f.heap.size<=k) wr bw) (D:g<f.heap.size) (t:dW.length=p.length) (h:Nq f wr g l p dW dW.length q)
 (x: ∀j,j<p.length->jw (fun k=>k=g\/f.heap.size<=k) wr fun w'=>(l.getD (p.getD j 0).toNat lL).K w' (dW.getD j (.bool false))):
 Calls prog 56 #[v,q,.int .i64 w] wr fun e w'=> ∃a k d b m h,e= .returned (Bk o a k d b m h)/\jw (· =g) w' (fun E=>o.K E (Bk o a k d b m h))/\Below f.heap.size wr w':=by
 have s:=h.row;rw [g7] at s;refine (A (· =g) f.heap.size wr q dW (fun b C=>C▸D) h.below.size B t (fun e=>h.nil (by rw [t,e];rfl)) s x).mono ?_;rintro e w' ⟨y,rfl,u,z⟩;obtain ⟨a,k,d,b,m,h,rfl⟩:=am5 (u w' fun _ _ _=>rfl);exact ⟨a,k,d,b,m,h,rfl,u,z⟩
end
section
open Go Go.RowKit Go.Ev
variable {w wr Wb:World} {n g i B k q sc j d:Nat} {l:List Oc} {L:List bI} {sa a b:Option Addr} {v:Value} {o:Oc}
def aeJ (L:List bI) (id:Nat) (w:Int) (o:Oc):Prop:= ∀(W:World) (B p:Nat) (v m:Value),iR W B p v m L->om W->bw W->Calls Tryz.prog 29 #[ptr p,.int .i64 id,.int .i64 w] W fun e h=> ∃a k c b l d,e= .returned (.tuple #[H6 o a k c b l d,.int .i64 o.s])/\nU o.m o.e o.n o.f h (H6 o a k c b l d)/\Below W.heap.size W h
def ZE {S:Nat->Prop} (h:bw w) (p:Below w.heap.size w wr) (t: ∀k,S k->w.heap.size<=k):jw S wr bw:=fun u f j s=>by
 have m:=aj w _ (h j s);exact (World.cell?_of_block ((f _ (ax m p.size) fun e=>by grind).trans (p.block _ m))).trans (h j s)
def aEM {l:List Rs} (h:w.ownsRow B 3 1 (.slice sa n sc) n (ints (l.map Rs.s))) (m:l.length=n) (hi:i<n): ∃f,sa=some ⟨f,0,none⟩/\w.cell? ⟨f,i,none⟩=some (.int .i64 (l.getD i eR).s):=by
 obtain ⟨f,c,e,_⟩:=MP h;cases e;refine ⟨f,rfl,?_⟩;rw [h.cellAt i (by omega),PK (by simp_all),aD,dL,aD,aO (by omega)];rfl
def am7: ∀(R:List Value),(∀j,j<R.length->(oq (R.getD j (.bool false))).length=3)-> ∀i,i<R.length-> ∀k,k<3->(R.flatMap oq)[i*3+k]? =(oq (R.getD i (.bool false)))[k]?
 | [],_,i,e,_,_=>by simp at e
 |x::R,h,0,_,k,f=>by
  grind
 |x::R,h,i+1,e,k,f=>by
  have m:=h 0 (by simp);have s:=am7 R (fun j p=>h (j+1) (by simp_all)) i (by simp_all) k f;grind
def aEN {E:World} {N:List (Value×Int×Nat)} {R:List Value} {O:List Int} {C:Option Addr} {D:Nat} {l:List Rs} (h:oV E w N R O (.slice C n D) (.slice sa n sc) []) (G:R.length=n) (z: ∀j,j<R.length->(R.getD j (.bool false),(l.getD j eR).p,(l.getD j eR).q)∈N) (hi:i<n):
 ∃f m x c1 s y t,C=some ⟨f,0,none⟩/\(w.cell? ⟨f,i*3,none⟩=some (.bool (decide ((l.getD i eR).p<0)))/\w.cell? ⟨f,i*3+1,none⟩=some (.slice m x c1)/\w.cell? ⟨f,i*3+2,none⟩=some (.slice s y t))/\jw (UL (.slice C n D) (.slice sa n sc)) w fun P=>sU (l.getD i eR).p (l.getD i eR).q P (.agg #[.bool (decide ((l.getD i eR).p<0)),.slice m x c1,.slice s y t]):=by
 have A:=h.wD;rw [G] at A z;have F: ∀j,j<R.length->(oq (R.getD j (.bool false))).length=3:=fun j Q=>by
  obtain ⟨u,d,e,_⟩:=h.nat _ (z j (by omega)) w fun _ _ _=>rfl
  have e:R.getD j (.bool false)=_:=e;rw [e];rfl
 obtain ⟨f,c,e,_⟩:=MP A;cases e;have I:=h.nat _ (z i hi);obtain ⟨u,d,e,J,M⟩:=I w fun _ _ _=>rfl
 obtain ⟨m,x,c1,rfl,_⟩:=J.form;obtain ⟨s,y,t,rfl,_⟩:=M.form;have e:R.getD i (.bool false)=_:=e;have q: ∀k,k<3->w.cell? ⟨f,i*3+k,none⟩=(oq (R.getD i (.bool false)))[k]? :=fun k H=>(A.cellAt (i*3+k) (by omega)).trans (am7 R F i (by omega) k H)
 rw [e] at q;refine ⟨f,m,x,c1,s,y,t,rfl,⟨q 0 (by omega),q 1 (by omega),q 2 (by omega)⟩,?_⟩;simp_all
def tU.at (h:tU Wb wr g n l i) (hi:i<n):
 (wr.cell? ⟨g,i*7,none⟩=some (.bool false)/\wr.cell? ⟨g,i*7+1,none⟩=some (.slice none 0 0)/\wr.cell? ⟨g,i*7+2,none⟩=some (.int .i64 0)/\wr.cell? ⟨g,i*7+3,none⟩=some (.bool false)/\wr.cell? ⟨g,i*7+4,none⟩=some (.slice none 0 0)/\wr.cell? ⟨g,i*7+5,none⟩=some (.int .i64 0)/\wr.cell? ⟨g,i*7+6,none⟩=some (.int .i64 0))/\
 wr.frozen? ⟨g,i*7,none⟩=false/\wr.frozen? ⟨g,i*7+1,none⟩=false/\wr.frozen? ⟨g,i*7+2,none⟩=false/\wr.frozen? ⟨g,i*7+3,none⟩=false/\wr.frozen? ⟨g,i*7+4,none⟩=false/\wr.frozen? ⟨g,i*7+5,none⟩=false/\wr.frozen? ⟨g,i*7+6,none⟩=false:=by
 obtain ⟨f,e,p,m,s⟩:=h.row;exact aeI e (m i (ak _) hi)
def iz.CJ {m c:Nat} (h:iz w B v L) (s:g<B):iz (CJ w g k o a m c b j d) B v L:=by
 have f:Fr (· =g) w (Go.Proofs.YthleenhngcdgkaaGreatDoor.CJ w g k o a m c b j d):=(((((((Fr.refl (· =g) w).setCell (a:=⟨g,k,none⟩) _ (fun _=>rfl)).setCell (a:=⟨g,k+1,none⟩) _ (fun _=>rfl)).setCell (a:=⟨g,k+2,none⟩) _ (fun _=>rfl)).setCell (a:=⟨g,k+3,none⟩) _ (fun _=>rfl)).setCell (a:=⟨g,k+4,none⟩) _ (fun _=>rfl)).setCell (a:=⟨g,k+5,none⟩) _ (fun _=>rfl)).setCell (a:=⟨g,k+6,none⟩) _ (fun _=>rfl);exact h.frame f (fun k p e=>by have:=(h.own.lt k p).1;omega)
def Nr (w:World):eD w (.slice none 0 0) 0:=⟨[],⟨⟨rfl,.inl ⟨rfl,rfl⟩⟩,fun u h=>by cases h⟩,rfl,rfl⟩
def tU.aeK (h:tU Wb wr g n l i) (hi:i<n) (e:l.getD i lL=⟨0,0,0,0,11⟩):tU Wb (((((((wr.setCell ⟨g,i*7,none⟩ (.bool false)).setCell ⟨g,i*7+1,none⟩ (.slice none 0 0)).setCell ⟨g,i*7+2,none⟩ (.int .i64 0)).setCell ⟨g,i*7+3,none⟩ (.bool false)).setCell ⟨g,i*7+4,none⟩ (.slice none 0 0)).setCell ⟨g,i*7+5,none⟩ (.int .i64 0)).setCell ⟨g,i*7+6,none⟩ (.int .i64 11)) g n l (i+1):=by
 have q:=h.next hi (a:=none) (m:=0) (c:=0) (b:=none) (j:=0) (d:=0) (by rw [e];exact fun f _=>⟨_,_,rfl,Nr f,Nr f⟩);rw [e] at q;exact q
def iz.aeK (h:iz w B v L) (e:g<B):iz (((((((w.setCell ⟨g,k,none⟩ (.bool false)).setCell ⟨g,k+1,none⟩ (.slice none 0 0)).setCell ⟨g,k+2,none⟩ (.int .i64 0)).setCell ⟨g,k+3,none⟩ (.bool false)).setCell ⟨g,k+4,none⟩ (.slice none 0 0)).setCell ⟨g,k+5,none⟩ (.int .i64 0)).setCell ⟨g,k+6,none⟩ (.int .i64 11)) B v L:=
 h.CJ (o:=⟨0,0,0,0,11⟩) (a:=none) (m:=0) (c:=0) (b:=none) (j:=0) (d:=0) e
def tU.dW {Wb wr:World} {g n i:Nat} {l:List Oc} (h:tU Wb wr g n l i): ∀p:List Int,(∀z∈p,0<=z/\z<(i:Int))-> ∃dW:List Value,dW.length=p.length/\ ∀j,j<p.length-> ∃(z:Nat) (a:Option Addr) (m c:Nat) (b:Option Addr) (k d:Nat),p.getD j 0=(z:Int)/\z<i/\dW.getD j (.bool false)=Bk (l.getD z lL) a m c b k d/\(wr.cell? ⟨g,z*7,none⟩=some (.bool (decide ((l.getD z lL).m<0)))/\wr.cell? ⟨g,z*7+1,none⟩=some (.slice a m c)/\wr.cell? ⟨g,z*7+2,none⟩=some (.int .i64 (l.getD z lL).e)/\wr.cell? ⟨g,z*7+3,none⟩=some (.bool (decide ((l.getD z lL).n<0)))/\wr.cell? ⟨g,z*7+4,none⟩=some (.slice b k d)/\wr.cell? ⟨g,z*7+5,none⟩=some (.int .i64 (l.getD z lL).f)/\wr.cell? ⟨g,z*7+6,none⟩=some (.int .i64 (l.getD z lL).s))/\jw (· =g) wr fun G=>(l.getD (p.getD j 0).toNat lL).K G (dW.getD j (.bool false))
 | [],_=>⟨[],rfl,fun j t=>by simp at t⟩
 |x::p,u=>by
  obtain ⟨dW,C,J⟩:=tU.dW h p (fun z F=>u z (aw _ F));have M:=u x (aC ..);obtain ⟨y,e,H,I,A⟩:=h.row;obtain ⟨z,rfl⟩: ∃z:Nat,x=(z:Int):=⟨x.toNat,by omega⟩;obtain ⟨a,m,c,b,k,d,D,E⟩:=A z (by omega);refine ⟨Bk (l.getD z lL) a m c b k d::dW,by simp [C],fun j t=> ?_⟩;cases j with
  |zero=>exact ⟨z,a,m,c,b,k,d,rfl,by omega,rfl,(aeI e D).1,E⟩
  |succ j=>simp_all
def Nq.next {p f:World} {s cap:Nat} {u:List Int} {dW:List Value} {m:Value} {o:Obj} (h:Nq p wr g l u dW q m) (t:q<dW.length) {x:Value} (E:dW.getD q (.bool false)=x) (C:f.ownsRow p.heap.size 113 7 (.slice (some ⟨s,0,none⟩) (q+1) cap) (q+1) ((dW.take q).flatMap oq++oq x)) (A:Fr (fun k=>m.ownBlock=some k) (wr.alloc o) f):Nq p f g l u dW (q+1) (.slice (some ⟨s,0,none⟩) (q+1) cap):=by
 have y:Fr (fun k=>m.ownBlock=some k) wr f:=((Fr.refl _ wr).alloc o).trans A (fun _ _ e=>e);refine ⟨h.below.trans (y.oe (fun k D e=>by have:=(h.row.lt k e).1;omega) h.below.size),?_,fun e=>by omega⟩;have z:(dW.take (q+1)).flatMap oq=(dW.take q).flatMap oq++oq (dW.getD q (.bool false)):=by
  rw [iY,oH,aO t,aD,aO t];simp
 simp_all
def am8 {t:TypeId} {f b1:Bool} {a k d b l h x y} (e:w.heap[q]? =some (.cells #[.bool f,.slice a k d,.int .i64 x,.bool b1,.slice b l h,.int .i64 y] t (0,0))) (p:Addr) (z:Int) (s:p.block=q):w.cell? p≠some (.int .u32 z):=by
 obtain ⟨k,o,u⟩:=p;have m:k=q:=s;subst m;intro c;simp only [World.cell?,e] at c;grind
def aEO {l h:Nat} (e:wr.heap[q]? =some (.cells #[.bool false,.slice none 0 0,.int .i64 0,.bool false,.slice none 0 0,.int .i64 0] 64 (0,0))) (F:o.K wr (Bk o a k d b l h)) (u:Obj):
 (((((((wr.setCell ⟨q,0,none⟩ (.bool (decide (o.m<0)))).setCell ⟨q,1,none⟩ (.slice a k d)).setCell ⟨q,2,none⟩ (.int .i64 o.e)).setCell ⟨q,3,none⟩ (.bool (decide (o.n<0)))).setCell ⟨q,4,none⟩ (.slice b l h)).setCell ⟨q,5,none⟩ (.int .i64 o.f)).alloc u).drew.heap[q]? =some (.cells #[.bool (decide (o.m<0)),.slice a k d,.int .i64 o.e,.bool (decide (o.n<0)),.slice b l h,.int .i64 o.f] 64 (0,0))/\nU o.m o.e o.n o.f (((((((wr.setCell ⟨q,0,none⟩ (.bool (decide (o.m<0)))).setCell ⟨q,1,none⟩ (.slice a k d)).setCell ⟨q,2,none⟩ (.int .i64 o.e)).setCell ⟨q,3,none⟩ (.bool (decide (o.n<0)))).setCell ⟨q,4,none⟩ (.slice b l h)).setCell ⟨q,5,none⟩ (.int .i64 o.f)).alloc u).drew (H6 o a k d b l h)/\Below q wr (((((((wr.setCell ⟨q,0,none⟩ (.bool (decide (o.m<0)))).setCell ⟨q,1,none⟩ (.slice a k d)).setCell ⟨q,2,none⟩ (.int .i64 o.e)).setCell ⟨q,3,none⟩ (.bool (decide (o.n<0)))).setCell ⟨q,4,none⟩ (.slice b l h)).setCell ⟨q,5,none⟩ (.int .i64 o.f)).alloc u).drew:=by
 have H:=(au.1 e).1;have D:Fr (· =q) wr ((((((wr.setCell ⟨q,0,none⟩ (.bool (decide (o.m<0)))).setCell ⟨q,1,none⟩ (.slice a k d)).setCell ⟨q,2,none⟩ (.int .i64 o.e)).setCell ⟨q,3,none⟩ (.bool (decide (o.n<0)))).setCell ⟨q,4,none⟩ (.slice b l h)).setCell ⟨q,5,none⟩ (.int .i64 o.f)):=((((((Fr.refl (· =q) wr).setCell (a:=⟨q,0,none⟩) _ (fun _=>rfl)).setCell (a:=⟨q,1,none⟩) _ (fun _=>rfl)).setCell (a:=⟨q,2,none⟩) _ (fun _=>rfl)).setCell (a:=⟨q,3,none⟩) _ (fun _=>rfl)).setCell (a:=⟨q,4,none⟩) _ (fun _=>rfl)).setCell (a:=⟨q,5,none⟩) _ (fun _=>rfl);have t:=(D.alloc u).drew;have G:((((((wr.setCell ⟨q,0,none⟩ (.bool (decide (o.m<0)))).setCell ⟨q,1,none⟩ (.slice a k d)).setCell ⟨q,2,none⟩ (.int .i64 o.e)).setCell ⟨q,3,none⟩ (.bool (decide (o.n<0)))).setCell ⟨q,4,none⟩ (.slice b l h)).setCell ⟨q,5,none⟩ (.int .i64 o.f)).heap[q]? =some (.cells #[.bool (decide (o.m<0)),.slice a k d,.int .i64 o.e,.bool (decide (o.n<0)),.slice b l h,.int .i64 o.f] 64 (0,0)):=heap_set (heap_set (heap_set (heap_set (heap_set (heap_set e)))));obtain ⟨x,y,E,I,J⟩:=F;cases E;refine ⟨(dX _ u q (ax H D.size)).trans G,⟨_,_,rfl,D6 (S:=(· =q)) I (fun k s A=>t.block k s A) (fun p z C=>am8 e p z C),D6 (S:=(· =q)) J (fun k s A=>t.block k s A) (fun p z C=>am8 e p z C)⟩,t.oe (fun k s e=>by omega) (by omega)⟩
def aEP (h:j<n):ZD (madeCells #[.bool false,.slice none 0 0,.int .i64 0,.bool false,.slice none 0 0,.int .i64 0,.int .i64 0] (n*7)) (j*7) lL none 0 0 none 0 0:=by
 have e: ∀k,k<n*7->(madeCells #[.bool false,.slice none 0 0,.int .i64 0,.bool false,.slice none 0 0,.int .i64 0,.int .i64 0] (n*7))[k]? =some ((#[.bool false,.slice none 0 0,.int .i64 0,.bool false,.slice none 0 0,.int .i64 0,.int .i64 0]:Array Value)[k % 7]!):=fun k f=>by
  unfold madeCells;rw [Array.getElem?_map,Array.getElem?_range,if_pos f];rfl
 refine ⟨?_,?_,?_,?_,?_,?_,?_⟩
 ·rw [e _ (by omega),show j*7 % 7=0 by omega];rfl
 ·grind
 ·rw [e _ (by omega),show (j*7+2) % 7=2 by omega];rfl
 ·rw [e _ (by omega),show (j*7+3) % 7=3 by omega];rfl
 ·grind
 ·rw [e _ (by omega),show (j*7+5) % 7=5 by omega];rfl
 ·rw [e _ (by omega),show (j*7+6) % 7=6 by omega];rfl
def aEQ {W f:World} (s:0<n) (z:f.ownsRow W.heap.size 113 7 (.slice (some ⟨W.heap.size,0,none⟩) n n) n (madeCells (Value.agg #[.bool false,.slice none 0 0,.int .i64 0,.bool false,.slice none 0 0,.int .i64 0,.int .i64 0]).cells (n*7)).toList) (y:W.grownBy f none):
 tU W f W.heap.size n l 0:=by
 have x:Below W.heap.size W f:=(vW y).oe (fun k _ e=>by cases e) (ak _);rcases z.2 with ⟨e,_⟩|⟨g,cap,cur,e,D,hc,A,C,h,m⟩
 ·cases e
 ·cases e
  have t:cur.toList=(madeCells #[.bool false,.slice none 0 0,.int .i64 0,.bool false,.slice none 0 0,.int .i64 0,.int .i64 0] (n*7)).toList:=by
   rw [mu (by simp [h])] at m;exact m
  have u:cur=madeCells #[.bool false,.slice none 0 0,.int .i64 0,.bool false,.slice none 0 0,.int .i64 0,.int .i64 0] (n*7):=Array.toList_inj.1 t;subst u;exact ⟨x,ak _,_,hc,h,fun j _ p=>aEP p,fun j p=>by omega⟩
def aER (hG:GI L) {id:Nat} (hN:Bi L id) (hl:L.length<=4000) (hi:id<L.length) {w:Int} (w0:0<=w) (w1:w<=4096) {l l2:List Rs} {lo:List Oc} (T:Ud ((uw L id).map zO) l) (zN:l.length=(uw L id).length) (h2:aeu l l2) (rF:lo.length=(uw L id).length) (hO:am3 ((uw L id).map zO) l2 w lo):
 aeJ L id w (lo.getD ((uw L id).length-1) lL):=fun W B p v m hg hT AH=>by
 have hp:=amW hG hN hi;have HX:=ae (af hg (af hT (af AH (af hG (af hN (af hl hi))))));have Y:=ae (af T (af zN (af h2 (af rF hO))));have HP:=ae hp;obtain ⟨L',mI⟩:=pS (uw L id);obtain ⟨n,hn⟩:=pS L'.length;have HL':=ae mI;rw [mI] at Y HP⊢;have M:=ae hn;rw [hn] at Y HP⊢;obtain ⟨Q,Qm⟩:=pS (lo.getD (n-1) lL);have HOZ:=ae Qm;rw [Qm];have HPC:=ae (fun W' h=>aEz (W:=W') (hg.below h) hG hl hi (hT.below h));have qF:=ae (fun W' h=>PN (w:=W') (hg.below h) hi (by omega) rfl);have UR:=ae (fun W' h=>aEj (W:=W') (hg.below h) hG.ahead (fun i hi=>amO (hG.nd i hi)) (by omega) hi hN);obtain ⟨x,hx⟩:=pS (L.getD id dP);rw [hx] at qF;have n0:0<n:=by have:=HP.out.2.2.2;omega
 have nl:n<=4000:=by have:=HP.out.2.2.1;omega
 clear hG hN hl hi T zN h2 rF hO hp mI hn Qm hg hT AH hx;obtain ⟨k,xa,xb,xn,t⟩:=x;rw [show gK ⟨k,xa,xb,xn,t⟩= .agg #[.int .i64 k,.int .i64 xa,.int .i64 xb,.int .i64 xn,.string t] from rfl] at qF;unfold ptr at HPC qF UR⊢;go_enter Tryz.func29,Tryz.ntmps29;go_wp2_with fail;obtain ⟨W1,tV⟩:=pS (W.alloc (.cells #[.bool false,.slice none 0 0,.int .i64 0,.bool false,.slice none 0 0,.int .i64 0] 64));have bP:Below W.heap.size W W1:=by rw [<-tV];exact (aG _ W).alloc (ak _) _
 have h6:W1.heap[W.heap.size]? =some (.cells #[.bool false,.slice none 0 0,.int .i64 0,.bool false,.slice none 0 0,.int .i64 0] 64 (0,0)):=by rw [<-tV];exact heap_alloc_new W _
 have Bo:W.heap.size<W1.heap.size:=(au.1 h6).1;have H:=ae (af bP (af h6 Bo));rw [tV];clear bP h6 Bo tV;refine (qF.out W1 H.out.1).mono ?_;rintro e wa ⟨rfl,hf⟩;have zV:=ae (hf.below.alloc hf.size (.cells #[.int .i64 k,.int .i64 xa,.int .i64 xb,.int .i64 xn,.string t] 90));clear hf;go_wp2_with fail;refine (UR.out _ (H.out.1.trans (zV.out.mono H.out.1.size))).mono ?_;rintro e wb ⟨rfl,hb⟩;have KC:=ae (zV.out.trans (hb.mono zV.out.size));clear hb;go_wp2_with fail;refine (HPC.out wb (H.out.1.trans (KC.out.mono H.out.1.size))).mono ?_;rintro e wc ⟨p',b',v',rfl,GR,hb⟩;rw [HL'.out] at GR;have HBc:=ae (KC.out.trans (hb.mono KC.out.size));have HG:=ae GR;have HTc:=ae (Hu HX.out.2.2.1 (H.out.1.trans (HBc.out.mono H.out.1.size)));clear hb GR;go_wp2_with fail;refine (aEv HG.out Y.out.1 (by rw [M.out];exact Y.out.2.1) Y.out.2.2.1 (by rw [M.out];exact n0) (by rw [M.out];omega) HTc.out).mono ?_;rintro e wd ⟨vv,sv,rfl,Wt,N,R,oQ,CG,hRl,hRN⟩;have tq:l2.length=n:=by rw [Y.out.2.2.1.1,Y.out.2.1]
 have hRn:R.length=n:=by rw [hRl,tq]
 have Qh:(l2.map Rs.s).length=n:=by rw [ir,tq]
 have ZF:=CG.wD;have I:=CG.oG;rw [hRn] at ZF;rw [Qh] at I;obtain ⟨va,vc,rfl⟩:=Qg ZF;obtain ⟨sa,sc,rfl⟩:=Qg I;have vE:=oQ.trans (CG.below.mono oQ.size);have US:=ae (HBc.out.trans (vE.mono HBc.out.size));have HGd:=ae (HG.out.below vE);have UT:=ae (af CG (af hRn (af hRN (af tq (af ZF I)))));clear CG hRn hRN hRl tq Qh ZF I oQ vE;go_wp2_with fail;refine (aEc HGd.out (by rw [M.out];omega)).mono ?_;rintro e we ⟨rfl,hwe⟩;subst hwe;rw [M.out];obtain ⟨i0,eT,fL,gd,fG⟩:=info_parts am6;have am9:i0.bytes*n<=281474976710656:=by rw [fG];omega
 go_wp2_with (refine wpList_make_full we rfl (.tmp 55) (.tmp 55) 105 rfl we.heap.size 113 i0 _ 7 Tryz.underlying105 eT fL gd _ _ _ _ n rfl rfl rfl rfl am9 (by unfold maxLen;omega) (ak _) ?_;intro wf ho hg;have HO:=ae (aEQ (l:=lo) n0 ho hg);clear ho hg);refine (amI (HGd.out.below HO.out.below) (by rw [M.out];omega)).mono ?_;rintro e wg ⟨vn,rfl,wT,mc⟩;obtain ⟨na,nc,rfl⟩:=wT.slice;have GS:=ae (af (HO.out.later mc) wT);have HTe:=ae (Hu HX.out.2.2.1 (H.out.1.trans (US.out.mono H.out.1.size)));have hfg:we.heap.size<wf.heap.size:=HO.out.blt;have ZH:=ae hfg;obtain ⟨g,qV⟩:=pS we.heap.size;have ZI:=ae qV;rw [qV] at GS ZH;rw [qV,M.out];clear wT mc am9 eT fL gd fG hfg qV;go_wp2_with fail;go_loopw [60] (fun iv wr=> ∃i:Nat,iv= .int .i64 (i:Int)/\i<=n/\tU we wr g n lo i/\iz wr wf.heap.size (.slice na L'.length nc) L') (fun iv _=>n-(intOf iv).toNat)
 case atStart=>exact ⟨0,rfl,by omega,GS.out.1,GS.out.2⟩
 case round=>
  obtain ⟨i,rfl,hi,P,wT⟩:=hrel;have C:=ae (af P wT);by_cases bz:i<n
  ·obtain ⟨y,hy⟩:=pS (L'.getD i dP)
   obtain ⟨gv,cv,ev,c0,c1,c2,c3,c4⟩:=wT.form (by rw [M.out];exact bz) hy;rw [M.out] at ev;cases ev;obtain ⟨k2,a2,b2,m2,t2⟩:=y;simp only at c0 c1 c2 c3 c4;have hY:aeH (zO ⟨k2,a2,b2,m2,t2⟩) (l2.getD i eR) (lo.take i) w (lo.getD i lL):=by
    have q:=Y.out.2.2.2.2.2 i (by rw [Y.out.2.2.2.1];exact bz);have hN:(L'.map zO).getD i Cu=zO (L'.getD i dP):=by
     rw [aD,aD,dL,aO (by rw [M.out];exact bz)];rfl
    rw [hN,hy] at q;exact q
   have A:=ae (af hY (af bz (af hi hy)));obtain ⟨gs,rfl,cs⟩:=aEM UT.out.2.2.2.2.2 UT.out.2.2.2.1 bz;have E:wr.cell? ⟨gs,i,none⟩=some (.int .i64 (l2.getD i eR).s):=(P.below.cell (p:=⟨gs,i,none⟩) (aj we _ cs)).trans cs;obtain ⟨gx,a1,k1,e1,a3,k3,e3,rfl,⟨v0,v1,v2⟩,hvs⟩:=aEN UT.out.1 UT.out.2.1 UT.out.2.2.1 bz;have LN:=aj we _ v0;have HVS:=ae (Hz (S':=(· =g)) hvs (Fr.iE P.below) (fun k hk e=>by have:=ZI.out;omega));have Qo:=(P.below.cell (p:=⟨gx,i*3,none⟩) LN).trans v0;have v1':=(P.below.cell (p:=⟨gx,i*3+1,none⟩) LN).trans v1;have v2':=(P.below.cell (p:=⟨gx,i*3+2,none⟩) LN).trans v2;have hgv:=aj wr _ c0;have ana:=aj wr _ E;have aeL:=aj wr _ Qo;have i0:(0:Int)<=(i:Int):=by omega
   have i1:(i:Int)<(n:Int):=by omega
   obtain ⟨r,hr⟩:=pS (l2.getD i eR);rw [hr] at A HVS E Qo;have I:r.s=0\/r.s=1\/r.s=2:=by
    have q:=Y.out.2.2.1.2 i (by rw [Y.out.2.1];exact bz);rw [hr] at q;have:=q.1.s0;have:=q.1.s2;omega
   obtain ⟨D,eY⟩:=pS (lo.getD i lL);rw [eY] at A;obtain ⟨neg,Zk⟩:=pS (decide (r.p<0));rw [Zk] at Qo HVS;have UU:=ae eY;have aES:=ae Zk;clear P wT hY hy cs v0 v1 v2 hvs LN hr eY Zk bz hi;rcases I with I|I|I
   ·rw [I] at E
    clear Qo v1' v2' aeL;have hC:=A.out.1.2.2 (by omega) (by omega);have hC:Nn (.agg #[.int .i64 k2,.int .i64 a2,.int .i64 b2,.int .i64 m2,.string t2]) (args ⟨k2,a2,b2,m2,t2⟩) (lo.take i) w D:=hC;have HC:=ae hC;clear hC;obtain ⟨wo,rfl⟩:=pU wr;have Ed:=HP.out.1.nd i (by rw [M.out];exact A.out.2.1);have LA:=(HP.out.1.fit i (by rw [M.out];exact A.out.2.1)).args;rw [A.out.2.2.2] at Ed LA;have HK:=ae (af Ed.k1 Ed.k2);obtain ⟨zs,zg⟩:=pS (args ⟨k2,a2,b2,m2,t2⟩);have fG:zs.length<=2:=by rw [<-zg];exact vX _
    rw [zg] at LA HC;obtain ⟨dW,I9,anb⟩:=C.out.1.dW zs LA;have SF:=ae zg;have HV:=ae (af I9 anb);have J:=C.out.1.blt;have HGL:=ae J;clear Ed LA anb I9 zg;go_wp2_with fail;refine (Y6 (x:=⟨k2,a2,b2,m2,t2⟩) HK.out.1 HK.out.2 _).mono ?_;rintro e wz ⟨av0,rfl,ha⟩;obtain ⟨Vm,uP⟩:=ha;rw [SF.out] at uP;have uP:wz.ownsRow _ 3 1 av0 zs.length (ints zs):=uP;obtain ⟨aa,ac,rfl⟩:=ry uP;have yk:Below (wo.heap.size+1) (wo.alloc (.cells ⟨fZ ⟨k2,a2,b2,m2,t2⟩⟩ 90)) wz:=by rw [<-uv wo];exact Vm
    have U:=ae (af (lI yk) (af (rA yk) uP));have HA0:=ae (⟨aG _ _,World.ownsRow_nil _ _ _ _,fun _=>rfl⟩:Nq wz wz g lo zs dW 0 (.slice none 0 0));obtain ⟨an,iq⟩:=pS zs.length;have py:=ae iq;rw [iq] at fG;rw [iq];clear Vm uP yk iq c0 c1 c2 c3 c4 E hgv ana;go_wp2_with fail;go_loopw [16,72] (fun av kv wr=> ∃q:Nat,kv= .int .i64 (q:Int)/\q<=an/\Nq wz wr g lo zs dW q av) (fun _ kv _=>an-(intOf kv).toNat)
    case atStart=>exact ⟨0,rfl,by omega,HA0.out⟩
    case round=>
     obtain ⟨q,rfl,hq,F⟩:=hrel;have HA:=ae F;obtain ⟨aa5,ac5,rfl⟩:=Qg F.row;by_cases wv:q<an
     ·obtain ⟨z,a4,m4,c4,b4,k4,O,ZJ,hzi,hvq,⟨o0,o1,o2,o3,o4,o5,o6⟩,_⟩:=HV.out.2 q (by rw [py.out];exact wv)
      have X:Below wo.heap.size wo wr:=U.out.1.trans (F.below.mono U.out.1.size);have aG4:=J;obtain ⟨a6,c6,e6,anc⟩:=Bb (oh (S:=fun _=>False) U.out.2.2 (Fr.iE F.below) (fun _ _ e=>e));rw [py.out] at e6;cases e6;obtain ⟨g6,rfl,r0⟩:=anc q (by rw [py.out];exact wv);rw [ZJ] at r0;obtain ⟨cc,Il⟩:=pS (lo.getD z lL);rw [Il] at o0 o2 o3 o5 o6 hvq;have o0:=(X.cell (p:=⟨g,z*7,none⟩) J).trans o0;have o1:=(X.cell (p:=⟨g,z*7+1,none⟩) J).trans o1;have o2:=(X.cell (p:=⟨g,z*7+2,none⟩) J).trans o2;have o3:=(X.cell (p:=⟨g,z*7+3,none⟩) J).trans o3;have o4:=(X.cell (p:=⟨g,z*7+4,none⟩) J).trans o4;have o5:=(X.cell (p:=⟨g,z*7+5,none⟩) J).trans o5;have o6:=(X.cell (p:=⟨g,z*7+6,none⟩) J).trans o6;have aG5:g<wr.heap.size:=aj wr _ o0;have aG6:g6<wr.heap.size:=aj wr _ r0;have q0:(0:Int)<=(q:Int):=by omega
      have q1:(q:Int)<(an:Int):=by omega
      have zz0:(0:Int)<=(z:Int):=by omega
      have zz1:(z:Int)<(n:Int):=by have:=A.out.2.1;omega
      have HQ:=ae (af wv hvq);clear F X anc ZJ hzi hvq Il hq wv J;go_wp2_with (at_builtin;refine aEK rfl _ _ rfl wz.heap.size (zR _ HA.out.below.size) (.slice aa5 q ac5) q ((dW.take q).flatMap oq) rfl (HA.out.row.alloc _) _ (c:=cc) (a1:=a4) (k1:=m4) (c1:=c4) (a2:=b4) (k2:=k4) (c2:=O) rfl (heap_alloc_new wr _) (by omega) ?_;intro gg mN wC eU lZ;have lU:=ae (HA.out.next (by rw [HV.out.1,py.out];exact HQ.out.1) HQ.out.2 eU lZ);clear eU lZ);go_roundw
      case rel=>exact ⟨q+1,by go_num,by have:=HQ.out.1;omega,lU.out⟩
      case measure=>have:=HQ.out.1;simp [intOf];omega
     ·have UK:q=an:=by omega
      subst UK;clear wv hq;have X:Below wo.heap.size wo wr:=U.out.1.trans (F.below.mono U.out.1.size);obtain ⟨d0,d1,d2,d3,O⟩:=jF (x:=⟨k2,a2,b2,m2,t2⟩) ((F.below.block _ (au.1 U.out.2.1).1).trans U.out.2.1);simp only at d0 d1 d2 d3 O;have hs:wo.heap.size<wr.heap.size:=aj wr _ d0;have HBW:=ae X;clear F X;go_wp2_with fail;have eB: ∀j,j<zs.length->jw (fun k=>k=g\/wz.heap.size<=k) wr fun w'=>((lo.take i).getD (zs.getD j 0).toNat lL).K w' (dW.getD j (.bool false)):=fun j hj=>by
       obtain ⟨z,_,_,_,_,_,_,ZJ,hzi,_,_,wj⟩:=HV.out.2 j hj;rw [ZJ] at wj⊢;have e5:(lo.take i).getD ((z:Int)).toNat lL=lo.getD ((z:Int)).toNat lL:=by
        rw [aD,aD,List.getElem?_take_of_lt (by omega)]
       rw [e5];exact Hz wj (Fr.iE HBW.out) (fun k hk e=>e.resolve_right (by have:=U.out.1.size;omega))
      have Ib:Nq wz wr g (lo.take i) zs dW dW.length (.slice aa5 q ac5):=by
       have e5:dW.length=q:=by rw [HV.out.1,py.out]
       rw [e5];exact ⟨HA.out.below,HA.out.row,HA.out.nil⟩
      refine (aEL HC.out (ZE HTe.out (C.out.1.below.trans (HBW.out.mono C.out.1.below.size)) (fun k e=>by have:=ZI.out;have:=U.out.1.size;have:=C.out.1.below.size;omega)) (ax J U.out.1.size) HV.out.1 Ib eB).mono ?_;rintro e wB ⟨Z,k5,d5,b5,l5,h5,rfl,wj,FL⟩;have Nt:Below wo.heap.size wo wB:=HBW.out.trans (FL.mono U.out.1.size);have Nu:=C.out.1.later Nt;have uy:=ae (af Nu trivial);have lU:=ae (show tU we (CJ wB g (i*7) D Z k5 d5 b5 l5 h5) g n lo (i+1)/\iz (CJ wB g (i*7) D Z k5 d5 b5 l5 h5) wf.heap.size (.slice (some ⟨gv,0,none⟩) L'.length nc) L' from ⟨by
       have q:=Nu.next A.out.2.1 (a:=Z) (m:=k5) (c:=d5) (b:=b5) (j:=l5) (d:=h5) (by rw [UU.out];exact wj);rw [UU.out] at q;exact q,(C.out.2.frame (S:=fun _=>False) (Fr.iE Nt) (fun _ _ e=>e)).CJ ZH.out⟩)
      rw [show Bk D Z k5 d5 b5 l5 h5= .agg #[.bool (decide (D.m<0)),.slice Z k5 d5,.int .i64 D.e,.bool (decide (D.n<0)),.slice b5 l5 h5,.int .i64 D.f,.int .i64 D.s] from rfl];clear wj FL Nt Nu eB Ib d0 d1 d2 d3 O hs
      ·skip
       obtain ⟨⟨z0,z1,z2,z3,z4,z5,z6⟩,y0,y1,y2,y3,y4,y5,y6⟩:=uy.out.1.at A.out.2.1;have vL:=uy.out.1.blt;go_wp2_with fail;go_roundw
       case rel=>exact ⟨i+1,by go_num,by have:=A.out.2.1;omega,lU.out.1,lU.out.2⟩
       case measure=>have:=A.out.2.1;simp [intOf];omega
   ·obtain ⟨c,hC1,SK⟩:=A.out.1.2.1 I
    have HC:=ae (af hC1 SK);rw [I] at E;clear hC1 SK;go_wp2_with fail;have F:Below wr.heap.size wr (wr.alloc (.cells #[.int .i64 k2,.int .i64 a2,.int .i64 b2,.int .i64 m2,.string t2] 90)):=(aG _ _).alloc (ak _) _;have HA:=ae F;have J:=C.out.1.blt;have hxs:=Hz HVS.out (Fr.iE F) (S':=(· =g)) (fun _ _ e=>e);rw [<-aES.out] at hxs⊢;refine (aEI HC.out.1 (ZE HTe.out (C.out.1.below.trans (F.mono C.out.1.below.size)) (fun k e=>by have:=ZI.out;omega)) (by rw [uv];omega) hxs).mono ?_;rintro e wA ⟨a4,k4,O,b4,l4,h4,rfl,vZ,hB4⟩;have ZL:=ae (F.trans (hB4.mono F.size));have Xa:=ae vZ;clear vZ hB4 F c0 c1 c2 c3 c4 Qo v1' v2' E hgv ana aeL hxs;rw [show H6 c a4 k4 O b4 l4 h4= .agg #[.bool (decide (c.m<0)),.slice a4 k4 O,.int .i64 c.e,.bool (decide (c.n<0)),.slice b4 l4 h4,.int .i64 c.f] from rfl];go_wp2_with fail;refine (aEJ HC.out.2 (ZE HTe.out (C.out.1.below.trans (ZL.out.mono C.out.1.below.size)) (fun k e=>by have:=ZI.out;omega)) (ax J ZL.out.size) Xa.out).mono ?_;rintro e wB ⟨Z,k5,d5,b5,l5,h5,rfl,wj,FL⟩;have Nt:=ZL.out.trans (FL.mono ZL.out.size);have Nu:=C.out.1.later Nt;have uy:=ae (af Nu trivial);have lU:=ae (show tU we (CJ wB g (i*7) D Z k5 d5 b5 l5 h5) g n lo (i+1)/\iz (CJ wB g (i*7) D Z k5 d5 b5 l5 h5) wf.heap.size (.slice (some ⟨gv,0,none⟩) L'.length nc) L' from ⟨by
     have q:=Nu.next A.out.2.1 (a:=Z) (m:=k5) (c:=d5) (b:=b5) (j:=l5) (d:=h5) (by rw [UU.out];exact wj);rw [UU.out] at q;exact q,(C.out.2.frame (S:=fun _=>False) (Fr.iE Nt) (fun _ _ e=>e)).CJ ZH.out⟩)
    rw [show Bk D Z k5 d5 b5 l5 h5= .agg #[.bool (decide (D.m<0)),.slice Z k5 d5,.int .i64 D.e,.bool (decide (D.n<0)),.slice b5 l5 h5,.int .i64 D.f,.int .i64 D.s] from rfl];clear wj FL Nt Nu
    ·skip
     obtain ⟨⟨z0,z1,z2,z3,z4,z5,z6⟩,y0,y1,y2,y3,y4,y5,y6⟩:=uy.out.1.at A.out.2.1;have vL:=uy.out.1.blt;go_wp2_with fail;go_roundw
     case rel=>exact ⟨i+1,by go_num,by have:=A.out.2.1;omega,lU.out.1,lU.out.2⟩
     case measure=>have:=A.out.2.1;simp [intOf];omega
   ·have pG:=A.out.1.1 I
    rw [I] at E;clear Qo v1' v2' aeL;have uy:=ae (af C.out.1 trivial);have lP: ∀w:World,Below w.heap.size w (w.alloc (.cells #[.int .i64 k2,.int .i64 a2,.int .i64 b2,.int .i64 m2,.string t2] 90)):=fun w=>(aG _ _).alloc (ak _) _
    have lU:=ae (af ((C.out.1.aeK A.out.2.1 (by rw [UU.out];exact pG)).later (lP _)) ((C.out.2.aeK (k:=i*7) ZH.out).frame (S:=fun _=>False) (Fr.iE (lP _)) (fun _ _ e=>e)));clear lP pG
    ·skip
     obtain ⟨⟨z0,z1,z2,z3,z4,z5,z6⟩,y0,y1,y2,y3,y4,y5,y6⟩:=uy.out.1.at A.out.2.1;have vL:=uy.out.1.blt;go_wp2_with fail;go_roundw
     case rel=>exact ⟨i+1,by go_num,by have:=A.out.2.1;omega,lU.out.1,lU.out.2⟩
     case measure=>have:=A.out.2.1;simp [intOf];omega
  ·have Ni:i=n:=by omega
   subst Ni;obtain ⟨arr,ea,_,_,e4⟩:=P.row;obtain ⟨m',rfl⟩: ∃m',i=m'+1:=⟨i-1,by omega⟩;obtain ⟨a4,k4,O,b4,l4,h4,q1,q2⟩:=e4 m' (by omega);have Qm:lo.getD m' lL=Q:=HOZ.out;rw [Qm] at q1 q2;have HK:=ae (q2 wr fun _ _ _=>rfl);obtain ⟨⟨o0,o1,o2,o3,o4,o5,o6⟩,_⟩:=aeI ea q1;have B4:wr.heap[W.heap.size]? =some (.cells #[.bool false,.slice none 0 0,.int .i64 0,.bool false,.slice none 0 0,.int .i64 0] 64 (0,0)):=(P.below.block _ (ax H.out.2.2 US.out.size)).trans ((US.out.block _ H.out.2.2).trans H.out.2.1);have vL:=P.blt;have Bo:W.heap.size<wr.heap.size:=(au.1 B4).1;have G: ∀j u,(#[.bool false,.slice none 0 0,.int .i64 0,.bool false,.slice none 0 0,.int .i64 0]:Array Value)[j]? =some u->wr.cell? ⟨W.heap.size,j,none⟩=some u/\wr.frozen? ⟨W.heap.size,j,none⟩=false:=fun j u hu=>g5 B4 hu
   obtain ⟨x0,y0⟩:=G 0 _ rfl;obtain ⟨x1,y1⟩:=G 1 _ rfl;obtain ⟨x2,y2⟩:=G 2 _ rfl;obtain ⟨x3,y3⟩:=G 3 _ rfl;obtain ⟨x4,y4⟩:=G 4 _ rfl;obtain ⟨x5,y5⟩:=G 5 _ rfl;have GV:=ae (af B4 (H.out.1.trans ((US.out.trans (P.below.mono US.out.size)).mono H.out.1.size)));have m0:(0:Int)<=(m':Int):=by omega
   have m1:(m':Int)<((m'+1:Nat):Int):=by omega
   clear P wT bz hi e4 ea q1 q2 Qm B4 G;go_wp2_with fail;go_region
   all_goals
    go_wp2_with fail;have HE:=ae (aEO GV.out.1 HK.out (.cells #[.bool (decide (Q.m<0)),.slice a4 k4 O,.int .i64 Q.e,.bool (decide (Q.n<0)),.slice b4 l4 h4,.int .i64 Q.f,.int .i64 Q.s] 113));clear x0 x1 x2 x3 x4 x5 y0 y1 y2 y3 y4 y5 o0 o1 o2 o3 o4 o5 o6 vL Bo;generalize (World.alloc _ _).drew=wz at HE⊢;have G: ∀j u,(#[.bool (decide (Q.m<0)),.slice a4 k4 O,.int .i64 Q.e,.bool (decide (Q.n<0)),.slice b4 l4 h4,.int .i64 Q.f]:Array Value)[j]? =some u->wz.cell? ⟨W.heap.size,j,none⟩=some u:=fun j u hu=>(g5 HE.out.1 hu).1
    have x0:=G 0 _ rfl;have x1:=G 1 _ rfl;have x2:=G 2 _ rfl;have x3:=G 3 _ rfl;have x4:=G 4 _ rfl;have x5:=G 5 _ rfl;clear G;refine bodyPost_ret (v:= .tuple #[H6 Q a4 k4 O b4 l4 h4,.int .i64 Q.s]) (by unfold H6;simp [results,Tryz.results29,go_sem,x0,x1,x2,x3,x4,x5];try rfl) rfl ?_;exact ⟨a4,k4,O,b4,l4,h4,rfl,HE.out.2.1,GV.out.2.trans HE.out.2.2⟩
def aET (m:GI L) {id:Nat} (p:Bi L id) (z:L.length<=4000) (hi:id<L.length) {w:Int} (w0:0<=w) (x:w<=4096): ∃o:Oc,o.Ok/\aeJ L id w o:=by
 obtain ⟨C,D,E,F⟩:=amW m p hi;have u:=aEH C D;have s:((uw L id).map zO).length=(uw L id).length:=ir _;obtain ⟨l,e,T⟩:=alQ u (by omega) (uw L id).length (by omega);obtain ⟨l2,c⟩:=amR T.1;obtain ⟨A,y,O⟩:=am4 (l2:=l2) u (by omega) (fun i hi=>by
  have q:=c.2 i (by omega);have t:=(T.2 i (by omega)).1;exact ⟨q.1,fun h=>by rw [q.2.1];exact t h⟩) w0 x (uw L id).length (by omega)
 refine ⟨_,?_,aER m p z hi w0 x T e c y O⟩;have f:(uw L id).length-1<A.length:=by omega
 rw [aD,aO f];exact O.1 _ (fW f)
end
section
open Go Go.RowKit
variable {w:World} {p f x:Int} {k:Nat} {v:Value}
def sG (x:Int) (k:Nat):List Int:=(List.range k).map fun j=>2^j*x
def aEU (x:Int) (k:Nat):sG x (k+1)=sG x k++ [2^k*x]:=by simp [sG,List.range_succ]
def ZM (x:Int) (k:Nat):(sG x k).length=k:=by simp [sG]
def aeM (p f:Int):Prop:=0<=p/\p<=512/\0<=f/\f<=4096
def ane (w:World) (p f:Int) (e:Ending) (w':World):Prop:=
 ∃v k,e= .returned v/\Below w.heap.size w w'/\w'.ownsRow w.heap.size 3 1 v k ((sG (p+8) k).map (Value.int .i64))/\
  (aeM p f->(∀j,j<k->2^j*(p+8)<=f)/\f<2^k*(p+8))/\(¬aeM p f->k=0)
def aeN (w wr:World) (p f:Int) (v:Value) (i:Value):Prop:=
 ∃k:Nat,i= .int .i64 (2^k*(p+8))/\wr.ownsRow w.heap.size 3 1 v k ((sG (p+8) k).map (Value.int .i64))/\Below w.heap.size w wr/\(∀j,j<k->2^j*(p+8)<=f)/\2^k*(p+8)<=10000/\8<=2^k*(p+8)/\k<=20
def aEV (a:0<=p) (b:p<=512):aeN w w p f (.slice none 0 0) (.int .i64 (p+8)):=
 ⟨0,by simp,World.ownsRow_nil _ _ _ _,aG _ _,fun j d=>by omega,by simp;omega,by simp;omega,by omega⟩
def aEW {a:World} (o:0<=p) (g:x=2^k*(p+8)) (e: ∀j,j<k->2^j*(p+8)<=f) (q:8<=x) (h:x<=f) (l:f<=4096)
 (i:a.ownsRow w.heap.size 3 1 v (k+1) ((sG (p+8) k).map (Value.int .i64)++ [.int .i64 x])) (d:Below w.heap.size w a):aeN w a p f v (.int .i64 (2*x)):=by
 have b:(2:Int)^(k+1)*(p+8)=2*x:=by grind
 refine ⟨k+1,by rw [b],?_,d,fun j m=> ?_,by omega,by omega,?_⟩
 ·rw [aEU,lJ,<-g];grind
 all_goals grind
def aEX {wr:World} (i:x=2^k*(p+8)) (a: ∀j,j<k->2^j*(p+8)<=f) (g:f<x)
 (b:wr.ownsRow w.heap.size 3 1 v k ((sG (p+8) k).map (Value.int .i64))) (d:Below w.heap.size w wr) (e:aeM p f):ane w p f (.returned v) wr:=
 ⟨v,k,rfl,d,b,fun _=>⟨a,by omega⟩,fun h=>absurd e h⟩
def aEY (p f:Int) (w:World) (l: ¬p<0) (s: ¬512<p) (G: ¬f<0) (t: ¬4096<f):Calls Tryz.prog 16 #[.int .i64 p,.int .i64 f] w (ane w p f):=by
 obtain ⟨J,I,E,F,D⟩:=info_parts Tryz.info3;go_enter Tryz.func16,Tryz.ntmps16;go_wp2_with go_in
 ·exfalso
  have H:(!decide (f<=4096))=true:=by assumption
  simp at H;omega
 go_loopw [5,6] (fun v i wr=>aeN w wr p f v i) (fun _ i _=>(10000-intOf i).toNat)
 case atStart=>exact aEV l s
 case round=>
  obtain ⟨k,rfl,b,d,e,C,A,M⟩:=hrel;obtain ⟨x,m⟩:=pU (2^k*(p+8));rw [<-m] at C A⊢;have q:=ae m;have B:=ae e;clear m e;go_wp2_with (at_builtin;refine wpList_append_own _ rfl _ _ 22 rfl w.heap.size 3 J (.int .i64 0) 1 8 Tryz.underlying22 I E F D rfl (by decide) _ _ _ rfl (b.alloc _) ⟨wr.heap.size,0,none⟩ 1 1 [.int .i64 x] rfl rfl ?c1 ?c2 ?c3 ?c4 ?c5 ?_)
  case c1=>
   intro j u a
   match j,a with
   |0,a=>simp at a;subst a;simp [Addr.add]
  case c2=>intro u y;simp at y;subst y;rfl
  case c3=>unfold maxLen;omega
  case c4=>omega
  case c5=>have:=d.size;simp;omega
  ·intro N O o z _
   have h:x<=f:=by assumption
   have R:=aEW (w:=w) l q.out B.out A h t o ((d.alloc d.size _).grown z (by have:=d.size;simp;omega) (fun j a=>(b.lt j a).1));have g:=ae R;clear R o z b;go_wp2;go_roundw
   case rel=>first|exact g.out|(rw [Int.mul_comm];exact g.out)
   case measure=>simp [intOf];omega
  ·have h:f<x:=by assumption
   have R:=aEX q.out B.out h b d ⟨l,s,G,t⟩;have g:=ae R;clear R b;go_ret;exact g.out
end
section
open Go.RowKit Go.Ev
def aEZ:bo:=JC [J5,adu] [] 0 78 [zz 65536,eb,zz 65536,eb] [] [kd 0,kd 2] (dR [zz 65536,eb,.i 0 3] (.t (kd 4) (ki 6))) (sY 0 [m7 2,ko 3]::sY 1 [m7 0,ko 1,m7 4,ko 3]::uZ 0 [m7 5,ko 6,ko 7]:: []) (fun V=>by kernel_rfl)
def aE0:bo:=JC [adt] [] 0 84 [zz 65536,eb] [] [kd 0,.i (.l (-1))] (dR [zz 65536,eb,.i 0 3] (.t (kd 2) (ki 4))) (NdA .add 1 (-1)::sY 0 [m7 0,ko 2]::uZ 0 [m7 3,ko 4,ko 5]:: []) (fun V=>by kernel_rfl)
def aE1:bo:=JC [aEZ] [] 0 45 [zz 65536,eb,zz 65536,eb] [] [mg 0 1 2 3] (dR [zz 65536,eb,.i 0 3] (.t (kd 4) (ki 6))) (sY 0 [m7 2,ko 3,m7 0,ko 1]::uZ 0 [m7 4,ko 5,ko 6]:: []) (fun V=>by kernel_rfl)
def aE2:bo:=JC [adu,aE0] [] 0 47 [zz 65536,eb,zz 65536,eb] [] [mg 0 1 2 3] (dR [zz 65536,eb,.i 0 3] (.t (kd 4) (ki 6))) (sY 0 [m7 0,ko 1,m7 2,ko 3]::L8 .neq 6 0::uZ 0 [L9,DA 0,ko 6]::sY 1 [m7 4,ko 5]::uZ 0 [m7 7,ko 8,ko 9]:: []) (fun V=>by kernel_rfl)
def aE3:bo:=JC [akO,s8,T3,akP,Tu,ac1,Yp] [87,88] 8 48 [zz 65536,eb,.i 0 512] [] [kd 0,ki 2] (dR [zz 65536,eb,.i 0 3] (.t (kd 3) (ki 5))) (sY 0 [m7 0,ko 1,ko 2]::sY 1 [m7 0,ko 1]::uZ 0 [m7 3,ko 4,ko 5]::sY 2 [ko 2]::NdB .add 1 2::NdA .add 3 1::sY 3 [m7 0,ko 4]::sY 4 [DA 1]::sY 5 [m7 5,m7 6]::sY 6 [m7 7,DA 1]::NdG 2::sY 1 [m7 8,ko 9]::uZ 0 [m7 10,ko 11,ko 12]::uZ 0 [L9,DA 0,DA 1]:: []) (fun V=>by kernel_rfl)
def aE4:bo:=JC [] [] 0 26 [m64] [] [ki 0] (b1 (fun _ b=> .b b) [(0,.i 0 512)] [] 0) (L8 .geq 0 0::L8 .leq 0 512::uZ 0 []::uZ 1 []::uZ 1 []:: []) (fun V=>by kernel_rfl)
def aE5:bo:=JC [aE4,yr,Tu,aE1,adq,aE2,aE3] [] 0 28 [zz 65536,eb,zz 65536,eb,m64] [] [mg 0 1 2 3,ki 4] [⟨[zz 65536,eb],[],[],.t (kd 5) (.b true)⟩,⟨[zz 65536,eb],[],[],.t (kd 5) (.b false)⟩] (sY 0 [ko 4]::sY 1 [m7 0,ko 1,m7 2,ko 3]::sY 2 [DA 1]::NdG 4::NdA .sub 6 1::sY 3 [m7 0,ko 1,m7 2,ko 3]::L8 .neq 10 0::uZ 1 [L9,DA 0]::sY 4 [m7 8,ko 9,m7 5,ko 7]::L8 .gtr 11 0::sY 5 [m7 0,ko 1,m7 2,ko 3]::L8 .neq 14 0::uZ 1 [L9,DA 0]::sY 6 [m7 12,ko 13,ko 4]::L8 .eql 17 0::uZ 0 [m7 15,ko 16]::uZ 1 [m7 15,ko 16]::uZ 1 [L9,DA 0]::uZ 1 [L9,DA 0]::uZ 1 [L9,DA 0]:: []) (fun V=>by kernel_rfl)
end
end Go.Proofs.YthleenhngcdgkaaGreatDoor
