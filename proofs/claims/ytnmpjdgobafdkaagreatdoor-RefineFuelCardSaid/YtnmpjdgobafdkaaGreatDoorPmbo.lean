/- refineFuel_proved. -/
import Derived.Test.YtnmpjdgobafdkaaGreatDoorPmbn
set_option maxRecDepth 100000
set_option maxHeartbeats 16000000
set_option linter.all false
noncomputable section
namespace Go.Proofs.YtnmpjdgobafdkaaGreatDoor
section
open Go.Proofs.Tryz Go Go.RowKit Go.Ev
variable {w a k n:Int} {M:List SD} {nt base g cap:Nat} {B:List BD} {r:Rs} {R:World->Value->Prop} {S Z:Nat->Prop} {x:Nx}
structure Oc where
 m:Int
 e:Int
 n:Int
 f:Int
 s:Int
variable {o:Oc}
variable {l:List Oc}
structure Oc.Ok (o:Oc):Prop where
 hm:Bz 65536 o.m
 e0: -65536<=o.e
 e1:o.e<=65536
 hn:Bz 65536 o.n
 f0: -65536<=o.f
 f1:o.f<=65536
 s0:0<=o.s
 s1:o.s<=11
def Oc.K (o:Oc):World->Value->Prop:=WO o.m o.e o.n o.f o.s
def Oc.L (o:Oc):List SD:= [.z o.m,.i o.e,.z o.n,.i o.f,.i o.s]
def lb:Oc:=⟨0,0,0,0,0⟩
def Oc.Ok.all (h:o.Ok) (t:dU B M):dU (zz 65536::eb::zz 65536::eb:: .i 0 11::B) (.z o.m:: .i o.e:: .z o.n:: .i o.f:: .i o.s::M):=pS sQ h.hm (oU h.e0 h.e1 (pS sQ h.hn (oU h.f0 h.f1 (oU h.s0 h.s1 t))))
def TV (h:dU [zz 65536,eb,zz 65536,eb,.i 0 11] M): ∃o:Oc,o.Ok/\M=o.L:=by
 obtain ⟨m,M,rfl,_,b,h⟩:=m5 h;obtain ⟨e,M,rfl,d,j,h⟩:=qq h;obtain ⟨n,M,rfl,_,p,h⟩:=m5 h;obtain ⟨f,M,rfl,q,t,h⟩:=qq h;obtain ⟨s,M,rfl,u,y,h⟩:=qq h;obtain rfl:M= []:=h;exact ⟨⟨m,e,n,f,s⟩,⟨b,d,j,p,q,t,u,y⟩,rfl⟩
def aDn (h:r.Ok) (C:r.s=1) (F:0<=w) (G:w<=4096): ∃c o:Oc,o.Ok/\bJ prog bw 52 [sI r.p r.q,bj (.int .i64 w)] (o9 (nB c.m c.e c.n c.f) (bj (.int .i64 c.s)))/\bJ prog bw 51 [nB c.m c.e c.n c.f,bj (.int .i64 c.s)] o.K:=by
 obtain ⟨a,u,M,t,_,_,hc⟩:=av2.h [] rfl [.z r.p,.n r.q,.i w] (pS sQ (C3 h.hp (by decide)) (xK (fun _=>h.pos C) (Lo h.hq) (oU (by omega) (by omega) gH))) iG;obtain rfl:=b7.1 u;obtain ⟨c,d,rfl⟩:=TV t;obtain ⟨b,y,E,D,_,_,A⟩:=xM.h [] rfl [.z c.m,.i c.e,.z c.n,.i c.f,.i c.s] (d.all gH) iG;obtain rfl:=b7.1 y;obtain ⟨o,j,rfl⟩:=TV D;exact ⟨c,o,j,hc _ rfl,A _ rfl⟩
def B4 (nt:Nat) (l:List Value):Act:= {tmps:=(⟨l⟩:Array Value)++Array.replicate (nt-(⟨l⟩:Array Value).size) undef,defers:= []}
def alX {l:List Value} (h:l.length<=nt):nt<=(B4 nt l).tmps.size/\ ∀t,nt<=t->(B4 nt l).tmps.getD t undef=undef:=by
 refine ⟨by simp [B4];omega,fun t b=> ?_⟩;simp only [B4,cR,gS];grind
def GU {l:List Value} {j:Nat} (h:j<l.length:=by simp):(B4 nt l).tmps.getD j undef=l.getD j undef:=by
 simp only [B4,cR,gS];simp_all
def adG {f:FuncId} {b:Func} {c:Code} {x:Go.Ev.Fr} (j:prog.funcs[f]? =some b) (i:b.body=some c) (h:xI b.ntmps [.l] .normal (Sq b) b x R) {w:World} {l:List Value} (p:oP bw S base w b.ntmps x (B4 b.ntmps l) w):
 Calls prog f ⟨l⟩ w fun e d=> ∃y,e= .returned y/\jh S d (fun C=>R C y)/\Below base w d:=by
 refine aaG j i ?_;have q:=h S base w _ w p;have e:nD b=c:=by unfold nD;rw [i];rfl
 unfold Sq at q;rw [e] at q;refine wp_mono (show c.wp prog (K2 prog b S base w R) (B4 b.ntmps l) w from q) fun e D d m=> ?_
 obtain ⟨s,t,u,v,z,A⟩:=m;exact ⟨s,[],d,v,by rw [t];rfl,rfl,z,v,rfl,A,u⟩
def adH {w:World} {l:List Value} {h:List FB} {j:List (Nat×(World->Value->Prop))} {B:List Nat} (i:l.length<=nt) (t: ∀b,S b->b<base) (d:base<=w.heap.size) (s:B.Nodup) (m: ∀b∈B,base<=b) (u:jh (fun k=>S k\/base<=k) w bw) (p:K0 (vY S B) (B4 nt l) w h B) (q:Nw (vY S B) (B4 nt l) w j):
 oP bw S base w nt ⟨h,j⟩ (B4 nt l) w:=
 ⟨aH _ _,(alX i).1,(alX i).2,rfl,t,d,B,s,m,fun z f=>u z fun b d y=>f b d fun e=>y (e.imp id (m b)),p,q⟩
def Mh (v:Value) (f:List Int) (l:List Oc) (w:Int) (o:Oc):Prop:= ∀(S:Nat->Prop) (base:Nat) (W:World) (h:Value) (dS:List Value),(∀b,S b->b<base)->base<=W.heap.size->jh (fun k=>S k\/base<=k) W bw->dS.length=f.length->(f= []->h= .slice none 0 0)->W.ownsRow base 110 7 h dS.length (dS.flatMap nK)->
 (∀j,j<f.length->jh (fun k=>S k\/base<=k) W fun d=>(l.getD (f.getD j 0).toNat lb).K d (dS.getD j (.bool false)))->
 Calls prog 54 #[v,h,.int .i64 w] W fun e d=> ∃y,e= .returned y/\jh S d (fun i=>o.K i y)/\Below base W d
def adI {Z':Nat->Prop} {w:World} {Φ:World->Prop} (h:jh Z w Φ) (f: ∀k,Z' k->Z k):jh Z' w Φ:=fun m d=>h m fun b i j=>d b i fun e=>j (f b e)
def adJ (n:Nat):List Alt:= [⟨[zz 65536,eb,zz 65536,eb,.i 0 11],[],[],.out (.z n) (.i (n+1)) (.z (n+2)) (.i (n+3)) (.i (n+4))⟩]
def adK: ∃c,f54.body=some c:=⟨_,rfl⟩
def adL:prog.funcs[54]? =some f54:=by kernel_rfl
def adM:3<=f54.ntmps:=by decide
def alY (h:N9 ⟨none,[ww],[],[],adJ 1⟩ ⟨[],[(0,.nd k (.l 0) (.l 0) (.l 0) []),(1,.nil),(2,ki 0)]⟩ f54) (m:0<=w) (p:w<=4096): ∃o:Oc,o.Ok/\Mh (.agg #[.int .i64 k,.int .i64 0,.int .i64 0,.int .i64 0,.string ⟨⟨[]⟩⟩]) [] l w o:=by
 obtain ⟨a,u,M,q,_,_,hc⟩:=h [.i w] (oU m p gH) iG;obtain rfl:=b7.1 u;obtain ⟨o,y,rfl⟩:=TV q;obtain ⟨c,d⟩:=adK;refine ⟨o,y,fun S base W A dS s z t D f E C=> ?_⟩;obtain rfl:=f rfl;exact adG adL d hc (l:= [_,_,_]) (adH adM s z jZ (fun b d=>by cases d) t rfl ⟨fun e _=>GU (j:=0),fun e _=>GU (j:=1),fun e _=>GU (j:=2),trivial⟩)
def YM {x:Int} (h:m64.ok (.i x)) (t:dU B M):dU (m64::B) (.i x::M):=⟨_,_,rfl,h,t⟩
def alZ {W:World} {n:Nat} {b:Value} {xs:List Value} (h:W.ownsRow base 110 7 b n xs) (u:0<n:=by simp): ∃g cap,b= .slice (some ⟨g,0,none⟩) n cap/\base<=g/\abG W g 110 7 xs cap:=by
 rcases h.2 with ⟨rfl,e⟩|⟨g,cap,cur,e,d,p,q,s,t,f⟩
 ·omega
 ·refine ⟨g,cap,e,d,cur.toList.drop (n*7),(0,0),?_,?_,fun j _ i=>by simp at i⟩
  ·have m:xs++cur.toList.drop (n*7)=cur.toList:=by rw [<-f,eZ]
   simp_all
  grind
def adN {w:World} {v:Value} (h:o.K w v):v= .agg ⟨nK v⟩:=by
 obtain ⟨a,b,rfl,_⟩:=h;rfl
def al0 {a:Act} {w:World} {e:TypeId} {s:Nat} {cs:List Value} {V:Value} (t:Nat) (i:t % 1024=1) (j:Nv t g cap=V) (b:abG w g e s cs cap) (d:jh Z w fun f=>R f (.agg ⟨cs⟩)) (h:a.tmps.getD 1 undef=V):K0 Z a w [⟨t,e,s,R⟩] [g]:=
 ⟨g,[],rfl,⟨cs,cap,b,d,by simp_all⟩,rfl⟩
def aDo :Nv 2049 g cap= .slice (some ⟨g,0,none⟩) 1 cap:=by kernel_rfl
def aDp :Nv 3073 g cap= .slice (some ⟨g,0,none⟩) 2 cap:=by kernel_rfl
def JN {lo hi:Int} {p:KI} (h:N9 ⟨none,[zz 65536,eb,zz 65536,eb,.i 0 11,m64,.i lo hi,ww],[],[],adJ 8⟩ ⟨[⟨2049,110,7,.out (.z 0) (.i 1) (.z 2) (.i 3) (.i 4)⟩],[(0,.nd k (.i 5) (.l 0) p []),(2,ki 7)]⟩ f54)
 (m: ∀o:Oc,p.val (o.L++ [SD.i a,SD.i n,SD.i w])=n) (E:0<=w) (F:w<=4096) (O: ∀o∈l,o.Ok) (a0:0<=a) (a1:a<l.length) (t:l.length<=100000) (U:lo<=n:=by decide) (X:n<=hi:=by decide): ∃o:Oc,o.Ok/\Mh (.agg #[.int .i64 k,.int .i64 a,.int .i64 0,.int .i64 n,.string ⟨⟨[]⟩⟩]) [a] l w o:=by
 obtain ⟨x,y⟩:=pQ (l.getD a.toNat lb);have A:x.Ok:=by
  have:a.toNat<l.length:=by omega
  rw [<-y,aD,aM this];exact O _ (eU this)
 obtain ⟨b,f,M,G,_,_,hc⟩:=h (x.L++ [SD.i a,SD.i n,SD.i w]) (A.all (YM (xN (by omega) (by omega)) (oU U X (oU E F gH)))) iG;obtain rfl:=b7.1 f;obtain ⟨o,P,rfl⟩:=TV G;obtain ⟨c,f⟩:=adK;refine ⟨o,P,fun S base W av dS H T I Q Hx Y D=> ?_⟩;obtain ⟨d,rfl⟩: ∃d,dS= [d]:=mI.1 Q;obtain ⟨g,cap,rfl,s,xC⟩:=alZ Y;have u:=D 0 (by simp);have C:d= .agg ⟨nK d⟩:=adN (u W fun _ _ _=>rfl);have J: ∀k,vY S [g] k->S k\/base<=k:=fun k N=>N.imp id fun e=>by
  rcases b7.1 e with rfl;exact s
 refine adG adL f hc (l:= [_,_,_]) (adH (B:= [g]) adM H T (by simp) (fun b f=>by rcases b7.1 f with rfl;exact s) I (al0 2049 (by decide) aDo xC ?_ (GU (j:=1))) ⟨fun w' _=> ?_,fun w' _=>GU (j:=2),trivial⟩)
 ·have q:=adI u J
  rw [show l.getD (([a]:List Int).getD 0 0).toNat lb=x from y,show ([d]:List Value).getD 0 (.bool false)= .agg ⟨nK d⟩ from C] at q;rw [show ([d]:List Value).flatMap nK=nK d by simp];exact q
 ·show (B4 _ _).tmps.getD 0 undef= .agg #[.int .i64 k,.int .i64 a,.int .i64 0,.int .i64 (p.val (x.L++ [SD.i a,SD.i n,SD.i w])),.string ⟨⟨[]⟩⟩]
  rw [m];exact GU (j:=0)
def YO {c:Int} (h:N9 ⟨none,[zz 65536,eb,zz 65536,eb,.i 0 11,zz 65536,eb,zz 65536,eb,.i 0 11,m64,m64,ww],[],[],adJ 13⟩ ⟨[⟨3073,110,7,.cat (.out (.z 0) (.i 1) (.z 2) (.i 3) (.i 4)) (.out (.z 5) (.i 6) (.z 7) (.i 8) (.i 9))⟩],[(0,.nd k (.i 10) (.i 11) (.l 0) []),(2,ki 12)]⟩ f54)
 (C:0<=w) (D:w<=4096) (hl: ∀o∈l,o.Ok) (Q:0<=a) (a1:a<l.length) (c0:0<=c) (c1:c<l.length) (G:l.length<=100000): ∃o:Oc,o.Ok/\Mh (.agg #[.int .i64 k,.int .i64 a,.int .i64 c,.int .i64 0,.string ⟨⟨[]⟩⟩]) [a,c] l w o:=by
 have O: ∀z:Int,0<=z->z<l.length->(l.getD z.toNat lb).Ok:=fun z C D=>by
  have:z.toNat<l.length:=by omega
  rw [aD,aM this];exact hl _ (eU this)
 have u:=O a Q a1;have s:=O c c0 c1;obtain ⟨x,J⟩:=pQ (l.getD a.toNat lb);obtain ⟨y,N⟩:=pQ (l.getD c.toNat lb);rw [J] at u;rw [N] at s;obtain ⟨b,m,M,X,_,_,hc⟩:=h (x.L++(y.L++ [SD.i a,SD.i c,SD.i w])) (u.all (s.all (YM (xN (by omega) (by omega)) (YM (xN (by omega) (by omega)) (oU C D gH))))) iG;obtain rfl:=b7.1 m;obtain ⟨o,ho,rfl⟩:=TV X;obtain ⟨c',m⟩:=adK;refine ⟨o,ho,fun S base W av dS Y mR hT hv Hx qR A=> ?_⟩;obtain ⟨d,f,rfl⟩: ∃d f,dS= [d,f]:=by
  match dS,hv with
  | [d,f],_=>exact ⟨d,f,rfl⟩
 obtain ⟨g,cap,rfl,F,xC⟩:=alZ qR;have H:=A 0 (by simp);have I:=A 1 (by simp);have T:d= .agg ⟨nK d⟩:=adN (H W fun _ _ _=>rfl);have U:f= .agg ⟨nK f⟩:=adN (I W fun _ _ _=>rfl);have E: ∀k,vY S [g] k->S k\/base<=k:=fun k hk=>hk.imp id fun e=>by
  rcases b7.1 e with rfl;exact F
 refine adG adL m hc (l:= [_,_,_]) (adH (B:= [g]) adM Y mR (by simp) (fun b m=>by rcases b7.1 m with rfl;exact F) hT (al0 3073 (by decide) aDp xC ?_ (GU (j:=1))) ⟨fun t _=>GU (j:=0),fun t _=>GU (j:=2),trivial⟩);have q:=adI H E;have P:=adI I E;rw [show l.getD (([a,c]:List Int).getD 0 0).toNat lb=x from J,show ([d,f]:List Value).getD 0 (.bool false)= .agg ⟨nK d⟩ from T] at q;rw [show l.getD (([a,c]:List Int).getD 1 0).toNat lb=y from N,show ([d,f]:List Value).getD 1 (.bool false)= .agg ⟨nK f⟩ from U] at P;rw [show ([d,f]:List Value).flatMap nK=nK d++nK f by simp];exact fun t p=>⟨_,_,rfl,q t p,P t p⟩
def al5 (x:Nx):Value:= .agg #[.int .i64 x.k,.int .i64 x.a,.int .i64 x.b,.int .i64 x.n,.string ⟨⟨x.t⟩⟩]
def al6 (x:Nx):List Int:=if arity x.k=0 then [] else if arity x.k=1 then [x.a] else [x.a,x.b]
def Mi (o:Oc):KI.val (o.L++ [SD.i a,SD.i 0,SD.i w]) (.l 0)=0:=rfl
def aDq (o:Oc):KI.val (o.L++ [SD.i a,SD.i n,SD.i w]) (.i 6)=n:=rfl
def aDr (h:Yg l.length x.k x.a x.b x.n x.t) (s:x.k≠1) (j: ∀o∈l,o.Ok) (d:l.length<=100000) (e:0<=w) (f:w<=4096): ∃o:Oc,o.Ok/\Mh (al5 x) (al6 x) l w o:=by
 obtain ⟨k,a,b,n,t⟩:=x;obtain ⟨A,C,nm,z,y,q,i,u,m,ar,p⟩:=h;simp only at A C nm z y q i u m ar p s;obtain rfl:=y s;have s:k=3\/k=4\/k=5\/k=6\/k=7\/k=8\/k=9\/k=10\/k=11\/k=12\/k=13\/k=14\/k=15\/k=16:=by omega
 rcases s with rfl|rfl|rfl|rfl|rfl|rfl|rfl|rfl|rfl|rfl|rfl|rfl|rfl|rfl
 ·obtain rfl:=u (by decide)
  obtain rfl:=m (by decide);obtain rfl:=i (by decide);exact alY aw4 e f
 ·obtain rfl:=u (by decide)
  obtain rfl:=m (by decide);obtain rfl:=i (by decide);exact alY aw5 e f
 ·obtain rfl:=m (by decide)
  obtain rfl:=i (by decide);exact JN (n:=0) aw6 Mi e f j (ar (by decide)).1 (ar (by decide)).2 d
 ·obtain rfl:=i (by decide)
  exact YO axc e f j (ar (by decide)).1 (ar (by decide)).2 (p (by decide) (by decide)).1 (p (by decide) (by decide)).2 d
 ·obtain rfl:=i (by decide)
  exact YO axd e f j (ar (by decide)).1 (ar (by decide)).2 (p (by decide) (by decide)).1 (p (by decide) (by decide)).2 d
 ·obtain rfl:=i (by decide)
  exact YO axe e f j (ar (by decide)).1 (ar (by decide)).2 (p (by decide) (by decide)).1 (p (by decide) (by decide)).2 d
 ·obtain rfl:=i (by decide)
  exact YO axf e f j (ar (by decide)).1 (ar (by decide)).2 (p (by decide) (by decide)).1 (p (by decide) (by decide)).2 d
 ·obtain rfl:=m (by decide)
  have D:=q rfl;exact JN (n:=n) aw7 aDq e f j (ar (by decide)).1 (ar (by decide)).2 d (by omega) (by omega)
 ·obtain rfl:=m (by decide)
  obtain rfl:=i (by decide);exact JN (n:=0) aw8 Mi e f j (ar (by decide)).1 (ar (by decide)).2 d
 ·obtain rfl:=m (by decide)
  obtain rfl:=i (by decide);exact JN (n:=0) aw9 Mi e f j (ar (by decide)).1 (ar (by decide)).2 d
 ·obtain rfl:=m (by decide)
  obtain rfl:=i (by decide);exact JN (n:=0) axa Mi e f j (ar (by decide)).1 (ar (by decide)).2 d
 ·obtain rfl:=m (by decide)
  obtain rfl:=i (by decide);exact JN (n:=0) aAy Mi e f j (ar (by decide)).1 (ar (by decide)).2 d
 ·obtain rfl:=m (by decide)
  obtain rfl:=i (by decide);exact JN (n:=0) aAz Mi e f j (ar (by decide)).1 (ar (by decide)).2 d
 ·obtain rfl:=m (by decide)
  obtain rfl:=i (by decide);exact JN (n:=0) axb Mi e f j (ar (by decide)).1 (ar (by decide)).2 d
def adO (x:Nx) (r:Rs) (l:List Oc) (w:Int) (o:Oc):Prop:=(r.s=2->o=⟨0,0,0,0,11⟩)/\(r.s=1-> ∃c:Oc,bJ prog bw 52 [sI r.p r.q,bj (.int .i64 w)] (o9 (nB c.m c.e c.n c.f) (bj (.int .i64 c.s)))/\bJ prog bw 51 [nB c.m c.e c.n c.f,bj (.int .i64 c.s)] o.K)/\(r.s≠1->r.s≠2->Mh (al5 x) (al6 x) l w o)
def al7 (L:List Nx) (l2:List Rs) (w:Int) (lo:List Oc):Prop:=(∀o∈lo,o.Ok)/\ ∀i,i<lo.length->adO (L.getD i BP) (l2.getD i eH) (lo.take i) w (lo.getD i lb)
def aDs (h:Yg l.length x.k x.a x.b x.n x.t) (y:r.Ok) (hc:x.k=1->r.s=1) (u: ∀o∈l,o.Ok) (d:l.length<=100000) (m:0<=w) (p:w<=4096): ∃o:Oc,o.Ok/\adO x r l w o:=by
 by_cases i:r.s=2
 ·exact ⟨⟨0,0,0,0,11⟩,⟨ajO,by decide,by decide,ajO,by decide,by decide,by decide,by decide⟩,fun _=>rfl,fun e=>by omega,fun _ e=>absurd i e⟩
 ·by_cases f:r.s=1
  ·obtain ⟨c,o,j,z,A⟩:=aDn y f m p
   exact ⟨o,j,fun e=>absurd e i,fun _=>⟨c,z,A⟩,fun e=>absurd f e⟩
  ·obtain ⟨o,j,q⟩:=aDr h (fun e=>f (hc e)) u d m p
   exact ⟨o,j,fun e=>absurd e i,fun e=>absurd e f,fun _ _=>q⟩
def al8 {L:List Nx} {l2:List Rs} (j:ac4 L) (b:L.length<=100000) (m: ∀i,i<L.length->(l2.getD i eH).Ok/\((L.getD i BP).k=1->(l2.getD i eH).s=1)) {w:Int} (d:0<=w) (f:w<=4096): ∀k,k<=L.length-> ∃q:List Oc,q.length=k/\al7 L l2 w q
 |0,_=>⟨[],rfl,(fun r h=>by cases h),fun i h=>absurd h (gJ _)⟩
 |k+1,z=>by
  obtain ⟨l,e,u,D⟩:=al8 j b m d f k (by omega);have p:=j k (by omega);have t:=m k (by omega);rw [<-e] at p;obtain ⟨o,A,hc⟩:=aDs (r:=l2.getD k eH) p t.1 (by simp_all) u (by omega) d f;refine ⟨l++ [o],by simp [e],fun x C=> ?_,fun i y=> ?_⟩
  all_goals grind
end
section
open Go.Proofs.Tryz Go Go.RowKit Go.Ev
def aDt:xR.map (fun s=>s.data.toList)=ac3:=by kernel_rfl
def aDu {L:List b8} (o:GI L) (u:NN L):ac4 (L.map yX):=fun i j=>by
 rw [iz] at j;have d:=o.nd i j;have f:=o.fit i j;have h:=u i j;have s:(L.map yX).getD i BP=yX (L.getD i fS):=by
  simp_all
 rw [s];generalize L.getD i fS=x at d f h;obtain ⟨k,a,b,n,t⟩:=x;have p:=d.k1;have q:=d.k2;simp only at p q h;refine ⟨p,q,h,fun e=> ?_,fun e=> ?_,d.pow,d.lH,fun e=> ?_,fun e=> ?_,fun e=> ?_,fun e m=> ?_⟩
 ·rw [<-aDt]
  exact List.mem_map_of_mem (d.ES e)
 ·have:t=ByteArray.empty:=d.qt e h
  subst this;rfl
 ·exact f.a0 (by show arity k=0;have e:k<=4:=e;unfold arity;simp_all)
 ·exact f.b0 (by
   show arity k<2;have e:k<=5\/10<=k:=e;unfold arity;grind)
 ·have e:5<=k:=e
  refine f.args a ?_;unfold args;simp only;have:arity k≠0:=by unfold arity;grind
  grind
 ·have e:6<=k:=e
  have m:k<=9:=m;refine f.args b ?_;unfold args;simp only;have:arity k=2:=by unfold arity;grind
  simp_all
def AB (o:Oc) (a:Option Addr) (k c:Nat) (b:Option Addr) (l d:Nat):Value:= .agg #[.bool (decide (o.m<0)),.slice a k c,.int .i64 o.e,.bool (decide (o.n<0)),.slice b l d,.int .i64 o.f,.int .i64 o.s]
def GV (o:Oc) (a:Option Addr) (k c:Nat) (b:Option Addr) (l d:Nat):Value:= .agg #[.bool (decide (o.m<0)),.slice a k c,.int .i64 o.e,.bool (decide (o.n<0)),.slice b l d,.int .i64 o.f]
def al9 {o:Oc} {w:World} {v:Value} (h:o.K w v): ∃a k c b l d,v=AB o a k c b l d:=by
 obtain ⟨x,y,rfl,e,f⟩:=h;obtain ⟨a,k,c,rfl,_⟩:=e.form;obtain ⟨b,l,d,rfl,_⟩:=f.form;exact ⟨a,k,c,b,l,d,rfl⟩
section
variable {w0:World} {g:Nat}
def aDv {r:Rs} {c:Oc} {w:Int} (B:bJ prog bw 52 [sI r.p r.q,bj (.int .i64 w)] (o9 (nB c.m c.e c.n c.f) (bj (.int .i64 c.s)))) (C:jh (· =g) w0 bw) (E:g<w0.heap.size) {x:Value} (G:jh (· =g) w0 fun w'=>sI r.p r.q w' x):
 Calls prog 52 #[x,.int .i64 w] w0 fun e w'=> ∃a k d b l h,e= .returned (.tuple #[GV c a k d b l h,.int .i64 c.s])/\jh (· =g) w' (fun o=>nB c.m c.e c.n c.f o (GV c a k d b l h))/\Below w0.heap.size w0 w':=by
 refine (B (· =g) w0 [x,.int .i64 w] (fun b D=>D▸E) C (fun w' j=>⟨_,_,rfl,G w' j,_,_,rfl,rfl,rfl⟩)).mono ?_;rintro e w' ⟨v,rfl,t,A⟩;obtain ⟨u,s,rfl,⟨y,z,rfl,I,J⟩,rfl⟩:=t w' fun _ _ _=>rfl
 obtain ⟨a,k,d,rfl,_⟩:=I.form;obtain ⟨b,l,h,rfl,_⟩:=J.form;refine ⟨a,k,d,b,l,h,rfl,fun o H=> ?_,A⟩;obtain ⟨N,M,e,F,_⟩:=t o H;cases e;exact F
def aDw {c o:Oc} (t:bJ prog bw 51 [nB c.m c.e c.n c.f,bj (.int .i64 c.s)] o.K) (u:jh (· =g) w0 bw) (z:g<w0.heap.size) {x:Value} (A:jh (· =g) w0 fun w'=>nB c.m c.e c.n c.f w' x):
 Calls prog 51 #[x,.int .i64 c.s] w0 fun e w'=> ∃a k d b l h,e= .returned (AB o a k d b l h)/\jh (· =g) w' (fun B=>o.K B (AB o a k d b l h))/\Below w0.heap.size w0 w':=by
 refine (t (· =g) w0 [x,.int .i64 c.s] (fun b y=>y▸z) u (fun w' j=>⟨_,_,rfl,A w' j,_,_,rfl,rfl,rfl⟩)).mono ?_;rintro e w' ⟨v,rfl,p,q⟩;obtain ⟨a,k,d,b,l,h,rfl⟩:=al9 (p w' fun _ _ _=>rfl);exact ⟨a,k,d,b,l,h,rfl,p,q⟩
end
def YP (h:Array Value) (k:Nat) (o:Oc) (a:Option Addr) (n c:Nat) (b:Option Addr) (l d:Nat):Prop:=h[k]? =some (.bool (decide (o.m<0)))/\h[k+1]? =some (.slice a n c)/\h[k+2]? =some (.int .i64 o.e)/\h[k+3]? =some (.bool (decide (o.n<0)))/\h[k+4]? =some (.slice b l d)/\h[k+5]? =some (.int .i64 o.f)/\h[k+6]? =some (.int .i64 o.s)
structure tE (Wb wr:World) (g n:Nat) (l:List Oc) (i:Nat):Prop where
 below:Below Wb.heap.size Wb wr
 hg:Wb.heap.size<=g
 row: ∃arr,wr.heap[g]? =some (.cells arr 110 (0,0))/\arr.size=n*7/\(∀j,i<=j->j<n->YP arr (j*7) lb none 0 0 none 0 0)/\ ∀j,j<i-> ∃a m c b k d,YP arr (j*7) (l.getD j lb) a m c b k d/\jh (· =g) wr fun w'=>(l.getD j lb).K w' (AB (l.getD j lb) a m c b k d)
section
variable {Wb wr w':World} {g n i:Nat} {l:List Oc}
def tE.blt (h:tE Wb wr g n l i):g<wr.heap.size:=by
 obtain ⟨a,e,_⟩:=h.row;grind
def tE.later (h:tE Wb wr g n l i) (o:Below wr.heap.size wr w'):tE Wb w' g n l i:=by
 obtain ⟨f,e,p,q,s⟩:=h.row;refine ⟨h.below.trans (o.mono h.below.size),h.hg,f,(o.block _ h.blt).trans e,p,q,fun j t=> ?_⟩;obtain ⟨a,m,c,b,k,d,u,x⟩:=s j t;exact ⟨a,m,c,b,k,d,u,GS x (Fr.jq o) (fun _ _ e=>e)⟩
def adP {w:World} {j:Array Value} {t:TypeId} {k:Nat} {o:Oc} {a:Option Addr} {m c:Nat} {b:Option Addr} {l d:Nat} (e:w.heap[g]? =some (.cells j t (0,0))) (h:YP j k o a m c b l d):
 (w.cell? ⟨g,k,none⟩=some (.bool (decide (o.m<0)))/\w.cell? ⟨g,k+1,none⟩=some (.slice a m c)/\w.cell? ⟨g,k+2,none⟩=some (.int .i64 o.e)/\w.cell? ⟨g,k+3,none⟩=some (.bool (decide (o.n<0)))/\w.cell? ⟨g,k+4,none⟩=some (.slice b l d)/\w.cell? ⟨g,k+5,none⟩=some (.int .i64 o.f)/\w.cell? ⟨g,k+6,none⟩=some (.int .i64 o.s))/\
 w.frozen? ⟨g,k,none⟩=false/\w.frozen? ⟨g,k+1,none⟩=false/\w.frozen? ⟨g,k+2,none⟩=false/\w.frozen? ⟨g,k+3,none⟩=false/\w.frozen? ⟨g,k+4,none⟩=false/\w.frozen? ⟨g,k+5,none⟩=false/\w.frozen? ⟨g,k+6,none⟩=false:=by
 obtain ⟨p,q,u,x,y,z,A⟩:=h;exact ⟨⟨(gA e p).1,(gA e q).1,(gA e u).1,(gA e x).1,(gA e y).1,(gA e z).1,(gA e A).1⟩,(gA e p).2,(gA e q).2,(gA e u).2,(gA e x).2,(gA e y).2,(gA e z).2,(gA e A).2⟩
def B5 (w:World) (g k:Nat) (o:Oc) (a:Option Addr) (m c:Nat) (b:Option Addr) (j d:Nat):World:=((((((w.setCell ⟨g,k,none⟩ (.bool (decide (o.m<0)))).setCell ⟨g,k+1,none⟩ (.slice a m c)).setCell ⟨g,k+2,none⟩ (.int .i64 o.e)).setCell ⟨g,k+3,none⟩ (.bool (decide (o.n<0)))).setCell ⟨g,k+4,none⟩ (.slice b j d)).setCell ⟨g,k+5,none⟩ (.int .i64 o.f)).setCell ⟨g,k+6,none⟩ (.int .i64 o.s)
def tE.next (h:tE Wb wr g n l i) (hi:i<n) {a:Option Addr} {m c:Nat} {b:Option Addr} {j d:Nat} (p:jh (· =g) wr fun w'=>(l.getD i lb).K w' (AB (l.getD i lb) a m c b j d)):tE Wb (B5 wr g (i*7) (l.getD i lb) a m c b j d) g n l (i+1):=by
 obtain ⟨s,e,O,z,A⟩:=h.row;have f:Fr (· =g) wr (B5 wr g (i*7) (l.getD i lb) a m c b j d):=(((((((Fr.refl (· =g) wr).setCell (a:=⟨g,i*7,none⟩) _ (fun _=>rfl)).setCell (a:=⟨g,i*7+1,none⟩) _ (fun _=>rfl)).setCell (a:=⟨g,i*7+2,none⟩) _ (fun _=>rfl)).setCell (a:=⟨g,i*7+3,none⟩) _ (fun _=>rfl)).setCell (a:=⟨g,i*7+4,none⟩) _ (fun _=>rfl)).setCell (a:=⟨g,i*7+5,none⟩) _ (fun _=>rfl)).setCell (a:=⟨g,i*7+6,none⟩) _ (fun _=>rfl);refine ⟨h.below.trans (f.nJ (fun k p e=>by have:=h.hg;omega) h.below.size),h.hg,_,heap_set (heap_set (heap_set (heap_set (heap_set (heap_set (heap_set e)))))),?_,fun y P B=> ?_,fun y Q=> ?_⟩
 ·simp_all
 ·obtain ⟨F,G,H,I,J,M,N⟩:=z y (by omega) B
  refine ⟨?_,?_,?_,?_,?_,?_,?_⟩<;>(repeat rw [bU (by omega)])<;>assumption
 ·by_cases o:y=i
  ·subst o
   refine ⟨a,m,c,b,j,d,⟨?_,?_,?_,?_,?_,?_,?_⟩,GS p f (fun _ _ e=>e)⟩
   all_goals
    (repeat rw [bU (by omega)])
    rw [dM (by (try simp only [Array.size_setIfInBounds]);omega)]
  ·obtain ⟨q,E,u,t,D,x,⟨F,G,H,I,J,M,N⟩,C⟩:=A y (by omega)
   refine ⟨q,E,u,t,D,x,⟨?_,?_,?_,?_,?_,?_,?_⟩,GS C f (fun _ _ e=>e)⟩<;>(repeat rw [bU (by omega)])<;>assumption
end
structure Mj (wb wr:World) (g:Nat) (l:List Oc) (zs:List Int) (dS:List Value) (q:Nat) (av:Value):Prop where
 below:Below wb.heap.size wb wr
 row:wr.ownsRow wb.heap.size 110 7 av q ((dS.take q).flatMap nK)
 nil:q=0->av= .slice none 0 0
def ama:(prog.info? 110).map (fun i=>(i.zero,i.size,i.bytes))=some (some (.agg #[.bool false,.slice none 0 0,.int .i64 0,.bool false,.slice none 0 0,.int .i64 0,.int .i64 0]),7,88):=by kernel_rfl
def aDx {d:Array Oper} {b:List Oper} {o:Oper} {a:Act} {w:World} {Q:Exit->Act->World->Prop} (M:o.guard=none) (s x:Operand) (F:o.op= .call {callee:= .builtin .append,args:= #[s,x],argTypes:= #[106,106]})
 (base:Nat) (J:base<=w.heap.size) (v:Value) (q:Nat) (xs:List Value) (G:a.eval s=v) (p:w.ownsRow base 110 7 v q xs) (B:Nat) {c:Oc} {a1:Option Addr} {k1 c1:Nat} {a2:Option Addr} {k2 c2:Nat} (H:a.eval x= .slice (some ⟨B,0,none⟩) 1 1)
 (E:w.heap[B]? =some (.cells #[.bool (decide (c.m<0)),.slice a1 k1 c1,.int .i64 c.e,.bool (decide (c.n<0)),.slice a2 k2 c2,.int .i64 c.f,.int .i64 c.s] 110 (0,0))) (O:q<=100)
 (h: ∀g cap w',w'.ownsRow base 110 7 (.slice (some ⟨g,0,none⟩) (q+1) cap) (q+1) (xs++nK (AB c a1 k1 c1 a2 k2 c2))->Fr (fun k=>v.ownBlock=some k) w w'->wpList prog d Q b (a.put o.dst (.slice (some ⟨g,0,none⟩) (q+1) cap)) w'):wpList prog d Q (o::b) a w:=by
 obtain ⟨I,A,z,y,t⟩:=info_parts ama;refine wpList_append_lies w M s x 106 F base 110 I _ 7 88 underlying106 A z y t rfl (by omega) v q xs G p ⟨B,0,none⟩ 1 1 [.bool (decide (c.m<0)),.slice a1 k1 c1,.int .i64 c.e,.bool (decide (c.n<0)),.slice a2 k2 c2,.int .i64 c.f,.int .i64 c.s] H rfl (World.news_of_block (cs:= #[.bool (decide (c.m<0)),.slice a1 k1 c1,.int .i64 c.e,.bool (decide (c.n<0)),.slice a2 k2 c2,.int .i64 c.f,.int .i64 c.s]) E)
  (by intro u j;simp at j;rcases j with rfl|rfl|rfl|rfl|rfl|rfl|rfl<;>rfl) (by omega) (by unfold maxLen;omega) (by omega) J w.heap.size rfl ?_
 intro g cap w' C D N _;exact h g cap w' C (uN D)
def aDy {v:Value} {p:List Int} {l:List Oc} {w:Int} {o:Oc} (A:Mh v p l w o) {f wr:World} {g:Nat} {dS:List Value} {q:Value} (B:jh (fun k=>k=g\/f.heap.size<=k) wr bw) (D:g<f.heap.size) (t:dS.length=p.length) (h:Mj f wr g l p dS dS.length q)
 (x: ∀j,j<p.length->jh (fun k=>k=g\/f.heap.size<=k) wr fun w'=>(l.getD (p.getD j 0).toNat lb).K w' (dS.getD j (.bool false))):
 Calls prog 54 #[v,q,.int .i64 w] wr fun e w'=> ∃a k d b m h,e= .returned (AB o a k d b m h)/\jh (· =g) w' (fun E=>o.K E (AB o a k d b m h))/\Below f.heap.size wr w':=by
 have s:=h.row;rw [lY] at s;refine (A (· =g) f.heap.size wr q dS (fun b C=>C▸D) h.below.size B t (fun e=>h.nil (by rw [t,e];rfl)) s x).mono ?_;rintro e w' ⟨y,rfl,u,z⟩;obtain ⟨a,k,d,b,m,h,rfl⟩:=al9 (u w' fun _ _ _=>rfl);exact ⟨a,k,d,b,m,h,rfl,u,z⟩
end
end Go.Proofs.YtnmpjdgobafdkaaGreatDoor
