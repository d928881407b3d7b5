/- refineCopies_proved. -/
import Derived.Test.YthleenhngcdgkaaGreatDoorPmay
set_option maxRecDepth 100000
set_option maxHeartbeats 16000000
set_option linter.all false
noncomputable section
namespace Go.Proofs.YthleenhngcdgkaaGreatDoor
section
open Go Go.RowKit
variable {l:List Int} {n k:Nat}
def aCv (h:l.getD (2*k+1) 0<l.getD (2*k+2) 0): ∀i,0<i->i<n->(i-1)/2=k->l.getD i 0<=l.getD (2*k+2) 0:=fun i a _ b=>by
 grind
def al3 (h:2*k+2<n-> ¬l.getD (2*k+1) 0<l.getD (2*k+2) 0): ∀i,0<i->i<n->(i-1)/2=k->l.getD i 0<=l.getD (2*k+1) 0:=fun i a b d=>by
 grind
def aCw {w:World} {B q:Nat} {v:Value} (h:iW w B q v l) (n:Nat) (hn:l.length=n+1) (hl:n<=10000-1) (ho:MU l n 0):
 Calls Tryz.prog 199 #[J' q,.int .i64 0,.int .i64 n] w fun e w'=>(∃b,e= .returned (.bool b))/\ ∃a,MV w B q v n l a w'/\Ui a n:=by
 have H:=ae h;have U:=ae ho;have T:=ae (af hn hl);clear h ho hn hl;have rl:=alY q;have rs:=adV q;unfold J' ptr;go_enter Tryz.func199,Tryz.ntmps199;go_wp2_with fail;go_loopw [7] (fun jv wr=> ∃k a,jv= .int .i64 ((k:Nat):Int)/\k<=n/\MV w B q v n l a wr/\MU a n k) (fun jv _=>(n+1-(intOf jv).toNat))
 case atStart=>exact ⟨0,l,rfl,by omega,⟨H.out,rfl,fun _=>jY,fun _ _=>rfl,Fr.refl _ _⟩,U.out⟩
 case round=>
  obtain ⟨k,a,rfl,Q,hu,hx⟩:=hrel;have N:=ae hu;have E:=ae hx;have qK:k<=10000:=by have:=T.out.2;omega
  have s:a.length=n+1:=hu.2.1.trans T.out.1;have rI:=T.out.2;obtain ⟨m,Z⟩: ∃m:Int,2*(k:Int)=m:=⟨_,rfl⟩;obtain ⟨d,R⟩: ∃d:Nat,2*k+1=d:=⟨_,rfl⟩;have A9:IntKind.i64.wrap (2*(k:Int))=m:=by rw [<-Z];exact aB _ ⟨by omega,by omega⟩
  have i6:IntKind.i64.wrap (m+1)=(d:Int):=by rw [<-Z,aB _ ⟨by omega,by omega⟩];omega
  have j10:(0:Int)<=(d:Int):=by omega
  have F:=ae (af R (af Q s));clear hu hx Z;by_cases M:n<=d
  ·have X:(n:Int)<=(d:Int):=by omega
   have HA:=ae M;clear M Q qK s rI R;go_wp2_with fail;go_ret;exact ⟨⟨_,rfl⟩,_,N.out,aCt E.out (by have:=F.out.1;have:=HA.out;omega)⟩
  ·have X:(d:Int)<(n:Int):=by omega
   have Y:d<a.length:=by omega
   have zN:a.length<=10000:=by omega
   have S:k<a.length:=by omega
   obtain ⟨p,W⟩: ∃p:Nat,d+1=p:=⟨_,rfl⟩;have zJ:IntKind.i64.wrap ((d:Int)+1)=(p:Int):=by rw [aB _ ⟨by omega,by omega⟩];omega
   have g:=ae (af M (af Y (af zN (af S W))));by_cases P:p<n
   ·have fV:(p:Int)<(n:Int):=by omega
    have Ih:p<a.length:=by omega
    have O:=ae (af P Ih);clear M Q qK s rI R Y zN S W P Ih;go_wp2_with fail;refine (Uf N.out.1 O.out.2 g.out.2.1 g.out.2.2.1).mono ?_;rintro e w1 ⟨rfl,mL⟩;have G:=ae (Y' N.out mL);clear mL;by_cases I:a.getD d 0<a.getD p 0
    ·have j:decide (a.getD d 0<a.getD p 0)=true:=by simpa using I
     rw [j];have x:=ae (by have y:=F.out.1;have z:=g.out.2.2.2.2;subst z;subst y;exact aCv (n:=n) I: ∀i,0<i->i<n->(i-1)/2=k->a.getD i 0<=a.getD p 0);clear I j;go_wp2_with fail;refine (Uf G.out.1 O.out.2 g.out.2.2.2.1 g.out.2.2.1).mono ?_;rintro e w2 ⟨rfl,C⟩;have u:=ae (Y' G.out C);clear C;by_cases o:a.getD k 0<a.getD p 0
     ·have j:decide (a.getD k 0<a.getD p 0)=true:=by simpa using o
      rw [j];have t:=ae o;clear o j;go_wp2_with fail;refine (Ug u.out.1 g.out.2.2.2.1 O.out.2 g.out.2.2.1).mono ?_;rintro e w3 ⟨rfl,A,D⟩;have f:=ae (by have y:=F.out;have z:=g.out;have e3:=O.out;omega:k<n/\p<n/\n<=a.length/\(p-1)/2=k/\0<p/\k<p);have J:=ae (adY u.out f.out.2.2.1 f.out.1 f.out.2.1 A D);clear A D;go_wp2_with fail;go_roundw
      case rel=>exact ⟨p,_,rfl,by have:=f.out.2.1;omega,J.out,adX E.out f.out.2.2.1 x.out f.out.2.1 f.out.2.2.2.1 f.out.2.2.2.2.1 t.out⟩
      case measure=>have:=f.out;simp [intOf];omega
     ·have j:decide (a.getD k 0<a.getD p 0)=false:=by simpa using o
      rw [j];have t:=ae o;clear o j;go_wp2_with fail;go_ret;exact ⟨⟨_,rfl⟩,_,u.out,adW E.out x.out (jM.2 t.out)⟩
    ·have j:decide (a.getD d 0<a.getD p 0)=false:=by simpa using I
     rw [j];have x:=ae (by have y:=F.out.1;have z:=g.out.2.2.2.2;subst z;subst y;exact al3 (n:=n) (fun _=>I): ∀i,0<i->i<n->(i-1)/2=k->a.getD i 0<=a.getD d 0);clear I j;go_wp2_with fail;refine (Uf G.out.1 g.out.2.1 g.out.2.2.2.1 g.out.2.2.1).mono ?_;rintro e w2 ⟨rfl,C⟩;have u:=ae (Y' G.out C);clear C;by_cases o:a.getD k 0<a.getD d 0
     ·have j:decide (a.getD k 0<a.getD d 0)=true:=by simpa using o
      rw [j];have t:=ae o;clear o j;go_wp2_with fail;refine (Ug u.out.1 g.out.2.2.2.1 g.out.2.1 g.out.2.2.1).mono ?_;rintro e w3 ⟨rfl,A,D⟩;have f:=ae (by have y:=F.out;have z:=g.out;omega:k<n/\d<n/\n<=a.length/\(d-1)/2=k/\0<d/\k<d);have J:=ae (adY u.out f.out.2.2.1 f.out.1 f.out.2.1 A D);clear A D;go_wp2_with fail;go_roundw
      case rel=>exact ⟨d,_,rfl,by have:=f.out.2.1;omega,J.out,adX E.out f.out.2.2.1 x.out f.out.2.1 f.out.2.2.2.1 f.out.2.2.2.2.1 t.out⟩
      case measure=>have:=f.out;simp [intOf];omega
     ·have j:decide (a.getD k 0<a.getD d 0)=false:=by simpa using o
      rw [j];have t:=ae o;clear o j;go_wp2_with fail;go_ret;exact ⟨⟨_,rfl⟩,_,u.out,adW E.out x.out (jM.2 t.out)⟩
   ·have fV:decide (p<n)=false:=by simp;omega
    have x:=ae (by have y:=F.out.1;have z:=g.out.2.2.2.2;subst z;subst y;exact al3 (n:=n) (fun h=>absurd h P): ∀i,0<i->i<n->(i-1)/2=k->a.getD i 0<=a.getD d 0);have G:=N;clear M Q qK s rI R Y zN S W P;go_wp2_with fail;refine (Uf G.out.1 g.out.2.1 g.out.2.2.2.1 g.out.2.2.1).mono ?_;rintro e w2 ⟨rfl,C⟩;have u:=ae (Y' G.out C);clear C;by_cases o:a.getD k 0<a.getD d 0
    ·have j:decide (a.getD k 0<a.getD d 0)=true:=by simpa using o
     rw [j];have t:=ae o;clear o j;go_wp2_with fail;refine (Ug u.out.1 g.out.2.2.2.1 g.out.2.1 g.out.2.2.1).mono ?_;rintro e w3 ⟨rfl,A,D⟩;have f:=ae (by have y:=F.out;have z:=g.out;omega:k<n/\d<n/\n<=a.length/\(d-1)/2=k/\0<d/\k<d);have J:=ae (adY u.out f.out.2.2.1 f.out.1 f.out.2.1 A D);clear A D;go_wp2_with fail;go_roundw
     case rel=>exact ⟨d,_,rfl,by have:=f.out.2.1;omega,J.out,adX E.out f.out.2.2.1 x.out f.out.2.1 f.out.2.2.2.1 f.out.2.2.2.2.1 t.out⟩
     case measure=>have:=f.out;simp [intOf];omega
    ·have j:decide (a.getD k 0<a.getD d 0)=false:=by simpa using o
     rw [j];have t:=ae o;clear o j;go_wp2_with fail;go_ret;exact ⟨⟨_,rfl⟩,_,u.out,adW E.out x.out (jM.2 t.out)⟩
end
section
open Go Go.RowKit
variable {l:List Int} {n B q:Nat} {w:World} {v:Value}
def aCx (h:HO l) (e:l.length=n+1):MU (yx l 0 n) n 0:=by
 have g:=fun k=>xC (l:=l) (i:=0) (j:=n) (by omega) (by omega) k
 refine ⟨fun i a d b=> ?_,fun h=>by omega⟩;rw [g,g,if_neg (by omega),if_neg (by omega),if_neg (by omega),if_neg b];exact h i a (by omega)
def aCy (h:HO l): ∀(k:Nat),k<l.length->l.getD k 0<=l.getD 0 0:=by
 intro k
 induction k using Nat.strongRecOn with
 |_ k e=>
  intro b;rcases bT k with rfl|a
  ·omega
  ·have d:=h k a b
   grind
def aCz (h:HO l) {x:Int} (b:x∈l):x<=l.getD 0 0:=by
 obtain ⟨k,a,rfl⟩:=Hn.1 b;exact aCy h k a
def adZ {k:Nat} (a:k<n:=by omega):(l.take n).getD k 0=l.getD k 0:=by
 simp_all
def Ui.take (h:Ui l n):HO (l.take n):=fun i b d=>by
 have a:i<n:=by grind
 rw [adZ a,adZ];exact h i b a
def ad0 {wr:World} {b:List Int} (x:l.length=n+1) (s:MV w B q v n (yx l 0 n) b wr):
 b.getD n 0=l.getD 0 0/\(∀y,y∈b.take n->y∈l)/\(∀y,y∈l->y∈b.take n\/y=l.getD 0 0):=by
 have g:=fun k=>xC (l:=l) (i:=0) (j:=n) (by omega) (by omega) k
 obtain ⟨_,p,f,u,_⟩:=s;rw [zM] at p;refine ⟨by grind,fun y d=> ?_,fun y d=> ?_⟩
 ·obtain ⟨k,h,e⟩:=Hn.1 d
  have a:k<n:=by simp_all
  rw [adZ a] at e;obtain ⟨m,t,o⟩:=(f y).1 ⟨k,a,e⟩;grind
 ·obtain ⟨k,h,e⟩:=Hn.1 ((alW (i:=0) (j:=n) (by omega) (by omega) y).2 d)
  rw [zM] at h;by_cases a:k<n
  ·left
   obtain ⟨m,t,o⟩:=(f y).2 ⟨k,a,e⟩;exact Hn.2 ⟨m,by simp;omega,by grind⟩
  grind
def aCA (h:iW w B q v l) (n:Nat) (s:l.length=n+1) (A:n<=9000) (C:HO l):
 Calls Tryz.prog 147 #[J' q] w fun e G=>e= .returned (.iface 3 (.int .i64 (l.getD 0 0)))/\ ∃o f,iW G B q o f/\HO f/\f.length=n/\(∀y,y∈f->y∈l)/\(∀y,y∈l->y∈f\/y=l.getD 0 0)/\
  o.ownBlock=v.ownBlock/\Fr (fun k=>k=q\/v.ownBlock=some k) w G:=by
 have H:=ae h;have a:=ae (af C (af s A));clear h C;have N:=aCq q;have M:=alZ q;have O:=adV q;unfold J';unfold ptr;go_enter Tryz.func147,Tryz.ntmps147;go_wp2_with fail;refine (adT H.out).mono ?_;rintro e P ⟨rfl,rfl⟩;rw [s];have I:IntKind.i64.wrap (n:Int)=(n:Int):=aB _ ⟨by omega,by omega⟩;have J:(0:Int)<=(n:Int):=by omega
 clear s A;go_wp2_with fail;refine (Ug (i:=0) (j:=n) H.out (by have:=a.out.2;omega) (by have:=a.out.2;omega) (by have:=a.out.2;omega)).mono ?_;rintro e Q ⟨rfl,x,F⟩;have t:=ae (af x F);clear x F;go_wp2_with fail;refine (aCw t.out.1 n (by rw [zM];exact a.out.2.1) (by have:=a.out.2.2;omega) (aCx a.out.1 a.out.2.1)).mono ?_;rintro e R ⟨⟨b,rfl⟩,f,D,E⟩;have d:=ae (af D E);clear D E;go_wp2_with fail;refine (aCl (m:=n) d.out.1.1 (by rw [d.out.1.2.1,zM];exact a.out.2.1) (by have:=a.out.2.2;omega)).mono ?_;rintro e S ⟨rfl,o,z,g,u⟩;have p:=ae (af z (af g u));clear z g u;rw [(ad0 a.out.2.1 d.out.1).1];go_wp2_with fail;go_ret;refine ⟨rfl,o,_,p.out.1,d.out.2.take,by have:=d.out.1.2.1;rw [zM] at this;have:=a.out.2.1;simp;omega,(ad0 a.out.2.1 d.out.1).2.1,(ad0 a.out.2.1 d.out.1).2.2,p.out.2.1,?_⟩;exact ((t.out.2.mono (fun _ _ e=> .inr e)).trans d.out.1.2.2.2.2 (fun _ _ e=> .inr e)).trans p.out.2.2 (fun _ _ e=> .inl e)
end
section
open Go Go.RowKit
variable {w:World} {B i p:Nat} {v m:Value} {L:List bI} {x:bI}
def dP:bI:=⟨0,0,0,0,ByteArray.empty⟩
def al4: ∀(L:List bI) (i j:Nat),i<L.length->j<5->(Cw L)[i*5+j]? =(fZ (L.getD i dP))[j]?
 | [],i,j,h,_=>by simp at h
 |x::L,0,j,_,a=>by
  simp only [Cw,pI];rw [iC (by simp [fZ];omega)];simp
 |x::L,i+1,j,h,a=>by
  have b:=al4 L i j (by simpa using h) a;simp only [Cw,pI] at b⊢;rw [List.getElem?_append_right (by simp [fZ];omega)];have:(i+1)*5+j-(fZ x).length=i*5+j:=by simp [fZ];omega
  simp_all
structure iz (w:World) (B:Nat) (v:Value) (L:List bI):Prop where
 own:w.ownsRow B 90 5 v L.length (Cw L)
def iz.slice (h:iz w B v L): ∃a c,v= .slice a L.length c:=by
 rcases h.own.2 with ⟨rfl,e⟩|⟨g,c,_,rfl,_⟩
 all_goals grind
def iz.form (h:iz w B v L) (hi:i<L.length) (e:L.getD i dP=x): ∃g c,v= .slice (some ⟨g,0,none⟩) L.length c/\
 w.cell? ⟨g,i*5,none⟩=some (.int .i64 x.k)/\w.cell? ⟨g,i*5+1,none⟩=some (.int .i64 x.a)/\w.cell? ⟨g,i*5+2,none⟩=some (.int .i64 x.b)/\w.cell? ⟨g,i*5+3,none⟩=some (.int .i64 x.n)/\w.cell? ⟨g,i*5+4,none⟩=some (.string x.t):=by
 obtain ⟨g,c,rfl,_⟩:=MP h.own;have q:=fun j (d:j<5)=>(h.own.cellAt (i*5+j) (by omega)).trans (al4 L i j hi d)
 rw [e] at q;exact ⟨g,c,rfl,q 0 (by omega),q 1 (by omega),q 2 (by omega),q 3 (by omega),q 4 (by omega)⟩
def iz.frame {w':World} {S:Nat->Prop} (h:iz w B v L) (b:Fr S w w') (a: ∀k,v.ownBlock=some k-> ¬S k):iz w' B v L:=⟨oh h.own b a⟩
structure iR (w:World) (B p:Nat) (v m:Value) (L:List bI):Prop where
 blk:w.heap[p]? =some (.cells #[v,m] 110 (0,0))
 iT:iz w B v L
def PN (h:iR w B p v m L) (hi:i<L.length) (a:L.length<=10000) (f:L.getD i dP=x):
 Calls Tryz.prog 42 #[ptr p,.int .i64 i] w fun e j=>e= .returned (.tuple #[gK x,.bool true])/\Fr (fun _=>False) w j:=by
 obtain ⟨g,c,rfl,c0,c1,k,l,o⟩:=h.iT.form hi f;have b:=mD h.blk 0;simp only [bM,bB] at b;have s:p<w.heap.size:=aj w _ b;have q:g<w.heap.size:=aj w _ c0;obtain ⟨n,d⟩:=pS L.length;rw [d] at hi a b;clear h f d;have t:(0:Int)<=(i:Int):=by omega
 have u:(i:Int)<(n:Int):=by omega
 unfold ptr gK;go_enter Tryz.func42,Tryz.ntmps42;go_wp2_with fail;refine bodyPost_ret (by simp [results,Tryz.results42,go_sem];try rfl) rfl ?_;exact ⟨rfl,(Fr.refl _ w).alloc _⟩
def aCB (h:iR w B p v m L) {i:Int} (hi:i<0\/(L.length:Int)<=i) (f:L.length<=10000):
 Calls Tryz.prog 42 #[ptr p,.int .i64 i] w fun e g=>e= .returned (.tuple #[gK dP,.bool false])/\Fr (fun _=>False) w g:=by
 have b:=mD h.blk 0;simp only [bM,bB] at b;have j:p<w.heap.size:=aj w _ b;obtain ⟨a,c,rfl⟩:=h.iT.slice;obtain ⟨n,d⟩:=pS L.length;rw [d] at hi f b;clear h d;unfold ptr gK dP;rcases hi with hi|hi
 all_goals
  go_enter Tryz.func42,Tryz.ntmps42;go_wp2_with fail;refine bodyPost_ret (by simp [results,Tryz.results42,go_sem];try rfl) rfl ?_;exact ⟨rfl,(Fr.refl _ w).alloc _⟩
def Bb {b:List Int} (h:w.ownsRow B 3 1 v b.length (ints b)):
 ∃a c,v= .slice a b.length c/\ ∀k,k<b.length-> ∃g,a=some ⟨g,0,none⟩/\w.cell? ⟨g,k,none⟩=some (.int .i64 (b.getD k 0)):=by
 by_cases d:0<b.length
 ·obtain ⟨g,c,rfl,_⟩:=MP h d
  exact ⟨_,c,rfl,fun k f=>⟨g,rfl,by rw [h.cellAt k (by omega),PK f]⟩⟩
 ·rcases h.2 with ⟨rfl,e⟩|⟨g,c,_,rfl,_⟩
  all_goals grind
end
section
open Go Go.RowKit Go.Ev
variable {g n b i k:Nat} {W w wr w':World} {l:List Rs} {v:Value} {arr:Array Value} {t:TypeId}
def D6 {S:Nat->Prop} (h:eD w v n) (q: ∀k,k<w.heap.size-> ¬S k->w'.heap[k]? =w.heap[k]?) (B: ∀(a:Addr) (x:Int),S a.block->w.cell? a≠some (.int .u32 x)):eD w' v n:=by
 obtain ⟨l,⟨⟨m,d⟩,o⟩,p⟩:=h;refine ⟨l,⟨⟨m,?_⟩,o⟩,p⟩;rcases d with d|⟨x,cap,e,s,z,A⟩
 ·exact .inl d
 ·refine .inr ⟨x,cap,e,s,z,fun j u f=> ?_⟩
  have hc:=A j u f;rw [<-hc];refine World.cell?_of_block (q _ (aj w _ hc) fun C=> ?_);obtain ⟨y,_,rfl⟩:=kD.1 (nB f);grind
def Zr (arr:Array Value) (k:Nat):Prop:=arr[k]? =some (.bool false)/\arr[k+1]? =some (.slice none 0 0)/\arr[k+2]? =some (.slice none 0 0)/\arr[k+3]? =some (.int .i64 0)
def Rr (w:World) (arr:Array Value) (k:Nat) (r:Rs):Prop:= ∃a f c1 d h e,(arr[k]? =some (.bool (decide (r.p<0)))/\arr[k+1]? =some (.slice a f c1)/\arr[k+2]? =some (.slice d h e)/\arr[k+3]? =some (.int .i64 r.s))/\eD w (.slice a f c1) r.p.natAbs/\eD w (.slice d h e) r.q
structure ur (W wr:World) (b g n:Nat) (l:List Rs) (i:Nat):Prop where
 below:Below W.heap.size W wr
 hb:W.heap.size<=b
 hg:W.heap.size<=g
 ne:b≠g
 box: ∃t,wr.heap[b]? =some (.cells #[.slice (some ⟨g,0,none⟩) n n] t (0,0))
 row: ∃arr,wr.heap[g]? =some (.cells arr 164 (0,0))/\arr.size=n*4/\(∀j,i<=j->j<n->Zr arr (j*4))/\ ∀j,j<i->Rr wr arr (j*4) (l.getD j eR)
def ur.blt (h:ur W wr b g n l i):b<wr.heap.size/\g<wr.heap.size:=by
 obtain ⟨t,e⟩:=h.box;obtain ⟨arr,a,_⟩:=h.row;grind
def ur.later (h:ur W wr b g n l i) (a:Below wr.heap.size wr w'):ur W w' b g n l i:=by
 obtain ⟨x,y⟩:=h.blt;obtain ⟨t,e⟩:=h.box;obtain ⟨arr,o,p,s,u⟩:=h.row;refine ⟨h.below.trans (a.mono h.below.size),h.hb,h.hg,h.ne,⟨t,(a.block _ x).trans e⟩,arr,(a.block _ y).trans o,p,s,fun j z=> ?_⟩;obtain ⟨d,A,c1,f,B,m,q,C,D⟩:=u j z;exact ⟨d,A,c1,f,B,m,q,C.below a,D.below a⟩
def ur.aCC (h:ur W wr b g n l i) (a:Addr) (x:Int) (d:a.block=g):wr.cell? a≠some (.int .u32 x):=by
 obtain ⟨k,o,J⟩:=a;have d:k=g:=d;subst d;obtain ⟨arr,j,E,m,p⟩:=h.row;intro e;have f:arr[o]? =some (.int .u32 x):=by
  simp only [World.cell?,j] at e;simp_all
 have G:o<n*4:=by grind
 have s:o=o/4*4+o % 4:=by omega
 have F:o % 4=0\/o % 4=1\/o % 4=2\/o % 4=3:=by omega
 rw [s] at f;by_cases q:i<=o/4
 ·obtain ⟨u,y,z,A⟩:=m (o/4) q (by omega)
  grind
 ·obtain ⟨B,H,c1,C,I,D,⟨u,y,z,A⟩,_⟩:=p (o/4) (by omega)
  grind
def g5 (h:w.heap[g]? =some (.cells arr t (0,0))) (a:arr[k]? =some v:=by simp):w.cell? ⟨g,k,none⟩=some v/\w.frozen? ⟨g,k,none⟩=false:=by
 refine ⟨by simp [World.cell?,h,a],by simp [World.frozen?,h]⟩
def ur.at (h:ur W wr b g n l i) (hi:i<n):
 (wr.cell? ⟨g,i*4,none⟩=some (.bool false)/\wr.cell? ⟨g,i*4+1,none⟩=some (.slice none 0 0)/\wr.cell? ⟨g,i*4+2,none⟩=some (.slice none 0 0)/\wr.cell? ⟨g,i*4+3,none⟩=some (.int .i64 0))/\
 wr.frozen? ⟨g,i*4,none⟩=false/\wr.frozen? ⟨g,i*4+1,none⟩=false/\wr.frozen? ⟨g,i*4+2,none⟩=false/\wr.frozen? ⟨g,i*4+3,none⟩=false:=by
 obtain ⟨arr,a,o,m,p⟩:=h.row;obtain ⟨d,e,f,j⟩:=m i (ak _) hi;exact ⟨⟨(g5 a d).1,(g5 a e).1,(g5 a f).1,(g5 a j).1⟩,(g5 a d).2,(g5 a e).2,(g5 a f).2,(g5 a j).2⟩
def ur.cell (h:ur W wr b g n l i):wr.cell? ⟨b,0,none⟩=some (.slice (some ⟨g,0,none⟩) n n)/\wr.frozen? ⟨b,0,none⟩=false:=by
 obtain ⟨t,e⟩:=h.box;exact g5 e
def heap_set (h:w.heap[g]? =some (.cells arr t (0,0))):(w.setCell ⟨g,k,none⟩ v).heap[g]? =some (.cells (arr.setIfInBounds k v) t (0,0)):=by
 have a:=lt_of_block h;have d:w.heap[g]= .cells arr t (0,0):=by simp_all
 show (w.heap.modify g _)[g]? =_;grind
def ur.next (h:ur W w b g n l i) (hi:i<n) {a1 a2:Option Addr} {k1 c1 k2 c2:Nat} (U:eD w (.slice a1 k1 c1) (l.getD i eR).p.natAbs) (X:eD w (.slice a2 k2 c2) (l.getD i eR).q):
 ur W ((((w.setCell ⟨g,i*4,none⟩ (.bool (decide ((l.getD i eR).p<0)))).setCell ⟨g,i*4+1,none⟩ (.slice a1 k1 c1)).setCell ⟨g,i*4+2,none⟩ (.slice a2 k2 c2)).setCell ⟨g,i*4+3,none⟩ (.int .i64 (l.getD i eR).s)) b g n l (i+1):=by
 obtain ⟨F,Y⟩:=h.blt;obtain ⟨t,e⟩:=h.box;obtain ⟨arr,B,C,D,E⟩:=h.row;have d:=h.ne;have o:Fr (fun k=>k=g) w ((((w.setCell ⟨g,i*4,none⟩ (.bool (decide ((l.getD i eR).p<0)))).setCell ⟨g,i*4+1,none⟩ (.slice a1 k1 c1)).setCell ⟨g,i*4+2,none⟩ (.slice a2 k2 c2)).setCell ⟨g,i*4+3,none⟩ (.int .i64 (l.getD i eR).s)):=
  ((((Fr.refl (fun k=>k=g) w).setCell (a:=⟨g,i*4,none⟩) _ (fun _=>rfl)).setCell (a:=⟨g,i*4+1,none⟩) _ (fun _=>rfl)).setCell (a:=⟨g,i*4+2,none⟩) _ (fun _=>rfl)).setCell (a:=⟨g,i*4+3,none⟩) _ (fun _=>rfl)
 have I:=heap_set (k:=i*4+3) (v:= .int .i64 (l.getD i eR).s) (heap_set (k:=i*4+2) (v:= .slice a2 k2 c2) (heap_set (k:=i*4+1) (v:= .slice a1 k1 c1) (heap_set (k:=i*4) (v:= .bool (decide ((l.getD i eR).p<0))) B)));have f: ∀ {v:Value} {m:Nat},eD w v m->eD ((((w.setCell ⟨g,i*4,none⟩ (.bool (decide ((l.getD i eR).p<0)))).setCell ⟨g,i*4+1,none⟩ (.slice a1 k1 c1)).setCell ⟨g,i*4+2,none⟩ (.slice a2 k2 c2)).setCell ⟨g,i*4+3,none⟩ (.int .i64 (l.getD i eR).s)) v m:=fun q=>D6 (S:=fun k=>k=g) q (fun k x H=>o.block k x H) h.aCC
 refine ⟨h.below.trans (o.oe (fun k x e=>by have:=h.hg;omega) h.below.size),h.hb,h.hg,d,⟨t,(o.block b F d).trans e⟩,_,I,by simp [C],fun j Z G=> ?_,fun j hj=> ?_⟩
 ·obtain ⟨P,Q,R,T⟩:=D j (by omega) G
  refine ⟨?_,?_,?_,?_⟩<;>(repeat rw [bX (by omega)])<;>assumption
 ·by_cases u:j=i
  ·subst u
   refine ⟨a1,k1,c1,a2,k2,c2,⟨?_,?_,?_,?_⟩,f U,f X⟩
   ·simp_all
   ·rw [bX (by omega),bX (by omega),dJ (by simp;omega)]
   ·rw [bX (by omega),dJ (by simp;omega)]
   ·rw [dJ (by simp;omega)]
  ·obtain ⟨b1,J,z,y,M,A,⟨P,Q,R,T⟩,N,O⟩:=E j (by omega)
   refine ⟨b1,J,z,y,M,A,⟨?_,?_,?_,?_⟩,f N,f O⟩<;>(repeat rw [bX (by omega)])<;>assumption
def zO (x:bI):Nx:=⟨x.k,x.a,x.b,x.n,x.t.data.toList⟩
def aCD {L:List bI} (T:Ud (L.map zO) l) (hl:l.length=L.length) (A:L.length<=100000) (hi:i<L.length) (h:ur W w b g L.length l i) (I:bw w) {x:bI} (Y:L.getD i dP=x):
 Calls Tryz.prog 149 #[gK x,.func (.func 150) #[] #[.pointer (some ⟨b,0,none⟩)]] w fun e w'=> ∃m B c1 o C y,e= .returned (.agg #[.bool (decide ((l.getD i eR).p<0)),.slice m B c1,.slice o C y,.int .i64 (l.getD i eR).s])/\eD w' (.slice m B c1) (l.getD i eR).p.natAbs/\eD w' (.slice o C y) (l.getD i eR).q/\Below w.heap.size w w':=by
 subst Y;have R:(L.map zO).getD i Cu=zO (L.getD i dP):=by
  rw [aD,aD,dL,aO hi];rfl
 have H:=(T.2 i (by omega)).2;rw [R] at H;have M:(l.take i).length=i:=by rw [cY];omega
 obtain ⟨N,J⟩:=h.blt;refine (H (fun _=>False) w [gK (L.getD i dP),.func (.func 150) #[] #[.pointer (some ⟨b,0,none⟩)]] (fun _ e=>e.elim) (fun w' a=> ?_) (fun w' a=> ?_)).mono ?_
 ·exact fun j f=>(World.cell?_of_block (a _ (aj w _ (I j f)) fun e=>e)).trans (I j f)
 ·have E: ∀k,k<w.heap.size->w'.heap[k]? =w.heap[k]? :=fun k z=>a k z fun e=>e
  obtain ⟨arr,O,e3,e4,P⟩:=h.row;refine ⟨_,_,rfl,rfl,_,_,rfl,⟨_,rfl,b,g,L.length,L.length,rfl,?_,⟨by omega,A⟩,fun j f=> ?_⟩,rfl⟩
  ·exact (World.cell?_of_block (E _ N)).trans h.cell.1
  ·rw [M] at f
   obtain ⟨m,B,c1,o,C,y,⟨Z,q1,q2,q3⟩,F,G⟩:=P j f;have D:w'.heap[g]? =some (.cells arr 164 (0,0)):=(E _ J).trans O;have U:(l.take i).getD j eR=l.getD j eR:=by rw [aD,aD,List.getElem?_take_of_lt f]
   rw [U];exact ⟨_,_,(g5 D Z).1,(g5 D q1).1,(g5 D q2).1,(g5 D q3).1,D6 (S:=fun _=>False) F (fun k z _=>E k z) (fun _ _ e=>e.elim),D6 (S:=fun _=>False) G (fun k z _=>E k z) (fun _ _ e=>e.elim)⟩
 ·rintro e w' ⟨v,rfl,X,Q⟩
  obtain ⟨u,d,rfl,F,G⟩:=X w' (fun _ _ _=>rfl);obtain ⟨m,B,c1,rfl,_⟩:=F.form;obtain ⟨o,C,y,rfl,_⟩:=G.form;exact ⟨m,B,c1,o,C,y,rfl,F,G,Q⟩
end
section
open Go Go.RowKit
variable {L:List bI} {D H H':List Int} {m x:Int}
def Ke {l:List Int} {k:Nat} (a:k<l.length:=by omega):l.getD k 0∈l:=Hn.2 ⟨k,a,rfl⟩
def Ho (L:List bI) (i:Int):bI:=L.getD i.toNat dP
def xD (L:List bI):Prop:= ∀i:Nat,i<L.length-> ∀a∈args (L.getD i dP),0<=a/\a<(i:Int)
inductive Reach (L:List bI) (id:Int):Int->Prop
 |self:Reach L id id
 |step {x a:Int} :Reach L id x->a∈args (Ho L x)->Reach L id a
def Reach.bound {id:Int} (b:xD L) (f:0<=id) (g:id<L.length) (h:Reach L id x):0<=x/\x<=id:=by
 induction h with
 |self=>omega
 |step h d i=>
  rename_i x a;have e:x.toNat<L.length:=by omega
  have:=b x.toNat e a d;omega
open Classical in
def partsOf (L:List bI) (id:Int):List Int:=((List.range L.length).filter (fun i:Nat=>decide (Reach L id ((i:Nat):Int)))).map (fun i:Nat=>(i:Int))
def al5: ∀ {a b:List Int},a.Pairwise (· < ·)->b.Pairwise (· < ·)->(∀x,x∈a↔x∈b)->a=b
 | [],[],_,_,_=>rfl
 | [],y::b,_,_,h=>by have:=(h y).2 (aC ..);grind
 |x::a,[],_,_,h=>by have:=(h x).1 (aC ..);grind
 |x::a,y::b,i,j,h=>by
  obtain ⟨k,d⟩:=kf.1 i;obtain ⟨b1,f⟩:=kf.1 j;have e:x=y:=by
   rcases bq.1 ((h x).1 (aC ..)) with e|e
   ·exact e
   ·rcases bq.1 ((h y).2 (aC ..)) with g|g
    all_goals grind
  subst e;rw [al5 d f fun z=> ?_];grind
def aCE: ∀n:Nat,(List.range n).Pairwise (· < ·):=fun _=>List.pairwise_lt_range
def al6 (L:List bI) (id:Int):(partsOf L id).Pairwise (· < ·):=by
 unfold partsOf;rw [List.pairwise_map];exact ((aCE L.length).filter _).imp fun h=>by omega
def Za {id:Int} (d:xD L) (a:0<=id:=by omega) (b:id<L.length:=by omega) :x∈partsOf L id↔Reach L id x:=by
 unfold partsOf;simp only [kD,List.mem_filter,mO,decide_eq_true_eq];constructor
 ·grind
 ·intro h
  have:=h.bound d a b;exact ⟨x.toNat,⟨by omega,by grind⟩,jX this.1⟩
structure Hp (L:List bI) (id:Int) (H D:List Int):Prop where
 rh: ∀x∈H,Reach L id x
 rd: ∀d∈D,Reach L id d
 desc:D.Pairwise fun a b=>b<a
 le: ∀x∈H,∀d∈D,x<=d
 MY:id∈H\/id∈D
 cl: ∀d∈D,∀a∈args (Ho L d),a∈H\/a∈D
def aCF (L:List bI) (id:Int):Hp L id [id] [] where
 rh:=fun x hx=>by simp at hx;subst hx;exact .self
 rd:=fun d hd=>by cases hd
 desc:= .nil
 le:=fun _ _ d hd=>by cases hd
 MY:= .inl (by simp)
 cl:=fun d hd=>by cases hd
def aCG {id:Int} (h:Hp L id H D) (hm:m∈D) (h1: ∀y∈H',y∈H) (h2: ∀y∈H,y∈H'\/y=m):Hp L id H' D where
 rh:=fun x hx=>h.rh x (h1 x hx)
 rd:=h.rd
 desc:=h.desc
 le:=fun x hx d hd=>h.le x (h1 x hx) d hd
 MY:=by
  rcases h.MY with e|e
  all_goals grind
 cl:=fun d hd a ha=>by
  rcases h.cl d hd a ha with e|e
  all_goals grind
def aCH {id:Int} (h:Hp L id H D) (f:m∈H) (l: ∀z,D.getLast? =some z->z≠m): ∀d∈D,m<d:=fun d b=>by
 have i:=h.le m f d b;rcases Int.lt_or_eq_of_le i with e|e
 ·exact e
 ·subst e
  exfalso;cases g:D.getLast? with
  |none=>simp_all
  |some z=>
   have j:z∈D:=List.mem_of_getLast? g;have k:=h.le m f z j;obtain ⟨a,rfl⟩: ∃a,D=a++ [z]:=by
    have:=List.getLast?_eq_some_iff.1 g;omega
   rcases b8.1 b with e|e
   ·have:=(nN.1 h.desc).2.2 m e z (by simp)
    omega
   simp_all
def aCI {id:Int} (g:xD L) (p:0<=id) (q:id<L.length) (h:Hp L id H D) (j:m∈H) (k: ∀y∈H,y<=m) (t: ∀z,D.getLast? =some z->z≠m)
 (s: ∀y,y∈H'->y∈H\/y∈args (Ho L m)) (C: ∀y∈H,y∈H'\/y=m) (E: ∀y∈args (Ho L m),y∈H'):Hp L id H' (D++ [m]):=by
 have A:=aCH h j t;have l:=h.rh m j;have F:=l.bound g p q;have G: ∀y∈args (Ho L m),y<m:=fun y u=>by
  have:=g m.toNat (by omega) y u;omega
 refine ⟨fun x o=> ?_,fun d f=> ?_,?_,fun x o d f=> ?_,?_,fun d f a i=> ?_⟩
 ·rcases s x o with e|e
  ·exact h.rh x e
  ·exact .step l e
 ·rcases b8.1 f with e|e
  ·exact h.rd d e
  simp_all
 ·refine nN.2 ⟨h.desc,by simp,fun a i b B=> ?_⟩
  simp_all
 ·grind
 ·rcases h.MY with e|e
  all_goals grind
 ·rcases b8.1 f with e|e
  ·rcases h.cl d e a i with e|e
   all_goals grind
  simp_all
def aCJ {id:Int} (d:xD L) (a:0<=id) (b:id<L.length) (h:Hp L id [] D):D.reverse=partsOf L id:=by
 refine al5 (List.pairwise_reverse.2 h.desc) (al6 L id) fun x=> ?_
 rw [Za d a b,List.mem_reverse];refine ⟨h.rd x,fun g=> ?_⟩
 induction g with
 |self=>rcases h.MY with e|e;cases e;exact e
 |step _ f i=>rcases h.cl _ i _ f with e|e;cases e;exact e
def Uk {id:Int} (k:xD L) (i:0<=id) (j:id<L.length) (h:Hp L id H D):D.length<=L.length:=by
 have f: ∀(l:List Int) (b:Nat),l.Pairwise (fun a b=>b<a)->(∀d∈l,0<=d/\d<(b:Int))->l.length<=b:=by
  intro l
  induction l with
  |nil=>simp_all
  |cons x l p=>
   intro b o g;obtain ⟨t,q⟩:=kf.1 o;have s:=g x (aC ..);have:=p x.toNat q fun d e=>⟨(g d (aw _ e)).1,by grind⟩
   grind
 exact f D L.length h.desc fun d e=>by have:=(h.rd d e).bound k i j;omega
end
section
open Go.Proofs.Tryz Go Go.RowKit
variable {W wr w' w5 w w6:World} {L:List bI} {dv hv v' uu v av m jQ:Value} {D H l' H2 D' E:List Int} {q n B i g p dn k:Nat} {o:Obj} {y:bI}
structure D7 (W wr:World) (q:Nat) (L:List bI) (id:Int) (hv dv:Value) (H D:List Int):Prop where
 heap:iW wr W.heap.size q hv H
 ho:HO H
 down:wr.ownsRow W.heap.size 3 1 dv D.length (ints D)
 q0:W.heap.size<=q
 apart: ∀k,hv.ownBlock=some k->dv.ownBlock≠some k
 qd:dv.ownBlock≠some q
 inv:Hp L id H D
 below:Below W.heap.size W wr
 len:H.length<=2*D.length+1
def aCK (x:Int): ∀w:World,Sem.run prog (Instr.typeAssert (.iface 3 (.int .i64 x)) 20 3 false) w= .ok (.int .i64 x) w:=fun w=>alV x w
def iR.below (h:iR w B p v m L) (a:Below w.heap.size w w'):iR w' B p v m L:=
 ⟨(a.block p (au.1 h.blk).1).trans h.blk,h.iT.frame (Fr.iE (S:=fun _=>False) a) (fun _ _ e=>e)⟩
def al7:Value->Nat
 | .slice _ n _=>n
 |_=>0
def Hq (q:Nat) (dv:Value) (wr:World):Nat:=3*(5000-al7 dv)+al7 ((wr.cell? ⟨q,0,none⟩).getD undef)
def ry {xs:List Value} (h:w.ownsRow B 3 1 v n xs): ∃a c,v= .slice a n c:=by
 rcases h.2 with ⟨rfl,e⟩|⟨g,c,_,rfl,_⟩
 all_goals grind
def D7.measure {id:Int} (h:D7 W wr q L id hv dv H D):Hq q dv wr=3*(5000-D.length)+H.length:=by
 obtain ⟨a,c,rfl⟩:=ry h.down;have:=h.heap.cell;obtain ⟨b,d,rfl⟩:=h.heap.slice;unfold Hq;rw [this];rfl
def aCL {w1:World} (hb:Below W.heap.size W w1):
 D7 W (((w1.alloc o).alloc (.cells #[.int .i64 i] 3)).alloc (.cells #[.slice (some ⟨w1.heap.size+1,0,none⟩) 1 1] 210)) (w1.heap.size+1+1) L i (.slice (some ⟨w1.heap.size+1,0,none⟩) 1 1) (.slice none 0 0) [(i:Int)] [] where
 heap:=by
  have hs:=hb.size;refine ⟨?_,?_,?_⟩
  ·show ((((w1.heap.push o).push _).push _))[w1.heap.size+1+1]? =_
   grind
  ·have:=World.ownsRow_lit (base:=W.heap.size) (e:=3) (size:=1) (w1.alloc o) #[.int .i64 i] 1 (by simp;omega) (by unfold maxLen;omega) rfl
   simpa [ints] using this.alloc _
  ·simp [Value.ownBlock]
 ho:=fun i h0 h1=>by simp_all
 down:=World.ownsRow_nil _ _ _ _
 q0:=by have:=hb.size;omega
 apart:=fun k _=>by simp [Value.ownBlock]
 qd:=by simp [Value.ownBlock]
 inv:=aCF L i
 below:=by
  have hs:=hb.size;exact ((hb.alloc hs _).alloc (by simp;omega) _).alloc (by simp;omega) _
 len:=by simp
structure MZ (W wr w':World) (q:Nat) (L:List bI) (id:Int) (hv dv v':Value) (H D l':List Int) (n:Nat):Prop where
 old:D7 W wr q L id hv dv H D
 heap:iW w' W.heap.size q v' l'
 ho:HO l'
 len:l'.length=n
 mem: ∀y,y∈l'->y∈H
 ad1: ∀y,y∈H->y∈l'\/y=H.getD 0 0
 own:v'.ownBlock=hv.ownBlock
 down:w'.ownsRow W.heap.size 3 1 dv D.length (ints D)
 below:Below W.heap.size W w'
 hn:H.length=n+1
def aCM {id:Int} (h:D7 W wr q L id hv dv H D) (hn:H.length=n+1)
 (p:iW w' W.heap.size q v' l'/\HO l'/\l'.length=n/\(∀y,y∈l'->y∈H)/\(∀y,y∈H->y∈l'\/y=H.getD 0 0)/\v'.ownBlock=hv.ownBlock/\Fr (fun k=>k=q\/hv.ownBlock=some k) wr w'):MZ W wr w' q L id hv dv v' H D l' n where
 old:=h
 heap:=p.1
 ho:=p.2.1
 len:=p.2.2.1
 mem:=p.2.2.2.1
 ad1:=p.2.2.2.2.1
 own:=p.2.2.2.2.2.1
 down:=oh h.down p.2.2.2.2.2.2 fun k hk e=>by
  rcases e with rfl|e
  ·exact h.qd hk
  ·exact h.apart k e hk
 below:=h.below.trans (p.2.2.2.2.2.2.oe (fun k hk e=>by
  rcases e with rfl|e
  ·have:=h.q0;omega
  ·have:=(h.heap.own.lt k e).1;omega) h.below.size)
 hn:=hn
def MZ.al8 {id:Int} (h:MZ W wr w' q L id hv dv v' H D l' n):H.getD 0 0∈H:=
 Hn.2 ⟨0,by have:=h.hn;omega,rfl⟩
def MZ.dup {id:Int} (h:MZ W wr w' q L id hv dv v' H D l' n) (hm:H.getD 0 0∈D):D7 W w' q L id v' dv l' D where
 heap:=h.heap
 ho:=h.ho
 down:=h.down
 q0:=h.old.q0
 apart:=fun k hk=>h.old.apart k (by rw [<-h.own];omega)
 qd:=h.old.qd
 inv:=aCG h.old.inv hm h.mem h.ad1
 below:=h.below
 len:=by have:=h.old.len;have:=h.len;have:=h.hn;omega
def Bc {d:Array Oper} {b:List Oper} {o:Oper} {a:Act} {Q:Exit->Act->World->Prop} (S:o.guard=none) (s x:Operand) (M:o.op= .call {callee:= .builtin .append,args:= #[s,x],argTypes:= #[22,22]})
 (base:Nat) (R:base<=w.heap.size) (v:Value) (n:Nat) (xs:List Value) (N:a.eval s=v) (l:w.ownsRow base 3 1 v n xs) (B:Nat) (p:Value) (O:a.eval x= .slice (some ⟨B,0,none⟩) 1 1)
 (J:w.heap[B]? =some (.cells #[p] 3 (0,0))) (C:p.oneCell'=true) (T:n<=100000)
 (h: ∀g cap w',w'.ownsRow base 3 1 (.slice (some ⟨g,0,none⟩) (n+1) cap) (n+1) (xs++ [p])->Fr (fun k=>v.ownBlock=some k) w w'->(v.ownBlock=some g\/w.heap.size<=g)->
  wpList prog d Q b (a.put o.dst (.slice (some ⟨g,0,none⟩) (n+1) cap)) w'):wpList prog d Q (o::b) a w:=by
 obtain ⟨P,j,z,A,t⟩:=info_parts Tryz.info3;refine wpList_append_lies w S s x 22 M base 3 P _ 1 8 underlying22 j z A t rfl (by omega) v n xs N l ⟨B,0,none⟩ 1 1 [p] O rfl (World.news_of_block (cs:= #[p]) J)
  (by intro u f;simp at f;rw [f];exact C) (by omega) (by unfold maxLen;omega) (by omega) R w.heap.size rfl ?_
 intro g cap w' F G I _;exact h g cap w' F (vW G) (I.imp id (fun e=>by omega))
structure PQ (W wr w5:World) (q:Nat) (L:List bI) (id:Int) (hv dv v' uu:Value) (H D l':List Int) (n:Nat):Prop where
 pop: ∃w4,MZ W wr w4 q L id hv dv v' H D l' n
 heap:iW w5 W.heap.size q v' l'
 ho:HO l'
 down:w5.ownsRow W.heap.size 3 1 uu (D.length+1) (ints (D++ [H.getD 0 0]))
 apart: ∀k,v'.ownBlock=some k->uu.ownBlock≠some k
 qd:uu.ownBlock≠some q
 below:Below W.heap.size W w5
def al9 {b:World} {cap:Nat} {id t:Int} (h:MZ W wr b q L id hv dv v' H D l' n) (u:H.getD 0 0=t) (x:D.length=dn)
 (A:w5.ownsRow W.heap.size 3 1 (.slice (some ⟨g,0,none⟩) (dn+1) cap) (dn+1) (ints D++ [.int .i64 t])) (l:Fr (fun k=>dv.ownBlock=some k) (b.alloc o) w5) (a:dv.ownBlock=some g\/(b.alloc o).heap.size<=g):
 PQ W wr w5 q L id hv dv v' (.slice (some ⟨g,0,none⟩) (dn+1) cap) H D l' n:=by
 subst x;have s:(b.alloc o).heap.size=b.heap.size+1:=by simp
 have z:=h.heap.lt;have j:Fr (fun k=>dv.ownBlock=some k) b w5:=((Fr.refl (fun k=>dv.ownBlock=some k) b).alloc o).trans l (fun _ _ e=>e);refine ⟨⟨_,h⟩,h.heap.frame j h.old.qd (fun k f e=> ?_),h.ho,?_,fun k f e=> ?_,fun e=> ?_,h.below.trans (j.oe (fun k f e=>by have:=(h.down.lt k e).1;omega) h.below.size)⟩
 ·exact h.old.apart k (by rw [<-h.own];omega) e
 ·rw [u]
  have:ints (D++ [t])=ints D++ [.int .i64 t]:=by simp [ints]
  simp_all
 ·have d:g=k:=by simpa [Value.ownBlock] using e
  subst d;rcases a with a|a
  ·exact h.old.apart g (by rw [<-h.own];omega) a
  ·have:=(h.heap.own.lt g f).2;omega
 ·have d:g=q:=by simpa [Value.ownBlock] using e
  subst d;rcases a with a|a
  ·exact h.old.qd a
  omega
def PQ.quiet {id:Int} (h:PQ W wr w5 q L id hv dv v' uu H D l' n) (hf:Fr (fun _=>False) w5 w6):PQ W wr w6 q L id hv dv v' uu H D l' n where
 pop:=h.pop
 heap:=h.heap.quiet hf
 ho:=h.ho
 down:=oh h.down hf (fun _ _ e=>e)
 apart:=h.apart
 qd:=h.qd
 below:=h.below.trans (hf.below.mono h.below.size)
structure PR (W wr:World) (q:Nat) (uu av jQ:Value) (l' H2 zs D':List Int) (k:Nat):Prop where
 heap:iW wr W.heap.size q jQ H2
 ho:HO H2
 len:H2.length=l'.length+k
 mem: ∀y,y∈H2↔y∈l'\/y∈zs.take k
 down:wr.ownsRow W.heap.size 3 1 uu D'.length (ints D')
 row: ∃B,wr.ownsRow B 3 1 av zs.length (ints zs)
 apart: ∀k,jQ.ownBlock=some k->uu.ownBlock≠some k/\av.ownBlock≠some k
 qd:uu.ownBlock≠some q
 qa:av.ownBlock≠some q
 below:Below W.heap.size W wr
def ama {w8:World} {id:Int} (h:PQ W wr w6 q L id hv dv v' uu H D l' n) (ha:MR w6 y av w8):PR W w8 q uu av v' l' l' (args y) (D++ [H.getD 0 0]) 0 where
 heap:=h.heap.frame (S:=fun _=>False) (Fr.iE ha.1) (fun e=>e) (fun _ _ e=>e)
 ho:=h.ho
 len:=rfl
 mem:=fun y=>by simp
 down:=by
  have:=oh (S:=fun _=>False) h.down (Fr.iE ha.1) (fun _ _ e=>e);simp_all
 row:=⟨_,ha.2⟩
 apart:=fun k hk=>⟨h.apart k hk,fun e=>by have:=(ha.2.lt k e).1;have:=(h.heap.own.lt k hk).2;omega⟩
 qd:=h.qd
 qa:=fun e=>by have:=(ha.2.lt q e).1;have:=h.heap.lt;omega
 below:=h.below.trans (ha.1.mono h.below.size)
def amc {f:Value} {b d:List Int} (h:PR W wr q uu av jQ l' H2 d D' k) (C:k<d.length)
 (p:iW w' W.heap.size q f b/\HO b/\b.length=H2.length+1/\(∀y,y∈b↔y=d.getD k 0\/y∈H2)/\(∀k,f.ownBlock=some k->jQ.ownBlock=some k\/wr.heap.size<=k)/\Fr (fun k=>k=q\/jQ.ownBlock=some k) wr w')
 (F:W.heap.size<=q):PR W w' q uu av f l' b d D' (k+1):=by
 obtain ⟨u,x,G,z,A,s⟩:=p;obtain ⟨B,t⟩:=h.row;refine ⟨u,x,by have:=h.len;omega,fun y=> ?_,oh h.down s fun j a e=> ?_,⟨B,oh t s fun j a e=> ?_⟩,fun j a=> ?_,h.qd,h.qa,h.below.trans (s.oe (fun j a e=> ?_) h.below.size)⟩
 ·rw [z y,h.mem y,iY,b8]
  grind
 ·rcases e with rfl|e
  ·exact h.qd a
  ·exact (h.apart j e).1 a
 ·rcases e with rfl|e
  ·exact h.qa a
  ·exact (h.apart j e).2 a
 ·rcases A j a with e|e
  ·exact h.apart j e
  ·exact ⟨fun l=>by have:=(h.down.lt j l).2;omega,fun l=>by have:=(t.lt j l).2;omega⟩
 ·rcases e with rfl|e
  ·omega
  ·have:=(h.heap.own.lt j e).1;omega
def ad2 {a:World} {id:Int} {d:Value} {b:List Int} (h:D7 W wr q L id hv dv H D) (h':D7 W a q L id d uu b D') (c:3*(5000-D'.length)+b.length<3*(5000-D.length)+H.length):Hq q uu a<Hq q dv wr:=by
 rw [h.measure,h'.measure];exact c
def vX (x:bI):(args x).length<=2:=by unfold args;split;simp;split<;>simp
def amd {id:Int} (t:xD L) (l:0<=id) (s:id<L.length)
 (h:PQ W wr w5 q L id hv dv v' uu H D l' n) (x: ∀z,D.getLast? =some z->z≠H.getD 0 0) (j:Ho L (H.getD 0 0)=y) (b:PR W w' q uu av jQ l' H2 (args y) (D++ [H.getD 0 0]) (args y).length):
 D7 W w' q L id jQ uu H2 (D++ [H.getD 0 0]):=by
 obtain ⟨J,a⟩:=h.pop;have d:=b.mem;rw [g7] at d;exact {
  heap:=b.heap
  ho:=b.ho
  down:=b.down
  q0:=a.old.q0
  apart:=fun k u=>(b.apart k u).1
  qd:=b.qd
  inv:=aCI t l s a.old.inv a.al8 (fun y j=>aCz a.old.ho j) x
   (fun z f=>((d z).1 f).imp (a.mem z) (fun e=>by simp_all))
   (fun z f=>(a.ad1 z f).imp (fun e=>(d z).2 (.inl e)) (fun e=>e))
   (fun z f=>(d z).2 (.inr (by simp_all)))
  below:=b.below
  len:=by
   have A:=b.len;have C:=a.len;have F:=a.hn;have G:=a.old.len;have I:=vX y;grind}
structure PT (W wr:World) (g:Nat) (dv:Value) (D E:List Int) (k:Nat):Prop where
 row:wr.ownsRow W.heap.size 3 1 (.slice (some ⟨g,0,none⟩) D.length D.length) D.length (ints E)
 len:E.length=D.length
 done: ∀j,j<k->E.getD (D.length-1-j) 0=D.getD j 0
 down:wr.ownsRow W.heap.size 3 1 dv D.length (ints D)
 ne:dv.ownBlock≠some g
 g0:W.heap.size<=g
 below:Below W.heap.size W wr
def aCN {l:List Int} (hi:i<l.length) (x:Int) (j:Nat):(l.set i x).getD j 0=if i=j then x else l.getD j 0:=by
 grind
def aCO (h:PT W wr g dv D E k) (hk:k<D.length):PT W (wr.setCell ⟨g,D.length-1-k,none⟩ (.int .i64 (D.getD k 0))) g dv D (E.set (D.length-1-k) (D.getD k 0)) (k+1) where
 row:=by rw [ints_set];exact (h.row.stored _ _).1
 len:=by rw [bu];exact h.len
 done:=fun j hj=>by
  rw [aCN (by have:=h.len;omega)];by_cases e:j=k
  ·simp_all
  ·rw [if_neg (by omega)];exact h.done j (by omega)
 down:=oh (S:=fun k=>k=g) h.down ((Fr.refl _ wr).setCell _ (fun _=>rfl)) (fun k hk e=>h.ne (by rw [hk,e]))
 ne:=h.ne
 g0:=h.g0
 below:=h.below.setCell (by exact h.g0) _
def aCP (h:PT W wr g dv D E D.length):E=D.reverse:=by
 apply kh;intro i;by_cases b:i<D.length
 ·have a:=h.done (D.length-1-i) (by omega)
  rw [show D.length-1-(D.length-1-i)=i by omega] at a;rw [aO (by have:=h.len;omega),List.getElem?_reverse b,aO (by omega)];grind
 ·rw [bS (by have:=h.len;omega),bS (by simp;omega)]
def aCQ {w3:World} {id:Int} (h:D7 W w3 q L id hv dv H D) (kK:D.length=dn)
 (h1:w5.ownsRow W.heap.size 3 1 (.slice (some ⟨w3.heap.size,0,none⟩) dn dn) dn (madeCells (Value.int .i64 0).cells (dn*1)).toList) (h2:w3.grownBy w5 none):PT W w5 w3.heap.size dv D (List.replicate D.length 0) 0 where
 row:=by
  subst kK;have e:(madeCells (Value.int .i64 0).cells (D.length*1)).toList=ints (List.replicate D.length 0):=by
   show (madeCells #[.int .i64 0] (D.length*1)).toList=_;rw [toList_madeCells_one,fw];simp [ints]
  simp_all
 len:=by simp
 done:=fun j hj=>by omega
 down:=oh h.down (vW h2) (fun k _ e=>by cases e)
 ne:=fun e=>by have:=(h.down.lt _ e).2;omega
 g0:=h.below.size
 below:=h.below.trans ((vW h2).oe (fun k _ e=>by cases e) h.below.size)
def aCR (hg:iR W B p v m L) (hL:xD L) (J: ∀i,i<L.length->1<=(L.getD i dP).k/\(L.getD i dP).k<=16) (hl:L.length<=4096) (hi:i<L.length):
 Calls prog 92 #[ptr p,.int .i64 i] W fun e w'=> ∃ov,e= .returned ov/\w'.ownsRow W.heap.size 3 1 ov (partsOf L i).length (ints (partsOf L i))/\Below W.heap.size W w':=by
 have G:=ae (af hg (af hL (af J (af hl hi))));have hp:p<W.heap.size:=(au.1 hg.blk).1;clear hg hL J hl hi;unfold ptr;go_enter func92,ntmps92;go_wp2_with fail;refine (PN G.out.1 G.out.2.2.2.2 (by have:=G.out.2.2.2.1;omega) rfl).mono ?_;rintro e w1 ⟨rfl,mL⟩;unfold gK;generalize L.getD i dP=x;have mj:=ae mL.below;clear mL;go_wp2_with fail;have R:=aCL (L:=L) (i:=i) (o:= .cells #[.int .i64 x.k,.int .i64 x.a,.int .i64 x.b,.int .i64 x.n,.string x.t] 90) mj.out;obtain ⟨q,hq⟩:=pS (w1.heap.size+1+1);rw [hq] at R⊢;generalize ((w1.alloc (.cells #[.int .i64 x.k,.int .i64 x.a,.int .i64 x.b,.int .i64 x.n,.string x.t] 90)).alloc (.cells #[.int .i64 i] 3)).alloc (.cells #[.slice (some ⟨w1.heap.size+1,0,none⟩) 1 1] 210)=w2 at R⊢;have GS:=ae R;clear R hq;go_loopw [8] (fun dv wr=> ∃hv H D,D7 W wr q L i hv dv H D) (fun dv wr=>Hq q dv wr)
 case atStart=>exact ⟨_,_,_,GS.out⟩
 case round=>
  obtain ⟨hv,H,D,R⟩:=hrel;obtain ⟨da,dc,rfl⟩:=ry R.down;have HO:=ae R;clear R GS mj;go_wp2_with fail;refine (adT HO.out.heap).mono ?_;rintro e w3 ⟨rfl,rfl⟩;by_cases h0:H.length=0
  ·rw [h0]
   obtain ⟨i0,eT,fL,gd,fG⟩:=info_parts Tryz.info3;obtain ⟨dn,kK⟩:=pS D.length;have Z:dn<=4096:=by
    have f:=Uk G.out.2.1 (id:=(i:Int)) (by omega) (by have:=G.out.2.2.2.2;omega) HO.out.inv;have:=G.out.2.2.2.1;omega
   have P:=ae (af kK h0);rw [kK];clear kK h0;go_wp2_with (refine wpList_make_full w3 rfl (.tmp 72) (.tmp 72) 22 rfl W.heap.size 3 i0 _ 1 underlying22 eT fL gd _ _ _ _ dn rfl rfl rfl rfl (by rw [fG];omega) (by unfold maxLen;omega) HO.out.below.size ?_;intro w5 PU Um;have Zc:=ae (aCQ HO.out P.out.1 PU Um);clear PU Um);obtain ⟨g,qV⟩:=pS w3.heap.size;rw [qV] at Zc⊢;clear qV eT fL gd fG;go_loopw [76] (fun M wr=> ∃(k:Nat) (E:List Int),M= .int .i64 (k:Int)/\k<=dn/\PT W wr g (.slice da D.length dc) D E k) (fun M _=>dn-(intOf M).toNat)
   case atStart=>exact ⟨0,_,rfl,by omega,Zc.out⟩
   case round=>
    obtain ⟨k,E,rfl,J,l⟩:=hrel;have Vr:=ae l;by_cases C:k<dn
    ·obtain ⟨a4,c4,e4,pH⟩:=Bb l.down
     obtain ⟨g4,e5,uf⟩:=pH k (by rw [P.out.1];exact C);cases e4;subst e5;obtain ⟨z,hz⟩:=pS (D.getD k 0);rw [hz] at uf;obtain ⟨b,hb⟩:=pS (dn-1-k);have mG:b<E.length:=by have:=l.len;have:=P.out.1;omega
     have hcb:wr.cell? ⟨g,b,none⟩=some (.int .i64 (E.getD b 0)):=by
      have f:=l.row;rw [<-l.len] at f;have Q:=f.cellAt b (by omega);rw [Q,PK mG]
     have hfb:=l.row.frozenAt b;obtain ⟨u,hu⟩:=pS (E.getD b 0);rw [hu] at hcb;obtain ⟨m2,mF⟩: ∃m2:Int,(dn:Int)-1=m2:=⟨_,rfl⟩;have A9:IntKind.i64.wrap ((dn:Int)-1)=m2:=by rw [<-mF];exact aB _ ⟨by omega,by omega⟩
     have i6:IntKind.i64.wrap (m2-(k:Int))=(b:Int):=by rw [<-mF,aB _ ⟨by omega,by omega⟩];omega
     have jG:(0:Int)<=(k:Int):=by omega
     have Di:(k:Int)<(dn:Int):=by omega
     have oI:(0:Int)<=(b:Int):=by omega
     have bP:(b:Int)<(dn:Int):=by omega
     have lU:=ae (by have f:=aCO l (by rw [P.out.1];exact C);rw [show D.length-1-k=b by rw [P.out.1];exact hb,hz] at f;exact f:PT W (wr.setCell ⟨g,b,none⟩ (.int .i64 z)) g (.slice (some ⟨g4,0,none⟩) D.length dc) D (E.set b z) (k+1));have I:=ae C;clear l Vr pH hz hb mG hu mF C J Zc HO;go_wp2_with fail;go_roundw
     case rel=>exact ⟨k+1,_,by go_num,by have:=I.out;omega,lU.out⟩
     case measure=>have:=I.out;simp [intOf];omega
    ·have Cz:k=dn:=by omega
     have O:D.reverse=partsOf L i:=by
      have f:=HO.out.inv;rw [b7 P.out.2] at f;exact aCJ G.out.2.1 (by omega) (by have:=G.out.2.2.2.2;omega) f
     have CQ:wr.ownsRow W.heap.size 3 1 (.slice (some ⟨g,0,none⟩) dn dn) (partsOf L i).length (ints (partsOf L i))/\Below W.heap.size W wr:=by
      rw [Cz,<-P.out.1] at l;have f:=aCP l;have Q:=l.row;rw [f] at Q;rw [<-P.out.1];refine ⟨?_,l.below⟩;rw [<-O,List.length_reverse];exact Q
     have Im:=ae CQ;subst Cz;clear l Vr O CQ J Zc HO;go_wp2_with fail;go_ret;exact ⟨_,rfl,Im.out⟩
  ·obtain ⟨n,hn⟩: ∃n,H.length=n+1:=⟨H.length-1,by omega⟩
   rw [hn];have HN:=ae hn;have Rq:(0:Int)<((n+1:Nat):Int):=by omega
   have S:n<=9000:=by
    have f:=Uk G.out.2.1 (id:=(i:Int)) (by omega) (by have:=G.out.2.2.2.2;omega) HO.out.inv;have:=G.out.2.2.2.1;have:=HO.out.len;omega
   have wH:=ae S;clear h0 hn S;go_wp2_with fail;refine (aCA HO.out.heap n HN.out wH.out HO.out.ho).mono ?_;rintro e w4 ⟨rfl,v',l',C7⟩;have j:=ae (aCM HO.out HN.out C7);clear C7;have hrb:=(j.out.old.inv.rh _ j.out.al8).bound G.out.2.1 (by omega) (by have:=G.out.2.2.2.2;omega);obtain ⟨t,ht⟩: ∃t:Nat,H.getD 0 0=(t:Int):=⟨(H.getD 0 0).toNat,by omega⟩;rw [ht];have KS:t<L.length:=by have:=G.out.2.2.2.2;omega
   have HT:=ae ht;have wI:=ae KS;clear ht Rq hrb KS;have ta:=aCK (t:Int);have Z:=j.out.down;rcases List.eq_nil_or_concat D with rfl|⟨D0,z,hD⟩
   ·have HD:=ae Z
    clear Z;go_wp2_with (at_builtin;refine Bc rfl _ _ rfl W.heap.size (by have:=j.out.below.size;simp;omega) _ _ _ rfl (HD.out.alloc _) w4.heap.size _ rfl (heap_alloc_new w4 _) (by simp [Value.oneCell']) (by simp) ?_;intro gg mN w5 Be yy D8;have Un:=ae (al9 j.out HT.out rfl Be yy D8);clear Be yy D8);refine (PN (G.out.1.below Un.out.below) wI.out (by have:=G.out.2.2.2.1;omega) rfl).mono ?_;rintro e w6 ⟨rfl,Dl⟩;obtain ⟨y,hy⟩:=pS (L.getD t dP);rw [hy];have X:=ae hy;have Uo:=ae (Un.out.quiet Dl);clear Dl hy;unfold gK;go_wp2_with fail;refine (Y6 (x:=y) (by rw [<-X.out];exact (G.out.2.2.1 t wI.out).1) (by rw [<-X.out];exact (G.out.2.2.1 t wI.out).2) _).mono ?_;rintro e w8 ⟨av,rfl,ha⟩;have PS:=ama (Uo.out.quiet ((Fr.refl (fun _=>False) w6).alloc _)) ha;obtain ⟨aa,ac,rfl⟩:=ry ha.2;obtain ⟨s,iq⟩:=pS ((args y).length);have A:=ae iq;have U:=ae PS;clear PS ha;rw [iq];clear iq;go_wp2_with fail;go_loopw [61] (fun M DN=> ∃(k:Nat) (jQ:Value) (H2:List Int),M= .int .i64 (k:Int)/\k<=s/\PR W DN q (.slice (some ⟨gg,0,none⟩) (([]:List Int).length+1) mN) (.slice aa (args y).length ac) jQ l' H2 (args y) (([]:List Int)++ [H.getD 0 0]) k) (fun M _=>s-(intOf M).toNat)
    case atStart=>exact ⟨0,_,_,rfl,by omega,U.out⟩
    case round=>
     obtain ⟨k,jQ,H2,rfl,J,Uq⟩:=hrel;have h:=ae Uq;have jG:(0:Int)<=(k:Int):=by omega
     clear Uq;by_cases C:k<s
     ·have aCS:(k:Int)<(s:Int):=by omega
      have mn:s<=2:=by rw [<-A.out];exact vX y
      have Zd:k<2:=by omega
      obtain ⟨B2,pQ⟩:=h.out.row;obtain ⟨a3,c3,e3,d⟩:=Bb pQ;obtain ⟨g3,e4,Ur⟩:=d k (by rw [A.out];exact C);cases e3;subst e4;obtain ⟨z3,M3⟩:=pS ((args y).getD k 0);rw [M3] at Ur;have Y:=ae M3;have I:=ae (af C J);clear pQ d M3 C J;go_wp2_with fail;refine (al0 h.out.heap h.out.below.size (by have f:=h.out.len;have Q:=j.out.len;have h3:=wH.out;have h4:=vX y;have h5:=I.out;have h6:=A.out;omega) h.out.ho z3).mono ?_;rintro e w9 ⟨rfl,Ul,H3,Ld⟩;have T:=ae (amc h.out (by rw [A.out];exact I.out.1) (by rw [Y.out];exact Ld) j.out.old.q0);clear Ld;go_wp2_with fail;go_roundw
      case rel=>exact ⟨k+1,_,_,by go_num,by have:=I.out.1;omega,T.out⟩
      case measure=>have:=I.out.1;simp [intOf];omega
     ·have Cz:k=s:=by omega
      subst Cz;have O:=amd (y:=y) G.out.2.1 (by omega) (by have:=G.out.2.2.2.2;omega) Uo.out (fun z hz=>by simp at hz) (by unfold Ho;rw [HT.out];exact X.out) (by rw [A.out];exact h.out);have N:=ad2 HO.out O (by
       have f:=h.out.len;have Q:=j.out.len;have h3:=HN.out;have h4:=vX y;have h6:=A.out;have h7:=Uk G.out.2.1 (by omega) (by have:=G.out.2.2.2.2;omega) HO.out.inv;have h8:=G.out.2.2.2.1;simp only [bp,jg,gj] at*;omega)
      have Us:=ae O;have Ut:=ae N;clear O N;go_wp2_with fail;go_roundw
      case rel=>exact ⟨_,_,_,Us.out⟩
      case measure=>exact Ut.out
   ·rw [List.concat_eq_append] at hD
    obtain ⟨F,rH⟩: ∃F,D.length=F+1:=⟨D0.length,by rw [hD];simp⟩;have fL:D.getD F 0=z:=by
     have:F=D0.length:=by rw [hD] at rH;simp at rH;omega
     rw [hD,this];simp
    have AG:D.getLast? =some z:=by rw [hD];simp
    have Uu:F<=5000:=by
     have f:=Uk G.out.2.1 (id:=(i:Int)) (by omega) (by have:=G.out.2.2.2.2;omega) HO.out.inv;have:=G.out.2.2.2.1;omega
    obtain ⟨a4,c4,e4,pH⟩:=Bb Z;obtain ⟨g4,e5,uf⟩:=pH F (by omega);rw [fL] at uf;cases e4;subst e5;have hzD:z∈D:=by rw [hD];simp
    have PV:=ae (af AG rH);have HML:=ae Uu;have HZD:=ae hzD;have HD:=ae (by rw [rH] at Z;exact Z:w4.ownsRow W.heap.size 3 1 (.slice (some ⟨g4,0,none⟩) (F+1) dc) (F+1) (ints D));rw [rH];have hwm:IntKind.i64.wrap (F:Int)=(F:Int):=aB _ ⟨by omega,by omega⟩;have m00:(0:Int)<=(F:Int):=by omega
    clear hD rH fL AG pH hzD Z;by_cases Uv:z=(t:Int)
    ·have Ze:=j.out.dup (by rw [HT.out,<-Uv];exact HZD.out)
     have N:=ad2 HO.out Ze (by have:=j.out.len;have:=HN.out;omega);rw [PV.out.2] at Ze N;have Us:=ae Ze;have Ut:=ae N;clear Ze N;subst Uv;go_wp2_with fail;go_roundw
     case rel=>exact ⟨_,_,_,Us.out⟩
     case measure=>
      show Hq q _ w4<Hq q (.slice (some ⟨g4,0,none⟩) D.length dc) w3;rw [PV.out.2];exact Ut.out
    ·have QH:(z==(t:Int))=false:=by simpa using Uv
     have HZT:=ae Uv;clear Uv;go_wp2_with (at_builtin;refine Bc rfl _ _ rfl W.heap.size (by have:=j.out.below.size;simp;omega) _ _ _ rfl (HD.out.alloc _) w4.heap.size _ rfl (heap_alloc_new w4 _) (by simp [Value.oneCell']) (by have:=HML.out;omega) ?_;intro gg mN w5 Be yy D8;have Un:=ae (al9 j.out HT.out PV.out.2 Be yy D8);clear Be yy D8);refine (PN (G.out.1.below Un.out.below) wI.out (by have:=G.out.2.2.2.1;omega) rfl).mono ?_;rintro e w6 ⟨rfl,Dl⟩;obtain ⟨y,hy⟩:=pS (L.getD t dP);rw [hy];have X:=ae hy;have Uo:=ae (Un.out.quiet Dl);clear Dl hy;unfold gK;go_wp2_with fail;refine (Y6 (x:=y) (by rw [<-X.out];exact (G.out.2.2.1 t wI.out).1) (by rw [<-X.out];exact (G.out.2.2.1 t wI.out).2) _).mono ?_;rintro e w8 ⟨av,rfl,ha⟩;have PS:=ama (Uo.out.quiet ((Fr.refl (fun _=>False) w6).alloc _)) ha;obtain ⟨aa,ac,rfl⟩:=ry ha.2;obtain ⟨s,iq⟩:=pS ((args y).length);have A:=ae iq;have U:=ae PS;clear PS ha;rw [iq];clear iq;go_wp2_with fail;go_loopw [61] (fun M DN=> ∃(k:Nat) (jQ:Value) (H2:List Int),M= .int .i64 (k:Int)/\k<=s/\PR W DN q (.slice (some ⟨gg,0,none⟩) (F+1+1) mN) (.slice aa (args y).length ac) jQ l' H2 (args y) (D++ [H.getD 0 0]) k) (fun M _=>s-(intOf M).toNat)
     case atStart=>exact ⟨0,_,_,rfl,by omega,U.out⟩
     case round=>
      obtain ⟨k,jQ,H2,rfl,J,Uq⟩:=hrel;have h:=ae Uq;have jG:(0:Int)<=(k:Int):=by omega
      clear Uq;by_cases C:k<s
      ·have aCS:(k:Int)<(s:Int):=by omega
       have mn:s<=2:=by rw [<-A.out];exact vX y
       have Zd:k<2:=by omega
       obtain ⟨B2,pQ⟩:=h.out.row;obtain ⟨a3,c3,e3,d⟩:=Bb pQ;obtain ⟨g3,e4,Ur⟩:=d k (by rw [A.out];exact C);cases e3;subst e4;obtain ⟨z3,M3⟩:=pS ((args y).getD k 0);rw [M3] at Ur;have Y:=ae M3;have I:=ae (af C J);clear pQ d M3 C J;go_wp2_with fail;refine (al0 h.out.heap h.out.below.size (by have f:=h.out.len;have Q:=j.out.len;have h3:=wH.out;have h4:=vX y;have h5:=I.out;have h6:=A.out;omega) h.out.ho z3).mono ?_;rintro e w9 ⟨rfl,Ul,H3,Ld⟩;have T:=ae (amc h.out (by rw [A.out];exact I.out.1) (by rw [Y.out];exact Ld) j.out.old.q0);clear Ld;go_wp2_with fail;go_roundw
       case rel=>exact ⟨k+1,_,_,by go_num,by have:=I.out.1;omega,T.out⟩
       case measure=>have:=I.out.1;simp [intOf];omega
      ·have Cz:k=s:=by omega
       subst Cz;have O:=amd (y:=y) G.out.2.1 (by omega) (by have:=G.out.2.2.2.2;omega) Uo.out (fun z' tP=>by rw [PV.out.1] at tP;cases tP;rw [HT.out];exact HZT.out) (by unfold Ho;rw [HT.out];exact X.out) (by rw [A.out];exact h.out);have N:=ad2 HO.out O (by
        have f:=h.out.len;have Q:=j.out.len;have h3:=HN.out;have h4:=vX y;have h6:=A.out;have h7:=Uk G.out.2.1 (by omega) (by have:=G.out.2.2.2.2;omega) HO.out.inv;have h8:=G.out.2.2.2.1;simp only [bp,jg,gj] at*;omega)
       rw [PV.out.2] at N;have Us:=ae O;have Ut:=ae N;clear O N;go_wp2_with fail;go_roundw
       case rel=>exact ⟨_,_,_,Us.out⟩
       case measure=>
        show Hq q _ wr<Hq q (.slice (some ⟨g4,0,none⟩) D.length dc) w3;rw [PV.out.2];exact Ut.out
end
section
open Go Go.RowKit
variable {w w':World} {B p:Nat} {v:Value} {L:List bI}
structure qj (w:World) (B p:Nat) (v:Value) (L:List bI):Prop where
 blk:w.heap[p]? =some (.cells #[v] 34 (0,0))
 iT:iz w B v L
def qj.frame {S:Nat->Prop} (h:qj w B p v L) (a:Fr S w w') (b: ¬S p) (d: ∀k,v.ownBlock=some k-> ¬S k):qj w' B p v L:=
 ⟨(a.block p (au.1 h.blk).1 b).trans h.blk,h.iT.frame a d⟩
def qj.below (h:qj w B p v L) (a:Below w.heap.size w w'):qj w' B p v L:=
 h.frame (S:=fun _=>False) (Fr.iE a) (fun e=>e) (fun _ _ e=>e)
def ad3 (h:qj w B p v L) (f:L.length<=10000) (i:Int):
 Calls Tryz.prog 181 #[ptr p,.int .i64 i] w fun e w'=>e= .returned (.bool (decide (0<=i)&&decide (i<(L.length:Int))))/\w'=w:=by
 have b:=mD h.blk 0;simp only [bM,bB] at b;obtain ⟨a,c,rfl⟩:=h.iT.slice;obtain ⟨n,d⟩:=pS L.length;rw [d] at b⊢;clear h d;unfold ptr;by_cases g:0<=i
 ·go_enter Tryz.func181,Tryz.ntmps181
  go_wp2_with fail;go_ret;exact ⟨by simp [g],rfl⟩
 ·go_enter Tryz.func181,Tryz.ntmps181
  go_wp2_with fail;go_ret;exact ⟨by simp;omega,rfl⟩
end
section
open Go Go.RowKit
variable {M M0:List Bool} {L:List bI} {i:Nat}
def lY (M:List Bool) (j:Nat):Bool:=M.getD j false
def Kg (hi:i<M.length) (b:Bool) (j:Nat):lY (M.set i b) j=if i=j then b else lY M j:=by
 unfold lY;grind
def ame (n j:Nat):lY (List.replicate n false) j=false:=by
 unfold lY
 all_goals grind
structure Kh (L:List bI) (id:Nat) (M:List Bool) (i:Int):Prop where
 len:M.length=L.length
 sound: ∀j:Nat,j<L.length->lY M j=true->Reach L (id:Int) (j:Int)
 self:lY M id=true
 cl: ∀j:Nat,i<(j:Int)->j<L.length->lY M j=true-> ∀a∈args (L.getD j dP),lY M a.toNat=true
structure Hr (L:List bI) (id:Nat) (M0 M:List Bool) (i k:Nat):Prop where
 len:M.length=L.length
 mono: ∀j,lY M0 j=true->lY M j=true
 sound: ∀j:Nat,j<L.length->lY M j=true->Reach L (id:Int) (j:Int)
 at_:lY M i=lY M0 i
 done: ∀a∈(args (L.getD i dP)).take k,lY M0 i=true->lY M a.toNat=true
 above: ∀j,i<j->lY M j=lY M0 j
def aCT {id:Nat} (hid:id<L.length):Kh L id ((List.replicate L.length false).set id true) id where
 len:=by simp
 sound:=fun j hj h=>by
  rw [Kg (by simp;omega)] at h;by_cases e:id=j
  ·subst e;exact .self
  ·rw [if_neg e,ame] at h;cases h
 self:=by rw [Kg (by simp;omega),if_pos rfl]
 cl:=fun j hj hl h=>by
  rw [Kg (by simp;omega),if_neg (by omega),ame] at h;cases h
def amf {id:Nat} (h:Kh L id M i):Hr L id M M i 0:=
 ⟨h.len,fun _ h=>h,h.sound,rfl,fun a b=>by simp at b,fun _ _=>rfl⟩
def aCU {id:Nat} {k:Nat} (p:xD L) (h:Hr L id M0 M i k) (hi:i<L.length) (t:k<(args (L.getD i dP)).length) {a:Nat} (s:(args (L.getD i dP)).getD k 0=(a:Int)):
 a<i/\Hr L id M0 (M.set a (lY M a||lY M i)) i (k+1):=by
 have m:((a:Nat):Int)∈args (L.getD i dP):=by
  grind
 have q:=p i hi _ m;have o:a<i:=by omega
 have g:a<M.length:=by rw [h.len];omega
 refine ⟨o,⟨by simp [h.len],fun j d=> ?_,fun j d b=> ?_,?_,fun y f l=> ?_,fun j d=>by rw [Kg g,if_neg (by omega)];exact h.above j d⟩⟩
 ·rw [Kg g]
  by_cases e:a=j
  ·subst e;rw [if_pos rfl,h.mono _ d];rfl
  ·rw [if_neg e];exact h.mono j d
 ·rw [Kg g] at b
  by_cases e:a=j
  ·subst e
   rw [if_pos rfl,cX] at b;rcases b with b|b
   ·exact h.sound _ d b
   ·refine .step (h.sound i hi b) ?_
    unfold Ho;grind
  ·rw [if_neg e] at b;exact h.sound j d b
 ·rw [Kg g,if_neg (by omega)];exact h.at_
 ·rw [Kg g]
  rw [iY,b8] at f;by_cases e:a=y.toNat
  ·rw [if_pos e,h.at_,l,Bool.or_true]
  ·rw [if_neg e]
   rcases f with f|f
   ·exact h.done y f l
   simp_all
def aCV {id:Nat} (h0:Kh L id M0 i) (h:Hr L id M0 M i (args (L.getD i dP)).length):Kh L id M ((i:Int)-1) where
 len:=h.len
 sound:=h.sound
 self:=h.mono _ h0.self
 cl:=fun j hj hl hm a ha=>by
  by_cases e:j=i
  ·subst e
   have hd:=h.done;rw [g7] at hd;exact hd a ha (by rw [<-h.at_];omega)
  ·exact h.mono _ (h0.cl j (by omega) hl (by rw [<-h.above j (by omega)];omega) a ha)
def amg {id:Nat} (d:xD L) (f:id<L.length) (h:Kh L id M (-1)) (j:Nat) (g:j<L.length:=by omega):lY M j=true↔Reach L (id:Int) (j:Int):=by
 refine ⟨h.sound j g,fun o=> ?_⟩;have l: ∀x:Int,Reach L (id:Int) x->lY M x.toNat=true:=fun x b=>by
  induction b with
  |self=>exact h.self
  |step b e k=>
   rename_i x a;have m:=b.bound d (by omega) (by omega);exact h.cl x.toNat (by omega) (by omega) k a e
 grind
end
section
open Go Go.RowKit
variable {M:List Bool} {W wr:World} {g i:Nat}
def Ki (M:List Bool):List Value:=M.map .bool
def aCW (h:i<M.length):(Ki M)[i]? =some (.bool (lY M i)):=by
 unfold Ki lY;simp_all
def aCX (M:List Bool) (i:Nat) (b:Bool):Ki (M.set i b)=(Ki M).set i (.bool b):=by simp [Ki,oJ]
structure Fz (W wr:World) (g:Nat) (M:List Bool):Prop where
 row:wr.ownsRow W.heap.size 4 1 (.slice (some ⟨g,0,none⟩) M.length M.length) M.length (Ki M)
 below:Below W.heap.size W wr
def Fz.cell (h:Fz W wr g M) (hi:i<M.length):wr.cell? ⟨g,i,none⟩=some (.bool (lY M i)):=by
 rw [h.row.cellAt i (by omega),aCW hi]
def Fz.set (h:Fz W wr g M) (i:Nat) (b:Bool) (a:W.heap.size<=g):Fz W (wr.setCell ⟨g,i,none⟩ (.bool b)) g (M.set i b):=
 ⟨by rw [aCX,bu];exact (h.row.stored _ _).1,h.below.setCell a _⟩
def Fz.later {w':World} (h:Fz W wr g M) (a:Below wr.heap.size wr w'):Fz W w' g M:=
 ⟨oh (S:=fun _=>False) h.row (Fr.iE a) (fun _ _ e=>e),h.below.trans (a.mono h.below.size)⟩
def Tryz.info4:(Tryz.prog.info? 4).map (fun i=>(i.zero,i.size,i.bytes))=some (some (.bool false),1,1):=by kernel_rfl
def aCY (n:Nat):(madeCells (Value.bool false).cells (n*1)).toList=Ki (List.replicate n false):=by
 show (madeCells #[.bool false] (n*1)).toList=_;rw [toList_madeCells_one,fw];simp [Ki]
end
section
open Go Go.RowKit
def aCZ {a b:ByteArray} (h:a.toList=b.toList):a=b:=by
 rw [ByteArray.toList_eq,ByteArray.toList_eq] at h;obtain ⟨⟨a⟩⟩:=a;obtain ⟨⟨b⟩⟩:=b;cases h;rfl
def aC0 {w:World} {B p:Nat} {v:Value} {L:List bI} (m:qj w B p v L) (D:L.length<=10000) (x:bI):
 Calls Tryz.prog 123 #[ptr p,gK x] w fun e S=>(∃r:Int,e= .returned (.int .i64 r)/\((r= -1/\x∉L)\/(∃i:Nat,r=i/\i<L.length/\L.getD i dP=x)))/\Below w.heap.size w S:=by
 have G:=ae (af m D);have q:=mD m.blk 0;simp only [bM,bB] at q;have Y:p<w.heap.size:=aj w _ q;obtain ⟨a,c,rfl⟩:=m.iT.slice;obtain ⟨n,t⟩:=pS L.length;rw [t] at q D;have o:=ae t;clear m t;unfold ptr gK;go_enter Tryz.func123,Tryz.ntmps123;go_wp2_with fail;go_loopw [12] (fun iv wr=> ∃k:Nat,iv= .int .i64 (k:Int)/\k<=n/\(∀j,j<k->L.getD j dP≠x)/\wr.heap[w.heap.size]? =some (.cells ⟨fZ x⟩ 90 (0,0))/\Below w.heap.size w wr) (fun iv _=>n-(intOf iv).toNat)
 case atStart=>exact ⟨0,rfl,by omega,fun j C=>by omega,by show (w.heap.push _)[w.heap.size]? =_;simp [fZ],(aG _ _).alloc (ak _) _⟩
 case round=>
  obtain ⟨k,rfl,s,d,f,g⟩:=hrel;by_cases l:k<n
  ·obtain ⟨y,z⟩:=pS (L.getD k dP)
   obtain ⟨P,X,O,c0,c1,T,U,W⟩:=(G.out.1.below g).iT.form (by rw [o.out];exact l) z;have H:=mD f 0;have I:=mD f 1;have J:=mD f 2;have M:=mD f 3;have N:=mD f 4;simp only [fZ,bM,bB,eh] at H I J M N;have u:w.heap.size<wr.heap.size:=(au.1 f).1;cases O;have b:=ae (af g (af f (af d (af z (af l s)))));have Z:(0:Int)<=(k:Int):=by omega
   have k1:(k:Int)<(n:Int):=by omega
   have vL:P<wr.heap.size:=aj wr _ c0;clear g f d z l s;go_wp2_with fail
   all_goals first
    |(
      refine ⟨⟨k+1,by simp,by have:=b.out.2.2.2.2.1;omega,fun j C=> ?_,?_,b.out.1.alloc b.out.1.size _⟩,by have:=b.out.2.2.2.2.1;simp [intOf];omega⟩
      ·rcases Nat.lt_succ_iff_lt_or_eq.1 C with h|rfl
       ·exact b.out.2.2.1 j h
       ·rw [b.out.2.2.2.1];rintro rfl;simp_all
      ·rw [dX _ _ _ u];exact b.out.2.1)
    |(
      go_ret;refine ⟨⟨k,rfl,.inr ⟨k,rfl,by rw [o.out];exact b.out.2.2.2.2.1,?_⟩⟩,b.out.1.alloc b.out.1.size _⟩;rw [b.out.2.2.2.1];cases x;cases y;simp_all;exact aCZ (by assumption))
  ·have F:k=n:=by omega
   subst F;have E:x∉L:=fun R=>by
    obtain ⟨j,A,Q⟩:=List.getElem_of_mem R;refine d j (by rw [<-o.out];exact A) ?_;rw [aD,aO A];exact Q
   have b:=ae (af g E);clear g E d f l s;go_wp2_with fail;go_ret;exact ⟨⟨-1,rfl,.inl ⟨rfl,b.out.2⟩⟩,b.out.1⟩
end
end Go.Proofs.YthleenhngcdgkaaGreatDoor
