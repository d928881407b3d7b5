/- refineCopies_proved. -/
import Derived.Test.YthleenhngcdgkaaGreatDoorItl
import Derived.Test.YthleenhngcdgkaaGreatDoorPmbc
import Derived.Deep.RegionHeld3
import Derived.Maps.OwnSet
import Derived.DeepKeys4
import Derived.Shelf.SlIter.Nil
import Derived.Shelf.SortM.Plain
import Derived.Shelf.SortM.SortNone
import Derived.Ground.GgzProg
import Derived.Ground.SlgmProg
import Derived.Test.YthleenhngcdgkaaGreatDoorProg
set_option maxRecDepth 100000
set_option maxHeartbeats 16000000
set_option linter.all false
noncomputable section
namespace Go.Proofs.YthleenhngcdgkaaGreatDoor
section
open Go.Proofs.Tryz Go Go.RowKit
def aDF (w:World) (B q:Nat) (v:Value) (L l:List bI) (e:Ending) (w':World):Prop:=
 ∃b a r z,e= .returned (.tuple #[.int .i64 r,.int .i64 z])/\qj w' B q b a/\GI a/\a.length<=L.length+l.length/\Fr (fun j=>j=q\/v.ownBlock=some j) w w'/\(∀j,b.ownBlock=some j->v.ownBlock=some j\/w.heap.size<=j)
def aDG {w:World} {B q R:Nat} {v y:Value} {L l:List bI} (h:qj w B q v L) (E:B<=w.heap.size) (H:GI L) (t:iz w R y l) (I: ∀i,i<l.length->nJ (l.getD i dP)) (J:l.length<=200) (F:L.length<=3000) (N:P8 w q v y) (G:aeg w q v) (D:om w):
 Calls prog 19 #[ptr q,y] w (aDF w B q v L l):=by
 have o:=ae (aDE h E H t I J F N G D);obtain ⟨la,lc,rfl⟩:=t.slice;obtain ⟨n,x⟩:=pS l.length;rw [x] at o;rw [x];clear h E H t I J F N G D x;unfold ptr at o⊢;go_enter func19,ntmps19;go_wp2_with fail;refine o.out.mono ?_;rintro e w1 ⟨P,C,a,b,d,f,g,rfl|⟨av,A,rfl,s,M⟩⟩
 ·have m:=ae (af a (af b (af d (af f g))))
  clear a b d f g;go_wp2_with fail;go_ret2;exact ⟨P,C,0,1,rfl,m.out⟩
 ·have m:=ae (af a (af b (af d (af f g))))
  clear a b d f g;obtain ⟨j,U⟩: ∃j:Nat,(A.length:Int)-1=(j:Int):=⟨A.length-1,by omega⟩;obtain ⟨_,_,_,S,Q,_⟩:=MP s M;have u:A.length<=9223372036854775807:=by unfold maxLen at Q;omega
  obtain ⟨ag,Z,rfl,X,Y⟩:=Bg s (j:=j);clear S Q;obtain ⟨T,O⟩:=pS A.length;rw [O] at U u⊢;have xR:(j:Int)<(T:Int):=by omega
  have yH:(0:Int)<=(j:Int):=by omega
  generalize A.getD j 0=z at X;clear s M O;go_wp2_with fail;go_ret2;exact ⟨P,C,z,0,rfl,m.out⟩
def aDH {i w:World} {p n k:Nat} {vt:Value} (h:oU i w p vt n k) {D:Int} (s:1<=D) (t:D<=4) (closed:Bool):
 Calls prog 20 #[.pointer (some ⟨p,0,none⟩),.int .i64 D,.bool closed] w (ad6 closed i w p vt n k (.slice none 0 0) [] 4):=by
 have g:iz w i.heap.size (.slice none 0 0) []:=⟨World.ownsRow_nil _ _ _ _⟩;have j:Calls prog 39 #[.pointer (some ⟨p,0,none⟩),.slice none 0 0,.int .i64 D,.bool closed] w (ad6 closed i w p vt n k (.slice none 0 0) [] 4):=by
  have o:D=1\/D=2\/D=3\/D=4:=by omega
  rcases o with rfl|rfl|rfl|rfl
  ·exact (Zh.1 closed h g (by simp)).mono fun e w' ⟨d,b,k',f,a⟩=>⟨d,b,k',f,a.deeper (by omega)⟩
  ·exact (Zh.2.1 closed h g (by simp)).mono fun e w' ⟨d,b,k',f,a⟩=>⟨d,b,k',f,a.deeper (by omega)⟩
  ·exact (Zh.2.2.1 closed h g (by simp)).mono fun e w' ⟨d,b,k',f,a⟩=>⟨d,b,k',f,a.deeper (by omega)⟩
  ·exact Zh.2.2.2 closed h g (by simp)
 have m:=ae j;clear h g j;go_enter func20,ntmps20;go_wp2_with fail;refine m.out.mono ?_;rintro e u ⟨d,b,k',rfl,a⟩;have l:=ae a;clear a;go_wp2_with fail;go_ret;exact ⟨d,b,k',rfl,l.out⟩
structure yC (W wr:World) (p q:Nat) (vt:Value) (n k:Nat) (v:Value) (L:List bI):Prop where
 pR:oU W wr p vt n k
 ref:qj wr W.heap.size q v L
 gi:GI L
 q0:W.heap.size<=q
 kn:k<=n
 len:L.length<=100
section
variable {W wr w':World} {p q n k k':Nat} {vt v:Value} {L:List bI}
def yC.pq (h:yC W wr p q vt n k v L):p≠q:=fun e=>by
 have a:=h.pR.tape;have b:=h.ref.blk;rw [<-e] at b;unfold sC at a
 all_goals grind
def yC.turn (h:yC W wr p q vt n k v L) (a:oU W w' p vt n k') (b:Fr (· =p) wr w') (f:k'<=n):yC W w' p q vt n k' v L:=
 ⟨a,h.ref.frame b (fun e=>h.pq e.symm) (fun j d e=>Zf h.pR.tape h.ref.iT (by rw [d,e])),h.gi,h.q0,f,h.len⟩
def yC.vY (h:yC W wr p q vt n k v L) (a:om W):aeg wr q v:=fun w' f b=>
 a.below (h.pR.below.trans (b.oe (fun j d e=>by
  rcases e with e|e
  ·have:=h.q0;omega
  ·have:=(h.ref.iT.own.lt j e).1;omega) h.pR.below.size))
def yC.added {w':World} {l a:List bI} {b:Value} (h:yC W wr p q vt n k v L) (m:L.length<60) (o:l.length<=15) (d:qj w' W.heap.size q b a) (f:GI a) (i:a.length<=L.length+l.length) (g:Fr (fun j=>j=q\/v.ownBlock=some j) wr w'):yC W w' p q vt n k b a:=
 ⟨h.pR.stay g (fun j e=>by
  rcases e with e|e
  ·have:=h.q0;omega
  ·exact (h.ref.iT.own.lt j e).1) (fun e=>by
  rcases e with e|e
  ·exact h.pq e
  ·exact Zf h.pR.tape h.ref.iT e),d,f,h.q0,h.kn,by omega⟩
end
def aei (p n:Nat) (wr:World):Nat:=n-(intOf ((wr.cell? ⟨p,1,none⟩).getD undef)).toNat
def yC.measure {W wr:World} {p q n k:Nat} {vt v:Value} {L:List bI} (h:yC W wr p q vt n k v L):aei p n wr=n-k:=by
 unfold aei;rw [h.pR.tape.cells.2];simp [intOf]
def aDI (W:World) (e:Ending) (w':World):Prop:= ∃q v L,e= .returned (ptr q)/\qj w' W.heap.size q v L/\GI L/\L.length<=100/\W.heap.size<=q/\Below W.heap.size W w'
def P9 (W:World) (v:Value) (n:Nat):Prop:=n<=1000/\ ∃a c,v= .slice a n c/\ ∀j,j<n-> ∃b x,a=some b/\ -9223372036854775808<=x/\W.cell? (b.add j)=some (.int .i64 x)
def P9.PX {W:World} {v:Value} {n p:Nat} (h:P9 W v n) (l:W.heap.size<=p):Fu W p v n:=by
 obtain ⟨d,a,c,rfl,f⟩:=h;refine ⟨d,a,c,rfl,fun j g=> ?_⟩;obtain ⟨b,x,rfl,i,hc⟩:=f j g;refine ⟨b,x,rfl,fun e=> ?_,i,hc⟩;have:=aj W _ hc;rw [alT] at this;omega
def aDJ {W:World} {v:Value} {n:Nat} (hv:P9 W v n) (hT:om W):Calls prog 6 #[v] W (aDI W):=by
 have J:=ae (af hv hT);obtain ⟨_,a,c,rfl,_⟩:=hv;clear hT;go_enter func6,ntmps6;go_wp2_with fail;refine (aCf rfl).mono ?_;rintro e f ⟨rfl,ht,U⟩;have Uw:oU W f W.heap.size (.slice a n c) n 0:=⟨ht,J.out.1.PX (ak _),ak _,U.below⟩;have M5:=ae Uw;have nh:=U.size;clear ht U Uw;go_wp2_with fail;have o:yC W (f.alloc (.cells #[.slice none 0 0] 34)) W.heap.size f.heap.size (.slice a n c) n 0 (.slice none 0 0) []:=
  ⟨M5.out.stay ((Fr.refl (fun _=>False) f).alloc _) (fun _ e=>e.elim) (fun e=>e),⟨by show (f.heap.push _)[f.heap.size]? =_;simp,⟨World.ownsRow_nil _ _ _ _⟩⟩,amv,nh,by omega,by simp⟩
 obtain ⟨p,P⟩:=pS W.heap.size;obtain ⟨q,Q⟩:=pS f.heap.size;have H:=ae (by have R:=o;rw [Q] at R;exact (show yC W _ p q _ n 0 _ [] by rw [<-P];exact R));rw [Q,P];generalize f.alloc (.cells #[.slice none 0 0] 34)=w2 at H⊢;clear o Q P nh;go_loopw [] (fun wr=> ∃k v' t,yC W wr p q (.slice a n c) n k v' t) (fun wr=>aei p n wr)
 case atStart=>exact ⟨0,_,[],H.out⟩
 case round=>
  obtain ⟨k,v',t,o⟩:=hrel;obtain ⟨ga,gc,rfl⟩:=o.ref.iT.slice;obtain ⟨m,O⟩:=pS t.length;have I:=ae O;have C:=ae o;have aDK:m<=100:=by rw [<-O];exact o.len
  clear O o H;go_wp2_with fail;refine C.out.pR.more.mono ?_;rintro e w3 ⟨rfl,Kl,Z⟩;have b:=ae (C.out.turn Kl (Z.mono (fun _ _ e=>e.elim)) C.out.kn);clear Kl Z;have c0:=mD b.out.ref.blk 0;simp only [bM,bB] at c0;rw [I.out] at c0;have S:q<w3.heap.size:=aj w3 _ c0;by_cases G:k<n
  ·rw [decide_eq_true G]
   have HK:=ae G;clear G;by_cases Ec:m<60
   ·have x:=ae Ec
    go_wp2_with fail;refine (b.out.pR.range 1 4 (by omega) (by omega) (by omega)).mono ?_;rintro e w4 ⟨r,k4,rfl,r1,r4,E,F,y,Uy,Hs⟩;have D:=ae (af (b.out.turn Uy Hs (y b.out.kn)) (F HK.out));clear Uy Hs E F y c0 S Ec;go_wp2_with fail;refine (D.out.1.pR.next 2 (by omega) (by omega)).mono ?_;rintro e X ⟨s,k5,rfl,s0,s1,E,F,y,UA,PY⟩;have u:=ae (af (D.out.1.turn UA PY (y D.out.1.kn)) E);have hs:s=0\/s=1:=by omega
    clear UA PY E F y s0 s1;have HR:=ae (af r1 r4);rcases hs with rfl|rfl
    all_goals
     go_wp2_with fail;refine (aDH u.out.1.pR HR.out.1 HR.out.2 _).mono ?_;rintro e Y ⟨T,l,k6,rfl,d⟩;have Dl:Fr (· =p) X Y:=d.fr.mono (fun _ _ e=>e.elim id (fun e=>by simp [Value.ownBlock] at e));have h:=ae (af (u.out.1.turn d.pR Dl (d.k2 u.out.1.kn)) d.k0);have HP:=ae d;have zN:l.length<=15:=by have:=d.len;omega
     have F5:=ae zN;have A:P8 Y q (.slice ga t.length gc) T:=by
      have B: ∀j,T.ownBlock=some j->X.heap.size<=j:=fun j e=>(d.own j e).elim (fun e=>by simp [Value.ownBlock] at e) id
      have hq5:q<X.heap.size:=(au.1 u.out.1.ref.blk).1;refine ⟨fun e=>by have:=B q e;omega,fun j e e'=> ?_,fun j e=>(d.row.own.lt j e).2⟩;have:=(u.out.1.ref.iT.own.lt j e').2;have:=B j e;omega
     have M:=ae A;have pQ:iz Y W.heap.size T l:=by have:=d.row;simpa using this
     have N:=ae pQ;have Ed: ∀i,i<l.length->nJ (l.getD i dP):=fun i hi=>by
      rw [aD,aO hi];exact d.iT _ (fW hi)
     have Oy:=ae Ed;clear d Dl zN A pQ Ed;go_wp2_with fail;refine (aDG h.out.1.ref h.out.1.pR.below.size h.out.1.gi N.out Oy.out (by have:=F5.out;omega) (by have:=I.out;have:=x.out;omega) M.out (h.out.1.vY J.out.2) (J.out.2.below h.out.1.pR.below)).mono ?_;rintro e w7 ⟨v7,L7,id,z,rfl,h1,h2,h3,h4,h5⟩;have g:=ae (h.out.1.added (by rw [I.out];exact x.out) F5.out h1 h2 h3 h4);clear h1 h2 h3 h4 h5;go_wp2_with fail;go_roundw
     case rel=>exact ⟨k6,v7,L7,g.out⟩
     case measure=>rw [g.out.measure,C.out.measure];have:=HK.out;have:=D.out.2;have:=u.out.2;have:=h.out.2;have:=g.out.kn;omega
   ·go_wp2_with fail
    go_ret;exact ⟨q,_,t,rfl,b.out.ref,b.out.gi,b.out.len,b.out.q0,b.out.pR.below⟩
  ·rw [decide_eq_false G]
   go_wp2_with fail;go_ret;exact ⟨q,_,t,rfl,b.out.ref,b.out.gi,b.out.len,b.out.q0,b.out.pR.below⟩
end
section
open Go.Proofs.Tryz Go Go.RowKit
variable {w:World} {bx p m B:Nat} {v:Value} {zs:List Int}
structure Kr (w:World) (bx p m:Nat):Prop where
 box:w.cell? ⟨bx,0,none⟩=some (.pointer (some ⟨p,0,none⟩))
 Zl: ∃a c,w.cell? ⟨p,0,none⟩=some (.slice a m c)
def Kr.below {w':World} (h:Kr w bx p m) (b:Fr (fun _=>False) w w'):Kr w' bx p m:=by
 obtain ⟨a,c,e⟩:=h.Zl;exact ⟨b.cell h.box (fun e=>e),a,c,b.cell e (fun e=>e)⟩
def aDN (a:Kr w bx p m) {z:Int} (i:0<=z) (j:z<(m:Int)) (d:m<=10000):
 Calls prog 125 #[.int .i64 z,.pointer (some ⟨bx,0,none⟩)] w fun e g=>e= .returned (.bool false)/\Fr (fun _=>False) w g:=by
 have b:=a.box;obtain ⟨k,l,f⟩:=a.Zl;have o:bx<w.heap.size:=aj w _ b;have h:p<w.heap.size:=aj w _ f;clear a;go_enter func125,ntmps125;go_wp2_with fail;go_ret;exact ⟨by simp;omega,Fr.refl _ _⟩
def aDO (h:w.ownsRow B 3 1 v zs.length (ints zs)) (u:Kr w bx p m) (x: ∀z∈zs,0<=z/\z<(m:Int)) (H:m<=10000) (I:zs.length<=2):
 Calls prog 182 #[v,.func (.func 125) #[] #[.pointer (some ⟨bx,0,none⟩)]] w fun e N=>e= .returned (.int .i64 (-1))/\Fr (fun _=>False) w N:=by
 have f:=ae (af h (af u (af x H)));obtain ⟨a,c,rfl⟩:=ry h;obtain ⟨n,j⟩:=pS zs.length;have q:=ae j;rw [j] at I⊢;clear h u x j;go_enter func182,ntmps182;go_wp2_with fail;go_loopw [8] (fun iv wr=>Fr (fun _=>False) w wr/\ ∃k:Nat,k<=n/\iv= .int .i64 (k:Int)) (fun iv _=>n-(intOf iv).toNat)
 case atStart=>exact ⟨Fr.refl _ _,0,by omega,rfl⟩
 case round=>
  obtain ⟨b,k,G,rfl⟩:=hrel;have o:=ae b;by_cases i:k<n
  ·obtain ⟨P,Q,E,A⟩:=Bb (oh f.out.1 b (fun _ _ e=>e))
   obtain ⟨R,F,M⟩:=A k (by rw [q.out];exact i);cases E;subst F;have d:=f.out.2.2.1 _ (Ke (l:=zs) (by rw [q.out];exact i));obtain ⟨z,C⟩:=pS (zs.getD k 0);rw [C] at M d;obtain ⟨s,t⟩:=d;have g:=ae (af (f.out.2.1.below b) (af s t));have S:(0:Int)<=(k:Int):=by omega
   have O:(k:Int)<(n:Int):=by omega
   clear b A C s t;go_wp2_with fail;refine (aDN g.out.1 g.out.2.1 g.out.2.2 f.out.2.2.2).mono ?_;rintro e T ⟨rfl,y⟩;have J:=ae (o.out.trans y (fun _ _ e=>e));clear y;go_wp2_with fail;go_roundw
   case rel=>exact ⟨J.out,k+1,by omega,by go_num⟩
   case measure=>simp [intOf];omega
  ·have D:k=n:=by omega
   subst D;clear b G i;go_wp2_with fail;go_ret;exact ⟨rfl,o.out⟩
def aDP (h:w.ownsRow B 3 1 v zs.length (ints zs)) (b:Kr w bx p m) (i: ∀z∈zs,0<=z/\z<(m:Int)) (f:m<=10000) (g:zs.length<=2):
 Calls prog 124 #[v,.func (.func 125) #[] #[.pointer (some ⟨bx,0,none⟩)]] w fun e l=>e= .returned (.bool false)/\Fr (fun _=>False) w l:=by
 have j:=ae (aDO h b i f g);obtain ⟨a,c,rfl⟩:=ry h;clear h b i f g;go_enter func124,ntmps124;go_wp2_with fail;refine j.out.mono ?_;rintro e o ⟨rfl,d⟩;have k:=ae d;clear d;go_wp2_with fail;go_ret;exact ⟨rfl,k.out⟩
end
section
open Go.Proofs.Tryz Go Go.RowKit
variable {w w':World} {p B m:Nat} {k a b n:Int} {v mv:Value} {L:List bI} {t:ByteArray} {x:bI}
structure Zp (w w':World) (p m:Nat) (x:bI):Prop where
 below:Below w.heap.size w w'
 box:Kr w' w.heap.size p m
 nd:w'.heap[w.heap.size+1]? =some (.cells ⟨fZ x⟩ 90 (0,0))
def Qa (h:iR w B p v mv L) (d:Below ((w.alloc (.cells #[.pointer (some ⟨p,0,none⟩)] 27)).alloc (.cells ⟨fZ x⟩ 90)).heap.size ((w.alloc (.cells #[.pointer (some ⟨p,0,none⟩)] 27)).alloc (.cells ⟨fZ x⟩ 90)) w'):
 Zp w w' p L.length x:=by
 have j:((w.alloc (.cells #[.pointer (some ⟨p,0,none⟩)] 27)).alloc (.cells ⟨fZ x⟩ 90)).heap.size=w.heap.size+2:=by simp
 rw [j] at d;have i:Below w.heap.size w ((w.alloc (.cells #[.pointer (some ⟨p,0,none⟩)] 27)).alloc (.cells ⟨fZ x⟩ 90)):=((aG w.heap.size w).alloc (ak _) _).alloc (by simp) _;have f:=i.trans (d.mono (by omega));have g:=mD ((f.block p (au.1 h.blk).1).trans h.blk) 0;obtain ⟨a,c,rfl⟩:=h.iT.slice;refine ⟨f,⟨?_,a,c,g⟩,?_⟩
 ·have e:w'.heap[w.heap.size]? =some (.cells #[.pointer (some ⟨p,0,none⟩)] 27 (0,0)):=by
   rw [d.block _ (by omega)];show ((w.heap.push _).push _)[w.heap.size]? =_;grind
  exact mD e 0
 ·rw [d.block _ (by omega)]
  show ((w.heap.push _).push _)[w.heap.size+1]? =_;grind
def Zp.later {e:World} (h:Zp w w' p m x) (d:Below w'.heap.size w' e):Zp w e p m x:=
 ⟨h.below.trans (d.mono h.below.size),h.box.below (Fr.iE d),(d.block _ (au.1 h.nd).1).trans h.nd⟩
def Qb {g n:Nat} {a:Option Addr} {c:Nat} {d:List Int} (f:d.length=n) (h:w.ownsRow B 3 1 (.slice a d.length c) d.length (ints d)) (i:Kr w g p m) (o: ∀z∈d,0<=z/\z<(m:Int)) (j:m<=10000) (l:d.length<=2):
 Calls prog 124 #[.slice a n c,.func (.func 125) #[] #[.pointer (some ⟨g,0,none⟩)]] w fun e w'=>e= .returned (.bool false)/\Fr (fun _=>False) w w':=by
 subst f;exact aDP h i o j l
def Qc (h:arity k=0):(args ⟨k,a,b,n,t⟩).length=0:=by unfold args;rw [if_pos h];rfl
def Zq (h:arity k=1):(args ⟨k,a,b,n,t⟩).length=1:=by unfold args;rw [if_neg (by simp_all),if_pos h];rfl
def amz (h:arity k=2):(args ⟨k,a,b,n,t⟩).length=2:=by unfold args;rw [if_neg (by simp_all),if_neg (by simp_all)];rfl
def aDQ (h:iR w B p v mv L) (H:L.length<=5000) (G:arity k=0) (D:3<=k) (E:k<=4) (F:mS L.length ⟨k,0,0,0,ByteArray.empty⟩):
 Calls prog 73 #[ptr p,gK ⟨k,0,0,0,ByteArray.empty⟩] w fun e w'=>e= .returned (.bool true)/\Below w.heap.size w w':=by
 have q:=ae (af h (af H F));have R: ∀(C:Fn) (first cap:Array Value) (w:World),(Instr.makeFunc C first cap).run prog w= .ok (.func C first cap) w:=fun _ _ _ _=>rfl
 clear h H F;unfold ptr gK;simp only;have W: ¬k=1:=by omega
 have X: ¬k=2:=by omega
 have N: ¬k=10:=by omega
 have z:=ae G;have A:=ae (af D E);clear G D E;go_enter func73,ntmps73;go_wp2_with fail;refine (J9 (x:=⟨k,0,0,0,ByteArray.empty⟩) (by have:=A.out;simp only;omega) (by have:=A.out;simp only;omega) _).mono ?_;rintro e I ⟨U,rfl,u⟩;have o:=ae (Qa (x:=⟨k,0,0,0,ByteArray.empty⟩) q.out.1 u.1);have s:=u.2;obtain ⟨S,T,rfl⟩:=ry s;have Q:=ae s;obtain ⟨f,g,i,j,l⟩:=jF o.out.nd;simp only at f g i j l;have M:w.heap.size+1<I.heap.size:=aj I _ f;have J:=o.out.box.box;rw [Qc z.out];clear u s;go_wp2_with fail;refine (Qb (Qc z.out) Q.out o.out.box q.out.2.2.args (by have:=q.out.2.1;omega) (vX _)).mono ?_;rintro e P ⟨rfl,y⟩;have d:=ae (o.out.later y.below);have O:=y.size;clear f g i j l J y;obtain ⟨f,g,i,j,l⟩:=jF d.out.nd;simp only at f g i j l;have Y:w.heap.size+1<P.heap.size:=by omega
 clear M O;go_wp2_with fail;go_ret
 first
  |exact ⟨by first|rfl|(simp;done),d.out.below.alloc d.out.below.size _⟩
  |exact ⟨by first|rfl|(simp;done),(d.out.below.alloc d.out.below.size _).setCell d.out.below.size _⟩
  |exact ⟨by first|rfl|(simp;done),((d.out.below.alloc d.out.below.size _).setCell d.out.below.size _).setCell d.out.below.size _⟩
def aDR (h:iR w B p v mv L) (H:L.length<=5000) (G:arity k=1) (D:5<=k) (E:k<=16) (N:k≠10) (F:mS L.length ⟨k,a,0,0,ByteArray.empty⟩):
 Calls prog 73 #[ptr p,gK ⟨k,a,0,0,ByteArray.empty⟩] w fun e w'=>e= .returned (.bool true)/\Below w.heap.size w w':=by
 have q:=ae (af h (af H F));have S: ∀(C:Fn) (first cap:Array Value) (w:World),(Instr.makeFunc C first cap).run prog w= .ok (.func C first cap) w:=fun _ _ _ _=>rfl
 clear h H F;unfold ptr gK;simp only;have X: ¬k=1:=by omega
 have Y: ¬k=2:=by omega
 have O: ¬k=10:=by omega
 have z:=ae G;have A:=ae (af D E);clear G D E N;go_enter func73,ntmps73;go_wp2_with fail;refine (J9 (x:=⟨k,a,0,0,ByteArray.empty⟩) (by have:=A.out;simp only;omega) (by have:=A.out;simp only;omega) _).mono ?_;rintro e I ⟨W,rfl,u⟩;have o:=ae (Qa (x:=⟨k,a,0,0,ByteArray.empty⟩) q.out.1 u.1);have s:=u.2;obtain ⟨T,U,rfl⟩:=ry s;have R:=ae s;obtain ⟨f,g,i,j,l⟩:=jF o.out.nd;simp only at f g i j l;have M:w.heap.size+1<I.heap.size:=aj I _ f;have J:=o.out.box.box;rw [Zq z.out];clear u s;go_wp2_with fail;refine (Qb (Zq z.out) R.out o.out.box q.out.2.2.args (by have:=q.out.2.1;omega) (vX _)).mono ?_;rintro e Q ⟨rfl,y⟩;have d:=ae (o.out.later y.below);have P:=y.size;clear f g i j l J y;obtain ⟨f,g,i,j,l⟩:=jF d.out.nd;simp only at f g i j l;have Z:w.heap.size+1<Q.heap.size:=by omega
 clear M P;go_wp2_with fail;go_ret
 first
  |exact ⟨by first|rfl|(simp;done),d.out.below.alloc d.out.below.size _⟩
  |exact ⟨by first|rfl|(simp;done),(d.out.below.alloc d.out.below.size _).setCell d.out.below.size _⟩
  |exact ⟨by first|rfl|(simp;done),((d.out.below.alloc d.out.below.size _).setCell d.out.below.size _).setCell d.out.below.size _⟩
def aDS (h:iR w B p v mv L) (H:L.length<=5000) (G:arity k=2) (D:6<=k) (E:k<=9) (F:mS L.length ⟨k,a,b,0,ByteArray.empty⟩):
 Calls prog 73 #[ptr p,gK ⟨k,a,b,0,ByteArray.empty⟩] w fun e w'=>e= .returned (.bool true)/\Below w.heap.size w w':=by
 have q:=ae (af h (af H F));have R: ∀(C:Fn) (first cap:Array Value) (w:World),(Instr.makeFunc C first cap).run prog w= .ok (.func C first cap) w:=fun _ _ _ _=>rfl
 clear h H F;unfold ptr gK;simp only;have W: ¬k=1:=by omega
 have X: ¬k=2:=by omega
 have N: ¬k=10:=by omega
 have z:=ae G;have A:=ae (af D E);clear G D E;go_enter func73,ntmps73;go_wp2_with fail;refine (J9 (x:=⟨k,a,b,0,ByteArray.empty⟩) (by have:=A.out;simp only;omega) (by have:=A.out;simp only;omega) _).mono ?_;rintro e I ⟨U,rfl,u⟩;have o:=ae (Qa (x:=⟨k,a,b,0,ByteArray.empty⟩) q.out.1 u.1);have s:=u.2;obtain ⟨S,T,rfl⟩:=ry s;have Q:=ae s;obtain ⟨f,g,i,j,l⟩:=jF o.out.nd;simp only at f g i j l;have M:w.heap.size+1<I.heap.size:=aj I _ f;have J:=o.out.box.box;rw [amz z.out];clear u s;go_wp2_with fail;refine (Qb (amz z.out) Q.out o.out.box q.out.2.2.args (by have:=q.out.2.1;omega) (vX _)).mono ?_;rintro e P ⟨rfl,y⟩;have d:=ae (o.out.later y.below);have O:=y.size;clear f g i j l J y;obtain ⟨f,g,i,j,l⟩:=jF d.out.nd;simp only at f g i j l;have Y:w.heap.size+1<P.heap.size:=by omega
 clear M O;go_wp2_with fail;go_ret
 first
  |exact ⟨by first|rfl|(simp;done),d.out.below.alloc d.out.below.size _⟩
  |exact ⟨by first|rfl|(simp;done),(d.out.below.alloc d.out.below.size _).setCell d.out.below.size _⟩
  |exact ⟨by first|rfl|(simp;done),((d.out.below.alloc d.out.below.size _).setCell d.out.below.size _).setCell d.out.below.size _⟩
end
section
open Go.Proofs.Tryz Go Go.RowKit
variable {w:World} {B p:Nat} {v mv:Value} {L:List bI} {t:ByteArray}
def aDT (h:iR w B p v mv L) (I:L.length<=5000) (J:t∈tQ) (F:om w) (H:mS L.length ⟨1,0,0,0,t⟩):
 Calls prog 73 #[ptr p,gK ⟨1,0,0,0,t⟩] w fun e W=>e= .returned (.bool true)/\Below w.heap.size w W:=by
 have m:=ae (af h (af I H));have C:=ae (af J F);clear J F;have Y: ∀(E:Fn) (first cap:Array Value) (w:World),(Instr.makeFunc E first cap).run prog w= .ok (.func E first cap) w:=fun _ _ _ _=>rfl
 clear h I H;unfold ptr gK;simp only;go_enter func73,ntmps73;go_wp2_with fail;refine (J9 (x:=⟨1,0,0,0,t⟩) (by simp) (by simp) _).mono ?_;rintro e M ⟨av,rfl,u⟩;have k:=ae (Qa (x:=⟨1,0,0,0,t⟩) m.out.1 u.1);have o:=u.2;obtain ⟨aa,ac,rfl⟩:=ry o;have X:=ae o;obtain ⟨a,b,d,f,g⟩:=jF k.out.nd;simp only at a b d f g;have O:w.heap.size+1<M.heap.size:=aj M _ a;have N:=k.out.box.box;rw [Qc (show arity 1=0 by rfl)];clear u o;go_wp2_with fail;refine (Qb (Qc (show arity 1=0 by rfl)) X.out k.out.box m.out.2.2.args (by have:=m.out.2.1;omega) (vX _)).mono ?_;rintro e j ⟨rfl,y⟩;have i:=ae (k.out.later y.below);have U:=y.size;clear a b d f g N y;obtain ⟨a,b,d,f,g⟩:=jF i.out.nd;simp only at a b d f g;have wj:w.heap.size+1<j.heap.size:=by omega
 clear O U;go_wp2_with fail;refine (amq aDh (C.out.2.below (i.out.below.alloc i.out.below.size _)) C.out.1).mono ?_;rintro e l ⟨s,qa,qn,qc,ra,rn,rc,rfl,G⟩;have q:Below (j.heap.size+1) (j.alloc (.cells ⟨fZ ⟨1,0,0,0,ByteArray.empty⟩⟩ 90)) l:=by rw [<-uv j];exact G
 have A:=ae (rA q);have z:=ae (i.out.later (lI q));clear a b d f g G q;obtain ⟨a,b,d,f,g⟩:=jF z.out.nd;obtain ⟨D,P,Q,R,S⟩:=jF A.out;have e5:=yw A.out 4;simp only at a b d f g D P Q R S;have Z:j.heap.size<l.heap.size:=aj l _ D;have T:w.heap.size+1<l.heap.size:=by omega
 go_wp2_with fail;go_ret
 first
  |exact ⟨by first|rfl|(simp;done),(z.out.below.setCell i.out.below.size _).alloc (by have:=z.out.below.size;simp;omega) _⟩
def aDU (h:iR w B p v mv L) (hl:L.length<=5000) (ht:t∈Bf) (Y:om w) (i:mS L.length ⟨2,0,0,0,t⟩):
 Calls prog 73 #[ptr p,gK ⟨2,0,0,0,t⟩] w fun e b=>e= .returned (.bool true)/\Below w.heap.size w b:=by
 have G:=ae (af h (af hl i));have F:=ae (af ht Y);clear ht Y;have UG: ∀(W:Fn) (first cap:Array Value) (w:World),(Instr.makeFunc W first cap).run prog w= .ok (.func W first cap) w:=fun _ _ _ _=>rfl
 clear h hl i;unfold ptr gK;simp only;go_enter func73,ntmps73;go_wp2_with fail;refine (J9 (x:=⟨2,0,0,0,t⟩) (by simp) (by simp) _).mono ?_;rintro e w3 ⟨av,rfl,O⟩;have z:=ae (Qa (x:=⟨2,0,0,0,t⟩) G.out.1 O.1);have N:=O.2;obtain ⟨aa,ac,rfl⟩:=ry N;have xL:=ae N;obtain ⟨l,m,o,q,f⟩:=jF z.out.nd;simp only at l m o q f;have Ee:w.heap.size+1<w3.heap.size:=aj w3 _ l;have Bh:=z.out.box.box;rw [Qc (show arity 2=0 by rfl)];clear O N;go_wp2_with fail;refine (Qb (Qc (show arity 2=0 by rfl)) xL.out z.out.box G.out.2.2.args (by have:=G.out.2.1;omega) (vX _)).mono ?_;rintro e j ⟨rfl,Q⟩;have je:=ae (z.out.later Q.below);have vZ:=Q.size;clear l m o q f Bh Q;obtain ⟨l,m,o,q,f⟩:=jF je.out.nd;simp only at l m o q f;have wj:w.heap.size+1<j.heap.size:=by omega
 clear Ee vZ;go_wp2_with fail;have H:=heap_alloc_new j (.cells #[.int .i64 2,.int .i64 0,.int .i64 0,.int .i64 0,.string {data:= #[]}] 90);have I:=uv j (.cells #[.int .i64 2,.int .i64 0,.int .i64 0,.int .i64 0,.string {data:= #[]}] 90);have J:=je.out.later ((aG j.heap.size j).alloc (ak _) (.cells #[.int .i64 2,.int .i64 0,.int .i64 0,.int .i64 0,.string {data:= #[]}] 90));generalize j.alloc (.cells #[.int .i64 2,.int .i64 0,.int .i64 0,.int .i64 0,.string {data:= #[]}] 90)=a at H I J⊢;have y:=ae H;have s:=ae J;have E:=ae I;obtain ⟨g,Z⟩:=pS j.heap.size;rw [Z] at y E wj⊢;clear l m o q f H I J Z;have A:=ae wj;have S: ∀b,Fr (· =g) a b->om b:=fun b i=>F.out.2.below (s.out.below.trans (i.oe (fun k hk e=>by have:=A.out;omega) s.out.below.size))
 have jl:=ae S;have X: ∀b,Fr (· =g) a b->b.cell? ⟨w.heap.size+1,4,none⟩=some (.string t)/\Fr (· =g) a b:=fun b i=>⟨i.cell (jF s.out.nd).2.2.2.2 (fun e=>by have:=A.out;simp at e;omega),i⟩
 have HS:=ae X;have f4:=yw y.out 4;have Zs:g<a.heap.size:=aj a _ (jF (x:=⟨2,0,0,0,ByteArray.empty⟩) y.out).1;have P:w.heap.size+1<a.heap.size:=by omega
 have f:=(jF s.out.nd).2.2.2.2;simp only at f;have C:=ae (af Zs P);clear S X
 go_region_held3 (fun b=>b.cell? ⟨w.heap.size+1,4,none⟩=some (.string t)/\Fr (· =g) a b)
  ((refine HS.out _ ?_;first|exact T.setCell _ (fun _=>rfl)|exact T|exact U|exact Fr.refl _ _|exact (Fr.refl _ _).drew))
  (first
   |(go_at_call 127;refine (ad8 aDj (jl.out _ (by first|exact Fr.refl _ _|exact (Fr.refl _ _).drew)) F.out.1).mono ?_;rintro e w8 ⟨rfl,yk⟩;have R:Below a.heap.size a w8:=(aG _ a).drew.trans yk;have U:Fr (· =g) a w8:=Fr.iE R)
   |(go_at_call 128;refine (ad8 aDk (jl.out _ U) F.out.1).mono ?_;rintro e w9 ⟨rfl,GW⟩;have u:Below a.heap.size a w9:=R.trans (GW.mono R.size);have T:Fr (· =g) a w9:=Fr.iE u;have d:=(u.block g C.out.1).trans y.out;have M:=s.out.later u;have f9:=yw d 4;obtain ⟨p0,p1,p2,p3,p4⟩:=jF (x:=⟨2,0,0,0,ByteArray.empty⟩) d;obtain ⟨q0,q1,q2,q3,q4⟩:=jF M.nd;simp only at p0 p1 p2 p3 p4 q0 q1 q2 q3 q4;have s9:=ax C.out.1 u.size;have s9':=ax C.out.2 u.size;have D:=ae M.below;clear d M))
 all_goals
  go_wp2_with fail;go_ret;exact ⟨by first|rfl|(simp;done),(D.out.setCell (show w.heap.size<=g by have:=A.out;omega) _)⟩
def aDV (h:iR w B p v mv L) (H:L.length<=5000) {a n:Int} (oW: -3<=n) (tf:n<=4) (F:mS L.length ⟨10,a,0,n,ByteArray.empty⟩):
 Calls prog 73 #[ptr p,gK ⟨10,a,0,n,ByteArray.empty⟩] w fun e X=>e= .returned (.bool true)/\Below w.heap.size w X:=by
 have q:=ae (af h (af H F));have UG: ∀(E:Fn) (first cap:Array Value) (w:World),(Instr.makeFunc E first cap).run prog w= .ok (.func E first cap) w:=fun _ _ _ _=>rfl
 clear h H F;unfold ptr gK;simp only;go_enter func73,ntmps73;go_wp2_with fail;refine (J9 (x:=⟨10,a,0,n,ByteArray.empty⟩) (by simp) (by simp) _).mono ?_;rintro e M ⟨av,rfl,A⟩;have m:=ae (Qa (x:=⟨10,a,0,n,ByteArray.empty⟩) q.out.1 A.1);have z:=A.2;obtain ⟨aa,ac,rfl⟩:=ry z;have Z:=ae z;obtain ⟨b,d,f,i,j⟩:=jF m.out.nd;simp only at b d f i j;have O:w.heap.size+1<M.heap.size:=aj M _ b;have N:=m.out.box.box;rw [Zq (show arity 10=1 by rfl)];clear A z;go_wp2_with fail;refine (Qb (Zq (show arity 10=1 by rfl)) Z.out m.out.box q.out.2.2.args (by have:=q.out.2.1;omega) (vX _)).mono ?_;rintro e k ⟨rfl,C⟩;have I:=ae (m.out.later C.below);have W:=C.size;clear b d f i j N C;obtain ⟨b,d,f,i,j⟩:=jF I.out.nd;simp only at b d f i j;have Y:w.heap.size+1<k.heap.size:=by omega
 clear O W;go_wp2_with fail;have s:=heap_alloc_new k (.cells #[.int .i64 10,.int .i64 a,.int .i64 0,.int .i64 0,.string {data:= #[]}] 90);have u:=uv k (.cells #[.int .i64 10,.int .i64 a,.int .i64 0,.int .i64 0,.string {data:= #[]}] 90);have y:=I.out.later ((aG k.heap.size k).alloc (ak _) (.cells #[.int .i64 10,.int .i64 a,.int .i64 0,.int .i64 0,.string {data:= #[]}] 90));generalize k.alloc (.cells #[.int .i64 10,.int .i64 a,.int .i64 0,.int .i64 0,.string {data:= #[]}] 90)=D at s u y⊢;have l:=ae s;have J:=ae y;have o:=ae u;obtain ⟨g,G⟩:=pS k.heap.size;rw [G] at l o Y⊢;clear b d f i j s u y G;have f3:=yw l.out 3;have Zs:g<D.heap.size:=aj D _ (jF (x:=⟨10,a,0,0,ByteArray.empty⟩) l.out).1;have U:w.heap.size+1<D.heap.size:=by omega
 obtain ⟨b,d,f,i,j⟩:=jF J.out.nd;obtain ⟨P,Q,R,S,T⟩:=jF (x:=⟨10,a,0,0,ByteArray.empty⟩) l.out;simp only at b d f i j P Q R S T;have Ja:decide ((-64:Int)<=n)=true:=decide_eq_true (by omega);have Rz:decide (n<=(64:Int))=true:=decide_eq_true (by omega);go_region
 all_goals
  go_wp2_with fail;go_ret;exact ⟨by first|rfl|(simp;done),(J.out.below.setCell (show w.heap.size<=g by omega) _).drew⟩
end
section
open Go.Proofs.Tryz Go Go.RowKit Go.Maps
variable {x:bI} {w:World} {L:List bI} {k a:Int} {n b:Nat} {t:ByteArray}
def amA {B p:Nat} {v F:Value} (h:iR w B p v F L) (j:L.length<=5000) (g:nJ x) (f:mS L.length x) (A:om w):
 Calls prog 73 #[ptr p,gK x] w fun e G=>e= .returned (.bool true)/\Below w.heap.size w G:=by
 obtain ⟨k,a,b,n,t⟩:=x;have E:=g.k1;have s:=g.k2;have u:=g.Ct;have y:=g.FA;have z:=g.pP;have q:=g.pow;have l:=g.lW;have m:=f.a0;have i:=f.b0;simp only at E s u y z q l m i;by_cases C:k=1
 ·subst C
  obtain rfl:=l (by omega);obtain rfl:=m (by rfl);obtain rfl:=i (by decide);exact aDT h j (u rfl) A f
 ·by_cases D:k=2
  ·subst D
   obtain rfl:=l (by omega);obtain rfl:=m (by rfl);obtain rfl:=i (by decide);exact aDU h j (y rfl) A f
  ·obtain rfl:=z C D
   by_cases o:k=10
   ·subst o
    obtain rfl:=i (by decide);exact aDV h j (q rfl).1 (q rfl).2 f
   ·obtain rfl:=l o
    rcases Kj k with d|d|d
    ·obtain rfl:=m d
     obtain rfl:=i (by omega);have:k<=4:=by
      unfold arity at d;split at d<;>try split at d
      all_goals first|omega|(simp at d)
     exact aDQ h j d (by omega) this f
    ·obtain rfl:=i (by omega)
     exact aDR h j d (amm d) s o f
    ·exact aDS h j d (ad7 d).1 (ad7 d).2 f
def amB:laidOutB prog=true:=by kernel_rfl
def aDW:(match prog.underlying 90 with|some (.array _ _)|some (.struct _)=>true|_=>false)=true:=by rw [underlying90]
def Ng:Keyed prog 90:=Keyed.of_law (deep_law_laid amB (m:=2) (by omega) (of_decide_eq_true (by kernel_rfl)) (by kernel_rfl) aDW)
def aDX (d:Nat) {b n:Int} (j:(Lit.int .i64 k).wf=true) (h:(Lit.int .i64 a).wf=true) (i:(Lit.int .i64 b).wf=true) (l:(Lit.int .i64 n).wf=true) (m:t.size<=maxLen):
 prog.keyLits (d+2) 90 [.int .i64 k,.int .i64 a,.int .i64 b,.int .i64 n,.string t]=some [.int .i64 k,.int .i64 a,.int .i64 b,.int .i64 n,.string t.data.toList]:=by
 have f:prog.cellsOf 3=1:=by kernel_rfl
 have g:prog.cellsOf 9=1:=by kernel_rfl
 have e:prog.cellsOf 90=5:=by kernel_rfl
 simp [Program.keyLits,underlying90,underlying3,underlying9,f,g,e,j,h,i,l,m]
def Qd (f: -100000<=k:=by omega) (g:k<=100000:=by omega):(Lit.int .i64 k).wf=true:=by
 have d:IntKind.i64.min= -9223372036854775808:=by rfl
 have e:IntKind.i64.max=9223372036854775807:=by rfl
 simp [Lit.wf,d,e];omega
def aDY {b n:Int} (l:(Lit.int .i64 k).wf=true) (h:(Lit.int .i64 a).wf=true) (i:(Lit.int .i64 b).wf=true) (m:(Lit.int .i64 n).wf=true) (o:t.size<=maxLen): ∃p,keyOf prog 90 (gK ⟨k,a,b,n,t⟩)=some p:=by
 obtain ⟨d,j⟩: ∃d,prog.types.size+1=d+2:=⟨prog.types.size-1,by have:1<=prog.types.size:=of_decide_eq_true (by kernel_rfl);omega⟩;have f:prog.keyType 90=true:=by kernel_rfl
 have g:prog.cellsOf 90=5:=by kernel_rfl
 have e:(gK ⟨k,a,b,n,t⟩).formed prog 90=true:=by simp [gK,Value.formed,underlying90,g]
 have hc:(gK ⟨k,a,b,n,t⟩).cells.toList= [.int .i64 k,.int .i64 a,.int .i64 b,.int .i64 n,.string t]:=by simp [gK,Value.cells]
 refine ⟨.string (keyBytes [.int .i64 k,.int .i64 a,.int .i64 b,.int .i64 n,.string t.data.toList]),?_⟩;unfold keyOf;rw [underlying90];simp only;rw [f,e,j,hc,aDX d l h i m o];rfl
def aD0 {b n:Int} (h:arity k=1):args ⟨k,a,b,n,t⟩= [a]:=by unfold args;simp_all
def amC {b n:Int} (h:arity k=2):args ⟨k,a,b,n,t⟩= [a,b]:=by unfold args;simp_all
def aD1 (h:mS n x) (g:n<=10000):(0<=x.a/\x.a<=10000)/\(0<=x.b/\x.b<=10000):=by
 obtain ⟨k,a,b,m,t⟩:=x;have e:=h.a0;have f:=h.b0;simp only at e f⊢;rcases Kj k with d|d|d
 ·omega
 ·have:=h.args a (by rw [aD0 d];simp)
  omega
 ·have:=h.args a (by rw [amC d];simp)
  have:=h.args b (by rw [amC d];simp);omega
def amD:(tQ.all fun s=>decide (s.size<=100))=true/\(Bf.all fun s=>decide (s.size<=100))=true:=by constructor<;>decide
def aD2 (h:nJ x):x.t.size<=100:=by
 by_cases d:x.k=1
 ·exact of_decide_eq_true (dw.1 amD.1 _ (h.Ct d))
 ·by_cases e:x.k=2
  ·exact of_decide_eq_true (dw.1 amD.2 _ (h.FA e))
  ·rw [h.pP d e];decide
def aej (d:nJ x) (o:mS n x) (p:n<=10000): ∃q,keyOf prog 90 (gK x)=some q:=by
 have h:=aD1 o p;have i:=aD2 d;have j:=d.k1;have l:=d.k2;have e:=d.pow;have f:=d.lW;obtain ⟨k,a,b,m,t⟩:=x;simp only at h i j l e f;have s: -3<=m/\m<=4:=by
  by_cases g:k=10
  ·exact e g
  ·rw [f g];omega
 exact aDY (Qd) (Qd) (Qd) (Qd) (by unfold maxLen;omega)
def amE {y:bI} (h:gK x=gK y):x=y:=by
 obtain ⟨k,a,b,m,t⟩:=x;obtain ⟨f,d,e,g,i⟩:=y;simp only [gK] at h;simp_all
structure qE (w:World) (b:Nat) (L:List bI):Prop where
 ex: ∃D:DataW Nat,w.ownsMap prog 90 (plainElem prog 3) b L.length D/\(∀(x:bI) kl,x∉L->keyOf prog 90 (gK x)=some kl->has D kl=false)/\ ∀(i:Nat) kl,i<L.length->keyOf prog 90 (gK (L.getD i dP))=some kl->has D kl=true/\ ∀z,D.atKey kl z= .lit (.int .i64 (i:Int))
def aD3 (w:World):qE (w.alloc (.map #[] 0)) w.heap.size []:=
 ⟨⟨_,World.ownsMap_made w prog 90 _,fun _ _ _ _=>rfl,fun i _ d _=>by simp at d⟩⟩
def qE.frame {w':World} {S:Nat->Prop} (h:qE w b L) (o:Fr S w w') (m: ¬S b):qE w' b L:=by
 obtain ⟨D,⟨f,d,e,g,i,j⟩,l⟩:=h.ex;exact ⟨⟨D,⟨f,d,(o.block b (au.1 e).1 m).trans e,g,i,j⟩,l⟩⟩
def qE.blk (h:qE w b L): ∃e d,w.heap[b]? =some (.map e d):=by
 obtain ⟨D,⟨e,d,f,_⟩,_⟩:=h.ex;simp_all
def aek (w:World):(zeroValue 3).run prog w= .ok (.int .i64 0) w:=by kernel_rfl
def qE.look (h:qE w b L) (m:nJ x) (i:mS n x) (j:n<=10000) (p:x∉L):
 ∃c:Int,(Instr.lookup 108 (.map (some b)) (gK x) true).run prog w= .ok (.tuple #[.int .i64 c,.bool false]) w:=by
 obtain ⟨D,f,g⟩:=h.ex;obtain ⟨o,d⟩:=aej m i j;obtain ⟨v,s,e,l⟩:=f.look_ok Ng underlying108 (aek w) (plainElem_int (q:= .i64) underlying3 (by decide)) d;rw [g.1 x o p d] at e;obtain ⟨c,rfl,_,_⟩:=plainElem_int_inv underlying3 l;exact ⟨c,e⟩
def qE.aD4 {i:Nat} (h:qE w b L) (z:nJ x) (u:mS n x) (y:n<=10000) (hi:i<L.length) (g:L.getD i dP=x):
 (Instr.lookup 108 (.map (some b)) (gK x) true).run prog w= .ok (.tuple #[.int .i64 i,.bool true]) w:=by
 obtain ⟨D,p,s⟩:=h.ex;obtain ⟨A,d⟩:=aej z u y;obtain ⟨v,B,f,e⟩:=p.look_ok Ng underlying108 (aek w) (plainElem_int (q:= .i64) underlying3 (by decide)) d;obtain ⟨j,l⟩:=s.2 i A hi (by rw [g];exact d);rw [j] at f;rw [l] at e;obtain ⟨c,rfl,m,_⟩:=plainElem_int_inv underlying3 e;have o:(DataW.lit (.int .i64 (i:Int)):DataW Nat)= .lit (.int .i64 c):=congrArg Prod.fst m;cases o;exact f
def qE.store (h:qE w b L) (G:nJ x) (E:mS n x) (F:n<=10000) (M:L.length<=10000) (J:x∉L):
 ∃l,(Instr.mapUpdate 108 (.map (some b)) (gK x) (.int .i64 L.length)).run prog w= .ok () l/\qE l b (L++ [x])/\Fr (· =b) w l:=by
 obtain ⟨D,o,p⟩:=h.ex;obtain ⟨A,g⟩:=aej G E F;obtain ⟨l,H,B,C⟩:=o.update Ng underlying108 (by unfold maxLen;omega) g (plainElem_int (q:= .i64) underlying3 (Qd (k:=(L.length:Int))));refine ⟨l,H,⟨⟨_,by rw [bp];exact B,fun y j s f=> ?_,fun i j u f=> ?_⟩⟩,(vW C).mono (fun k _ e=>by cases e;rfl)⟩
 ·simp only [b8,cB,not_or] at s
  have d:j≠A:=fun e=>s.2 (amE (Ng.inj (e▸f) g))
  rw [has_put_other d];exact p.1 y j s.1 f
 ·by_cases q:i<L.length
  ·have m:(L++ [x]).getD i dP=L.getD i dP:=by rw [aD,aD,iC q]
   rw [m] at f;have d:j≠A:=fun e=>J (by
    have:=amE (Ng.inj (e▸f) g);rw [<-this,aD,aO q];exact fW q)
   rw [has_put_other d];exact ⟨(p.2 i j q f).1,fun z=>by rw [atKey_put_other d];exact (p.2 i j q f).2 z⟩
  ·have I:i=L.length:=by rw [bp] at u;simp at u;omega
   subst I;have m:(L++ [x]).getD L.length dP=x:=by rw [aD];simp
   rw [m,g] at f;cases f;exact ⟨has_put_same o.isMap (Ng.key g) _,fun z=>atKey_put_same o.isMap (Ng.key g) _ z⟩
end
section
open Go Go.RowKit Go.Maps
variable {w:World} {B p b:Nat} {v m:Value} {L:List bI} {x:bI}
def iR.frame {w':World} {S:Nat->Prop} (h:iR w B p v m L) (a:Fr S w w') (d: ¬S p) (e: ∀k,v.ownBlock=some k-> ¬S k):iR w' B p v m L:=
 ⟨(a.block p (au.1 h.blk).1 d).trans h.blk,h.iT.frame a e⟩
def ael (h:iR w B p v m L):v.ownBlock≠some p:=fun e=>by
 obtain ⟨cur,hc⟩:=vV h.iT.own e;rw [h.blk] at hc;grind
def Zu {d:List bI} (h:iR w B p v m L) (hi:qE w b d):p≠b/\v.ownBlock≠some b:=by
 obtain ⟨f,a,g⟩:=hi.blk;refine ⟨fun e=> ?_,fun e=> ?_⟩
 ·have:=h.blk
  simp_all
 ·obtain ⟨cur,hc⟩:=vV h.iT.own e
  simp_all
def aD5 {f:Array Oper} {o:Oper} {a:Act} {K:Act->World->Prop} {Q:Exit->Act->World->Prop} {E:Prop} (N:o.guard=none) (s x:Operand) (G:o.op= .call {callee:= .builtin .append,args:= #[s,x],argTypes:= #[107,107]})
 (base:Nat) (M:base<=w.heap.size) (v:Value) (L:List bI) (H:a.eval s=v) (l:iz w base v L) (B:Nat) (y:bI) (I:a.eval x= .slice (some ⟨B,0,none⟩) 1 1)
 (F:w.heap[B]? =some (.cells ⟨fZ y⟩ 90 (0,0))) (O:L.length<=100000)
 (h: ∀g cap d,iz d base (.slice (some ⟨g,0,none⟩) (L.length+1) cap) (L++ [y])->Fr (fun k=>v.ownBlock=some k) w d->(v.ownBlock=some g\/w.heap.size<=g)->
  K (a.put o.dst (.slice (some ⟨g,0,none⟩) (L.length+1) cap)) d):
 if Region.wanted o (yielded f a.tmps)=true then Oper.wp Tryz.prog o a w K Q else E:=by
 obtain ⟨J,j,t,z,q⟩:=info_parts Tryz.infoNode;refine step_append_lies w N s x 107 G base 90 J _ 5 48 Tryz.underlying107 j t z q rfl (by omega) v L.length (Cw L) H l.own ⟨B,0,none⟩ 1 1 (fZ y) I rfl (World.news_of_block (cs:=⟨fZ y⟩) F)
  (by intro u i;simp [fZ] at i;rcases i with rfl|rfl|rfl|rfl|rfl<;>rfl) (by omega) (by unfold maxLen;omega) (by omega) M w.heap.size rfl ?_
 intro g cap d A C D _;refine h g cap d ⟨?_⟩ (vW C) (D.imp id (fun e=>by omega));rw [ad4,bp];exact A
def aD6 {f:World} {n d cap:Nat} {o:Obj} (H:iR w B p v m L) (i:iz f B (.slice (some ⟨d,0,none⟩) (n+1) cap) (L++ [x])) (g:Fr (fun k=>v.ownBlock=some k) (w.alloc o).drew f)
 (s:v.ownBlock=some d\/(w.alloc o).drew.heap.size<=d):
 iR (f.setCell ⟨p,0,none⟩ (.slice (some ⟨d,0,none⟩) (n+1) cap)) B p (.slice (some ⟨d,0,none⟩) (n+1) cap) m (L++ [x])/\
  Fr (fun k=>k=p\/v.ownBlock=some k) w (f.setCell ⟨p,0,none⟩ (.slice (some ⟨d,0,none⟩) (n+1) cap)):=by
 have l:p<w.heap.size:=(au.1 H.blk).1;have q:(w.alloc o).drew.heap.size=w.heap.size+1:=by simp
 have j:d≠p:=fun e=>by
  rcases s with h|h
  ·exact ael H (by rw [h,e])
  omega
 have t:f.heap[p]? =some (.cells #[v,m] 110 (0,0)):=by
  rw [g.block p (by omega) (ael H)];exact (((aG w.heap.size w).alloc (ak _) o).drew.block p l).trans H.blk
 refine ⟨⟨?_,⟨?_⟩⟩,?_⟩
 ·unfold World.setCell
  grind
 ·exact ownsRow_setCell_other (a:=⟨p,0,none⟩) i.own (by simp [Value.ownBlock];omega) _
 ·exact (((Fr.refl (fun k=>k=p\/v.ownBlock=some k) w).alloc o).drew.trans g (fun k _ e=> .inr e)).setCell _ (fun _=> .inl rfl)
def amF (h:iR w B p v (.map (some b)) L) (hi:qE w b L) (hB:B<=w.heap.size) (hx:nJ x) (hf:mS L.length x) (yi:x∉L) (hl:L.length<=4000) (hT:om w):
 Calls Tryz.prog 40 #[ptr p,gK x] w fun e w'=> ∃v',e= .returned (.tuple #[.int .i64 L.length,.int .i64 0])/\iR w' B p v' (.map (some b)) (L++ [x])/\qE w' b (L++ [x])/\Fr (fun j=>j=p\/j=b\/v.ownBlock=some j) w w':=by
 have i:=ae (af h (af hi (af hB (af hx (af hf (af yi (af hl hT)))))));have hp:p<w.heap.size:=(au.1 h.blk).1;obtain ⟨a,c,rfl⟩:=h.iT.slice;obtain ⟨n,T⟩:=pS L.length;have s:=ae T;have Q:=ae (by rw [<-T];exact h:iR w B p (.slice a n c) (.map (some b)) L);have H:=ae (Zu h hi);rw [T] at hl⊢;clear h hi hB hx hf yi hT T;obtain ⟨k,d,f,m,t⟩:=x;have HA:=ae ((aG w.heap.size w).alloc (ak _) (.cells ⟨fZ ⟨k,d,f,m,t⟩⟩ 90));have HQ:=ae hp;clear hp;unfold ptr;rw [show gK ⟨k,d,f,m,t⟩= .agg #[.int .i64 k,.int .i64 d,.int .i64 f,.int .i64 m,.string t] from rfl];go_enter Tryz.func40,Tryz.ntmps40;go_wp2_with fail;refine (amA (x:=⟨k,d,f,m,t⟩) (Q.out.below HA.out) (by have:=s.out;omega) i.out.2.2.2.1 i.out.2.2.2.2.1 (i.out.2.2.2.2.2.2.2.below HA.out)).mono ?_;rintro e u ⟨rfl,hb⟩;have I:=ae (by rw [<-uv w];exact hb:Below (w.heap.size+1) (w.alloc (.cells ⟨fZ ⟨k,d,f,m,t⟩⟩ 90)) u);clear hb;obtain ⟨l,z,A,C,D⟩:=jF (rA I.out);simp only at l z A C D;have hs:w.heap.size<u.heap.size:=aj u _ l;have pT:=ae (Q.out.below (lI I.out));have Z:=ae (i.out.2.1.frame (Fr.iE (S:=fun _=>False) (lI I.out)) (fun e=>e));have mj:=ae (Fr.iE (S:=fun _=>False) (lI I.out));have q:=mD pT.out.blk 0;have b1:=mD pT.out.blk 1;simp only [bM,bB,eh] at q b1;have R:=yw pT.out.blk 0;have IJ:p<u.heap.size:=aj u _ q;obtain ⟨cl,Ks⟩:=(Z.out.frame (Fr.refl (fun _=>False) u).drew (fun e=>e)).look (x:=⟨k,d,f,m,t⟩) i.out.2.2.2.1 i.out.2.2.2.2.1 (by have:=s.out;omega) i.out.2.2.2.2.2.1;rw [show gK ⟨k,d,f,m,t⟩= .agg #[.int .i64 k,.int .i64 d,.int .i64 f,.int .i64 m,.string t] from rfl] at Ks;go_wp2_with fail;go_region;have tL:Below (w.heap.size+1) (w.alloc (.cells ⟨fZ ⟨k,d,f,m,t⟩⟩ 90)) u.drew:=I.out.drew;clear l z A C D hs q b1 R IJ Ks;generalize u.drew=g at tL⊢;have J:=ae tL;clear tL;obtain ⟨l,z,A,C,D⟩:=jF (rA J.out);simp only at l z A C D;have hs:w.heap.size<g.heap.size:=aj g _ l;have E:=ae (Q.out.below (lI J.out));have MX:=ae (i.out.2.1.frame (Fr.iE (S:=fun _=>False) (lI J.out)) (fun e=>e));have j5:=ae (Fr.iE (S:=fun j=>j=p\/(Value.slice a n c).ownBlock=some j) (lI J.out));have q:=mD E.out.blk 0;have b1:=mD E.out.blk 1;simp only [bM,bB,eh] at q b1;have R:=yw E.out.blk 0;have xT:p<g.heap.size:=aj g _ q;have Ka:=ae (ael E.out);have K0:=ae hs;have aD7:=ae (Zu E.out MX.out).2;have Y:=ae (show B<=g.heap.size by have:=i.out.2.2.1;omega);have lP: ∀o,Below g.heap.size g (g.alloc o).drew:=fun o=>((aG _ g).alloc (ak _) o).drew
 have Kb:=ae lP;have M7:=ae xT;have Y8:(g.alloc (.cells ⟨fZ ⟨k,d,f,m,t⟩⟩ 90)).cell? ⟨p,0,none⟩=some (.slice a n c):=(((aG _ g).alloc (ak _) _).cell (p:=⟨p,0,none⟩) xT).trans q;clear lP;go_wp2_with fail
 go_region_law (refine aD5 (by rfl) _ _ (by rfl) B (zR _ Y.out) (.slice a n c) L (by rfl) (iz.mk ((E.out.iT.own.alloc _).drew)) g.heap.size ⟨k,d,f,m,t⟩ (by rfl) (heap_alloc_new g _) (by have:=s.out;omega) ?_;intro gg mN w5 W U D8;rw [s.out] at W;rw [s.out];have s1:w5.cell? ⟨p,0,none⟩=some (.slice a n c):=U.cell (((Kb.out _).cell (p:=⟨p,0,none⟩) M7.out).trans q) Ka.out;have s2:w5.frozen? ⟨p,0,none⟩=false:=(U.frozen (a:=⟨p,0,none⟩) (by have:=M7.out;simp;omega) Ka.out).trans (((Kb.out _).frozen (p:=⟨p,0,none⟩) M7.out).trans R))
 all_goals
  have hE:=aD6 E.out W U D8;have y:=ae hE;clear hE W U D8 s1 s2 l z A C D q b1 R Y8;generalize w5.setCell ⟨p,0,none⟩ (.slice (some ⟨gg,0,none⟩) (n+1) mN)=F at y⊢;have P:=(y.out.2.block w.heap.size K0.out (fun e=>e.elim (fun e=>by have:=HQ.out;omega) (fun e=>by have:=Ue Q.out.iT.own e;omega))).trans (rA J.out);obtain ⟨l,z,A,C,D⟩:=jF P;simp only at l z A C D;have b1:=mD y.out.1.blk 1;simp only [bM,bB,eh] at b1;have Zs:w.heap.size<F.heap.size:=aj F _ l;have hp6:p<F.heap.size:=aj F _ b1;have N:=MX.out.frame y.out.2 (fun e=>e.elim (fun e=>H.out.1 e.symm) (fun e=>aD7.out e));have G:=ae N;obtain ⟨w7,iB,O,M⟩:=(G.out.frame (Fr.refl (fun _=>False) F).drew (fun e=>e)).store (x:=⟨k,d,f,m,t⟩) i.out.2.2.2.1 i.out.2.2.2.2.1 (by have:=s.out;omega) (by have:=s.out;omega) i.out.2.2.2.2.2.1;rw [show gK ⟨k,d,f,m,t⟩= .agg #[.int .i64 k,.int .i64 d,.int .i64 f,.int .i64 m,.string t] from rfl,s.out] at iB;have X:=ae (af O ((Fr.refl (fun j=>j=b) F).drew.trans M (fun _ _ e=>e)));clear P N O M;go_wp2_with fail;go_region;go_wp2_with fail;go_ret2;refine ⟨_,rfl,y.out.1.frame X.out.2 (fun e=>H.out.1 e) (fun j e e'=>(Zu y.out.1 G.out).2 (by rw [e,e'])),X.out.1,((j5.out.trans y.out.2 (fun _ _ e=>e)).mono (fun j _ e=>e.imp id .inr)).trans X.out.2 (fun j _ e=> .inr (.inl e))⟩
end
section
open Go Go.RowKit Go.Maps
variable {L:List bI} {i p b:Nat} {W wr w':World} {v:Value}
def amG {w:World} :Calls Tryz.prog 34 #[] w fun e w'=> ∃p b,e= .returned (ptr p)/\iR w' w.heap.size p (.slice none 0 0) (.map (some b)) []/\qE w' b []/\w.heap.size<=p/\w.heap.size<=b/\Below w.heap.size w w':=by
 have d:= @run_makeMap Tryz.prog;go_enter Tryz.func34,Tryz.ntmps34;go_wp2_with fail;go_ret;have f:(w.alloc (.map #[] 0)).heap.size=w.heap.size+1:=by simp
 have a:Below w.heap.size w (w.alloc (.map #[] 0)):=(aG _ w).alloc (ak _) _;refine ⟨(w.alloc (.map #[] 0)).heap.size,w.heap.size,by simp [ptr],⟨?_,⟨World.ownsRow_nil _ _ _ _⟩⟩,(aD3 w).frame (S:=fun _=>False) ((Fr.refl _ _).alloc _) (fun e=>e),by omega,ak _,a.alloc (by omega) _⟩;exact heap_alloc_new (w.alloc (.map #[] 0)) _
structure Kt (W wr:World) (p b:Nat) (L:List bI) (i:Nat) (v:Value):Prop where
 gr:iR wr W.heap.size p v (.map (some b)) (L.take i)
 ix:qE wr b (L.take i)
 p0:W.heap.size<=p
 b0:W.heap.size<=b
 below:Below W.heap.size W wr
def amH (hi:i<L.length):L.take (i+1)=L.take i++ [L.getD i dP]:=by
 simp_all
def Kt.later (h:Kt W wr p b L i v) (a:Below wr.heap.size wr w'):Kt W w' p b L i v:=
 ⟨h.gr.below a,h.ix.frame (Fr.iE (S:=fun _=>False) a) (fun e=>e),h.p0,h.b0,h.below.trans (a.mono h.below.size)⟩
def Kt.next {f:Value} (h:Kt W wr p b L i v) (hi:i<L.length) (a:iR w' W.heap.size p f (.map (some b)) (L.take i++ [L.getD i dP])) (d:qE w' b (L.take i++ [L.getD i dP])) (g:Fr (fun j=>j=p\/j=b\/v.ownBlock=some j) wr w'):Kt W w' p b L (i+1) f:=by
 rw [<-amH hi] at a d;refine ⟨a,d,h.p0,h.b0,h.below.trans (g.oe (fun j k e=> ?_) h.below.size)⟩;rcases e with e|e|e
 ·have:=h.p0;omega
 ·have:=h.b0;omega
 ·have:=(h.gr.iT.own.lt j e).1;omega
def aD8 (h:L.Nodup) (hi:i<L.length):L.getD i dP∉L.take i:=by
 intro a;have e:(L.take (i+1)).Nodup:=h.sublist (List.take_sublist _ _);rw [amH hi,List.nodup_append] at e;grind
def aD9 {B:Nat} {O:Value} (z:iz W B O L) (M:GI L) (N:L.length<=1000) (J:om W):
 Calls Tryz.prog 23 #[O] W fun e w'=> ∃p v Z,e= .returned (.tuple #[ptr p,.int .i64 L.length,.int .i64 0])/\iR w' W.heap.size p v Z L/\Below W.heap.size W w':=by
 have h:=ae (af z (af M (af N J)));obtain ⟨a,c,rfl⟩:=z.slice;obtain ⟨n,A⟩:=pS L.length;have f:=ae A;rw [A] at N⊢;clear z M J A;go_enter Tryz.func23,Tryz.ntmps23;go_wp2_with fail;refine amG.mono ?_;rintro e w1 ⟨p,b,rfl,j,l,o,G,H⟩;have s:=ae (show Kt W w1 p b L 0 (.slice none 0 0) from ⟨j,l,o,G,H⟩);clear j l o G H;unfold ptr;go_wp2_with fail;go_loopw [13] (fun iv wr=> ∃(i:Nat) (v:Value),i<=n/\iv= .int .i64 (i:Int)/\Kt W wr p b L i v) (fun iv _=>n-(intOf iv).toNat)
 case atStart=>exact ⟨0,_,by omega,rfl,s.out⟩
 case round=>
  obtain ⟨i,v,Y,rfl,I⟩:=hrel;have q:=ae I;clear I;by_cases y:i<n
  ·obtain ⟨x,C⟩:=pS (L.getD i dP)
   obtain ⟨U,c4,T,c0,c1,D,E,F⟩:=(h.out.1.frame (Fr.iE (S:=fun _=>False) q.out.below) (fun _ _ e=>e)).form (by rw [f.out];exact y) C;cases T;have d:=ae (af y C);obtain ⟨k,P,Q,m,t⟩:=x;simp only at c0 c1 D E F;have X:U<wr.heap.size:=aj wr _ c0;have eT:(0:Int)<=(i:Int):=by omega
   have xO:(i:Int)<(n:Int):=by omega
   clear C;go_wp2_with fail;have g:=ae (q.out.later ((aG wr.heap.size wr).alloc (ak _) (.cells ⟨fZ ⟨k,P,Q,m,t⟩⟩ 90)));refine (amF (x:=⟨k,P,Q,m,t⟩) g.out.gr g.out.ix g.out.below.size (by have:=h.out.2.1.nd i (by rw [f.out];exact d.out.1);rw [d.out.2] at this;exact this)
    (by have:=h.out.2.1.fit i (by rw [f.out];exact d.out.1);rw [d.out.2] at this;rw [cY,fe (by rw [f.out];have:=d.out.1;omega)];exact this)
    (by have:=aD8 h.out.2.1.nodup (i:=i) (by rw [f.out];exact d.out.1);rw [d.out.2] at this;exact this)
    (by rw [cY];omega) (h.out.2.2.2.below g.out.below)).mono ?_
   rintro e w5 ⟨v5,rfl,j,l,o⟩;have u:=ae (g.out.next (by rw [f.out];exact d.out.1) (by rw [d.out.2];exact j) (by rw [d.out.2];exact l) o);rw [show (L.take i).length=i by rw [cY,fe (by rw [f.out];have:=d.out.1;omega)]];clear j l o c0 c1 D E F;go_wp2_with fail;go_roundw
   case rel=>exact ⟨i+1,v5,by have:=d.out.1;omega,by go_num,u.out⟩
   case measure=>simp [intOf];omega
  ·have R:i=n:=by omega
   subst R;clear Y y;go_wp2_with fail;refine bodyPost_ret (by simp [results,Tryz.results23,go_sem];try rfl) rfl ?_;have e:L.take i=L:=by rw [<-f.out];exact g7
   exact ⟨p,v,_,rfl,e▸q.out.gr,q.out.below⟩
end
section
open Go.Proofs.Tryz Go Go.RowKit
variable {L:List bI} {w:World} {B p:Nat} {v m:Value}
def aEa : ∀u∈Cw L,u.oneCell'=true:=fun u b=>by
 obtain ⟨x,_,a⟩:=List.mem_flatMap.1 b;simp only [fZ,bq,jd,or_false] at a;rcases a with rfl|rfl|rfl|rfl|rfl<;>rfl
def aEb (h:iz w B v L) (l:L.length<=100000):
 Calls prog 96 #[v] w fun e g=> ∃f,e= .returned f/\iz g w.heap.size f L/\Below w.heap.size w g:=by
 obtain ⟨E,⟨rfl,C⟩|⟨a,cap,rfl,J,M,b⟩⟩:=aeV h.own
 ·obtain rfl:L= []:=b7 C
  have F:=fun w=>Lib.run_eql_slice_nil (P:=prog) w 32 90 none 0 0 0 0 underlying32
  go_enter func96,ntmps96;go_wp2_with fail;go_ret;exact ⟨_,rfl,⟨World.ownsRow_nil _ _ _ _⟩,aG _ _⟩
 ·have F:=fun w=>Lib.run_eql_slice_nil (P:=prog) w 32 90 (some a) L.length cap 0 0 underlying32
  obtain ⟨H,x,z,A,y⟩:=info_parts Tryz.infoNode;have s:=ae b;have q:=ae (aEa (L:=L));have i:(w.alloc (.cells #[] 90)).ownsRow w.heap.size 90 5 (.slice (some ⟨w.heap.size,0,none⟩) 0 0) 0 []:=World.ownsRow_lit w #[] 0 (ak _) (by unfold maxLen;omega) rfl;have I:=ae i;clear b i h;go_enter func96,ntmps96;go_wp2_with (at_builtin;refine wpList_append_own _ rfl _ _ 32 rfl w.heap.size 90 H _ 5 48 underlying32 x z A y rfl (by decide) _ 0 [] rfl I.out a L.length cap (Cw L) rfl E ?_ q.out (by unfold maxLen;omega) (by omega) (by simp) ?_)
  ·intro j u G
   have:=s.out j u G;exact (((aG w.heap.size w).alloc (ak _) (.cells #[] 90)).cell (aj w _ this)).trans this
  ·intro f g d o _
   try simp only [jy,dr] at d
   have HO:=ae d;have t:=ae o;clear d o;go_wp2_with fail;go_ret;exact ⟨_,rfl,⟨HO.out⟩,((aG w.heap.size w).alloc (ak _) (.cells #[] 90)).grown t.out (by simp) (by intro k D;simp [Value.ownBlock] at D;omega)⟩
def amI (h:iR w B p v m L) (a:L.length<=100000):
 Calls prog 52 #[ptr p] w fun e f=> ∃b,e= .returned b/\iz f w.heap.size b L/\Below w.heap.size w f:=by
 have j:=mD h.blk 0;simp only [bM,bB] at j;have g:=ae (aEb h.iT a);obtain ⟨k,l,rfl⟩:=h.iT.slice;clear h;unfold ptr;go_enter func52,ntmps52;go_wp2_with fail;refine g.out.mono ?_;rintro e o ⟨b,rfl,d⟩;have i:=ae d;clear d;go_wp2_with fail;go_ret;exact ⟨b,rfl,i.out⟩
def aEc (h:iR w B p v m L) (a:L.length<=100000):
 Calls prog 51 #[ptr p] w fun e d=>e= .returned (.int .i64 L.length)/\d=w:=by
 have b:=mD h.blk 0;simp only [bM,bB] at b;obtain ⟨f,g,rfl⟩:=h.iT.slice;clear h;unfold ptr;go_enter func51,ntmps51;go_wp2_with fail;go_ret;exact ⟨rfl,rfl⟩
end
end Go.Proofs.YthleenhngcdgkaaGreatDoor
namespace Go.Proofs
section
open Go.RowKit Go.Maps Go.Sort Go.Shelf
def Tryz.sorts74 (m:Nat):AnyZ.SortsIn Tryz.prog Tryz.sorted74_ren Fence.wide m:=
 ⟨fun blk b cap e W d f a=>callsIn_wide.2 (AnyM.slices_Sort_string Tryz.sort130 blk b cap e W d f a),
  fun p cap W=>callsIn_wide.2 (AnyM.slices_Sort_string_none Tryz.sort130 p cap W)⟩
def Tryz.maps_Keys_75 (a:Option Nat) (W:World):CallsIn Fence.wide 5 Tryz.prog 75 #[.map a] W fun e b=>e= .returned (.func (.func 131) #[] #[.pointer (some ⟨W.heap.size,0,none⟩)])/\b=W.alloc (.cells #[.map a] 142):=
 AnyZ.keys_in Tryz.keys75 Fence.wide 5 trivial rfl a W
def Tryz.slices_Sorted_keys_74_75 {H:Type} (b k:Nat) (a:DataW H) (R:Value->Option (DataW H×List MemPlace)) (w:World) (j:w.ownsMap Tryz.prog 9 R b k a) (g:Maps.size a<=maxLen) (h:Maps.size a*16<=140737488355328):
 CallsIn Fence.wide 5 Tryz.prog 74 #[.func (.func 131) #[] #[.pointer (some ⟨w.heap.size,0,none⟩)]] (w.alloc (.cells #[.map (some b)] 142)) fun e l=> ∃(v:Value) (f:List (List UInt8)),e= .returned v/\f.Perm (strKeys a)/\
  l.ownsRow (w.alloc (.cells #[.map (some b)] 142)).heap.size 9 1 v f.length ((f.mergeSort (fun x y=>decide (x<=y))).map encStr)/\(v= .slice none 0 0↔f= [])/\Below (w.alloc (.cells #[.map (some b)] 142)).heap.size (w.alloc (.cells #[.map (some b)] 142)) l:=by
 have t:=j.lt;have i:SeqGives Fence.wide 2 Tryz.prog 131 #[.pointer (some ⟨w.heap.size,0,none⟩)] encStr (fun f=>f.Perm (strKeys a)) (Maps.size a) (w.alloc (.cells #[.map (some b)] 142)):=
  AnyZ.keys_gives (ρ:=Tryz.keys75_ren) {Tryz.keys75 with} Fence.wide _ trivial rfl (by omega) w.heap.size b k a _ (by simp) (by simp) (by
   obtain ⟨o,d,q,m,s,p⟩:=j;exact ⟨o,d,(dX _ _ b t).trans q,m,s,p⟩)
 exact AnyZ.sorted_in Tryz.sorted74 Fence.wide 5 trivial trivial trivial trivial rfl (by omega) (Tryz.sorts74 _) (enters_of Tryz.func130 (by kernel_rfl) rfl) 131 #[.pointer (some ⟨w.heap.size,0,none⟩)] trivial (enters_of Tryz.func131 (by kernel_rfl) rfl) _ _ g h _ i
end
end Go.Proofs
