/- refineFuel_proved. -/
import Derived.Test.YtnmpjdgobafdkaaGreatDoorPmaa
import Derived.WalkKit
import Derived.WalkSpells
import Derived.WalkLawsBesides
import Derived.BigQuiet
import Derived.Lib.Hide
import Derived.IntWalk
import Derived.Deep.LoopGhost
import Derived.Maps.AppendAt
import Derived.OwnWalk
import Derived.Deep.QuietTactic
import Derived.Laws.OwnMore
import Derived.Lib.EndianBits
import Derived.Test.YtnmpjdgobafdkaaGreatDoorPmzz
set_option maxRecDepth 100000
set_option maxHeartbeats 16000000
set_option linter.all false
noncomputable section
namespace Go.Proofs.YtnmpjdgobafdkaaGreatDoor
section
open Go.RowKit
def vF (v:Value) (w:World) (e:Ending) (w':World):Prop:=e= .returned v/\w=w'
def ze {v a:Value} {w:World} (h:a=v):vF v w (.returned a) w:=⟨by rw [h],rfl⟩
def Pr (w:World) (v:Value) (n b:Nat) (xs:List Value):Prop:=
 xs.length=n*b/\((v= .slice none 0 0/\n=0)\/ ∃a cap,v= .slice (some a) n cap/\n<=cap/\cap<=maxLen/\ ∀j u,xs[j]? =some u->w.cell? (a.add j)=some u)
def Pr.below {w w':World} {v:Value} {n e:Nat} {xs:List Value} (h:Pr w v n e xs) (k:Below w.heap.size w w'):Pr w' v n e xs:=by
 refine ⟨h.1,?_⟩;rcases h.2 with h|⟨a,cap,f,g,i,b⟩
 ·exact .inl h
 ·exact .inr ⟨a,cap,f,g,i,fun j u d=>(k.cell (ak w _ (b j u d))).trans (b j u d)⟩
def qZ {w:World} {base:Nat} {e:TypeId} {size g n cap:Nat} {xs:List Value} (h:w.ownsRow base e size (.slice (some ⟨g,0,none⟩) n cap) n xs) {j:Nat} {u:Value} (b:xs[j]? =some u):w.cell? ⟨g,j,none⟩=some u:=by
 have a:j<n*size:=by rw [<-h.1];grind
 rw [h.cellAt j a,b]
def ad4 {w:World} {base:Nat} {e:TypeId} {a:Nat} {v:Value} {n:Nat} {xs:List Value} (h:w.ownsRow base e a v n xs):Pr w v n a xs:=by
 refine ⟨h.1,?_⟩;rcases h.2 with b|⟨g,cap,cur,rfl,k,l,d,f,m,o⟩
 ·exact .inl b
 ·refine .inr ⟨_,cap,rfl,d,f,fun j u i=> ?_⟩
  have:(⟨g,0,none⟩:Addr).add j=⟨g,j,none⟩:=by unfold Addr.add;simp_all
  rw [this];exact qZ h i
def rb (l:List Nat):List Value:=l.map fun x:Nat=> .int .u32 (x:Int)
def j5 (l:List Nat):Prop:= ∀x∈l,x<4294967296
def val:List Nat->Nat
 | []=>0
 |x::l=>x+4294967296*val l
def cP:List Nat->Nat
 | []=>0
 |x::l=>if x=0/\cP l=0 then 0 else cP l+1
def g7 (w:World) (v:Value) (l:List Nat):Prop:=Pr w v l.length 1 (rb l)/\j5 l
def uW: ∀l,cP l<=l.length
 | []=>aq _
 |x::l=>by
  have:=uW l;unfold cP;grind
def Ps: ∀(l:List Nat) (k:Nat),k<=l.length->(∀i,k<=i->i<l.length->l.getD i 0=0)->(k=0\/l.getD (k-1) 0≠0)->cP l=k
 | [],k,h,_,_=>by simp only [fo] at h;unfold cP;omega
 |x::l,0,_,h,_=>by
  have b:=Ps l 0 (b6 _) (fun i _ m=>by have:=h (i+1) (b6 _) (by simp_all);grind) (.inl rfl);have p:x=0:=by have:=h 0 (aq _) (by simp);grind
  unfold cP;simp_all
 |x::l,k+1,o,h,j=>by
  have d:k<=l.length:=by simp_all
  have a: ∀i,k<=i->i<l.length->l.getD i 0=0:=fun i f g=>by have:=h (i+1) (by omega) (by simp_all);grind
  have e:(x::l).getD k 0≠0:=by simp_all
  unfold cP;cases k with
  |zero=>
   have b:=Ps l 0 (b6 _) a (.inl rfl);simp_all
  |succ k=>
   have b:=Ps l (k+1) d a (.inr (by simp_all));simp_all
def Y8: ∀l,val (l.take (cP l))=val l
 | []=>rfl
 |x::l=>by
  have a:=Y8 l;unfold cP;split
  ·rename_i h
   rw [h.2] at a;simp only [List.take_zero,val] at a⊢;omega
  ·rw [jV]
   simp only [val,a]
def re {l:List Nat} {i:Nat} (hi:i<l.length:=by omega):(rb l)[i]? =some (.int .u32 (l.getD i 0:Nat)):=by
 unfold rb;simp_all
def mH {l:List Nat} (h:j5 l) (i:Nat):l.getD i 0<4294967296:=by
 rw [aD];rcases bV i l.length with a|a
 ·rw [aM a];exact h _ (eU a)
 simp_all
def g7.form {w:World} {v:Value} {l:List Nat} (h:g7 w v l): ∃(a:Option Addr) (c:Nat) (x:Addr),v= .slice a l.length c/\(0<l.length->a=some x)/\l.length<=c/\l.length<=maxLen/\ ∀i,i<l.length->w.cell? (x.add i)=some (.int .u32 (l.getD i 0:Nat)):=by
 rcases h.1.2 with ⟨rfl,g⟩|⟨x,cap,rfl,b,d,e⟩
 ·simp_all
 ·exact ⟨some x,cap,x,rfl,fun _=>rfl,b,aK b d,fun i f=>e i _ (re f)⟩
section
variable {w:World}
def xU {v:Value} {l:List Nat} (h:g7 w v l):Calls Tryz.prog 157 #[v] w (vF (.int .i64 (cP l)) w):=by
 obtain ⟨a,c,x,rfl,s,hc,E,b⟩:=h.form;have u:=ae (mH h.2);have B:=ae b;have A:=ae s;unfold maxLen at E;clear h b s;go_enter Tryz.func157,Tryz.ntmps157;go_wp2
 go_loop [3] (fun i=> ∃k:Nat,k<=l.length/\i= .int .i64 k/\ ∀j,k<=j->j<l.length->l.getD j 0=0) (fun i=>(intOf i).toNat)
 case atStart=>exact ⟨_,aq _,rfl,fun j D q=>by omega⟩
 case round=>
  obtain ⟨k,t,rfl,y⟩:=hrel;have m:=ae y;clear y;by_cases J:0<k
  ·have C:(0:Int)<k:=by omega
   have z:=B.out (k-1) (by omega);obtain rfl:=A.out (by omega);have G:((k:Int)-1).toNat=k-1:=by omega
   have H:(0:Int)<=(k:Int)-1:=by omega
   have I:(k:Int)-1<l.length:=by omega
   obtain ⟨d,o⟩:=pQ (l.getD (k-1) 0);rw [o] at z;have p:=ae o;clear o;by_cases f:d=0
   ·have g:=ae (p.out.trans f)
    subst f;go_wp2
    go_round
    case rel=>exact ⟨k-1,by omega,by go_num,fun j D q=>by
     by_cases e:j=k-1
     ·rw [e];exact g.out
     ·exact m.out j (by omega) q⟩
    case measure=>simp [intOf];omega
   ·have F:((d:Int)==0)=false:=by simpa using f
    have g:=ae f;clear f;go_wp2;go_ret;exact ze (by rw [Ps l k t m.out (.inr (by rw [p.out];exact g.out))];rfl)
  ·obtain rfl:k=0:=by omega
   go_wp2;go_ret;exact ze (by rw [Ps l 0 t m.out (.inl rfl)];rfl)
end
end
section
open Go.Proofs.Tryz Go.RowKit
def B9:(prog.info? 172).map (fun i=>(i.zero,i.size,i.bytes))=some (some (.int .u32 0),1,4):=by kernel_rfl
def fW (w:World) (base:Nat) (v:Value) (l:List Nat):Prop:=w.ownsRow base 172 1 v l.length (rb l)/\j5 l
def mP (w:World) (base:Nat) (v:Value) (n:Nat):Prop:= ∃l,fW w base v l/\cP l=l.length/\val l=n
def dL (w:World) (v:Value) (n:Nat):Prop:= ∃l,g7 w v l/\cP l=l.length/\val l=n
def rj (n:Nat) (w:World) (e:Ending) (w':World):Prop:= ∃v,e= .returned v/\mP w' w.heap.size v n/\Below w.heap.size w w'
def fW.sl {w:World} {base:Nat} {v:Value} {l:List Nat} (h:fW w base v l):g7 w v l:=⟨ad4 h.1,h.2⟩
def mP.r {w:World} {base:Nat} {v:Value} {n:Nat} (h:mP w base v n):dL w v n:=by
 obtain ⟨l,a,b,d⟩:=h;exact ⟨l,a.sl,b,d⟩
def mP.base {w:World} {base base':Nat} {v:Value} {n:Nat} (h:mP w base v n) (k:base'<=base):mP w base' v n:=by
 obtain ⟨l,⟨⟨b,a⟩,d⟩,f,i⟩:=h;refine ⟨l,⟨⟨b,?_⟩,d⟩,f,i⟩;rcases a with a|⟨g,cap,cur,e,j,r⟩
 ·exact .inl a
 ·exact .inr ⟨g,cap,cur,e,aK k j,r⟩
def g7.below {w w':World} {v:Value} {l:List Nat} (h:g7 w v l) (a:Below w.heap.size w w'):g7 w' v l:=⟨h.1.below a,h.2⟩
def dL.below {w w':World} {v:Value} {n:Nat} (h:dL w v n) (e:Below w.heap.size w w'):dL w' v n:=by
 obtain ⟨l,a,b,d⟩:=h;exact ⟨l,a.below e,b,d⟩
def ad5: ∀l:List Nat,cP (l.take (cP l))=cP l
 | []=>rfl
 |x::l=>by
  have a:=ad5 l;by_cases h:x=0/\cP l=0
  ·simp [cP,h]
  ·have e:cP (x::l)=cP l+1:=by simp only [cP,if_neg h]
   rw [e,jV];simp only [cP,a,if_neg h]
def ad6 (l:List Nat):cP (l.take (cP l))=(l.take (cP l)).length:=by
 rw [ad5,bM,dV (uW l)]
def ad7 {l:List Nat} (h:j5 l) (k:Nat):j5 (l.take k):=fun x a=>h x (dr a)
def ad8 (l:List Nat) (k:Nat):rb (l.take k)=(rb l).take k:=by simp [rb,gD]
def g7.take {w:World} {a:Option Addr} {n c:Nat} {l:List Nat} (h:g7 w (.slice a n c) l) {k:Nat} (o:k<=l.length):g7 w (.slice a k c) (l.take k):=by
 have f:(l.take k).length=k:=by simp_all
 refine ⟨⟨by simp [rb],?_⟩,ad7 h.2 k⟩;rcases h.1.2 with ⟨e,i⟩|⟨x,cap,e,m,b,d⟩
 ·simp_all
 ·cases e
  refine .inr ⟨x,c,by rw [f],by omega,b,fun j u g=>d j u ?_⟩;rw [ad8] at g;grind
def fW.take {w:World} {base:Nat} {a:Option Addr} {n c:Nat} {l:List Nat} (h:fW w base (.slice a n c) l) {k:Nat} (q:k<=l.length):fW w base (.slice a k c) (l.take k):=by
 have b:(l.take k).length=k:=by simp_all
 refine ⟨⟨by simp [rb],?_⟩,ad7 h.2 k⟩;rcases h.1.2 with ⟨e,o⟩|⟨g,cap,cur,e,d,f,p,i,j,m⟩
 ·simp_all
 ·cases e
  refine .inr ⟨g,c,cur,by rw [b],d,f,by omega,i,j,?_⟩;rw [ad8,<-m,b,List.take_take,dV (by omega),fk]
def fW.trim {w:World} {base:Nat} {a:Option Addr} {n c:Nat} {l:List Nat} (h:fW w base (.slice a n c) l):mP w base (.slice a (cP l) c) (val l):=
 ⟨_,h.take (uW l),ad6 l,Y8 l⟩
section
variable {w:World}
def amv {v:Value} {l:List Nat} (h:g7 w v l):Calls prog 224 #[v] w (vF (.bool (decide (cP l=l.length))) w):=by
 have b:=ae (xU h);obtain ⟨a,c,x,rfl,_⟩:=h.form;go_enter func224,ntmps224;go_wp2_with fail;refine b.out.mono ?_;rintro e d ⟨rfl,rfl⟩;go_wp2_with fail;go_ret;exact ze (by simp only [go_sem];rw [show ((cP l:Int)==(l.length:Int))=decide (cP l=l.length) by rw [Bool.eq_iff_iff,beq_iff_eq,decide_eq_true_iff];omega];try rfl)
def ad9 {v:Value} {l:List Nat} (h:g7 w v l) (O:l.length<=1000000000):Calls prog 156 #[v] w fun e m=> ∃i,e= .returned i/\fW m w.heap.size i l/\Below w.heap.size w m:=by
 have p: ∀u∈rb l,u.oneCell'=true:=fun u f=>by
  unfold rb at f;obtain ⟨x,_,rfl⟩:=kI.1 f;rfl
 obtain ⟨⟨G,⟨rfl,E⟩|⟨a,cap,rfl,M,N,b⟩⟩,d⟩:=h
 ·obtain rfl:l= []:=cJ E
  have H:=fun w=>Lib.run_eql_slice_nil (P:=prog) w 35 172 none 0 0 0 0 underlying35
  go_enter func156,ntmps156;go_wp2_with fail;go_ret;exact ⟨_,rfl,⟨World.ownsRow_nil _ _ _ _,d⟩,aH _ _⟩
 ·have H:=fun w=>Lib.run_eql_slice_nil (P:=prog) w 35 172 (some a) l.length cap 0 0 underlying35
  obtain ⟨I,D,C,B,A⟩:=info_parts B9;have t:=ae b;have s:=ae p;have z:=ae d;have o:(w.alloc (.cells #[] 172)).ownsRow w.heap.size 172 1 (.slice (some ⟨w.heap.size,0,none⟩) 0 0) 0 []:=World.ownsRow_lit w #[] 0 (aq _) (by unfold maxLen;omega) rfl;have J:=ae o;clear b p o d;go_enter func156,ntmps156;go_wp2_with (at_builtin;refine wpList_append_own _ rfl _ _ 35 rfl w.heap.size 172 I _ 1 4 underlying35 D C B A rfl (by decide) _ 0 [] rfl J.out a l.length cap (rb l) rfl G ?_ s.out (by unfold maxLen;omega) (by omega) (by simp) ?_)
  ·intro j u f
   have:=t.out j u f;exact (((aH w.heap.size w).alloc (aq _) (.cells #[] 172)).cell (ak w _ this)).trans this
  ·intro i m g q _
   try simp only [im,cV] at g
   have HO:=ae g;have y:=ae q;clear g q;go_wp2_with fail;go_ret;exact ⟨_,rfl,⟨HO.out,z.out⟩,((aH w.heap.size w).alloc (aq _) (.cells #[] 172)).grown y.out (by simp) (by intro k F;simp [Value.ownBlock] at F;omega)⟩
def wU {v:Value} {l:List Nat} (h:g7 w v l) (q:l.length<=1000000000):Calls prog 107 #[v] w (rj (val l) w):=by
 have i:=ae (xU h);obtain ⟨a,c,x,rfl,k,hc,m,_⟩:=h.form;have b:=uW l;have j:=ae (ad9 (h.take b) (by rw [bM];omega));unfold maxLen at m;clear h k;have b1:(0:Int)<=cP l:=by omega
 have p:(cP l:Int)<=c:=by omega
 go_enter func107,ntmps107;go_wp2_with fail;refine i.out.mono ?_;rintro e o ⟨rfl,rfl⟩;go_wp2_with fail;refine j.out.mono ?_;rintro e o ⟨s,rfl,f,d⟩;have HO:=ae f;have g:=ae d;clear f d;go_wp2_with fail;go_ret;exact ⟨_,rfl,⟨_,HO.out,ad6 l,Y8 l⟩,g.out⟩
def Ms (n:Nat) (h:n<18446744073709551616):Calls prog 60 #[.int .u64 (n:Int)] w (rj n w):=by
 obtain ⟨d,u⟩:=pQ (n % 4294967296);obtain ⟨a,y⟩:=pQ (n/4294967296);have l:val [d,a]=n:=by simp only [val];omega
 obtain ⟨i,f⟩:=pT (w.alloc (.cells #[.int .u32 (d:Int),.int .u32 (a:Int)] 172));have b:Below w.heap.size w i:=by rw [f];exact (aH _ _).alloc (aq _) _
 have k:fW i w.heap.size (.slice (some ⟨w.heap.size,0,none⟩) 2 2) [d,a]:=by
  refine ⟨⟨rfl,.inr ⟨w.heap.size,2,#[.int .u32 (d:Int),.int .u32 (a:Int)],rfl,aq _,?_,aq _,by unfold maxLen;omega,rfl,rfl⟩⟩,?_⟩
  ·rw [f];exact heap_alloc_new w _
  ·intro x m
   simp only [bu,jj,or_false] at m;rcases m with rfl|rfl<;>omega
 have p:=ae (wU k.sl (by simp));have g:=ae b;have s:=ae f;have q:=ae l;have z:(n:Int) % 4294967296=(d:Int):=by omega
 have A:(n:Int)/4294967296=(a:Int):=by omega
 have B:(a:Int) % 4294967296=(a:Int):=by omega
 clear k b f u y l;go_enter func60,ntmps60;go_wp2_with fail;rw [<-s.out];refine p.out.mono ?_;rintro e C ⟨v,rfl,j,b⟩;have o:=ae j;have t:=ae b;clear j b;go_wp2_with fail;go_ret;exact ⟨_,rfl,q.out▸o.out.base g.out.size,g.out.trans (t.out.mono g.out.size)⟩
end
end
section
open Go.RowKit
def Quiet (v:Value) (w:World) (e:Ending) (w':World):Prop:=e= .returned v/\Below w.heap.size w w'
def below_drewN {B:Nat} {w w':World} (h:Below B w w') (n:Nat):Below B w (w'.drewN n):=⟨h.os,h.tape,h.output,h.size,h.block⟩
def bK (f:Nat->Nat):Nat->Nat
 |0=>0
 |n+1=>bK f n+4294967296^n*f n
def el (l:List Nat) (i:Nat):Nat:=l.getD i 0
def aea (x:Nat) (l:List Nat): ∀n,bK (el (x::l)) (n+1)=x+4294967296*bK (el l) n
 |0=>by simp [bK,el]
 |n+1=>by
  have a:=aea x l n;show bK (el (x::l)) (n+1)+4294967296^(n+1)*el (x::l) (n+1)=x+4294967296*(bK (el l) n+4294967296^n*el l n);have e:el (x::l) (n+1)=el l n:=by simp [el]
  grind
def ld: ∀l:List Nat,val l=bK (el l) l.length
 | []=>rfl
 |x::l=>by rw [jk,aea,<-ld l];rfl
def JR {f:Nat->Nat} {k:Nat} : ∀ {n:Nat},k<=n->(∀j,k<=j->j<n->f j=0)->bK f n=bK f k
 |0,h,_=>by simp_all
 |n+1,h,a=>by
  by_cases e:k=n+1
  ·rw [e]
  ·show bK f n+4294967296^n*f n=_
   rw [a n (by omega) (by omega),jy,dt,JR (by omega) fun j b d=>a j b (by omega)]
def qy {f:Nat->Nat} (a: ∀j,f j<4294967296): ∀n,bK f n<4294967296^n
 |0=>by simp [bK]
 |n+1=>by
  have e:=qy a n;have d:=a n;have b:4294967296^n*(f n+1)<=4294967296^n*4294967296:=aR _ (by omega);rw [fI,fk] at b;show bK f n+4294967296^n*f n<4294967296^(n+1);omega
def Y' {f g:Nat->Nat} (d: ∀j,f j<4294967296) {i:Nat} (a:f i<g i): ∀ {n:Nat},i<n->(∀j,i<j->j<n->f j=g j)->bK f n<bK g n
 |0,h,_=>by omega
 |n+1,h,l=>by
  show bK f n+4294967296^n*f n<bK g n+4294967296^n*g n;by_cases e:i=n
  ·subst e
   have b:=qy d i;have k:4294967296^i*(f i+1)<=4294967296^i*g i:=aR _ a;grind
  ·have m:=Y' d a (n:=n) (by omega) fun j b k=>l j b (by omega)
   grind
def AG {f g:Nat->Nat} : ∀ {n:Nat},(∀j,j<n->f j=g j)->bK f n=bK g n
 |0,_=>rfl
 |n+1,h=>by
  show bK f n+4294967296^n*f n=bK g n+4294967296^n*g n;rw [AG fun j a=>h j (by omega),h n (by omega)]
def Ug: ∀(l:List Nat) (i:Nat),cP l<=i->el l i=0
 | [],i,_=>by simp [el]
 |x::l,i,h=>by
  unfold cP at h;by_cases e:x=0/\cP l=0
  ·cases i with
   |zero=>simp [el,e.1]
   |succ i=>have:=Ug l i (by omega);simpa [el] using this
  ·rw [if_neg e] at h
   cases i with
   |zero=>omega
   |succ i=>have:=Ug l i (by omega);simpa [el] using this
def Pu: ∀l:List Nat,0<cP l->el l (cP l-1)≠0
 | [],h=>by simp [cP] at h
 |x::l,h=>by
  by_cases e:x=0/\cP l=0
  ·simp [cP,e] at h
  ·have b:cP (x::l)=cP l+1:=by simp only [cP,if_neg e]
   rw [b,dX];by_cases a:cP l=0
   ·rw [a]
    have:x≠0:=fun f=>e ⟨f,a⟩
    simpa [el] using this
   ·have:=Pu l (by omega)
    obtain ⟨k,d⟩: ∃k,cP l=k+1:=⟨cP l-1,by omega⟩;rw [d] at this⊢
    simpa [el] using this
def wV (l:List Nat):val l=bK (el l) (cP l):=by
 rw [ld];exact JR (uW l) fun j a _=>Ug l j a
def xW {l:List Nat} (h:j5 l) (i:Nat):el l i<4294967296:=mH h i
def Mu {l m:List Nat} (b:j5 l) (h:cP l<cP m):val l<val m:=by
 rw [wV l,wV m];have e:=qy (xW b) (cP l);obtain ⟨k,a⟩: ∃k,cP m=k+1:=⟨cP m-1,by omega⟩;have d:=Pu m (by omega);rw [a,dX] at d;rw [a];show _<bK (el m) k+4294967296^k*el m k;have f:4294967296^cP l<=4294967296^k:=aG (by omega) (by omega);have g:4294967296^k*1<=4294967296^k*el m k:=aR _ (by omega);omega
def tG (a b:Nat):Int:=if a<b then-1 else if b<a then 1 else 0
def Mv {a b:Nat} (h:a<b):tG a b= -1:=if_pos h
def aeb {a b:Nat} (h:b<a):tG a b=1:=by unfold tG;rw [if_neg (by omega),if_pos h]
def amw {a b:Nat} (h:a=b):tG a b=0:=by unfold tG;rw [if_neg (by omega),if_neg (by omega)]
section
variable {w:World}
def Uh {v u:Value} {l m:List Nat} (h:g7 w v l) (h':g7 w u m):Calls Tryz.prog 129 #[v,u] w (Quiet (.int .i64 (tG (val l) (val m))) w):=by
 have U:=ae (xU h);have t:=ae (xU h');have S:=ae h.2;have T:=ae h'.2;have oC:=uW l;have sU:=uW m;obtain ⟨a,c,x,rfl,X,hc,hm,b⟩:=h.form;obtain ⟨a',c',x',rfl,C,vG,uX,P⟩:=h'.form;have HC:=ae (fun E (q:Below w.heap.size w E) i (d:i<l.length)=>(q.cell (ak w _ (b i d))).trans (b i d));have Y:=ae (fun E (q:Below w.heap.size w E) i (d:i<m.length)=>(q.cell (ak w _ (P i d))).trans (P i d));have HA:=ae X;have Z:=ae C;unfold maxLen at hm uX;clear h h' b P X C;obtain ⟨n,N⟩:=pQ (cP l);obtain ⟨G,O⟩:=pQ (cP m);rw [N] at U oC;rw [O] at t sU;have s:=ae N;have y:=ae O;clear N O;go_enter Tryz.func129,Tryz.ntmps129;go_wp2_with fail;refine U.out.mono ?_;rintro e E ⟨rfl,rfl⟩;go_wp2_with fail;refine t.out.mono ?_;rintro e E ⟨rfl,rfl⟩;rcases gj n G with f|rfl|f
 ·have R:(n:Int)<G:=by omega
  go_wp2_with fail;go_ret;exact ⟨by rw [Mv (Mu S.out (by rw [s.out,y.out];exact f))];rfl,aH _ _⟩
 ·go_wp2_with fail
  go_loopg [7] n (fun g iv wr=> ∃k:Nat,g=k/\k<=n/\((k=0/\iv= .int .i64 (-1))\/(0<k/\iv= .int .i64 ((k-1:Nat):Int)))/\(∀j,k<=j->j<n->el l j=el m j)/\Below w.heap.size w wr)
  case atStart=>
   refine ⟨n,rfl,aq _,?_,fun j B p=>by omega,aH _ _⟩;by_cases e:n=0
   ·exact .inl ⟨e,by subst e;rfl⟩
   ·exact .inr ⟨by omega,by congr 1;omega⟩
  case round=>
   obtain ⟨k,rfl,hk,Px,D,q⟩:=hrel;have F:=ae D;have o:=ae q;clear D q;rcases Px with ⟨rfl,rfl⟩|⟨jx,rfl⟩
   ·go_wp2_with fail
    go_ret;exact ⟨by rw [amw (by rw [wV l,wV m,s.out,y.out];exact AG fun j hj=>F.out j (b6 _) hj)];rfl,o.out⟩
   ·obtain ⟨i,d⟩:=pQ (gk-1)
    rw [d];have W:i<n:=by omega
    have JS:gk=i+1:=by omega
    subst JS;clear d;obtain rfl:=HA.out (by omega);obtain rfl:=Z.out (by omega);have q1:=HC.out _ o.out i (by omega);have q2:=Y.out _ o.out i (by omega);obtain ⟨z,J⟩:=pQ (l.getD i 0);obtain ⟨A,Q⟩:=pQ (m.getD i 0);rw [J] at q1;rw [Q] at q2;have i0:(0:Int)<=i:=by omega
    have i1:(i:Int)<l.length:=by omega
    have i2:(i:Int)<m.length:=by omega
    have H:=ae (show el l i=z from J);have I:=ae (show el m i=A from Q);clear J Q;rcases gj z A with f|M|f
    ·have R:(z:Int)<A:=by omega
     go_wp2_with fail
     go_quiet (fail)
     go_wp2_with fail;go_ret;exact ⟨by rw [Mv (by rw [wV l,wV m,s.out,y.out];exact Y' (xW S.out) (i:=i) (by rw [H.out,I.out];exact f) W fun j B p=>F.out j B p)];rfl,below_drewN o.out _⟩
    ·subst M
     go_wp2_with fail
     go_quiet (fail)
     go_wp2_with fail
     go_quiet (fail)
     go_wp2_with fail
     go_roundg i
     case measure=>omega
     case rel=>
      refine ⟨i,rfl,by omega,?_,fun j B p=> ?_,below_drewN o.out _⟩
      ·by_cases e:i=0
       ·exact .inl ⟨e,by subst e;rfl⟩
       ·exact .inr ⟨by omega,by congr 1;omega⟩
      ·by_cases e:j=i
       ·rw [e,H.out,I.out]
       ·exact F.out j (by omega) p
    ·have R:(A:Int)<z:=by omega
     have G5: ¬(z:Int)<A:=by omega
     go_wp2_with fail
     go_quiet (fail)
     go_wp2_with fail
     go_quiet (fail)
     go_wp2_with fail;go_ret;exact ⟨by rw [aeb (by rw [wV l,wV m,s.out,y.out];exact Y' (xW T.out) (i:=i) (by rw [H.out,I.out];exact f) W fun j B p=>(F.out j B p).symm)];rfl,below_drewN (below_drewN o.out _) _⟩
 ·have R:(G:Int)<n:=by omega
  have G5: ¬(n:Int)<G:=by omega
  go_wp2_with fail;go_ret;exact ⟨by rw [aeb (Mu T.out (by rw [s.out,y.out];exact f))];rfl,aH _ _⟩
end
end
section
open Go.RowKit
def Fa (n:Nat):(madeCells (Value.int .u32 0).cells (n*1)).toList=rb (List.replicate n 0):=by
 show (madeCells #[.int .u32 0] (n*1)).toList=_;rw [toList_madeCells_one,fk];simp [rb]
def Fb (n:Nat):j5 (List.replicate n 0):=fun x a=>by simp_all
def ue {l:List Nat} {k:Nat} (d:Nat) (a:k<l.length) (j:Nat):el (l.set k d) j=if j=k then d else el l j:=by
 unfold el;grind
def amx {l:List Nat} (h:j5 l) (k:Nat) {d:Nat} (e:d<4294967296):j5 (l.set k d):=fun x b=>by
 rcases List.mem_or_eq_of_mem_set b with a|rfl
 ·exact h x a
 omega
def amy (l:List Nat) (k d:Nat):rb (l.set k d)=(rb l).set k (.int .u32 (d:Int)):=by simp [rb,oD]
def fW.set {w:World} {base g n cap:Nat} {l:List Nat} (h:fW w base (.slice (some ⟨g,0,none⟩) n cap) l) {k d:Nat} (a:d<4294967296):
 fW (w.setCell ⟨g,k,none⟩ (.int .u32 (d:Int))) base (.slice (some ⟨g,0,none⟩) n cap) (l.set k d):=by
 refine ⟨?_,amx h.2 k a⟩;have e:n=l.length:=by
  rcases h.1.2 with ⟨e,_⟩|⟨_,_,_,e,_⟩
  all_goals grind
 subst e;have:=(h.1.stored k (.int .u32 (d:Int))).1;rw [amy,bA];omega
def wX {l:List Nat} {k d:Nat} (a:k<l.length:=by omega):bK (el (l.set k d)) (k+1)=bK (el l) k+4294967296^k*d:=by
 show bK (el (l.set k d)) k+4294967296^k*el (l.set k d) k=_;rw [ue d a k,if_pos rfl,AG (f:=el (l.set k d)) (g:=el l) fun j b=>by rw [ue d a j,if_neg (by omega)]]
def Ui {p a b s k e f d x y:Nat} (h:s+p*e=a+b) (hc:e+x+y=d+4294967296*f) (g:p=4294967296^k):s+p*d+4294967296^(k+1)*f=(a+p*x)+(b+p*y):=by
 grind
section
variable {w:World}
def amz {v u:Value} {l m:List Nat} (h:g7 w v l) (h':g7 w u m) (I:m.length<=l.length) (hn:l.length<=100000000):Calls Tryz.prog 134 #[v,u] w (rj (val l+val m) w):=by
 have HL:=ae h.2;have HM:=ae h'.2;obtain ⟨a,c,x,rfl,ha,hc,hm,f⟩:=h.form;obtain ⟨a',c',x',rfl,F,vG,uX,tH⟩:=h'.form;have HC:=ae (fun U (t:Below w.heap.size w U) i (G:i<l.length)=>(t.cell (ak w _ (f i G))).trans (f i G));have DD:=ae (fun U (t:Below w.heap.size w U) i (G:i<m.length)=>(t.cell (ak w _ (tH i G))).trans (tH i G));have HA:=ae ha;have DE:=ae F;unfold maxLen at hm uX;clear h h' f tH ha F;have xX: ¬(l.length:Int)<m.length:=by omega
 obtain ⟨i0,fq,ff,fH,eV⟩:=info_parts B9;go_enter Tryz.func134,Tryz.ntmps134;go_wp2_with (refine wpList_make_full w rfl (.tmp 18) (.tmp 18) 35 rfl w.heap.size 172 i0 _ 1 Tryz.underlying35 fq ff fH _ _ _ _ (l.length+1) rfl rfl (by omega) (by omega) (by rw [eV];omega) (by unfold maxLen;omega) (aq _) ?_;intro w1 ho C);have bW:Below w.heap.size w w1:=(aH _ _).grown C (aq _) (by intro k H;cases H);rw [Fa] at ho;have q:fW w1 w.heap.size (.slice (some ⟨w.heap.size,0,none⟩) (l.length+1) (l.length+1)) (List.replicate (l.length+1) 0):=⟨by rw [aZ];exact ho,Fb _⟩;have HO:=ae q;have dh:=ae bW;clear ho C bW q fq ff fH eV;go_wp2_with fail;obtain ⟨g,C⟩:=pQ w.heap.size;rw [C] at HO⊢;have P:=ae C;clear C
 go_loopg [6,22] l.length (fun gh cv iv wr=> ∃(k b:Nat) (o:List Nat),gh+k=l.length/\iv= .int .i64 k/\cv= .int .u64 b/\b<2/\o.length=l.length+1/\fW wr g (.slice (some ⟨g,0,none⟩) (l.length+1) (l.length+1)) o/\
  bK (el o) k+4294967296^k*b=bK (el l) k+bK (el m) k/\Below w.heap.size w wr)
 case atStart=>exact ⟨0,0,_,rfl,rfl,rfl,by decide,aZ,HO.out,by simp [bK],dh.out⟩
 case round=>
  obtain ⟨k,b,o,H,rfl,rfl,hcr,B,q,S,t⟩:=hrel;have Q:=ae H;have J:=ae B;have Y:=ae S;have O:=ae t;have JT:(k:Int)<=100000000:=by omega
  by_cases bB:k<l.length
  ·obtain rfl:=HA.out (by omega)
   have p:=q.1;rw [B] at p;have kb:=p.frozenAt k;obtain ⟨E,Fc⟩: ∃E,wr.cell? ⟨g,k,none⟩=some E:=⟨_,qZ p (re)⟩;clear p;have D:=ae q;have q1:=HC.out _ t k bB;obtain ⟨A,R⟩:=pQ (l.getD k 0);rw [R] at q1;have bx:A<4294967296:=by rw [<-R];exact mH HL.out k
   have qz:=ae (show el l k=A from R);have zf:(k:Int)<l.length:=by omega
   have My:(k:Int)<(l.length:Int)+1:=by omega
   have jx:(0:Int)<=k:=by omega
   clear R H B S t q;by_cases lV:k<m.length
   ·obtain rfl:=DE.out (by omega)
    have q2:=DD.out _ O.out k lV;obtain ⟨M,T⟩:=pQ (m.getD k 0);rw [T] at q2;have G6:M<4294967296:=by rw [<-T];exact mH HM.out k
    have uY:=ae (show el m k=M from T);have Pz:(k:Int)<m.length:=by omega
    clear T;obtain ⟨s,hs⟩:=pQ (b+A+M);obtain ⟨d,hd⟩:=pQ (s % 4294967296);obtain ⟨y,Z⟩:=pQ (s/4294967296);have e0:(b:Int)+(A:Int)+(M:Int)=(s:Int):=by omega
    have e1:(s:Int) % 4294967296=(d:Int):=by omega
    have e2:(s:Int)/4294967296=(y:Int):=by omega
    have X:=ae (show b+A+M=d+4294967296*y by omega);have W:=ae (show d<4294967296 by omega);have JV:=ae (show y<2 by omega);clear hs hd Z;go_wp2_with fail
    go_roundg (l.length-(k+1))
    case measure=>have:=Q.out;omega
    case rel=>
     refine ⟨k+1,y,o.set k d,by have:=Q.out;omega,by go_num,rfl,JV.out,by rw [bA];exact J.out,D.out.set W.out,?_,O.out.setCell (by rw [P.out];exact aq _) _⟩;rw [wX (by rw [J.out];omega)];show _=bK (el l) k+4294967296^k*el l k+(bK (el m) k+4294967296^k*el m k);rw [qz.out,uY.out];exact Ui Y.out X.out rfl
   ·have Pz: ¬(k:Int)<m.length:=by omega
    have uY:=ae (show el m k=0 by unfold el;rw [aD,bQ (by omega)];rfl);obtain ⟨s,hs⟩:=pQ (b+A);obtain ⟨d,hd⟩:=pQ (s % 4294967296);obtain ⟨y,Z⟩:=pQ (s/4294967296);have e0:(b:Int)+(A:Int)=(s:Int):=by omega
    have e1:(s:Int) % 4294967296=(d:Int):=by omega
    have e2:(s:Int)/4294967296=(y:Int):=by omega
    have X:=ae (show b+A+0=d+4294967296*y by omega);have W:=ae (show d<4294967296 by omega);have JV:=ae (show y<2 by omega);clear hs hd Z;go_wp2_with fail
    go_roundg (l.length-(k+1))
    case measure=>have:=Q.out;omega
    case rel=>
     refine ⟨k+1,y,o.set k d,by have:=Q.out;omega,by go_num,rfl,JV.out,by rw [bA];exact J.out,D.out.set W.out,?_,O.out.setCell (by rw [P.out];exact aq _) _⟩;rw [wX (by rw [J.out];omega)];show _=bK (el l) k+4294967296^k*el l k+(bK (el m) k+4294967296^k*el m k);rw [qz.out,uY.out];exact Ui Y.out X.out rfl
  ·obtain rfl:k=l.length:=by omega
   have zf: ¬(l.length:Int)<l.length:=by omega
   have p:=q.1;rw [B] at p;have kb:=p.frozenAt l.length;obtain ⟨E,Fc⟩: ∃E,wr.cell? ⟨g,l.length,none⟩=some E:=⟨_,qZ p (re)⟩;clear p;have My:(l.length:Int)<(l.length:Int)+1:=by omega
   have e1:(b:Int) % 4294967296=(b:Int):=by omega
   obtain ⟨wz,N⟩:=pT (wr.setCell ⟨g,l.length,none⟩ (.int .u32 (b:Int)));have hz:fW wz g (.slice (some ⟨g,0,none⟩) (l.length+1) (l.length+1)) (o.set l.length b):=by rw [N];exact q.set (by omega)
   have G7:Below w.heap.size w wz:=by rw [N];exact t.setCell (by rw [P.out];exact aq _) _
   have z:val (o.set l.length b)=val l+val m:=by
    rw [ld (o.set l.length b),bA,B,wX,S,<-ld l];have:bK (el m) l.length=val m:=by
     rw [ld m];exact JR I fun j h1 _=>by unfold el;rw [aD,bQ (by omega)];rfl
    rw [this]
   have nZ:=uW (o.set l.length b);rw [bA,B] at nZ;have HZ:=ae (xU hz.sl);have HT:=ae hz.trim;have Za:=ae G7;have Fe:=ae z;have Zc:=ae N;obtain ⟨r,hr⟩:=pQ (cP (o.set l.length b));rw [hr] at HZ HT nZ;have b1:(0:Int)<=r:=by omega
   have b2:(r:Int)<=(l.length:Int)+1:=by omega
   clear hz G7 z N hr q t S B H Y O J HO dh;go_wp2_with fail;rw [<-Zc.out];refine HZ.out.mono ?_;rintro e U ⟨rfl,rfl⟩;go_wp2_with fail;go_ret;exact ⟨_,rfl,Fe.out▸HT.out.base (by rw [P.out];exact aq _),Za.out⟩
end
end
section
open Go.RowKit
section
variable {w:World}
def amA {v u:Value} {l m:List Nat} (h':g7 w v m) (h:g7 w u l) (nN:m.length<l.length) (hn:l.length<=100000000):Calls Tryz.prog 134 #[v,u] w (rj (val l+val m) w):=by
 have I:m.length<=l.length:=aQ nN;have HL:=ae h.2;have HM:=ae h'.2;obtain ⟨a,c,x,rfl,ha,hc,hm,f⟩:=h.form;obtain ⟨a',c',x',rfl,F,vG,uX,tH⟩:=h'.form;have HC:=ae (fun U (t:Below w.heap.size w U) i (G:i<l.length)=>(t.cell (ak w _ (f i G))).trans (f i G));have DD:=ae (fun U (t:Below w.heap.size w U) i (G:i<m.length)=>(t.cell (ak w _ (tH i G))).trans (tH i G));have HA:=ae ha;have DE:=ae F;unfold maxLen at hm uX;clear h h' f tH ha F;have xX:(m.length:Int)<l.length:=by omega
 obtain ⟨i0,fq,ff,fH,eV⟩:=info_parts B9;go_enter Tryz.func134,Tryz.ntmps134;go_wp2_with (refine wpList_make_full w rfl (.tmp 18) (.tmp 18) 35 rfl w.heap.size 172 i0 _ 1 Tryz.underlying35 fq ff fH _ _ _ _ (l.length+1) rfl rfl (by omega) (by omega) (by rw [eV];omega) (by unfold maxLen;omega) (aq _) ?_;intro w1 ho C);have bW:Below w.heap.size w w1:=(aH _ _).grown C (aq _) (by intro k H;cases H);rw [Fa] at ho;have q:fW w1 w.heap.size (.slice (some ⟨w.heap.size,0,none⟩) (l.length+1) (l.length+1)) (List.replicate (l.length+1) 0):=⟨by rw [aZ];exact ho,Fb _⟩;have HO:=ae q;have dh:=ae bW;clear ho C bW q fq ff fH eV;go_wp2_with fail;obtain ⟨g,C⟩:=pQ w.heap.size;rw [C] at HO⊢;have P:=ae C;clear C
 go_loopg [6,22] l.length (fun gh cv iv wr=> ∃(k b:Nat) (o:List Nat),gh+k=l.length/\iv= .int .i64 k/\cv= .int .u64 b/\b<2/\o.length=l.length+1/\fW wr g (.slice (some ⟨g,0,none⟩) (l.length+1) (l.length+1)) o/\
  bK (el o) k+4294967296^k*b=bK (el l) k+bK (el m) k/\Below w.heap.size w wr)
 case atStart=>exact ⟨0,0,_,rfl,rfl,rfl,by decide,aZ,HO.out,by simp [bK],dh.out⟩
 case round=>
  obtain ⟨k,b,o,H,rfl,rfl,hcr,B,q,S,t⟩:=hrel;have Q:=ae H;have J:=ae B;have Y:=ae S;have O:=ae t;have JT:(k:Int)<=100000000:=by omega
  by_cases bB:k<l.length
  ·obtain rfl:=HA.out (by omega)
   have p:=q.1;rw [B] at p;have kb:=p.frozenAt k;obtain ⟨E,Fc⟩: ∃E,wr.cell? ⟨g,k,none⟩=some E:=⟨_,qZ p (re)⟩;clear p;have D:=ae q;have q1:=HC.out _ t k bB;obtain ⟨A,R⟩:=pQ (l.getD k 0);rw [R] at q1;have bx:A<4294967296:=by rw [<-R];exact mH HL.out k
   have qz:=ae (show el l k=A from R);have zf:(k:Int)<l.length:=by omega
   have My:(k:Int)<(l.length:Int)+1:=by omega
   have jx:(0:Int)<=k:=by omega
   clear R H B S t q;by_cases lV:k<m.length
   ·obtain rfl:=DE.out (by omega)
    have q2:=DD.out _ O.out k lV;obtain ⟨M,T⟩:=pQ (m.getD k 0);rw [T] at q2;have G6:M<4294967296:=by rw [<-T];exact mH HM.out k
    have uY:=ae (show el m k=M from T);have Pz:(k:Int)<m.length:=by omega
    clear T;obtain ⟨s,hs⟩:=pQ (b+A+M);obtain ⟨d,hd⟩:=pQ (s % 4294967296);obtain ⟨y,Z⟩:=pQ (s/4294967296);have e0:(b:Int)+(A:Int)+(M:Int)=(s:Int):=by omega
    have e1:(s:Int) % 4294967296=(d:Int):=by omega
    have e2:(s:Int)/4294967296=(y:Int):=by omega
    have X:=ae (show b+A+M=d+4294967296*y by omega);have W:=ae (show d<4294967296 by omega);have JV:=ae (show y<2 by omega);clear hs hd Z;go_wp2_with fail
    go_roundg (l.length-(k+1))
    case measure=>have:=Q.out;omega
    case rel=>
     refine ⟨k+1,y,o.set k d,by have:=Q.out;omega,by go_num,rfl,JV.out,by rw [bA];exact J.out,D.out.set W.out,?_,O.out.setCell (by rw [P.out];exact aq _) _⟩;rw [wX (by rw [J.out];omega)];show _=bK (el l) k+4294967296^k*el l k+(bK (el m) k+4294967296^k*el m k);rw [qz.out,uY.out];exact Ui Y.out X.out rfl
   ·have Pz: ¬(k:Int)<m.length:=by omega
    have uY:=ae (show el m k=0 by unfold el;rw [aD,bQ (by omega)];rfl);obtain ⟨s,hs⟩:=pQ (b+A);obtain ⟨d,hd⟩:=pQ (s % 4294967296);obtain ⟨y,Z⟩:=pQ (s/4294967296);have e0:(b:Int)+(A:Int)=(s:Int):=by omega
    have e1:(s:Int) % 4294967296=(d:Int):=by omega
    have e2:(s:Int)/4294967296=(y:Int):=by omega
    have X:=ae (show b+A+0=d+4294967296*y by omega);have W:=ae (show d<4294967296 by omega);have JV:=ae (show y<2 by omega);clear hs hd Z;go_wp2_with fail
    go_roundg (l.length-(k+1))
    case measure=>have:=Q.out;omega
    case rel=>
     refine ⟨k+1,y,o.set k d,by have:=Q.out;omega,by go_num,rfl,JV.out,by rw [bA];exact J.out,D.out.set W.out,?_,O.out.setCell (by rw [P.out];exact aq _) _⟩;rw [wX (by rw [J.out];omega)];show _=bK (el l) k+4294967296^k*el l k+(bK (el m) k+4294967296^k*el m k);rw [qz.out,uY.out];exact Ui Y.out X.out rfl
  ·obtain rfl:k=l.length:=by omega
   have zf: ¬(l.length:Int)<l.length:=by omega
   have p:=q.1;rw [B] at p;have kb:=p.frozenAt l.length;obtain ⟨E,Fc⟩: ∃E,wr.cell? ⟨g,l.length,none⟩=some E:=⟨_,qZ p (re)⟩;clear p;have My:(l.length:Int)<(l.length:Int)+1:=by omega
   have e1:(b:Int) % 4294967296=(b:Int):=by omega
   obtain ⟨wz,N⟩:=pT (wr.setCell ⟨g,l.length,none⟩ (.int .u32 (b:Int)));have hz:fW wz g (.slice (some ⟨g,0,none⟩) (l.length+1) (l.length+1)) (o.set l.length b):=by rw [N];exact q.set (by omega)
   have G7:Below w.heap.size w wz:=by rw [N];exact t.setCell (by rw [P.out];exact aq _) _
   have z:val (o.set l.length b)=val l+val m:=by
    rw [ld (o.set l.length b),bA,B,wX,S,<-ld l];have:bK (el m) l.length=val m:=by
     rw [ld m];exact JR I fun j h1 _=>by unfold el;rw [aD,bQ (by omega)];rfl
    rw [this]
   have nZ:=uW (o.set l.length b);rw [bA,B] at nZ;have HZ:=ae (xU hz.sl);have HT:=ae hz.trim;have Za:=ae G7;have Fe:=ae z;have Zc:=ae N;obtain ⟨r,hr⟩:=pQ (cP (o.set l.length b));rw [hr] at HZ HT nZ;have b1:(0:Int)<=r:=by omega
   have b2:(r:Int)<=(l.length:Int)+1:=by omega
   clear hz G7 z N hr q t S B H Y O J HO dh;go_wp2_with fail;rw [<-Zc.out];refine HZ.out.mono ?_;rintro e U ⟨rfl,rfl⟩;go_wp2_with fail;go_ret;exact ⟨_,rfl,Fe.out▸HT.out.base (by rw [P.out];exact aq _),Za.out⟩
def amB {v u:Value} {l m:List Nat} (h:g7 w v l) (h':g7 w u m) (b:l.length<=100000000:=by omega) (a:m.length<=100000000:=by omega):Calls Tryz.prog 134 #[v,u] w (rj (val l+val m) w):=by
 by_cases e:m.length<=l.length
 ·exact amz h h' e b
 ·rw [iC]
  exact amA h h' (by omega) a
end
end
section
open Go.RowKit
def aec (n:Nat):0<4294967296^n:=aO (by decide)
def PA {r:Nat} (a:r<32):2^r*2^(32-r)=4294967296:=by
 rw [<-bC,show r+(32-r)=32 by omega]
def amC {R S x y:Nat} (a:0<R) (h:R*S=4294967296) (j:x<4294967296):R*((x+4294967296*y)/R % 4294967296)+x % R=x+4294967296*(y % R):=by
 have b:(x+4294967296*y)/R=x/R+S*y:=by
  rw [<-h,bF,gX _ _ a]
 have i:x/R<S:=by rw [gP a,bE,h];omega
 have d:(x/R+S*y) % 4294967296=x/R+S*(y % R):=by
  have e:S*y=S*(y % R)+4294967296*(y/R):=by
   have:=du y R;grind
  rw [e,<-eK,iq,dY];have f:y % R+1<=R:=dj _ a;have g:S*(y % R)+S<=4294967296:=by
   rw [<-h,bE R S];exact aK (by grind) (aR S f)
  omega
 rw [b,d,fI,<-bF,h];have:=du x R;omega
def zg (f:Nat->Nat) (n:Nat):bK f (n+1)=bK f n+4294967296^n*f n:=rfl
def aed {f:Nat->Nat} {R S k d s0 s:Nat} (a:0<R) (h:R*S=4294967296) (g:f k<4294967296) (b:(f k+4294967296*f (k+1))/R % 4294967296=d)
 (i:bK f k+4294967296^k*(f k % R)=s0+R*s):bK f (k+1)+4294967296^(k+1)*(f (k+1) % R)=s0+R*(s+4294967296^k*d):=by
 have e:=amC (y:=f (k+1)) a h g;rw [b] at e;rw [zg,bI,fI,<-eK,<-i,<-bF R,bE R,bF _ R d];grind
def Uj (f:Nat->Nat) (w:Nat): ∀m,bK f (w+m)=bK f w+4294967296^w*bK (fun i=>f (i+w)) m
 |0=>by simp [bK]
 |m+1=>by
  rw [<-eK,zg,Uj f w m,zg,fI,<-bF,<-bC,iC m w,eK]
def amD {l:List Nat} (a:j5 l) {w m:Nat} (h:l.length=w+m):val l/4294967296^w=bK (fun i=>el l (i+w)) m:=by
 rw [ld,h,Uj,gX _ _ (aec w),eW (qy (fun j=>xW a j) w),cV]
def PC (n:Nat):2^n=4294967296^(n/32)*2^(n % 32):=by
 rw [show 4294967296=2^32 by decide,<-fJ,<-bC,du]
def amE {l o:List Nat} {n m:Nat} (d:j5 l) (e:l.length=n/32+m) (f:o.length=m)
 (a:bK (fun i=>el l (i+n/32)) m+4294967296^m*(el l (m+n/32) % 2^(n % 32))=el l (n/32) % 2^(n % 32)+2^(n % 32)*bK (el o) m):val o=val l/2^n:=by
 have b:el l (m+n/32)=0:=by
  unfold el;grind
 rw [b,Nat.zero_mod,jy,dt] at a;rw [PC n,<-jg,amD d e,a,gX _ _ (aO (by decide)),eW (dj _ (aO (by decide))),cV,ld,f]
def aee (k:IntKind) (x y:Int):bits .or k x y=bits .or k y x:=by
 unfold bits
 all_goals grind
def aef (s r:Nat):(s:Int)/2^r=((s/2^r:Nat):Int):=by
 simp_all
section
variable {w:World}
def Zd (n:Nat) (d:n<=1048576):Calls Tryz.prog 176 #[.int .i64 (n:Int)] w (vF (.int .i64 (n:Int)) w):=by
 have a:max (n:Int) 0=n:=by omega
 have b:min (n:Int) 1048576=n:=by omega
 go_enter Tryz.func176,Tryz.ntmps176;go_wp2_with fail;go_ret;exact ze rfl
def JW (w:World) (base:Nat):mP w base (.slice none 0 0) 0:=⟨[],⟨World.ownsRow_nil _ _ _ _,fun x a=>by cases a⟩,rfl,rfl⟩
def aeg {v:Value} {l:List Nat} (h:g7 w v l) (hn:l.length<=100000000) (n:Nat) (oC:n<=1048576):Calls Tryz.prog 133 #[v,.int .i64 (n:Int)] w (rj (val l/2^n) w):=by
 have C:=ae h.2;have HP:=ae (Zd (w:=w) n oC);obtain ⟨a,c,x,rfl,ha,hc,hm,b⟩:=h.form;have HC:=ae (fun w' (D:Below w.heap.size w w') i (hi:i<l.length)=>(D.cell (ak w _ (b i hi))).trans (b i hi));have HA:=ae ha;unfold maxLen at hm;clear h b ha;obtain ⟨q,hq⟩:=pQ (n/32);obtain ⟨r,hr⟩:=pQ (n % 32);have vH:(n:Int).tdiv 32=(q:Int):=by rw [fV (by omega)];omega
 have jd:(n:Int).tmod 32=(r:Int):=by rw [eL (by omega)];omega
 have DF:r<32:=by omega
 have Cb:(r:Int) % 18446744073709551616=(r:Int):=by omega
 have hqb:q<=32768:=by omega
 have T:=ae (af hq hr);clear hq hr;go_enter Tryz.func133,Tryz.ntmps133;go_wp2_with fail;refine HP.out.mono ?_;rintro e w' ⟨rfl,rfl⟩;by_cases N:l.length<=q
 ·have Ze:(l.length:Int)<=(q:Int):=by omega
  have I:=ae (show val l/2^n=0 by
   rw [PC n,T.out.1];refine eW (az ?_ (gC _ (aO (by decide))));rw [ld];exact az (qy (fun j=>xW C.out j) _) (aG (by decide) N))
  go_wp2_with fail;go_ret;exact ⟨_,rfl,by rw [I.out];exact JW _ _,aH _ _⟩
 ·have Ze: ¬(l.length:Int)<=(q:Int):=by omega
  obtain ⟨m,rq⟩: ∃m,l.length=q+m:=⟨l.length-q,by omega⟩;have HM:=ae rq;have e0:(l.length:Int)-(q:Int)=(m:Int):=by omega
  have Uk:m<=100000000:=by omega
  obtain rfl:=HA.out (by omega);obtain ⟨i0,fq,ff,fH,eV⟩:=info_parts B9;clear rq;go_wp2_with (refine wpList_make_full w rfl (.tmp 24) (.tmp 24) 35 rfl w.heap.size 172 i0 _ 1 Tryz.underlying35 fq ff fH _ _ _ _ m rfl rfl rfl rfl (by rw [eV];omega) (by unfold maxLen;omega) (aq _) ?_;intro w1 ho E);have bW:Below w.heap.size w w1:=(aH _ _).grown E (aq _) (by intro k M;cases M);rw [Fa] at ho;have u:fW w1 w.heap.size (.slice (some ⟨w.heap.size,0,none⟩) m m) (List.replicate m 0):=⟨by rw [aZ];exact ho,Fb _⟩;have HO:=ae u;have dh:=ae bW;clear ho E bW u fq ff fH eV;go_wp2_with fail;obtain ⟨g,E⟩:=pQ w.heap.size;rw [E] at HO⊢;have HG:=ae E;clear E
  go_loopg [28] m (fun gh iv wr=> ∃(k:Nat) (o:List Nat),gh+k=m/\iv= .int .i64 k/\o.length=m/\fW wr g (.slice (some ⟨g,0,none⟩) m m) o/\
   bK (fun i=>el l (i+q)) k+4294967296^k*(el l (k+q) % 2^r)=el l q % 2^r+2^r*bK (el o) k/\Below w.heap.size w wr)
  case atStart=>exact ⟨0,_,rfl,rfl,aZ,HO.out,by simp [bK],dh.out⟩
  case round=>
   obtain ⟨k,o,M,rfl,G,u,X,D⟩:=hrel;have S:=ae M;have O:=ae G;have I:=ae X;have Q:=ae D;have JT:(k:Int)<=100000000:=by omega
   by_cases bB:k<m
   ·have W:=u.1
    rw [G] at W;have kb:=W.frozenAt k;obtain ⟨cu,Fc⟩: ∃cu,wr.cell? ⟨g,k,none⟩=some cu:=⟨_,qZ W (re)⟩;clear W;have H:=ae u;obtain ⟨j,hj⟩:=pQ (k+q);have ej:(k:Int)+(q:Int)=(j:Int):=by omega
    obtain ⟨p,DG⟩:=pQ (j+1);have ej1:(j:Int)+1=(p:Int):=by omega
    have zh:j<l.length:=by rw [HM.out];omega
    have q1:=HC.out _ D j zh;obtain ⟨B,U⟩:=pQ (l.getD j 0);rw [U] at q1;have bx:B<4294967296:=by rw [<-U];exact mH C.out j
    have qz:=ae (show el l j=B from U);have aEC:(j:Int)<l.length:=by omega
    have Mz:(0:Int)<=j:=by omega
    have My:(k:Int)<(m:Int):=by omega
    have jx:(0:Int)<=k:=by omega
    have R:=ae (af hj DG);have amF:(p:Int)<=200000000:=by omega
    clear U M G X D u hj DG;by_cases lV:p<l.length
    ·have Pz:(p:Int)<l.length:=by omega
     have amG:(0:Int)<=p:=by omega
     have q2:=HC.out _ Q.out p lV;obtain ⟨P,Y⟩:=pQ (l.getD p 0);rw [Y] at q2;have G6:P<4294967296:=by rw [<-Y];exact mH C.out p
     have uY:=ae (show el l p=P from Y);clear Y;obtain ⟨s,F⟩:=pQ (B+4294967296*P);have PD:bits .or .u64 (B:Int) ((P:Int)*4294967296)=(s:Int):=by
      rw [aee,bits_join .u64 64 (by decide) wraps_u64 32 ((P:Int)*4294967296) (B:Int) (by omega) (by omega) (by omega) (by omega) (by omega) (by omega)];omega
     obtain ⟨t,A⟩:=pQ (s/2^r);obtain ⟨d,J⟩:=pQ (t % 4294967296);have e2:(s:Int)/2^r=(t:Int):=by rw [<-A];exact aef s r
     have e3:(t:Int) % 4294967296=(d:Int):=by omega
     have Z:=ae (show d<4294967296 by omega);have HS:=ae (show (el l (k+q)+4294967296*el l (k+1+q))/2^r % 4294967296=d by rw [show k+1+q=p by have:=R.out;omega,show k+q=j from R.out.1,qz.out,uY.out,<-J,<-A,<-F]);clear F A J;go_wp2_with fail
     go_roundg (m-(k+1))
     case measure=>have:=S.out;omega
     case rel=>
      refine ⟨k+1,o.set k d,by have:=S.out;omega,by go_num,by rw [bA];exact O.out,H.out.set Z.out,?_,Q.out.setCell (by rw [HG.out];exact aq _) _⟩;rw [wX (by rw [O.out];omega)];exact aed (f:=fun i=>el l (i+q)) (aO (by decide)) (PA DF) (xW C.out _) HS.out I.out
    ·have Pz: ¬(p:Int)<l.length:=by omega
     have uY:=ae (show el l p=0 by unfold el;rw [aD,bQ (by omega)];rfl);obtain ⟨s,F⟩:=pQ B;obtain ⟨t,A⟩:=pQ (s/2^r);obtain ⟨d,J⟩:=pQ (t % 4294967296);have e2:(B:Int)/2^r=(t:Int):=by rw [<-A,F];exact aef s r
     have e3:(t:Int) % 4294967296=(d:Int):=by omega
     have Z:=ae (show d<4294967296 by omega);have HS:=ae (show (el l (k+q)+4294967296*el l (k+1+q))/2^r % 4294967296=d by rw [show k+1+q=p by have:=R.out;omega,show k+q=j from R.out.1,qz.out,uY.out,jy,dt,<-J,<-A,<-F]);clear F A J;go_wp2_with fail
     go_roundg (m-(k+1))
     case measure=>have:=S.out;omega
     case rel=>
      refine ⟨k+1,o.set k d,by have:=S.out;omega,by go_num,by rw [bA];exact O.out,H.out.set Z.out,?_,Q.out.setCell (by rw [HG.out];exact aq _) _⟩;rw [wX (by rw [O.out];omega)];exact aed (f:=fun i=>el l (i+q)) (aO (by decide)) (PA DF) (xW C.out _) HS.out I.out
   ·obtain rfl:k=m:=by omega
    have y:val o=val l/2^n:=amE C.out (by rw [HM.out,T.out.1]) G (by rw [T.out.1,T.out.2];exact X);have nZ:=uW o;rw [G] at nZ;have HZ:=ae (xU u.sl);have HT:=ae u.trim;have Fe:=ae y;obtain ⟨z,hz⟩:=pQ (cP o);rw [hz] at HZ HT nZ;have b1:(0:Int)<=z:=by omega
    have b2:(z:Int)<=(k:Int):=by omega
    clear y hz u D X G M I O HO dh bB;go_wp2_with fail;refine HZ.out.mono ?_;rintro e w' ⟨rfl,rfl⟩;go_wp2_with fail;go_ret;exact ⟨_,rfl,Fe.out▸HT.out.base (by rw [HG.out];exact aq _),Q.out⟩
end
end
end Go.Proofs.YtnmpjdgobafdkaaGreatDoor
