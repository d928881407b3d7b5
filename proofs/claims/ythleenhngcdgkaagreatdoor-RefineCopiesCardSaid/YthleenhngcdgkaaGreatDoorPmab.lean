/- refineCopies_proved. -/
import Derived.Test.YthleenhngcdgkaaGreatDoorPmaa
import Derived.WalkKit
import Derived.WalkSpells
import Derived.WalkLawsBesides
import Derived.BigQuiet
import Derived.Lib.Hide
import Derived.IntWalk
import Derived.Deep.LoopGhost
import Derived.Maps.AppendAt
import Derived.OwnWalk
import Derived.Deep.QuietTactic
import Derived.Laws.OwnMore
import Derived.Lib.EndianBits
import Derived.Test.YthleenhngcdgkaaGreatDoorPmzz
set_option maxRecDepth 100000
set_option maxHeartbeats 16000000
set_option linter.all false
noncomputable section
namespace Go.Proofs.YthleenhngcdgkaaGreatDoor
section
open Go.RowKit
def wG (v:Value) (w:World) (e:Ending) (w':World):Prop:=e= .returned v/\w=w'
def zW {v a:Value} {w:World} (h:a=v):wG v w (.returned a) w:=⟨by rw [h],rfl⟩
def Qx (w:World) (v:Value) (n b:Nat) (xs:List Value):Prop:=
 xs.length=n*b/\((v= .slice none 0 0/\n=0)\/ ∃a cap,v= .slice (some a) n cap/\n<=cap/\cap<=maxLen/\ ∀j u,xs[j]? =some u->w.cell? (a.add j)=some u)
def Qx.below {w w':World} {v:Value} {n e:Nat} {xs:List Value} (h:Qx w v n e xs) (k:Below w.heap.size w w'):Qx w' v n e xs:=by
 refine ⟨h.1,?_⟩;rcases h.2 with h|⟨a,cap,f,g,i,b⟩
 ·exact .inl h
 ·exact .inr ⟨a,cap,f,g,i,fun j u d=>(k.cell (aj w _ (b j u d))).trans (b j u d)⟩
def rC {w:World} {base:Nat} {e:TypeId} {size g n cap:Nat} {xs:List Value} (h:w.ownsRow base e size (.slice (some ⟨g,0,none⟩) n cap) n xs) {j:Nat} {u:Value} (b:xs[j]? =some u):w.cell? ⟨g,j,none⟩=some u:=by
 have a:j<n*size:=by rw [<-h.1];grind
 rw [h.cellAt j a,b]
def aeV {w:World} {base:Nat} {e:TypeId} {a:Nat} {v:Value} {n:Nat} {xs:List Value} (h:w.ownsRow base e a v n xs):Qx w v n a xs:=by
 refine ⟨h.1,?_⟩;rcases h.2 with b|⟨g,cap,cur,rfl,k,l,d,f,m,o⟩
 ·exact .inl b
 ·refine .inr ⟨_,cap,rfl,d,f,fun j u i=> ?_⟩
  have:(⟨g,0,none⟩:Addr).add j=⟨g,j,none⟩:=by unfold Addr.add;simp_all
  rw [this];exact rC h i
def sH (l:List Nat):List Value:=l.map fun x:Nat=> .int .u32 (x:Int)
def kT (l:List Nat):Prop:= ∀x∈l,x<4294967296
def val:List Nat->Nat
 | []=>0
 |x::l=>x+4294967296*val l
def cS:List Nat->Nat
 | []=>0
 |x::l=>if x=0/\cS l=0 then 0 else cS l+1
def jj (w:World) (v:Value) (l:List Nat):Prop:=Qx w v l.length 1 (sH l)/\kT l
def vg: ∀l,cS l<=l.length
 | []=>ak _
 |x::l=>by
  have:=vg l;unfold cS;grind
def Qy: ∀(l:List Nat) (k:Nat),k<=l.length->(∀i,k<=i->i<l.length->l.getD i 0=0)->(k=0\/l.getD (k-1) 0≠0)->cS l=k
 | [],k,h,_,_=>by simp only [gj] at h;unfold cS;omega
 |x::l,0,_,h,_=>by
  have b:=Qy l 0 (bZ _) (fun i _ m=>by have:=h (i+1) (bZ _) (by simp_all);grind) (.inl rfl);have p:x=0:=by have:=h 0 (ak _) (by simp);grind
  unfold cS;simp_all
 |x::l,k+1,o,h,j=>by
  have d:k<=l.length:=by simp_all
  have a: ∀i,k<=i->i<l.length->l.getD i 0=0:=fun i f g=>by have:=h (i+1) (by omega) (by simp_all);grind
  have e:(x::l).getD k 0≠0:=by simp_all
  unfold cS;cases k with
  |zero=>
   have b:=Qy l 0 (bZ _) a (.inl rfl);simp_all
  |succ k=>
   have b:=Qy l (k+1) d a (.inr (by simp_all));simp_all
def ZY: ∀l,val (l.take (cS l))=val l
 | []=>rfl
 |x::l=>by
  have a:=ZY l;unfold cS;split
  ·rename_i h
   rw [h.2] at a;simp only [List.take_zero,val] at a⊢;omega
  ·rw [ot]
   simp only [val,a]
def rD {l:List Nat} {i:Nat} (hi:i<l.length:=by omega):(sH l)[i]? =some (.int .u32 (l.getD i 0:Nat)):=by
 unfold sH;simp_all
def nf {l:List Nat} (h:kT l) (i:Nat):l.getD i 0<4294967296:=by
 rw [aD];rcases b6 i l.length with a|a
 ·rw [aO a];exact h _ (fW a)
 simp_all
def jj.form {w:World} {v:Value} {l:List Nat} (h:jj w v l): ∃(a:Option Addr) (c:Nat) (x:Addr),v= .slice a l.length c/\(0<l.length->a=some x)/\l.length<=c/\l.length<=maxLen/\ ∀i,i<l.length->w.cell? (x.add i)=some (.int .u32 (l.getD i 0:Nat)):=by
 rcases h.1.2 with ⟨rfl,g⟩|⟨x,cap,rfl,b,d,e⟩
 ·simp_all
 ·exact ⟨some x,cap,x,rfl,fun _=>rfl,b,aL b d,fun i f=>e i _ (rD f)⟩
section
variable {w:World}
def yF {v:Value} {l:List Nat} (h:jj w v l):Calls Tryz.prog 179 #[v] w (wG (.int .i64 (cS l)) w):=by
 obtain ⟨a,c,x,rfl,s,hc,E,b⟩:=h.form;have u:=ae (nf h.2);have B:=ae b;have A:=ae s;unfold maxLen at E;clear h b s;go_enter Tryz.func179,Tryz.ntmps179;go_wp2
 go_loop [3] (fun i=> ∃k:Nat,k<=l.length/\i= .int .i64 k/\ ∀j,k<=j->j<l.length->l.getD j 0=0) (fun i=>(intOf i).toNat)
 case atStart=>exact ⟨_,ak _,rfl,fun j D q=>by omega⟩
 case round=>
  obtain ⟨k,t,rfl,y⟩:=hrel;have m:=ae y;clear y;by_cases I:0<k
  ·have C:(0:Int)<k:=by omega
   have z:=B.out (k-1) (by omega);obtain rfl:=A.out (by omega);have F:((k:Int)-1).toNat=k-1:=by omega
   have G:(0:Int)<=(k:Int)-1:=by omega
   have H:(k:Int)-1<l.length:=by omega
   obtain ⟨d,o⟩:=pS (l.getD (k-1) 0);rw [o] at z;have p:=ae o;clear o;by_cases f:d=0
   ·have g:=ae (p.out.trans f)
    subst f;go_wp2
    go_round
    case rel=>exact ⟨k-1,by omega,by go_num,fun j D q=>by
     by_cases e:j=k-1
     ·rw [e];exact g.out
     ·exact m.out j (by omega) q⟩
    case measure=>simp [intOf];omega
   ·have J:((d:Int)==0)=false:=by simpa using f
    have g:=ae f;clear f;go_wp2;go_ret;exact zW (by rw [Qy l k t m.out (.inr (by rw [p.out];exact g.out))];rfl)
  ·obtain rfl:k=0:=by omega
   go_wp2;go_ret;exact zW (by rw [Qy l 0 t m.out (.inl rfl)];rfl)
end
end
section
open Go.Proofs.Tryz Go.RowKit
def CO:(prog.info? 193).map (fun i=>(i.zero,i.size,i.bytes))=some (some (.int .u32 0),1,4):=by kernel_rfl
def gy (w:World) (base:Nat) (v:Value) (l:List Nat):Prop:=w.ownsRow base 193 1 v l.length (sH l)/\kT l
def nr (w:World) (base:Nat) (v:Value) (n:Nat):Prop:= ∃l,gy w base v l/\cS l=l.length/\val l=n
def eD (w:World) (v:Value) (n:Nat):Prop:= ∃l,jj w v l/\cS l=l.length/\val l=n
def rE (n:Nat) (w:World) (e:Ending) (w':World):Prop:= ∃v,e= .returned v/\nr w' w.heap.size v n/\Below w.heap.size w w'
def gy.sl {w:World} {base:Nat} {v:Value} {l:List Nat} (h:gy w base v l):jj w v l:=⟨aeV h.1,h.2⟩
def nr.r {w:World} {base:Nat} {v:Value} {n:Nat} (h:nr w base v n):eD w v n:=by
 obtain ⟨l,a,b,d⟩:=h;exact ⟨l,a.sl,b,d⟩
def nr.base {w:World} {base base':Nat} {v:Value} {n:Nat} (h:nr w base v n) (k:base'<=base):nr w base' v n:=by
 obtain ⟨l,⟨⟨b,a⟩,d⟩,f,i⟩:=h;refine ⟨l,⟨⟨b,?_⟩,d⟩,f,i⟩;rcases a with a|⟨g,cap,cur,e,j,r⟩
 ·exact .inl a
 ·exact .inr ⟨g,cap,cur,e,aL k j,r⟩
def jj.below {w w':World} {v:Value} {l:List Nat} (h:jj w v l) (a:Below w.heap.size w w'):jj w' v l:=⟨h.1.below a,h.2⟩
def eD.below {w w':World} {v:Value} {n:Nat} (h:eD w v n) (e:Below w.heap.size w w'):eD w' v n:=by
 obtain ⟨l,a,b,d⟩:=h;exact ⟨l,a.below e,b,d⟩
def aeW: ∀l:List Nat,cS (l.take (cS l))=cS l
 | []=>rfl
 |x::l=>by
  have a:=aeW l;by_cases h:x=0/\cS l=0
  ·simp [cS,h]
  ·have e:cS (x::l)=cS l+1:=by simp only [cS,if_neg h]
   rw [e,ot];simp only [cS,a,if_neg h]
def aeX (l:List Nat):cS (l.take (cS l))=(l.take (cS l)).length:=by
 rw [aeW,cY,fe (vg l)]
def aeY {l:List Nat} (h:kT l) (k:Nat):kT (l.take k):=fun x a=>h x (dG a)
def aeZ (l:List Nat) (k:Nat):sH (l.take k)=(sH l).take k:=by simp [sH,gb]
def jj.take {w:World} {a:Option Addr} {n c:Nat} {l:List Nat} (h:jj w (.slice a n c) l) {k:Nat} (o:k<=l.length):jj w (.slice a k c) (l.take k):=by
 have f:(l.take k).length=k:=by simp_all
 refine ⟨⟨by simp [sH],?_⟩,aeY h.2 k⟩;rcases h.1.2 with ⟨e,i⟩|⟨x,cap,e,m,b,d⟩
 ·simp_all
 ·cases e
  refine .inr ⟨x,c,by rw [f],by omega,b,fun j u g=>d j u ?_⟩;rw [aeZ] at g;grind
def gy.take {w:World} {base:Nat} {a:Option Addr} {n c:Nat} {l:List Nat} (h:gy w base (.slice a n c) l) {k:Nat} (q:k<=l.length):gy w base (.slice a k c) (l.take k):=by
 have b:(l.take k).length=k:=by simp_all
 refine ⟨⟨by simp [sH],?_⟩,aeY h.2 k⟩;rcases h.1.2 with ⟨e,o⟩|⟨g,cap,cur,e,d,f,p,i,j,m⟩
 ·simp_all
 ·cases e
  refine .inr ⟨g,c,cur,by rw [b],d,f,by omega,i,j,?_⟩;rw [aeZ,<-m,b,List.take_take,fe (by omega),fw]
def gy.trim {w:World} {base:Nat} {a:Option Addr} {n c:Nat} {l:List Nat} (h:gy w base (.slice a n c) l):nr w base (.slice a (cS l) c) (val l):=
 ⟨_,h.take (vg l),aeX l,ZY l⟩
section
variable {w:World}
def ano {v:Value} {l:List Nat} (h:jj w v l):Calls prog 255 #[v] w (wG (.bool (decide (cS l=l.length))) w):=by
 have b:=ae (yF h);obtain ⟨a,c,x,rfl,_⟩:=h.form;go_enter func255,ntmps255;go_wp2_with fail;refine b.out.mono ?_;rintro e d ⟨rfl,rfl⟩;go_wp2_with fail;go_ret;exact zW (by simp only [go_sem];rw [show ((cS l:Int)==(l.length:Int))=decide (cS l=l.length) by rw [Bool.eq_iff_iff,beq_iff_eq,decide_eq_true_iff];omega];try rfl)
def ae0 {v:Value} {l:List Nat} (h:jj w v l) (O:l.length<=1000000000):Calls prog 178 #[v] w fun e m=> ∃i,e= .returned i/\gy m w.heap.size i l/\Below w.heap.size w m:=by
 have p: ∀u∈sH l,u.oneCell'=true:=fun u f=>by
  unfold sH at f;obtain ⟨x,_,rfl⟩:=kD.1 f;rfl
 obtain ⟨⟨G,⟨rfl,E⟩|⟨a,cap,rfl,M,N,b⟩⟩,d⟩:=h
 ·obtain rfl:l= []:=b7 E
  have H:=fun w=>Lib.run_eql_slice_nil (P:=prog) w 35 193 none 0 0 0 0 underlying35
  go_enter func178,ntmps178;go_wp2_with fail;go_ret;exact ⟨_,rfl,⟨World.ownsRow_nil _ _ _ _,d⟩,aG _ _⟩
 ·have H:=fun w=>Lib.run_eql_slice_nil (P:=prog) w 35 193 (some a) l.length cap 0 0 underlying35
  obtain ⟨I,A,C,D,B⟩:=info_parts CO;have t:=ae b;have s:=ae p;have z:=ae d;have o:(w.alloc (.cells #[] 193)).ownsRow w.heap.size 193 1 (.slice (some ⟨w.heap.size,0,none⟩) 0 0) 0 []:=World.ownsRow_lit w #[] 0 (ak _) (by unfold maxLen;omega) rfl;have J:=ae o;clear b p o d;go_enter func178,ntmps178;go_wp2_with (at_builtin;refine wpList_append_own _ rfl _ _ 35 rfl w.heap.size 193 I _ 1 4 underlying35 A C D B rfl (by decide) _ 0 [] rfl J.out a l.length cap (sH l) rfl G ?_ s.out (by unfold maxLen;omega) (by omega) (by simp) ?_)
  ·intro j u f
   have:=t.out j u f;exact (((aG w.heap.size w).alloc (ak _) (.cells #[] 193)).cell (aj w _ this)).trans this
  ·intro i m g q _
   try simp only [jy,dr] at g
   have HO:=ae g;have y:=ae q;clear g q;go_wp2_with fail;go_ret;exact ⟨_,rfl,⟨HO.out,z.out⟩,((aG w.heap.size w).alloc (ak _) (.cells #[] 193)).grown y.out (by simp) (by intro k F;simp [Value.ownBlock] at F;omega)⟩
def xM {v:Value} {l:List Nat} (h:jj w v l) (q:l.length<=1000000000):Calls prog 119 #[v] w (rE (val l) w):=by
 have i:=ae (yF h);obtain ⟨a,c,x,rfl,k,hc,m,_⟩:=h.form;have b:=vg l;have j:=ae (ae0 (h.take b) (by rw [cY];omega));unfold maxLen at m;clear h k;have b1:(0:Int)<=cS l:=by omega
 have p:(cS l:Int)<=c:=by omega
 go_enter func119,ntmps119;go_wp2_with fail;refine i.out.mono ?_;rintro e o ⟨rfl,rfl⟩;go_wp2_with fail;refine j.out.mono ?_;rintro e o ⟨s,rfl,f,d⟩;have HO:=ae f;have g:=ae d;clear f d;go_wp2_with fail;go_ret;exact ⟨_,rfl,⟨_,HO.out,aeX l,ZY l⟩,g.out⟩
def Nz (n:Nat) (h:n<18446744073709551616):Calls prog 68 #[.int .u64 (n:Int)] w (rE n w):=by
 obtain ⟨d,y⟩:=pS (n % 4294967296);obtain ⟨a,o⟩:=pS (n/4294967296);have l:val [d,a]=n:=by simp only [val];omega
 obtain ⟨i,f⟩:=pU (w.alloc (.cells #[.int .u32 (d:Int),.int .u32 (a:Int)] 193));have b:Below w.heap.size w i:=by rw [f];exact (aG _ _).alloc (ak _) _
 have k:gy i w.heap.size (.slice (some ⟨w.heap.size,0,none⟩) 2 2) [d,a]:=by
  refine ⟨⟨rfl,.inr ⟨w.heap.size,2,#[.int .u32 (d:Int),.int .u32 (a:Int)],rfl,ak _,?_,ak _,by unfold maxLen;omega,rfl,rfl⟩⟩,?_⟩
  ·rw [f];exact heap_alloc_new w _
  ·intro x m
   simp only [bq,jd,or_false] at m;rcases m with rfl|rfl<;>omega
 have q:=ae (xM k.sl (by simp));have g:=ae b;have t:=ae f;have s:=ae l;have z:(n:Int) % 4294967296=(d:Int):=by omega
 have A:(n:Int)/4294967296=(a:Int):=by omega
 have B:(a:Int) % 4294967296=(a:Int):=by omega
 clear k b f y o l;go_enter func68,ntmps68;go_wp2_with fail;rw [<-t.out];refine q.out.mono ?_;rintro e C ⟨v,rfl,j,b⟩;have p:=ae j;have u:=ae b;clear j b;go_wp2_with fail;go_ret;exact ⟨_,rfl,s.out▸p.out.base g.out.size,g.out.trans (u.out.mono g.out.size)⟩
end
end
section
open Go.RowKit
def Quiet (v:Value) (w:World) (e:Ending) (w':World):Prop:=e= .returned v/\Below w.heap.size w w'
def below_drewN {B:Nat} {w w':World} (h:Below B w w') (n:Nat):Below B w (w'.drewN n):=⟨h.os,h.tape,h.output,h.size,h.block⟩
def bK (f:Nat->Nat):Nat->Nat
 |0=>0
 |n+1=>bK f n+4294967296^n*f n
def el (l:List Nat) (i:Nat):Nat:=l.getD i 0
def ae1 (x:Nat) (l:List Nat): ∀n,bK (el (x::l)) (n+1)=x+4294967296*bK (el l) n
 |0=>by simp [bK,el]
 |n+1=>by
  have a:=ae1 x l n;show bK (el (x::l)) (n+1)+4294967296^(n+1)*el (x::l) (n+1)=x+4294967296*(bK (el l) n+4294967296^n*el l n);have e:el (x::l) (n+1)=el l n:=by simp [el]
  grind
def lM: ∀l:List Nat,val l=bK (el l) l.length
 | []=>rfl
 |x::l=>by rw [jg,ae1,<-lM l];rfl
def KH {f:Nat->Nat} {k:Nat} : ∀ {n:Nat},k<=n->(∀j,k<=j->j<n->f j=0)->bK f n=bK f k
 |0,h,_=>by simp_all
 |n+1,h,a=>by
  by_cases e:k=n+1
  ·rw [e]
  ·show bK f n+4294967296^n*f n=_
   rw [a n (by omega) (by omega),jz,dt,KH (by omega) fun j b d=>a j b (by omega)]
def qG {f:Nat->Nat} (a: ∀j,f j<4294967296): ∀n,bK f n<4294967296^n
 |0=>by simp [bK]
 |n+1=>by
  have e:=qG a n;have d:=a n;have b:4294967296^n*(f n+1)<=4294967296^n*4294967296:=aR _ (by omega);rw [fA,fw] at b;show bK f n+4294967296^n*f n<4294967296^(n+1);omega
def Z0 {f g:Nat->Nat} (d: ∀j,f j<4294967296) {i:Nat} (a:f i<g i): ∀ {n:Nat},i<n->(∀j,i<j->j<n->f j=g j)->bK f n<bK g n
 |0,h,_=>by omega
 |n+1,h,l=>by
  show bK f n+4294967296^n*f n<bK g n+4294967296^n*g n;by_cases e:i=n
  ·subst e
   have b:=qG d i;have k:4294967296^i*(f i+1)<=4294967296^i*g i:=aR _ a;grind
  ·have m:=Z0 d a (n:=n) (by omega) fun j b k=>l j b (by omega)
   grind
def Br {f g:Nat->Nat} : ∀ {n:Nat},(∀j,j<n->f j=g j)->bK f n=bK g n
 |0,_=>rfl
 |n+1,h=>by
  show bK f n+4294967296^n*f n=bK g n+4294967296^n*g n;rw [Br fun j a=>h j (by omega),h n (by omega)]
def Va: ∀(l:List Nat) (i:Nat),cS l<=i->el l i=0
 | [],i,_=>by simp [el]
 |x::l,i,h=>by
  unfold cS at h;by_cases e:x=0/\cS l=0
  ·cases i with
   |zero=>simp [el,e.1]
   |succ i=>have:=Va l i (by omega);simpa [el] using this
  ·rw [if_neg e] at h
   cases i with
   |zero=>omega
   |succ i=>have:=Va l i (by omega);simpa [el] using this
def Qz: ∀l:List Nat,0<cS l->el l (cS l-1)≠0
 | [],h=>by simp [cS] at h
 |x::l,h=>by
  by_cases e:x=0/\cS l=0
  ·simp [cS,e] at h
  ·have b:cS (x::l)=cS l+1:=by simp only [cS,if_neg e]
   rw [b,dS];by_cases a:cS l=0
   ·rw [a]
    have:x≠0:=fun f=>e ⟨f,a⟩
    simpa [el] using this
   ·have:=Qz l (by omega)
    obtain ⟨k,d⟩: ∃k,cS l=k+1:=⟨cS l-1,by omega⟩;rw [d] at this⊢
    simpa [el] using this
def xN (l:List Nat):val l=bK (el l) (cS l):=by
 rw [lM];exact KH (vg l) fun j a _=>Va l j a
def yG {l:List Nat} (h:kT l) (i:Nat):el l i<4294967296:=nf h i
def NA {l m:List Nat} (b:kT l) (h:cS l<cS m):val l<val m:=by
 rw [xN l,xN m];have e:=qG (yG b) (cS l);obtain ⟨k,a⟩: ∃k,cS m=k+1:=⟨cS m-1,by omega⟩;have d:=Qz m (by omega);rw [a,dS] at d;rw [a];show _<bK (el m) k+4294967296^k*el m k;have f:4294967296^cS l<=4294967296^k:=aF (by omega) (by omega);have g:4294967296^k*1<=4294967296^k*el m k:=aR _ (by omega);omega
def tW (a b:Nat):Int:=if a<b then-1 else if b<a then 1 else 0
def NB {a b:Nat} (h:a<b):tW a b= -1:=if_pos h
def ae2 {a b:Nat} (h:b<a):tW a b=1:=by unfold tW;rw [if_neg (by omega),if_pos h]
def anp {a b:Nat} (h:a=b):tW a b=0:=by unfold tW;rw [if_neg (by omega),if_neg (by omega)]
section
variable {w:World}
def Vb {v u:Value} {l m:List Nat} (h:jj w v l) (h':jj w u m):Calls Tryz.prog 137 #[v,u] w (Quiet (.int .i64 (tW (val l) (val m))) w):=by
 have U:=ae (yF h);have t:=ae (yF h');have S:=ae h.2;have T:=ae h'.2;have oW:=vg l;have tf:=vg m;obtain ⟨a,c,x,rfl,X,hc,hm,b⟩:=h.form;obtain ⟨a',c',x',rfl,C,vh,vj,P⟩:=h'.form;have HC:=ae (fun E (q:Below w.heap.size w E) i (d:i<l.length)=>(q.cell (aj w _ (b i d))).trans (b i d));have Y:=ae (fun E (q:Below w.heap.size w E) i (d:i<m.length)=>(q.cell (aj w _ (P i d))).trans (P i d));have HA:=ae X;have Z:=ae C;unfold maxLen at hm vj;clear h h' b P X C;obtain ⟨n,N⟩:=pS (cS l);obtain ⟨G,O⟩:=pS (cS m);rw [N] at U oW;rw [O] at t tf;have s:=ae N;have y:=ae O;clear N O;go_enter Tryz.func137,Tryz.ntmps137;go_wp2_with fail;refine U.out.mono ?_;rintro e E ⟨rfl,rfl⟩;go_wp2_with fail;refine t.out.mono ?_;rintro e E ⟨rfl,rfl⟩;rcases fS n G with f|rfl|f
 ·have Q:(n:Int)<G:=by omega
  go_wp2_with fail;go_ret;exact ⟨by rw [NB (NA S.out (by rw [s.out,y.out];exact f))];rfl,aG _ _⟩
 ·go_wp2_with fail
  go_loopg [7] n (fun g iv wr=> ∃k:Nat,g=k/\k<=n/\((k=0/\iv= .int .i64 (-1))\/(0<k/\iv= .int .i64 ((k-1:Nat):Int)))/\(∀j,k<=j->j<n->el l j=el m j)/\Below w.heap.size w wr)
  case atStart=>
   refine ⟨n,rfl,ak _,?_,fun j B p=>by omega,aG _ _⟩;by_cases e:n=0
   ·exact .inl ⟨e,by subst e;rfl⟩
   ·exact .inr ⟨by omega,by congr 1;omega⟩
  case round=>
   obtain ⟨k,rfl,hk,QB,D,q⟩:=hrel;have F:=ae D;have o:=ae q;clear D q;rcases QB with ⟨rfl,rfl⟩|⟨jG,rfl⟩
   ·go_wp2_with fail
    go_ret;exact ⟨by rw [anp (by rw [xN l,xN m,s.out,y.out];exact Br fun j hj=>F.out j (bZ _) hj)];rfl,o.out⟩
   ·obtain ⟨i,d⟩:=pS (gk-1)
    rw [d];have W:i<n:=by omega
    have KJ:gk=i+1:=by omega
    subst KJ;clear d;obtain rfl:=HA.out (by omega);obtain rfl:=Z.out (by omega);have q1:=HC.out _ o.out i (by omega);have q2:=Y.out _ o.out i (by omega);obtain ⟨z,J⟩:=pS (l.getD i 0);obtain ⟨A,R⟩:=pS (m.getD i 0);rw [J] at q1;rw [R] at q2;have i0:(0:Int)<=i:=by omega
    have i1:(i:Int)<l.length:=by omega
    have i2:(i:Int)<m.length:=by omega
    have H:=ae (show el l i=z from J);have I:=ae (show el m i=A from R);clear J R;rcases fS z A with f|M|f
    ·have Q:(z:Int)<A:=by omega
     go_wp2_with fail
     go_quiet (fail)
     go_wp2_with fail;go_ret;exact ⟨by rw [NB (by rw [xN l,xN m,s.out,y.out];exact Z0 (yG S.out) (i:=i) (by rw [H.out,I.out];exact f) W fun j B p=>F.out j B p)];rfl,below_drewN o.out _⟩
    ·subst M
     go_wp2_with fail
     go_quiet (fail)
     go_wp2_with fail
     go_quiet (fail)
     go_wp2_with fail
     go_roundg i
     case measure=>omega
     case rel=>
      refine ⟨i,rfl,by omega,?_,fun j B p=> ?_,below_drewN o.out _⟩
      ·by_cases e:i=0
       ·exact .inl ⟨e,by subst e;rfl⟩
       ·exact .inr ⟨by omega,by congr 1;omega⟩
      ·by_cases e:j=i
       ·rw [e,H.out,I.out]
       ·exact F.out j (by omega) p
    ·have Q:(A:Int)<z:=by omega
     have Ih: ¬(z:Int)<A:=by omega
     go_wp2_with fail
     go_quiet (fail)
     go_wp2_with fail
     go_quiet (fail)
     go_wp2_with fail;go_ret;exact ⟨by rw [ae2 (by rw [xN l,xN m,s.out,y.out];exact Z0 (yG T.out) (i:=i) (by rw [H.out,I.out];exact f) W fun j B p=>(F.out j B p).symm)];rfl,below_drewN (below_drewN o.out _) _⟩
 ·have Q:(G:Int)<n:=by omega
  have Ih: ¬(n:Int)<G:=by omega
  go_wp2_with fail;go_ret;exact ⟨by rw [ae2 (NA T.out (by rw [s.out,y.out];exact f))];rfl,aG _ _⟩
end
end
section
open Go.RowKit
def FO (n:Nat):(madeCells (Value.int .u32 0).cells (n*1)).toList=sH (List.replicate n 0):=by
 show (madeCells #[.int .u32 0] (n*1)).toList=_;rw [toList_madeCells_one,fw];simp [sH]
def FP (n:Nat):kT (List.replicate n 0):=fun x a=>by simp_all
def uA {l:List Nat} {k:Nat} (d:Nat) (a:k<l.length) (j:Nat):el (l.set k d) j=if j=k then d else el l j:=by
 unfold el;grind
def anq {l:List Nat} (h:kT l) (k:Nat) {d:Nat} (e:d<4294967296):kT (l.set k d):=fun x b=>by
 rcases List.mem_or_eq_of_mem_set b with a|rfl
 ·exact h x a
 omega
def anr (l:List Nat) (k d:Nat):sH (l.set k d)=(sH l).set k (.int .u32 (d:Int)):=by simp [sH,oJ]
def gy.set {w:World} {base g n cap:Nat} {l:List Nat} (h:gy w base (.slice (some ⟨g,0,none⟩) n cap) l) {k d:Nat} (a:d<4294967296):
 gy (w.setCell ⟨g,k,none⟩ (.int .u32 (d:Int))) base (.slice (some ⟨g,0,none⟩) n cap) (l.set k d):=by
 refine ⟨?_,anq h.2 k a⟩;have e:n=l.length:=by
  rcases h.1.2 with ⟨e,_⟩|⟨_,_,_,e,_⟩
  all_goals grind
 subst e;have:=(h.1.stored k (.int .u32 (d:Int))).1;rw [anr,bu];omega
def xQ {l:List Nat} {k d:Nat} (a:k<l.length:=by omega):bK (el (l.set k d)) (k+1)=bK (el l) k+4294967296^k*d:=by
 show bK (el (l.set k d)) k+4294967296^k*el (l.set k d) k=_;rw [uA d a k,if_pos rfl,Br (f:=el (l.set k d)) (g:=el l) fun j b=>by rw [uA d a j,if_neg (by omega)]]
def Vc {p a b s k e f d x y:Nat} (h:s+p*e=a+b) (hc:e+x+y=d+4294967296*f) (g:p=4294967296^k):s+p*d+4294967296^(k+1)*f=(a+p*x)+(b+p*y):=by
 grind
section
variable {w:World}
def ans {v u:Value} {l m:List Nat} (h:jj w v l) (h':jj w u m) (I:m.length<=l.length) (hn:l.length<=100000000):Calls Tryz.prog 143 #[v,u] w (rE (val l+val m) w):=by
 have HL:=ae h.2;have HM:=ae h'.2;obtain ⟨a,c,x,rfl,ha,hc,hm,f⟩:=h.form;obtain ⟨a',c',x',rfl,F,vh,vj,tX⟩:=h'.form;have HC:=ae (fun U (t:Below w.heap.size w U) i (G:i<l.length)=>(t.cell (aj w _ (f i G))).trans (f i G));have Er:=ae (fun U (t:Below w.heap.size w U) i (G:i<m.length)=>(t.cell (aj w _ (tX i G))).trans (tX i G));have HA:=ae ha;have Es:=ae F;unfold maxLen at hm vj;clear h h' f tX ha F;have xO: ¬(l.length:Int)<m.length:=by omega
 obtain ⟨i0,eT,fL,gd,fG⟩:=info_parts CO;go_enter Tryz.func143,Tryz.ntmps143;go_wp2_with (refine wpList_make_full w rfl (.tmp 18) (.tmp 18) 35 rfl w.heap.size 193 i0 _ 1 Tryz.underlying35 eT fL gd _ _ _ _ (l.length+1) rfl rfl (by omega) (by omega) (by rw [fG];omega) (by unfold maxLen;omega) (ak _) ?_;intro w1 ho C);have bP:Below w.heap.size w w1:=(aG _ _).grown C (ak _) (by intro k H;cases H);rw [FO] at ho;have q:gy w1 w.heap.size (.slice (some ⟨w.heap.size,0,none⟩) (l.length+1) (l.length+1)) (List.replicate (l.length+1) 0):=⟨by rw [aV];exact ho,FP _⟩;have HO:=ae q;have cC:=ae bP;clear ho C bP q eT fL gd fG;go_wp2_with fail;obtain ⟨g,C⟩:=pS w.heap.size;rw [C] at HO⊢;have P:=ae C;clear C
 go_loopg [6,22] l.length (fun gh cv iv wr=> ∃(k b:Nat) (o:List Nat),gh+k=l.length/\iv= .int .i64 k/\cv= .int .u64 b/\b<2/\o.length=l.length+1/\gy wr g (.slice (some ⟨g,0,none⟩) (l.length+1) (l.length+1)) o/\
  bK (el o) k+4294967296^k*b=bK (el l) k+bK (el m) k/\Below w.heap.size w wr)
 case atStart=>exact ⟨0,0,_,rfl,rfl,rfl,by decide,aV,HO.out,by simp [bK],cC.out⟩
 case round=>
  obtain ⟨k,b,o,H,rfl,rfl,hcr,B,q,S,t⟩:=hrel;have Q:=ae H;have J:=ae B;have Y:=ae S;have O:=ae t;have KL:(k:Int)<=100000000:=by omega
  by_cases bA:k<l.length
  ·obtain rfl:=HA.out (by omega)
   have p:=q.1;rw [B] at p;have l9:=p.frozenAt k;obtain ⟨E,FW⟩: ∃E,wr.cell? ⟨g,k,none⟩=some E:=⟨_,rC p (rD)⟩;clear p;have D:=ae q;have q1:=HC.out _ t k bA;obtain ⟨A,R⟩:=pS (l.getD k 0);rw [R] at q1;have bx:A<4294967296:=by rw [<-R];exact nf HL.out k
   have qH:=ae (show el l k=A from R);have zX:(k:Int)<l.length:=by omega
   have NF:(k:Int)<(l.length:Int)+1:=by omega
   have jG:(0:Int)<=k:=by omega
   clear R H B S t q;by_cases mF:k<m.length
   ·obtain rfl:=Es.out (by omega)
    have q2:=Er.out _ O.out k mF;obtain ⟨M,T⟩:=pS (m.getD k 0);rw [T] at q2;have Ii:M<4294967296:=by rw [<-T];exact nf HM.out k
    have vk:=ae (show el m k=M from T);have QD:(k:Int)<m.length:=by omega
    clear T;obtain ⟨s,hs⟩:=pS (b+A+M);obtain ⟨d,hd⟩:=pS (s % 4294967296);obtain ⟨y,Z⟩:=pS (s/4294967296);have e0:(b:Int)+(A:Int)+(M:Int)=(s:Int):=by omega
    have e1:(s:Int) % 4294967296=(d:Int):=by omega
    have e2:(s:Int)/4294967296=(y:Int):=by omega
    have X:=ae (show b+A+M=d+4294967296*y by omega);have W:=ae (show d<4294967296 by omega);have KO:=ae (show y<2 by omega);clear hs hd Z;go_wp2_with fail
    go_roundg (l.length-(k+1))
    case measure=>have:=Q.out;omega
    case rel=>
     refine ⟨k+1,y,o.set k d,by have:=Q.out;omega,by go_num,rfl,KO.out,by rw [bu];exact J.out,D.out.set W.out,?_,O.out.setCell (by rw [P.out];exact ak _) _⟩;rw [xQ (by rw [J.out];omega)];show _=bK (el l) k+4294967296^k*el l k+(bK (el m) k+4294967296^k*el m k);rw [qH.out,vk.out];exact Vc Y.out X.out rfl
   ·have QD: ¬(k:Int)<m.length:=by omega
    have vk:=ae (show el m k=0 by unfold el;rw [aD,bS (by omega)];rfl);obtain ⟨s,hs⟩:=pS (b+A);obtain ⟨d,hd⟩:=pS (s % 4294967296);obtain ⟨y,Z⟩:=pS (s/4294967296);have e0:(b:Int)+(A:Int)=(s:Int):=by omega
    have e1:(s:Int) % 4294967296=(d:Int):=by omega
    have e2:(s:Int)/4294967296=(y:Int):=by omega
    have X:=ae (show b+A+0=d+4294967296*y by omega);have W:=ae (show d<4294967296 by omega);have KO:=ae (show y<2 by omega);clear hs hd Z;go_wp2_with fail
    go_roundg (l.length-(k+1))
    case measure=>have:=Q.out;omega
    case rel=>
     refine ⟨k+1,y,o.set k d,by have:=Q.out;omega,by go_num,rfl,KO.out,by rw [bu];exact J.out,D.out.set W.out,?_,O.out.setCell (by rw [P.out];exact ak _) _⟩;rw [xQ (by rw [J.out];omega)];show _=bK (el l) k+4294967296^k*el l k+(bK (el m) k+4294967296^k*el m k);rw [qH.out,vk.out];exact Vc Y.out X.out rfl
  ·obtain rfl:k=l.length:=by omega
   have zX: ¬(l.length:Int)<l.length:=by omega
   have p:=q.1;rw [B] at p;have l9:=p.frozenAt l.length;obtain ⟨E,FW⟩: ∃E,wr.cell? ⟨g,l.length,none⟩=some E:=⟨_,rC p (rD)⟩;clear p;have NF:(l.length:Int)<(l.length:Int)+1:=by omega
   have e1:(b:Int) % 4294967296=(b:Int):=by omega
   obtain ⟨wz,N⟩:=pU (wr.setCell ⟨g,l.length,none⟩ (.int .u32 (b:Int)));have hz:gy wz g (.slice (some ⟨g,0,none⟩) (l.length+1) (l.length+1)) (o.set l.length b):=by rw [N];exact q.set (by omega)
   have Ij:Below w.heap.size w wz:=by rw [N];exact t.setCell (by rw [P.out];exact ak _) _
   have z:val (o.set l.length b)=val l+val m:=by
    rw [lM (o.set l.length b),bu,B,xQ,S,<-lM l];have:bK (el m) l.length=val m:=by
     rw [lM m];exact KH I fun j h1 _=>by unfold el;rw [aD,bS (by omega)];rfl
    rw [this]
   have nh:=vg (o.set l.length b);rw [bu,B] at nh;have HZ:=ae (yF hz.sl);have HT:=ae hz.trim;have Z1:=ae Ij;have FX:=ae z;have Z2:=ae N;obtain ⟨r,hr⟩:=pS (cS (o.set l.length b));rw [hr] at HZ HT nh;have b1:(0:Int)<=r:=by omega
   have b2:(r:Int)<=(l.length:Int)+1:=by omega
   clear hz Ij z N hr q t S B H Y O J HO cC;go_wp2_with fail;rw [<-Z2.out];refine HZ.out.mono ?_;rintro e U ⟨rfl,rfl⟩;go_wp2_with fail;go_ret;exact ⟨_,rfl,FX.out▸HT.out.base (by rw [P.out];exact ak _),Z1.out⟩
end
end
section
open Go.RowKit
section
variable {w:World}
def ant {v u:Value} {l m:List Nat} (h':jj w v m) (h:jj w u l) (ow:m.length<l.length) (hn:l.length<=100000000):Calls Tryz.prog 143 #[v,u] w (rE (val l+val m) w):=by
 have I:m.length<=l.length:=aQ ow;have HL:=ae h.2;have HM:=ae h'.2;obtain ⟨a,c,x,rfl,ha,hc,hm,f⟩:=h.form;obtain ⟨a',c',x',rfl,F,vh,vj,tX⟩:=h'.form;have HC:=ae (fun U (t:Below w.heap.size w U) i (G:i<l.length)=>(t.cell (aj w _ (f i G))).trans (f i G));have Er:=ae (fun U (t:Below w.heap.size w U) i (G:i<m.length)=>(t.cell (aj w _ (tX i G))).trans (tX i G));have HA:=ae ha;have Es:=ae F;unfold maxLen at hm vj;clear h h' f tX ha F;have xO:(m.length:Int)<l.length:=by omega
 obtain ⟨i0,eT,fL,gd,fG⟩:=info_parts CO;go_enter Tryz.func143,Tryz.ntmps143;go_wp2_with (refine wpList_make_full w rfl (.tmp 18) (.tmp 18) 35 rfl w.heap.size 193 i0 _ 1 Tryz.underlying35 eT fL gd _ _ _ _ (l.length+1) rfl rfl (by omega) (by omega) (by rw [fG];omega) (by unfold maxLen;omega) (ak _) ?_;intro w1 ho C);have bP:Below w.heap.size w w1:=(aG _ _).grown C (ak _) (by intro k H;cases H);rw [FO] at ho;have q:gy w1 w.heap.size (.slice (some ⟨w.heap.size,0,none⟩) (l.length+1) (l.length+1)) (List.replicate (l.length+1) 0):=⟨by rw [aV];exact ho,FP _⟩;have HO:=ae q;have cC:=ae bP;clear ho C bP q eT fL gd fG;go_wp2_with fail;obtain ⟨g,C⟩:=pS w.heap.size;rw [C] at HO⊢;have P:=ae C;clear C
 go_loopg [6,22] l.length (fun gh cv iv wr=> ∃(k b:Nat) (o:List Nat),gh+k=l.length/\iv= .int .i64 k/\cv= .int .u64 b/\b<2/\o.length=l.length+1/\gy wr g (.slice (some ⟨g,0,none⟩) (l.length+1) (l.length+1)) o/\
  bK (el o) k+4294967296^k*b=bK (el l) k+bK (el m) k/\Below w.heap.size w wr)
 case atStart=>exact ⟨0,0,_,rfl,rfl,rfl,by decide,aV,HO.out,by simp [bK],cC.out⟩
 case round=>
  obtain ⟨k,b,o,H,rfl,rfl,hcr,B,q,S,t⟩:=hrel;have Q:=ae H;have J:=ae B;have Y:=ae S;have O:=ae t;have KL:(k:Int)<=100000000:=by omega
  by_cases bA:k<l.length
  ·obtain rfl:=HA.out (by omega)
   have p:=q.1;rw [B] at p;have l9:=p.frozenAt k;obtain ⟨E,FW⟩: ∃E,wr.cell? ⟨g,k,none⟩=some E:=⟨_,rC p (rD)⟩;clear p;have D:=ae q;have q1:=HC.out _ t k bA;obtain ⟨A,R⟩:=pS (l.getD k 0);rw [R] at q1;have bx:A<4294967296:=by rw [<-R];exact nf HL.out k
   have qH:=ae (show el l k=A from R);have zX:(k:Int)<l.length:=by omega
   have NF:(k:Int)<(l.length:Int)+1:=by omega
   have jG:(0:Int)<=k:=by omega
   clear R H B S t q;by_cases mF:k<m.length
   ·obtain rfl:=Es.out (by omega)
    have q2:=Er.out _ O.out k mF;obtain ⟨M,T⟩:=pS (m.getD k 0);rw [T] at q2;have Ii:M<4294967296:=by rw [<-T];exact nf HM.out k
    have vk:=ae (show el m k=M from T);have QD:(k:Int)<m.length:=by omega
    clear T;obtain ⟨s,hs⟩:=pS (b+A+M);obtain ⟨d,hd⟩:=pS (s % 4294967296);obtain ⟨y,Z⟩:=pS (s/4294967296);have e0:(b:Int)+(A:Int)+(M:Int)=(s:Int):=by omega
    have e1:(s:Int) % 4294967296=(d:Int):=by omega
    have e2:(s:Int)/4294967296=(y:Int):=by omega
    have X:=ae (show b+A+M=d+4294967296*y by omega);have W:=ae (show d<4294967296 by omega);have KO:=ae (show y<2 by omega);clear hs hd Z;go_wp2_with fail
    go_roundg (l.length-(k+1))
    case measure=>have:=Q.out;omega
    case rel=>
     refine ⟨k+1,y,o.set k d,by have:=Q.out;omega,by go_num,rfl,KO.out,by rw [bu];exact J.out,D.out.set W.out,?_,O.out.setCell (by rw [P.out];exact ak _) _⟩;rw [xQ (by rw [J.out];omega)];show _=bK (el l) k+4294967296^k*el l k+(bK (el m) k+4294967296^k*el m k);rw [qH.out,vk.out];exact Vc Y.out X.out rfl
   ·have QD: ¬(k:Int)<m.length:=by omega
    have vk:=ae (show el m k=0 by unfold el;rw [aD,bS (by omega)];rfl);obtain ⟨s,hs⟩:=pS (b+A);obtain ⟨d,hd⟩:=pS (s % 4294967296);obtain ⟨y,Z⟩:=pS (s/4294967296);have e0:(b:Int)+(A:Int)=(s:Int):=by omega
    have e1:(s:Int) % 4294967296=(d:Int):=by omega
    have e2:(s:Int)/4294967296=(y:Int):=by omega
    have X:=ae (show b+A+0=d+4294967296*y by omega);have W:=ae (show d<4294967296 by omega);have KO:=ae (show y<2 by omega);clear hs hd Z;go_wp2_with fail
    go_roundg (l.length-(k+1))
    case measure=>have:=Q.out;omega
    case rel=>
     refine ⟨k+1,y,o.set k d,by have:=Q.out;omega,by go_num,rfl,KO.out,by rw [bu];exact J.out,D.out.set W.out,?_,O.out.setCell (by rw [P.out];exact ak _) _⟩;rw [xQ (by rw [J.out];omega)];show _=bK (el l) k+4294967296^k*el l k+(bK (el m) k+4294967296^k*el m k);rw [qH.out,vk.out];exact Vc Y.out X.out rfl
  ·obtain rfl:k=l.length:=by omega
   have zX: ¬(l.length:Int)<l.length:=by omega
   have p:=q.1;rw [B] at p;have l9:=p.frozenAt l.length;obtain ⟨E,FW⟩: ∃E,wr.cell? ⟨g,l.length,none⟩=some E:=⟨_,rC p (rD)⟩;clear p;have NF:(l.length:Int)<(l.length:Int)+1:=by omega
   have e1:(b:Int) % 4294967296=(b:Int):=by omega
   obtain ⟨wz,N⟩:=pU (wr.setCell ⟨g,l.length,none⟩ (.int .u32 (b:Int)));have hz:gy wz g (.slice (some ⟨g,0,none⟩) (l.length+1) (l.length+1)) (o.set l.length b):=by rw [N];exact q.set (by omega)
   have Ij:Below w.heap.size w wz:=by rw [N];exact t.setCell (by rw [P.out];exact ak _) _
   have z:val (o.set l.length b)=val l+val m:=by
    rw [lM (o.set l.length b),bu,B,xQ,S,<-lM l];have:bK (el m) l.length=val m:=by
     rw [lM m];exact KH I fun j h1 _=>by unfold el;rw [aD,bS (by omega)];rfl
    rw [this]
   have nh:=vg (o.set l.length b);rw [bu,B] at nh;have HZ:=ae (yF hz.sl);have HT:=ae hz.trim;have Z1:=ae Ij;have FX:=ae z;have Z2:=ae N;obtain ⟨r,hr⟩:=pS (cS (o.set l.length b));rw [hr] at HZ HT nh;have b1:(0:Int)<=r:=by omega
   have b2:(r:Int)<=(l.length:Int)+1:=by omega
   clear hz Ij z N hr q t S B H Y O J HO cC;go_wp2_with fail;rw [<-Z2.out];refine HZ.out.mono ?_;rintro e U ⟨rfl,rfl⟩;go_wp2_with fail;go_ret;exact ⟨_,rfl,FX.out▸HT.out.base (by rw [P.out];exact ak _),Z1.out⟩
def anu {v u:Value} {l m:List Nat} (h:jj w v l) (h':jj w u m) (b:l.length<=100000000:=by omega) (a:m.length<=100000000:=by omega):Calls Tryz.prog 143 #[v,u] w (rE (val l+val m) w):=by
 by_cases e:m.length<=l.length
 ·exact ans h h' e b
 ·rw [iH]
  exact ant h h' (by omega) a
end
end
section
open Go.RowKit
def ae3 (n:Nat):0<4294967296^n:=aM (by decide)
def QE {r:Nat} (a:r<32):2^r*2^(32-r)=4294967296:=by
 rw [<-bC,show r+(32-r)=32 by omega]
def anv {R S x y:Nat} (a:0<R) (h:R*S=4294967296) (j:x<4294967296):R*((x+4294967296*y)/R % 4294967296)+x % R=x+4294967296*(y % R):=by
 have b:(x+4294967296*y)/R=x/R+S*y:=by
  rw [<-h,bD,gX _ _ a]
 have i:x/R<S:=by rw [gJ a,bG,h];omega
 have d:(x/R+S*y) % 4294967296=x/R+S*(y % R):=by
  have e:S*y=S*(y % R)+4294967296*(y/R):=by
   have:=du y R;grind
  rw [e,<-ft,ij,dV];have f:y % R+1<=R:=cZ _ a;have g:S*(y % R)+S<=4294967296:=by
   rw [<-h,bG R S];exact aL (by grind) (aR S f)
  omega
 rw [b,d,fA,<-bD,h];have:=du x R;omega
def zY (f:Nat->Nat) (n:Nat):bK f (n+1)=bK f n+4294967296^n*f n:=rfl
def ae4 {f:Nat->Nat} {R S k d s0 s:Nat} (a:0<R) (h:R*S=4294967296) (g:f k<4294967296) (b:(f k+4294967296*f (k+1))/R % 4294967296=d)
 (i:bK f k+4294967296^k*(f k % R)=s0+R*s):bK f (k+1)+4294967296^(k+1)*(f (k+1) % R)=s0+R*(s+4294967296^k*d):=by
 have e:=anv (y:=f (k+1)) a h g;rw [b] at e;rw [zY,bL,fA,<-ft,<-i,<-bD R,bG R,bD _ R d];grind
def Vd (f:Nat->Nat) (w:Nat): ∀m,bK f (w+m)=bK f w+4294967296^w*bK (fun i=>f (i+w)) m
 |0=>by simp [bK]
 |m+1=>by
  rw [<-ft,zY,Vd f w m,zY,fA,<-bD,<-bC,iH m w,ft]
def anw {l:List Nat} (a:kT l) {w m:Nat} (h:l.length=w+m):val l/4294967296^w=bK (fun i=>el l (i+w)) m:=by
 rw [lM,h,Vd,gX _ _ (ae3 w),eK (qG (fun j=>yG a j) w),dr]
def QF (n:Nat):2^n=4294967296^(n/32)*2^(n % 32):=by
 rw [show 4294967296=2^32 by decide,<-fE,<-bC,du]
def anx {l o:List Nat} {n m:Nat} (d:kT l) (e:l.length=n/32+m) (f:o.length=m)
 (a:bK (fun i=>el l (i+n/32)) m+4294967296^m*(el l (m+n/32) % 2^(n % 32))=el l (n/32) % 2^(n % 32)+2^(n % 32)*bK (el o) m):val o=val l/2^n:=by
 have b:el l (m+n/32)=0:=by
  unfold el;grind
 rw [b,Nat.zero_mod,jz,dt] at a;rw [QF n,<-iZ,anw d e,a,gX _ _ (aM (by decide)),eK (cZ _ (aM (by decide))),dr,lM,f]
def ae5 (k:IntKind) (x y:Int):bits .or k x y=bits .or k y x:=by
 unfold bits
 all_goals grind
def ae6 (s r:Nat):(s:Int)/2^r=((s/2^r:Nat):Int):=by
 simp_all
section
variable {w:World}
def Z3 (n:Nat) (d:n<=1048576):Calls Tryz.prog 197 #[.int .i64 (n:Int)] w (wG (.int .i64 (n:Int)) w):=by
 have a:max (n:Int) 0=n:=by omega
 have b:min (n:Int) 1048576=n:=by omega
 go_enter Tryz.func197,Tryz.ntmps197;go_wp2_with fail;go_ret;exact zW rfl
def KP (w:World) (base:Nat):nr w base (.slice none 0 0) 0:=⟨[],⟨World.ownsRow_nil _ _ _ _,fun x a=>by cases a⟩,rfl,rfl⟩
def ae7 {v:Value} {l:List Nat} (h:jj w v l) (hn:l.length<=100000000) (n:Nat) (oW:n<=1048576):Calls Tryz.prog 142 #[v,.int .i64 (n:Int)] w (rE (val l/2^n) w):=by
 have C:=ae h.2;have HP:=ae (Z3 (w:=w) n oW);obtain ⟨a,c,x,rfl,ha,hc,hm,b⟩:=h.form;have HC:=ae (fun w' (D:Below w.heap.size w w') i (hi:i<l.length)=>(D.cell (aj w _ (b i hi))).trans (b i hi));have HA:=ae ha;unfold maxLen at hm;clear h b ha;obtain ⟨q,hq⟩:=pS (n/32);obtain ⟨r,hr⟩:=pS (n % 32);have uB:(n:Int).tdiv 32=(q:Int):=by rw [fP (by omega)];omega
 have jP:(n:Int).tmod 32=(r:Int):=by rw [eH (by omega)];omega
 have Et:r<32:=by omega
 have KQ:(r:Int) % 18446744073709551616=(r:Int):=by omega
 have hqb:q<=32768:=by omega
 have T:=ae (af hq hr);clear hq hr;go_enter Tryz.func142,Tryz.ntmps142;go_wp2_with fail;refine HP.out.mono ?_;rintro e w' ⟨rfl,rfl⟩;by_cases N:l.length<=q
 ·have Z4:(l.length:Int)<=(q:Int):=by omega
  have I:=ae (show val l/2^n=0 by
   rw [QF n,T.out.1];refine eK (ax ?_ (fY _ (aM (by decide))));rw [lM];exact ax (qG (fun j=>yG C.out j) _) (aF (by decide) N))
  go_wp2_with fail;go_ret;exact ⟨_,rfl,by rw [I.out];exact KP _ _,aG _ _⟩
 ·have Z4: ¬(l.length:Int)<=(q:Int):=by omega
  obtain ⟨m,rH⟩: ∃m,l.length=q+m:=⟨l.length-q,by omega⟩;have HM:=ae rH;have e0:(l.length:Int)-(q:Int)=(m:Int):=by omega
  have Ve:m<=100000000:=by omega
  obtain rfl:=HA.out (by omega);obtain ⟨i0,eT,fL,gd,fG⟩:=info_parts CO;clear rH;go_wp2_with (refine wpList_make_full w rfl (.tmp 24) (.tmp 24) 35 rfl w.heap.size 193 i0 _ 1 Tryz.underlying35 eT fL gd _ _ _ _ m rfl rfl rfl rfl (by rw [fG];omega) (by unfold maxLen;omega) (ak _) ?_;intro w1 ho E);have bP:Below w.heap.size w w1:=(aG _ _).grown E (ak _) (by intro k M;cases M);rw [FO] at ho;have u:gy w1 w.heap.size (.slice (some ⟨w.heap.size,0,none⟩) m m) (List.replicate m 0):=⟨by rw [aV];exact ho,FP _⟩;have HO:=ae u;have cC:=ae bP;clear ho E bP u eT fL gd fG;go_wp2_with fail;obtain ⟨g,E⟩:=pS w.heap.size;rw [E] at HO⊢;have HG:=ae E;clear E
  go_loopg [28] m (fun gh iv wr=> ∃(k:Nat) (o:List Nat),gh+k=m/\iv= .int .i64 k/\o.length=m/\gy wr g (.slice (some ⟨g,0,none⟩) m m) o/\
   bK (fun i=>el l (i+q)) k+4294967296^k*(el l (k+q) % 2^r)=el l q % 2^r+2^r*bK (el o) k/\Below w.heap.size w wr)
  case atStart=>exact ⟨0,_,rfl,rfl,aV,HO.out,by simp [bK],cC.out⟩
  case round=>
   obtain ⟨k,o,M,rfl,G,u,X,D⟩:=hrel;have S:=ae M;have O:=ae G;have I:=ae X;have Q:=ae D;have KL:(k:Int)<=100000000:=by omega
   by_cases bA:k<m
   ·have W:=u.1
    rw [G] at W;have l9:=W.frozenAt k;obtain ⟨cu,FW⟩: ∃cu,wr.cell? ⟨g,k,none⟩=some cu:=⟨_,rC W (rD)⟩;clear W;have H:=ae u;obtain ⟨j,hj⟩:=pS (k+q);have ej:(k:Int)+(q:Int)=(j:Int):=by omega
    obtain ⟨p,xR⟩:=pS (j+1);have ej1:(j:Int)+1=(p:Int):=by omega
    have zZ:j<l.length:=by rw [HM.out];omega
    have q1:=HC.out _ D j zZ;obtain ⟨B,U⟩:=pS (l.getD j 0);rw [U] at q1;have bx:B<4294967296:=by rw [<-U];exact nf C.out j
    have qH:=ae (show el l j=B from U);have aFK:(j:Int)<l.length:=by omega
    have yH:(0:Int)<=j:=by omega
    have NF:(k:Int)<(m:Int):=by omega
    have jG:(0:Int)<=k:=by omega
    have R:=ae (af hj xR);have anz:(p:Int)<=200000000:=by omega
    clear U M G X D u hj xR;by_cases mF:p<l.length
    ·have QD:(p:Int)<l.length:=by omega
     have anA:(0:Int)<=p:=by omega
     have q2:=HC.out _ Q.out p mF;obtain ⟨P,Y⟩:=pS (l.getD p 0);rw [Y] at q2;have Ii:P<4294967296:=by rw [<-Y];exact nf C.out p
     have vk:=ae (show el l p=P from Y);clear Y;obtain ⟨s,F⟩:=pS (B+4294967296*P);have QG:bits .or .u64 (B:Int) ((P:Int)*4294967296)=(s:Int):=by
      rw [ae5,bits_join .u64 64 (by decide) wraps_u64 32 ((P:Int)*4294967296) (B:Int) (by omega) (by omega) (by omega) (by omega) (by omega) (by omega)];omega
     obtain ⟨t,A⟩:=pS (s/2^r);obtain ⟨d,J⟩:=pS (t % 4294967296);have e2:(s:Int)/2^r=(t:Int):=by rw [<-A];exact ae6 s r
     have e3:(t:Int) % 4294967296=(d:Int):=by omega
     have Z:=ae (show d<4294967296 by omega);have HS:=ae (show (el l (k+q)+4294967296*el l (k+1+q))/2^r % 4294967296=d by rw [show k+1+q=p by have:=R.out;omega,show k+q=j from R.out.1,qH.out,vk.out,<-J,<-A,<-F]);clear F A J;go_wp2_with fail
     go_roundg (m-(k+1))
     case measure=>have:=S.out;omega
     case rel=>
      refine ⟨k+1,o.set k d,by have:=S.out;omega,by go_num,by rw [bu];exact O.out,H.out.set Z.out,?_,Q.out.setCell (by rw [HG.out];exact ak _) _⟩;rw [xQ (by rw [O.out];omega)];exact ae4 (f:=fun i=>el l (i+q)) (aM (by decide)) (QE Et) (yG C.out _) HS.out I.out
    ·have QD: ¬(p:Int)<l.length:=by omega
     have vk:=ae (show el l p=0 by unfold el;rw [aD,bS (by omega)];rfl);obtain ⟨s,F⟩:=pS B;obtain ⟨t,A⟩:=pS (s/2^r);obtain ⟨d,J⟩:=pS (t % 4294967296);have e2:(B:Int)/2^r=(t:Int):=by rw [<-A,F];exact ae6 s r
     have e3:(t:Int) % 4294967296=(d:Int):=by omega
     have Z:=ae (show d<4294967296 by omega);have HS:=ae (show (el l (k+q)+4294967296*el l (k+1+q))/2^r % 4294967296=d by rw [show k+1+q=p by have:=R.out;omega,show k+q=j from R.out.1,qH.out,vk.out,jz,dt,<-J,<-A,<-F]);clear F A J;go_wp2_with fail
     go_roundg (m-(k+1))
     case measure=>have:=S.out;omega
     case rel=>
      refine ⟨k+1,o.set k d,by have:=S.out;omega,by go_num,by rw [bu];exact O.out,H.out.set Z.out,?_,Q.out.setCell (by rw [HG.out];exact ak _) _⟩;rw [xQ (by rw [O.out];omega)];exact ae4 (f:=fun i=>el l (i+q)) (aM (by decide)) (QE Et) (yG C.out _) HS.out I.out
   ·obtain rfl:k=m:=by omega
    have y:val o=val l/2^n:=anx C.out (by rw [HM.out,T.out.1]) G (by rw [T.out.1,T.out.2];exact X);have nh:=vg o;rw [G] at nh;have HZ:=ae (yF u.sl);have HT:=ae u.trim;have FX:=ae y;obtain ⟨z,hz⟩:=pS (cS o);rw [hz] at HZ HT nh;have b1:(0:Int)<=z:=by omega
    have b2:(z:Int)<=(k:Int):=by omega
    clear y hz u D X G M I O HO cC bA;go_wp2_with fail;refine HZ.out.mono ?_;rintro e w' ⟨rfl,rfl⟩;go_wp2_with fail;go_ret;exact ⟨_,rfl,FX.out▸HT.out.base (by rw [HG.out];exact ak _),Q.out⟩
end
end
section
open Go.RowKit
def Vf (n j:Nat):el (List.replicate n 0) j=0:=by
 unfold el
 all_goals grind
def Vg {f:Nat->Nat} (h: ∀j,f j=0): ∀n,bK f n=0
 |0=>rfl
 |n+1=>by rw [zY,Vg h n,h n,jz]
def ae8 {R S x:Nat} (a:0<R) (h:R*S=4294967296) (b:x<4294967296):(x*R) % 4294967296 % R=0/\x*R/4294967296<R:=by
 constructor
 ·rw [<-h,Nat.mod_mul_right_mod,Nat.mul_mod_left]
 ·rw [gJ (by decide)]
  rw [bG];simp_all
def anB {R S x u:Nat} (e:0<R) (h:R*S=4294967296) (f:x<4294967296) (g:u<R):(x*R) % 4294967296+u<4294967296:=by
 have b:=(ae8 e h f).1;obtain ⟨c,hc⟩:=Nat.dvd_of_mod_eq_zero b;have a:(x*R) % 4294967296<4294967296:=cZ _ (by decide);rw [hc] at a⊢;rw [<-h] at a⊢;have d:c<S:=kj a
 calc R*c+u<R*c+R:=by omega
  _=R*(c+1):=by grind
  _<=R*S:=aR R d
def anC {R q k x u lo hi s t:Nat} (a:s+4294967296^(k+q)*u=4294967296^q*(R*t)) (b:lo+4294967296*hi=x*R):
 s+4294967296^(k+q)*(lo+u)+4294967296^(k+q+1)*hi=4294967296^q*(R*(t+4294967296^k*x)):=by
 grind
def anE {l:List Nat} {n:Nat} :4294967296^(n/32)*(2^(n % 32)*bK (el l) (cS l))=val l*2^n:=by
 rw [<-xN,<-bD,<-QF,bG]
def anF {o:List Nat} {j d hi:Nat} (e:j+1<o.length):bK (el ((o.set j d).set (j+1) hi)) (j+1)=bK (el o) j+4294967296^j*d/\el ((o.set j d).set (j+1) hi) (j+1)=hi/\ ∀i,j+1<i->el ((o.set j d).set (j+1) hi) i=el o i:=by
 have a:j+1<(o.set j d).length:=by simp_all
 refine ⟨?_,by rw [uA hi a,if_pos rfl],fun i b=>by rw [uA hi a,if_neg (by omega),uA d (by omega),if_neg (by omega)]⟩;rw [<-xQ];exact Br fun i b=>by rw [uA hi a,if_neg (by omega)]
def anG (x r:Nat):(x:Int)*2^r=((x*2^r:Nat):Int):=by
 simp_all
def ae9 {r:Nat} (a:r<32):2^r<=2147483648:=aF (by decide) (show r<=31 by omega)
section
variable {w:World}
def Z6 {v:Value} {l:List Nat} (h:jj w v l) (hn:l.length<=100000000) (n:Nat) (oW:n<=1048576):Calls Tryz.prog 153 #[v,.int .i64 (n:Int)] w (rE (val l*2^n) w):=by
 have HL:=ae h.2;have HP:=ae (Z3 (w:=w) n oW);have HS:=ae (yF h);have hs:=vg l;obtain ⟨a,c,x,rfl,ha,hc,hm,f⟩:=h.form;have HC:=ae (fun R (G:Below w.heap.size w R) i (hi:i<l.length)=>(G.cell (aj w _ (f i hi))).trans (f i hi));have HA:=ae ha;unfold maxLen at hm;clear h f ha;obtain ⟨q,hq⟩:=pS (n/32);obtain ⟨r,hr⟩:=pS (n % 32);have uB:(n:Int).tdiv 32=(q:Int):=by rw [fP (by omega)];omega
 have jP:(n:Int).tmod 32=(r:Int):=by rw [eH (by omega)];omega
 have T:r<32:=by omega
 have KQ:(r:Int) % 18446744073709551616=(r:Int):=by omega
 have hqb:q<=32768:=by omega
 have HQ:=ae (af hq hr);obtain ⟨z,hz⟩:=pS (cS l);have HZ:=ae hz;rw [hz] at HS hs;clear hq hr hz;have fL:(0:Int)<=(z:Int):=by omega
 have gd:(z:Int)<=(l.length:Int):=by omega
 go_enter Tryz.func153,Tryz.ntmps153;go_wp2_with fail;refine HP.out.mono ?_;rintro e R ⟨rfl,rfl⟩;go_wp2_with fail;refine HS.out.mono ?_;rintro e R ⟨rfl,rfl⟩;by_cases h0:z=0
 ·have C:=ae (show val l*2^n=0 by rw [xN,HZ.out,h0];simp [bK])
  subst h0;go_wp2_with fail;go_ret;exact ⟨_,rfl,by rw [C.out];exact KP _ _,aG _ _⟩
 ·have QH:((z:Int)==0)=false:=by simpa using h0
  have hzn: ¬(z:Int)=0:=by omega
  obtain rfl:=HA.out (by omega);obtain ⟨m,rH⟩:=pS (z+q+1);have e0:(z:Int)+(q:Int)+1=(m:Int):=by omega
  have Ve:m<=200000000:=by omega
  have E:=ae rH;obtain ⟨i0,eT,QI,QJ,QK⟩:=info_parts CO;clear rH;go_wp2_with (refine wpList_make_full w rfl (.tmp 29) (.tmp 29) 35 rfl w.heap.size 193 i0 _ 1 Tryz.underlying35 eT QI QJ _ _ _ _ m rfl rfl rfl rfl (by rw [QK];omega) (by unfold maxLen;omega) (ak _) ?_;intro w1 ho H);have bP:Below w.heap.size w w1:=(aG _ _).grown H (ak _) (by intro k N;cases N);rw [FO] at ho;have t:gy w1 w.heap.size (.slice (some ⟨w.heap.size,0,none⟩) m m) (List.replicate m 0):=⟨by rw [aV];exact ho,FP _⟩;have HO:=ae t;have cC:=ae bP;clear ho H bP t eT QI QJ QK;go_wp2_with fail;obtain ⟨g,H⟩:=pS w.heap.size;rw [H] at HO⊢;have U:=ae H;clear H
  go_loopg [33] z (fun gh iv wr=> ∃(k:Nat) (o:List Nat),gh+k=z/\iv= .int .i64 k/\o.length=m/\gy wr g (.slice (some ⟨g,0,none⟩) m m) o/\
   bK (el o) (k+q)+4294967296^(k+q)*el o (k+q)=4294967296^q*(2^r*bK (el l) k)/\el o (k+q)<2^r/\(∀j,k+q<j->el o j=0)/\Below w.heap.size w wr)
  case atStart=>exact ⟨0,_,rfl,rfl,aV,HO.out,by rw [Vg (Vf m),Vf];simp [bK],by rw [Vf];exact aM (by decide),fun j _=>Vf m j,cC.out⟩
  case round=>
   obtain ⟨k,o,N,rfl,I,t,D,hu,Z7,G⟩:=hrel;have HK:=ae N;have jc:=ae I;have C:=ae (af D (af hu Z7));have HB:=ae G;have KL:(k:Int)<=100000000:=by omega
   by_cases bA:k<z
   ·have F:=t.1
    rw [I] at F;have Y:=ae t;obtain ⟨j,hj⟩:=pS (k+q);have ej:(k:Int)+(q:Int)=(j:Int):=by omega
    obtain ⟨B,xR⟩:=pS (j+1);have ej1:(j:Int)+1=(B:Int):=by omega
    have l9:=F.frozenAt j;have aFL:=F.frozenAt B;obtain ⟨u,S⟩:=pS (el o j);have FW:wr.cell? ⟨g,j,none⟩=some (.int .u32 (u:Int)):=by rw [<-S];exact rC F (rD (by have:=E.out;omega))
    obtain ⟨cu1,aFM⟩: ∃cu,wr.cell? ⟨g,B,none⟩=some cu:=⟨_,rC F (rD (by have:=E.out;omega))⟩;have q1:=HC.out _ G k (by omega);obtain ⟨J,P⟩:=pS (l.getD k 0);rw [P] at q1;have bx:J<4294967296:=by rw [<-P];exact nf HL.out k
    have qH:=ae (show el l k=J from P);have Z:=ae S;have hjm:(j:Int)<(m:Int):=by have:=E.out;omega
    have aFN:(B:Int)<(m:Int):=by have:=E.out;omega
    have yH:(0:Int)<=j:=by omega
    have anA:(0:Int)<=B:=by omega
    have NF:(k:Int)<(z:Int):=by omega
    have jG:(0:Int)<=k:=by omega
    have p:=ae (af hj xR);have anz:(B:Int)<=200000000:=by omega
    have hne: ¬B=j:=by omega
    have aFO: ¬j=B:=by omega
    clear F P N I D G t hj xR S hu Z7;have b:=ae8 (aM (n:=r) (by decide)) (QE T) bx;have ox:=anB (u:=u) (aM (n:=r) (by decide)) (QE T) bx (by rw [<-Z.out,<-p.out.1];exact C.out.2.1);have Z8:=ae9 T;obtain ⟨y,Q⟩:=pS (J*2^r);rw [Q] at b ox;obtain ⟨lo,rF⟩:=pS (y % 4294967296);obtain ⟨hi,Bq⟩:=pS (y/4294967296);rw [rF] at b ox;rw [Bq] at b;have O:u<2^r:=by rw [<-Z.out,<-p.out.1];exact C.out.2.1
    have ewr:IntKind.u64.wrap ((J:Int)*2^r)=(y:Int):=by rw [anG,Q];exact wraps_u64 _ (by omega) (by omega)
    have elo:(y:Int) % 4294967296=(lo:Int):=by omega
    have ehi:(y:Int)/4294967296=(hi:Int):=by omega
    have aFP:(hi:Int) % 4294967296=(hi:Int):=by omega
    obtain ⟨d,hd⟩:=pS (lo+u);have QG:bits .or .u32 (u:Int) (lo:Int)=(d:Int):=by
     rw [ae5,bits_join .u32 32 (by decide) wraps_u32 r (lo:Int) (u:Int) (by omega) (by exact_mod_cast b.1) (by omega) (by omega) (by exact_mod_cast O) (by omega)];omega
    have HD:=ae (af (show d<4294967296 by omega) (show hi<4294967296 by omega));have HE:=ae (show lo+4294967296*hi=J*2^r by rw [Q];omega);have W:=ae b.2;have X:=ae hd;clear b ox Z8 Q rF Bq O hd;go_wp2_with fail
    go_roundg (z-(k+1))
    case measure=>have:=HK.out;omega
    case rel=>
     have NG:j+1<o.length:=by rw [jc.out];have:=E.out;have:=p.out;omega
     obtain ⟨r1,r2,r3⟩:=anF (o:=o) (d:=d) (hi:=hi) NG;have M:k+1+q=j+1:=by have:=p.out;omega
     rw [<-p.out.2];refine ⟨k+1,(o.set j d).set (j+1) hi,by have:=HK.out;omega,by go_num,by rw [bu,bu];exact jc.out,(Y.out.set HD.out.1).set HD.out.2,?_,by rw [M,r2];exact W.out,fun i nK=>by rw [r3 i (by omega)];exact C.out.2.2 i (by have:=p.out;omega),(HB.out.setCell (by rw [U.out];exact ak _) _).setCell (by rw [U.out];exact ak _) _⟩;rw [M,r1,r2,<-X.out];have D:=C.out.1;rw [p.out.1,Z.out] at D;have jQ:=anC (k:=k) (q:=q) (lo:=lo) (hi:=hi) (x:=J) (u:=u) (s:=bK (el o) j) (by rw [p.out.1];exact D) HE.out;rw [p.out.1] at jQ;rw [jQ,zY,qH.out]
   ·obtain rfl:k=z:=by omega
    have A:val o=val l*2^n:=by
     rw [lM o,I,<-E.out,zY,D,<-HQ.out.1,<-HQ.out.2,<-HZ.out];exact anE
    have nh:=vg o;rw [I] at nh;have QL:=ae (yF t.sl);have HT:=ae t.trim;have FX:=ae A;obtain ⟨zz,Ik⟩:=pS (cS o);rw [Ik] at QL HT nh;have b1:(0:Int)<=zz:=by omega
    have b2:(zz:Int)<=(m:Int):=by omega
    clear A Ik t G D I N C jc HO cC bA hu Z7;go_wp2_with fail;refine QL.out.mono ?_;rintro e R ⟨rfl,rfl⟩;go_wp2_with fail;go_ret;exact ⟨_,rfl,FX.out▸HT.out.base (by rw [U.out];exact ak _),HB.out⟩
end
end
section
open Go.RowKit
def xS (x y b:Nat):Nat:=if x<y+b then 1 else 0
def sI (x y b:Nat):Nat:=(x+4294967296-y-b) % 4294967296
def Vh {n:Nat} (h:n<4294967296):n.testBit 31=decide (2147483648<=n):=by
 grind
def Bt {n:Nat} (h:n<4294967296):n<2^32:=h
def anH {x y b:Nat} (j:x<4294967296) (g:y<4294967296) (k:b<=1):
 (((4294967295^^^x)&&&y)|||((4294967295^^^(x^^^y))&&&sI x y b))/2147483648=xS x y b:=by
 have e:sI x y b<4294967296:=cZ _ (by decide);obtain ⟨d,a⟩:=pS (sI x y b);rw [a] at e⊢;obtain ⟨o,f⟩:=pS (((4294967295^^^x)&&&y)|||((4294967295^^^(x^^^y))&&&d));have h:o<4294967296:=by
  rw [<-f];exact Nat.or_lt_two_pow (n:=32) (iI _ (Bt g)) (iI _ (Bt e))
 have i:o.testBit 31=((!x.testBit 31&&y.testBit 31)||(!(x.testBit 31^^y.testBit 31)&&d.testBit 31)):=by
  rw [<-f,Nat.testBit_or,kY,kY,kZ,kZ,kZ,show (4294967295:Nat).testBit 31=true by decide];simp_all
 rw [f];rw [Vh h,Vh j,Vh g,Vh e] at i;unfold xS;unfold sI at a;grind
def Z9 {a b:Nat} (e:a<4294967296) (f:b<4294967296):bits .xor .u32 (a:Int) (b:Int)=((a^^^b:Nat):Int):=by
 have d:a % 2^IntKind.u32.bits=a:=dV e;have g:b % 2^IntKind.u32.bits=b:=dV f;simp only [bits,BitVec.ofInt_natCast,kF,BitVec.toNat_ofNat,d,g];have:=fI (n:=32) e f;rw [IntKind.wrap_u32];omega
def anI {x y b:Nat} (a:x<4294967296) (d:y<4294967296) (k:b<=1):
 bits .or .u32 (bits .and .u32 (bits .xor .u32 IntKind.u32.max (x:Int)) (y:Int)) (bits .and .u32 (bits .xor .u32 IntKind.u32.max (bits .xor .u32 (x:Int) (y:Int))) (sI x y b:Int))/2147483648=(xS x y b:Int):=by
 have f:sI x y b<4294967296:=cZ _ (by decide);have e:x^^^y<4294967296:=fI (n:=32) a d;have i:4294967295^^^x<4294967296:=fI (n:=32) (by decide) a;have j:4294967295^^^(x^^^y)<4294967296:=fI (n:=32) (by decide) e;have g:(4294967295^^^x)&&&y<4294967296:=iI (n:=32) _ (Bt d);have h:(4294967295^^^(x^^^y))&&&sI x y b<4294967296:=iI (n:=32) _ (Bt f);rw [show (IntKind.u32.max:Int)=((4294967295:Nat):Int) by rfl,Z9 a d,Z9 (by decide) a,Z9 (by decide) e,
  (bits_nat .u32 32 (by decide) wraps_u32 _ _ (Bt i) (Bt d)).1,(bits_nat .u32 32 (by decide) wraps_u32 _ _ (Bt j) (Bt f)).1,(bits_nat .u32 32 (by decide) wraps_u32 _ _ (Bt g) (Bt h)).2,<-anH a d k]
 omega
section
variable {w:World}
def Vi (x y b:Nat) (d:x<4294967296) (e:y<4294967296) (a:b<=1):Calls Tryz.prog 198 #[.int .u32 (x:Int),.int .u32 (y:Int),.int .u32 (b:Int)] w (wG (.tuple #[.int .u32 (sI x y b:Int),.int .u32 (xS x y b:Int)]) w):=by
 have g:((x:Int)-(y:Int)-(b:Int)) % 4294967296=(sI x y b:Int):=by unfold sI;omega
 have f:=anI d e a;go_enter Tryz.func198,Tryz.ntmps198;go_wp2_with fail;go_ret2;exact zW rfl
end
end
section
open Go.RowKit
def afa {x y b:Nat} (d:x<4294967296) (e:y<4294967296) (a:b<=1):sI x y b+y+b=x+4294967296*xS x y b:=by
 unfold sI xS;grind
def afb (x y b:Nat):xS x y b<=1:=by unfold xS;split<;>omega
def afc (x y b:Nat):sI x y b<4294967296:=cZ _ (by decide)
def afd {p s a t d y x b e:Nat} (h:s+t=a+p*b) (f:d+y+b=x+4294967296*e):s+p*d+(t+p*y)=a+p*x+p*4294967296*e:=by
 grind
def anJ {l:List Nat} {k:Nat} (h:l.length<=k:=by omega):el l k=0:=by unfold el;rw [aD,bS (by omega)];rfl
def anK {l m o:List Nat} {b:Nat} (g:kT l) (k:kT o) (i:val m<=val l) (s:o.length=cS l) (a:kT m)
 (q:bK (el o) (cS l)+bK (el m) (cS l)=bK (el l) (cS l)+4294967296^cS l*b):val o=val l-val m:=by
 have p:cS m<=cS l:=dH fun h=>by have:=NA g h;omega
 have d:bK (el m) (cS l)=val m:=by rw [xN m];exact KH p fun j f _=>Va m j f
 have e:bK (el o) (cS l)=val o:=by rw [lM o,s]
 have t:bK (el o) (cS l)<4294967296^cS l:=qG (fun j=>yG k j) _;rw [<-xN,d] at q;rw [<-e];have:b=0:=by
  rcases bT b with h|h
  ·exact h
  ·have:4294967296^cS l<=4294967296^cS l*b:=fY _ h
   omega
 grind
def afe (a b:Nat) (w:World) (e:Ending) (w':World):Prop:=(a<b/\e= .returned (.tuple #[.slice none 0 0,.bool false])/\Below w.heap.size w w')\/(b<=a/\ ∃v,e= .returned (.tuple #[v,.bool true])/\nr w' w.heap.size v (a-b)/\Below w.heap.size w w')
section
variable {w:World}
def anL {v u:Value} {l m:List Nat} (h:jj w v l) (h':jj w u m) (hn:l.length<=100000000) (ql:m.length<=100000000):Calls Tryz.prog 144 #[v,u] w (afe (val l) (val m) w):=by
 have D:=ae (af h h');have Vj:=ae (Vb h h');have hs:=vg l;obtain ⟨a,c,x,rfl,ha,hc,hm,d⟩:=h.form;obtain ⟨a',c',x',rfl,F,vh,vj,tX⟩:=h'.form;have HC:=ae (fun j (f:Below w.heap.size w j) i (G:i<l.length)=>(f.cell (aj w _ (d i G))).trans (d i G));have Er:=ae (fun j (f:Below w.heap.size w j) i (G:i<m.length)=>(f.cell (aj w _ (tX i G))).trans (tX i G));have HA:=ae ha;have Es:=ae F;unfold maxLen at hm vj;clear h h' d ha tX F;go_enter Tryz.func144,Tryz.ntmps144;go_wp2_with fail;refine Vj.out.mono ?_;rintro e q ⟨rfl,f⟩;have C:=ae f;clear f;by_cases J:val l<val m
 ·have vm:=ae J
  rw [NB J];clear J;go_wp2_with fail;go_ret2;exact .inl ⟨vm.out,rfl,C.out⟩
 ·have wH:=ae (show val m<=val l by omega)
  obtain ⟨P,Il,aFQ⟩: ∃P:Int,tW (val l) (val m)=P/\0<=P:=⟨_,rfl,by unfold tW;rw [if_neg J];split<;>omega⟩;rw [Il];have aFR: ¬P<0:=by omega
  clear Il J;obtain ⟨z,hz⟩:=pS (cS l);have HZ:=ae hz;rw [hz] at hs;clear hz;have HS:=ae (yF (D.out.1.below C.out));have FZ:=ae (show Calls Tryz.prog 179 #[.slice a l.length c] q (wG (.int .i64 (z:Int)) q) by rw [<-HZ.out];exact HS.out);have fL:(0:Int)<=(z:Int):=by omega
  have gd:(z:Int)<=(l.length:Int):=by omega
  obtain ⟨i0,eT,QI,QJ,QK⟩:=info_parts CO;go_wp2_with fail;refine FZ.out.mono ?_;rintro e j ⟨rfl,rfl⟩;go_wp2_with (refine wpList_make_full q rfl (.tmp 15) (.tmp 15) 35 rfl q.heap.size 193 i0 _ 1 Tryz.underlying35 eT QI QJ _ _ _ _ z rfl rfl rfl rfl (by rw [QK];omega) (by unfold maxLen;omega) (ak _) ?_;intro w2 ho A);have bP:Below q.heap.size q w2:=(aG _ _).grown A (ak _) (by intro k H;cases H);rw [FO] at ho;have p:gy w2 q.heap.size (.slice (some ⟨q.heap.size,0,none⟩) z z) (List.replicate z 0):=⟨by rw [aV];exact ho,FP _⟩;have HO:=ae p;have cC:=ae (C.out.trans (bP.mono C.out.size));clear ho A bP p eT QI QJ QK;go_wp2_with fail;obtain ⟨g,A⟩:=pS q.heap.size;have Vk:w.heap.size<=g:=by rw [<-A];exact C.out.size
  rw [A] at HO⊢;have X:=ae Vk;clear A Vk
  go_loopg [7,19] z (fun gh bv iv wr=> ∃(k b:Nat) (o:List Nat),gh+k=z/\iv= .int .i64 k/\bv= .int .u32 b/\b<=1/\o.length=z/\gy wr g (.slice (some ⟨g,0,none⟩) z z) o/\
   bK (el o) k+bK (el m) k=bK (el l) k+4294967296^k*b/\Below w.heap.size w wr)
  case atStart=>exact ⟨0,0,_,rfl,rfl,rfl,by decide,aV,HO.out,by simp [bK],cC.out⟩
  case round=>
   obtain ⟨k,b,o,H,rfl,rfl,U,B,p,T,f⟩:=hrel;have N:=ae H;have I:=ae B;have Z:=ae T;have S:=ae f;have KL:(k:Int)<=100000000:=by omega
   by_cases bA:k<z
   ·have R:=p.1
    rw [B] at R;have E:=ae p;have l9:=R.frozenAt k;obtain ⟨cu,FW⟩: ∃cu,wr.cell? ⟨g,k,none⟩=some cu:=⟨_,rC R (rD)⟩;obtain rfl:=HA.out (by omega);have q1:=HC.out _ f k (by omega);obtain ⟨t,Q⟩:=pS (l.getD k 0);rw [Q] at q1;have O:t<4294967296:=by rw [<-Q];exact nf D.out.1.2 k
    have qH:=ae (show el l k=t from Q);have NF:(k:Int)<(z:Int):=by omega
    have aFS:(k:Int)<(l.length:Int):=by omega
    have jG:(0:Int)<=k:=by omega
    clear R Q H B T f p;by_cases hmk:k<m.length
    ·have anM:(k:Int)<(m.length:Int):=by omega
     obtain rfl:=Es.out (by omega);have q2:=Er.out _ S.out k hmk;obtain ⟨M,W⟩:=pS (m.getD k 0);rw [W] at q2;have Ii:M<4294967296:=by rw [<-W];exact nf D.out.2.2 k
     have vk:=ae (show el m k=M from W);have Y:=ae (fun j:World=>Vi (w:=j) t M b O Ii U);have y:=ae (af O (af Ii U));clear W;go_wp2_with fail;refine (Y.out _).mono ?_;rintro e j ⟨rfl,rfl⟩;go_wp2_with fail
     go_roundg (z-(k+1))
     case measure=>have:=N.out;omega
     case rel=>
      refine ⟨k+1,xS t M b,o.set k (sI t M b),by have:=N.out;omega,by go_num,rfl,afb _ _ _,by rw [bu];exact I.out,E.out.set (afc _ _ _),?_,S.out.setCell X.out _⟩;rw [xQ (by rw [I.out];omega),zY (el m),zY (el l),qH.out,vk.out,bL];exact afd Z.out (afa y.out.1 y.out.2.1 y.out.2.2)
    ·have anM: ¬(k:Int)<(m.length:Int):=by omega
     have vk:=ae (anJ (l:=m) (k:=k));have Y:=ae (fun j:World=>Vi (w:=j) t 0 b O (by decide) U);have y:=ae (af O U);go_wp2_with fail;refine (Y.out _).mono ?_;rintro e j ⟨rfl,rfl⟩;go_wp2_with fail
     go_roundg (z-(k+1))
     case measure=>have:=N.out;omega
     case rel=>
      refine ⟨k+1,xS t 0 b,o.set k (sI t 0 b),by have:=N.out;omega,by go_num,rfl,afb _ _ _,by rw [bu];exact I.out,E.out.set (afc _ _ _),?_,S.out.setCell X.out _⟩;rw [xQ (by rw [I.out];omega),zY (el m),zY (el l),qH.out,vk.out,bL];exact afd Z.out (afa y.out.1 (by decide) y.out.2)
   ·obtain rfl:k=z:=by omega
    have s:val o=val l-val m:=anK D.out.1.2 p.2 wH.out (by rw [B,HZ.out]) D.out.2.2 (by rw [HZ.out];exact T);have nh:=vg o;rw [B] at nh;have QL:=ae (yF p.sl);have HT:=ae p.trim;have FX:=ae s;obtain ⟨zz,Ik⟩:=pS (cS o);rw [Ik] at QL HT nh;have b1:(0:Int)<=zz:=by omega
    have b2:(zz:Int)<=(k:Int):=by omega
    clear s Ik p f T B H Z I HO cC bA;go_wp2_with fail;refine QL.out.mono ?_;rintro e j ⟨rfl,rfl⟩;go_wp2_with fail;go_ret2;exact .inr ⟨wH.out,_,rfl,FX.out▸HT.out.base X.out,S.out⟩
end
end
end Go.Proofs.YthleenhngcdgkaaGreatDoor
