/- refineCopies_proved. -/
import Derived.Test.YthleenhngcdgkaaGreatDoorPmab
import Derived.Lib.TrailingZeros
set_option maxRecDepth 100000
set_option maxHeartbeats 16000000
set_option linter.all false
noncomputable section
namespace Go.Proofs.YthleenhngcdgkaaGreatDoor
section
open Go.RowKit
def anN {a b m k:Nat} (h:2^a*(2*m+1)=2^b*(2*k+1)):a=b:=by
 rcases fS a b with f|e|f
 ·obtain ⟨d,rfl⟩: ∃d,b=a+(d+1):=⟨b-a-1,by omega⟩
  rw [bC,bD] at h;have:=kp (aM (by decide)) h;grind
 ·exact e
 ·obtain ⟨d,rfl⟩: ∃d,a=b+(d+1):=⟨a-b-1,by omega⟩
  rw [bC,bD] at h;have:=kp (aM (by decide)) h;grind
open Classical in
def qI (n:Nat):Nat:=if h: ∃t m,n=2^t*(2*m+1) then Classical.choose h else 0
def aaa {n t m:Nat} (h:n=2^t*(2*m+1):=by decide):qI n=t:=by
 have a: ∃t m,n=2^t*(2*m+1):=⟨t,m,h⟩;unfold qI;rw [dif_pos a];obtain ⟨k,b⟩:=ju a;exact anN (b.symm.trans h)
def anO:qI 0=0:=by
 unfold qI
 all_goals grind
def anP: ∀n:Nat,n≠0-> ∃t m,n=2^t*(2*m+1):=fun n=>by
 induction n using Nat.strongRecOn with
 |_ n a=>
  intro b;rcases Nat.mod_two_eq_zero_or_one n with h|h
  ·obtain ⟨t,m,e⟩:=a (n/2) (by omega) (by omega)
   exact ⟨t+1,m,by rw [bL,bG (2^t) 2,bD,<-e];omega⟩
  ·exact ⟨0,n/2,by omega⟩
def anQ {l:List Nat} {i c m:Nat} (hi:i<l.length) (o: ∀j,j<i->el l j=0) (k:el l i=2^c*(2*m+1)) (hc:c<32):qI (val l)=32*i+c:=by
 have a:val l=4294967296^i*val (l.drop i):=by
  have e:l.length=i+(l.length-i):=by omega
  rw [lM l,e,Vd,Br (g:=fun _=>0) (fun j h=>o j h),Vg (fun _=>rfl),dr,lM (l.drop i),kI];congr 1;exact Br fun j _=>by unfold el;grind
 have b:val (l.drop i)=el l i+4294967296*val (l.drop (i+1)):=by
  rw [fU hi];show l[i]+_=_;unfold el;simp_all
 obtain ⟨d,f⟩: ∃d,32=c+(d+1):=⟨31-c,by omega⟩;have p:(4294967296:Nat)=2^c*(2^d*2):=by rw [<-bL,<-bC,<-f]
 refine aaa (m:=m+2^d*val (l.drop (i+1))) ?_;rw [a,b,k,bC,fE,show (2:Nat)^32=4294967296 by decide,bD];grind
def bw (w:World):Prop:= ∀j,j<32->w.cell? ⟨0,j,none⟩=some (.int .u8 (Lib.deBruijn32tab.getD j 0:Nat))
def anR (a b:Nat) (d:a<4294967296) (e:b<4294967296:=by omega):bits .and .u32 (a:Int) (b:Int)=((a&&&b:Nat):Int):=(bits_nat .u32 32 (by decide) wraps_u32 a b (Bt d) (Bt e)).1
def anS (x a:Nat) (d:x<4294967296) (f:x≠0) (e:x&&&(4294967296-x)=a):
 bits BinOp.and IntKind.u32 (x:Int) (-(x:Int) % 4294967296)*125613361 % 4294967296/134217728=((a*125613361 % 4294967296/134217728:Nat):Int):=by
 have b: -(x:Int) % 4294967296=((4294967296-x:Nat):Int):=by omega
 rw [b,anR x _ d,e];omega
section
variable {w:World}
def anT (x:Nat) (j:x<4294967296) (h:x≠0) (u:bw w):Calls Tryz.prog 196 #[.int .u32 (x:Int)] w fun e y=>(∃c m:Nat,x=2^c*(2*m+1)/\c<32/\e= .returned (.int .i64 (c:Int)))/\w=y:=by
 obtain ⟨l,p⟩:=Lib.lowest_bit 32 x h j;have k:Lib.ctz 32 x<32:=p;obtain ⟨c,hc⟩:=pS (Lib.ctz 32 x);have i: ∃m,x=2^c*(2*m+1):=by
  obtain ⟨m,t,_⟩:=Lib.ctzFrom_spec 32 x (gp h) j;refine ⟨m,?_⟩;rw [<-hc];unfold Lib.ctz;rw [if_neg h];exact t
 have s:=ae i;clear i;rw [hc] at l k;obtain ⟨o,a⟩:=Lib.deBruijn32_at c k;have g:=anS x _ j h l;obtain ⟨d,f⟩:=pS (2^c*125613361 % 4294967296/134217728);rw [f] at o a g;have b:=u d o;rw [a] at b;have q:=ae k;have A:((x:Int)==0)=false:=by simpa using h
 have z:(0:Int)<=(d:Int):=by omega
 have B:(d:Int)<32:=by omega
 clear l p hc f a;go_enter Tryz.func196,Tryz.ntmps196;go_wp2_with (simp only [g]);go_ret;obtain ⟨m,i⟩:=s.out;exact ⟨⟨c,m,i,q.out,rfl⟩,rfl⟩
def anU {v:Value} {l:List Nat} (h:jj w v l) (Q:l.length<=100000000) (y:bw w):Calls Tryz.prog 140 #[v] w (wG (.int .i64 (qI (val l):Nat)) w):=by
 have t:=ae (af h.2 y);obtain ⟨a,c,x,rfl,z,hc,M,b⟩:=h.form;have C:=ae b;have B:=ae z;unfold maxLen at M;clear h b z y;go_enter Tryz.func140,Tryz.ntmps140;go_wp2_with fail
 go_loop [7] (fun i=> ∃k:Nat,k<=l.length/\i= .int .i64 k/\ ∀j,j<k->el l j=0) (fun i=>l.length-(intOf i).toNat)
 case atStart=>exact ⟨0,by omega,rfl,fun j h=>by omega⟩
 case round=>
  obtain ⟨k,P,rfl,A⟩:=hrel;have o:=ae A;clear A;by_cases p:k<l.length
  ·obtain rfl:=B.out (by omega)
   have N:=C.out k p;obtain ⟨d,f⟩:=pS (l.getD k 0);rw [f] at N;have F:d<4294967296:=by rw [<-f];exact nf t.out.1 k
   have u:=ae (show el l k=d from f);have W:(k:Int)<(l.length:Int):=by omega
   have R:(0:Int)<=k:=by omega
   clear f;by_cases s:d=0
   ·subst s
    go_wp2_with fail
    go_round
    case rel=>exact ⟨k+1,by omega,by go_num,fun j q=>by
     by_cases e:j=k
     ·rw [e];exact u.out
     ·exact o.out j (by omega)⟩
    case measure=>simp [intOf];omega
   ·have U:((d:Int)==0)=false:=by simpa using s
    have D:=ae (anT (w:=w) d F s t.out.2);have E:=ae p;have J:(k:Int)<=100000000:=by omega
    go_wp2_with fail;refine D.out.mono ?_;rintro e T ⟨⟨G,S,q,H,rfl⟩,rfl⟩;have I:(G:Int)<32:=by omega
    have m:=ae (anQ E.out o.out (by rw [u.out];exact q) H);clear q;go_wp2_with fail;go_ret;exact zW (by rw [m.out];congr 1)
  ·have m:=ae (show qI (val l)=0 by
    rw [lM l,Br (g:=fun _=>0) (fun j O=>o.out j (by omega)),Vg (fun _=>rfl)];exact anO)
   obtain rfl:k=l.length:=by omega
   clear p;go_wp2_with fail;go_ret;exact zW (by rw [m.out];rfl)
end
end
end Go.Proofs.YthleenhngcdgkaaGreatDoor
