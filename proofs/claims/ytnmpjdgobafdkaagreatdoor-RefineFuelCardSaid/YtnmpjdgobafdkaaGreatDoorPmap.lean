/- refineFuel_proved. -/
import Derived.Test.YtnmpjdgobafdkaaGreatDoorPmae
import Derived.Deep.DeepCutAuto
import Derived.Deep.CutBlock
import Derived.Test.YtnmpjdgobafdkaaGreatDoorPmaf
import Derived.Deep.AppendLies
set_option maxRecDepth 100000
set_option maxHeartbeats 16000000
set_option linter.all false
noncomputable section
namespace Go.Proofs.YtnmpjdgobafdkaaGreatDoor
section
open Go.RowKit
def aqw {P Q B s s0 c e x y v t:Nat} (b:P=Q*v) (d:t=c+x*y+e) (w:Nat) (h:s+P*c=s0+Q*(x*w)):
 s+P*(t % B)+P*B*(t/B)=s0+P*e+Q*(x*(w+v*y)):=by
 have a:P*(t % B)+P*B*(t/B)=P*t:=by
  rw [bF,<-fI,Nat.mod_add_div]
 grind
def ag3 {x y e c:Nat} (b:x<4294967296) (d:y<4294967296) (a:e<4294967296) (hc:c<4294967296):c+x*y+e<18446744073709551616/\x*y<=18446744065119617025:=by
 have:x*y<=4294967295*4294967295:=bH (by omega) (by omega);omega
def VN (x y:Nat):(x:Int)*(y:Int)=((x*y:Nat):Int):=by rw [eB]
section
variable {w:World}
def KL (w wr:World) (g M:Nat) (a:List Nat) (b:List Nat) (i x k c:Nat) (o:List Nat):Prop:=
 c<4294967296/\o.length=M/\fW wr g (.slice (some ⟨g,0,none⟩) M M) o/\
  bK (el o) (i+k)+4294967296^(i+k)*c=bK (el a) (i+k)+4294967296^i*(x*bK (el b) k)/\(∀j,i+k<=j->el o j=el a j)/\Below w.heap.size w wr
def KL.next {w wr w':World} {g M:Nat} {a b o:List Nat} {i x k c y e d l:Nat} (h:KL w wr g M a b i x k c o) (C:x<4294967296) (R:el b k=y) (E:y<4294967296) (u:el o (i+k)=e)
 (z:(c+x*y+e) % 4294967296=d) (D:(c+x*y+e)/4294967296=l) (G:i+k<M) (A:fW w' g (.slice (some ⟨g,0,none⟩) M M) (o.set (i+k) d)) (s:Below w.heap.size w w'):KL w w' g M a b i x (k+1) l (o.set (i+k) d):=by
 obtain ⟨m,H,p,q,I,J⟩:=h;have f:e<4294967296:=by
  rw [<-u];rcases bV (i+k) o.length with h|h
  ·exact mH p.2 _
  omega
 have O:=(ag3 C E f m).1;refine ⟨by omega,by simp_all,A,?_,fun j N=> ?_,s⟩
 ·have F:i+k<o.length:=by omega
  rw [<-eK,wX F,bI];have:=aqw (P:=4294967296^(i+k)) (Q:=4294967296^i) (B:=4294967296) (v:=4294967296^k) (y:=y) (t:=c+x*y+e) (e:=e) (by grind) rfl (bK (el b) k) q;rw [z,D] at this;rw [this];show _=bK (el a) (i+k)+4294967296^(i+k)*el a (i+k)+4294967296^i*(x*(bK (el b) k+4294967296^k*el b k));simp_all
 ·rw [ue d (by omega),if_neg (by omega)]
  grind
def Ni (w wr:World) (g M m:Nat) (a b:List Nat) (i:Nat) (o:List Nat):Prop:=
 o.length=M/\fW wr g (.slice (some ⟨g,0,none⟩) M M) o/\bK (el o) (i+m)=bK (el a) i*bK (el b) m/\(∀j,i+m<=j->el o j=0)/\Below w.heap.size w wr
def Ni.start {w wr:World} {g M m i x:Nat} {a b o:List Nat} (h:Ni w wr g M m a b i o):KL w wr g M o b i x 0 0 o:=by
 obtain ⟨d,e,j,k,f⟩:=h;exact ⟨by decide,d,e,by simp [bK],fun _ _=>rfl,f⟩
def KL.done {w wr w0 w':World} {g M m:Nat} {a b d o:List Nat} {i x c:Nat} (h:KL w wr g M d b i x m c o) (f:Ni w w0 g M m a b i d) (C:el a i=x) (t:i+m<M)
 (q:fW w' g (.slice (some ⟨g,0,none⟩) M M) (o.set (i+m) c)) (p:Below w.heap.size w w'):Ni w w' g M m a b (i+1) (o.set (i+m) c):=by
 obtain ⟨u,y,z,k,l,A⟩:=h;obtain ⟨D,E,s,F,G⟩:=f;have e:i+m<o.length:=by omega
 refine ⟨by simp_all,q,?_,fun j B=> ?_,p⟩
 ·rw [show i+1+m=i+m+1 by omega,wX e,k,s]
  show _=(bK (el a) i+4294967296^i*el a i)*bK (el b) m;grind
 ·rw [ue c e,if_neg (by omega),l j (by omega)]
  grind
def aqx {v u:Value} {l m:List Nat} (h:g7 w v l) (h':g7 w u m) (hn:l.length<=100000000) (pW:m.length<=100000000):Calls Tryz.prog 322 #[v,u] w (rj (val l*val m) w):=by
 have HL:=ae h.2;have HM:=ae h'.2;obtain ⟨a,c,x,rfl,ha,hc,hm,b⟩:=h.form;obtain ⟨a',c',x',rfl,Q,vG,uX,tH⟩:=h'.form;have HC:=ae (fun I (hb:Below w.heap.size w I) i (s:i<l.length)=>(hb.cell (ak w _ (b i s))).trans (b i s));have DD:=ae (fun I (hb:Below w.heap.size w I) i (s:i<m.length)=>(hb.cell (ak w _ (tH i s))).trans (tH i s));have HA:=ae ha;have DE:=ae Q;unfold maxLen at hm uX;clear h h' b tH ha Q;obtain ⟨n,ry⟩:=pQ l.length;obtain ⟨p,X⟩:=pQ m.length;obtain ⟨M,hM⟩:=pQ (n+p);have eM:(n:Int)+(p:Int)=(M:Int):=by omega
 rw [ry] at hn hc hm HA HC;rw [X] at pW vG uX DE DD;have hMb:M<=200000000:=by omega
 have N:=ae (af ry (af X hM));obtain ⟨i0,fq,ff,fH,eV⟩:=info_parts B9;rw [ry,X];clear ry X hM;go_enter Tryz.func322,Tryz.ntmps322;go_wp2_with (refine wpList_make_full w rfl (.tmp 15) (.tmp 15) 35 rfl w.heap.size 172 i0 _ 1 Tryz.underlying35 fq ff fH _ _ _ _ M rfl rfl (by first|rfl|omega) (by first|rfl|omega) (by rw [eV];omega) (by unfold maxLen;omega) (aq _) ?_;intro w1 ho hg);have bW:Below w.heap.size w w1:=(aH _ _).grown hg (aq _) (by intro k T;cases T);rw [Fa] at ho;have hO:fW w1 w.heap.size (.slice (some ⟨w.heap.size,0,none⟩) M M) (List.replicate M 0):=⟨by rw [aZ];exact ho,Fb _⟩;obtain ⟨g,zY⟩:=pQ w.heap.size;have HS:Ni w w1 g M p l m 0 (List.replicate M 0):=⟨aZ,zY▸hO,by rw [AG (g:=fun _=>0) (fun j _=>by unfold el;rw [aD];rcases bV j M with h|h;rw [aM (by rw [aZ];exact h),mE];rfl;rw [bQ (by rw [aZ];exact h)];rfl)];simp [bK];exact JR (k:=0) (b6 _) fun _ _ _=>rfl,fun j _=>by unfold el;rw [aD];rcases bV j M with h|h;rw [aM (by rw [aZ];exact h),mE];rfl;rw [bQ (by rw [aZ];exact h)];rfl,bW⟩;have zq:=ae HS;have Q8:=ae zY;rw [zY];clear ho hg bW hO fq ff fH eV HS zY;go_wp2_with fail
 go_loopg [19] n (fun gh iv wr=> ∃(i:Nat) (o:List Nat),gh+i=n/\iv= .int .i64 i/\Ni w wr g M p l m i o)
 case atStart=>exact ⟨0,_,rfl,rfl,zq.out⟩
 case round=>
  obtain ⟨i,o0,s,rfl,t⟩:=hrel;have HI:=ae s;have P:=ae t;have ag5:(i:Int)<=100000000:=by omega
  have fq:(0:Int)<=i:=by omega
  by_cases bB:i<n
  ·obtain rfl:=HA.out (by omega)
   have q1:=HC.out _ t.2.2.2.2 i bB;obtain ⟨F,Y⟩:=pQ (l.getD i 0);rw [Y] at q1;have bx:F<4294967296:=by rw [<-Y];exact mH HL.out i
   have qz:=ae (show el l i=F from Y);have zf:(i:Int)<n:=by omega
   clear Y s t;go_wp2_with fail
   go_loopg [8,26] p (fun gh cv kv wr=> ∃(k f:Nat) (o:List Nat),gh+k=p/\kv= .int .i64 k/\cv= .int .u64 f/\KL w wr g M o0 m i F k f o)
   case atStart=>exact ⟨0,0,_,rfl,rfl,rfl,P.out.start⟩
   case round=>
    obtain ⟨k,f,o,T,rfl,rfl,q⟩:=hrel;have HK:=ae T;have H:=ae q;have JT:(k:Int)<=100000000:=by omega
    have jx:(0:Int)<=k:=by omega
    have E:=q.2.2.1.1;rw [q.2.1] at E;have bc:f<4294967296:=q.1;by_cases hlk:k<p
    ·obtain rfl:=DE.out (by omega)
     have q2:=DD.out _ q.2.2.2.2.2 k hlk;obtain ⟨J,pX⟩:=pQ (m.getD k 0);rw [pX] at q2;have G6:J<4294967296:=by rw [<-pX];exact mH HM.out k
     have uY:=ae (show el m k=J from pX);obtain ⟨j,S⟩:=pQ (i+k);have ej:(i:Int)+(k:Int)=(j:Int):=by omega
     have O:j<M:=by have:=N.out.2.2;omega
     have kb:=E.frozenAt j;obtain ⟨D,vO⟩:=pQ (el o j);have VO:wr.cell? ⟨g,j,none⟩=some (.int .u32 (D:Int)):=by rw [<-vO];exact qZ E (re (by rw [q.2.1];exact O))
     have be:D<4294967296:=by rw [<-vO];exact mH q.2.2.1.2 j
     have Ra:=ae vO;have G:=ae S;have hjm:(j:Int)<(M:Int):=by omega
     have Mz:(0:Int)<=j:=by omega
     have aEU:(k:Int)<p:=by omega
     obtain ⟨z,Z⟩:=pQ (F*J);have A:=ag3 bx G6 be bc;rw [Z] at A;obtain ⟨U,nZ⟩:=pQ (z+D);obtain ⟨C,ht1⟩:=pQ (f+U);have ez:IntKind.u64.wrap ((F:Int)*(J:Int))=(z:Int):=by rw [VN,Z];exact wraps_u64 _ (by omega) (by omega)
     have es:(z:Int)+(D:Int)=(U:Int):=by omega
     have et:(f:Int)+(U:Int)=(C:Int):=by omega
     obtain ⟨d,hd⟩:=pQ (C % 4294967296);obtain ⟨c1,G4⟩:=pQ (C/4294967296);have ed:(C:Int) % 4294967296=(d:Int):=by omega
     have ec:(C:Int)/4294967296=(c1:Int):=by omega
     have HD:=ae (show d<4294967296 by omega);have W:=ae (show (f+F*J+D) % 4294967296=d/\(f+F*J+D)/4294967296=c1 by rw [Z,show f+z+D=C by omega];exact ⟨hd,G4⟩);have aEV:(U:Int)<=18446744073709551615:=by omega
     have aEW:(C:Int)<=18446744073709551615:=by omega
     have aEX:(0:Int)<=U:=by omega
     have aEY:(0:Int)<=C:=by omega
     clear pX T q E S vO Z nZ ht1 hd G4 A;go_wp2_with fail
     go_roundg (p-(k+1))
     case measure=>have:=HK.out;omega
     case rel=>
      have jz:fW (wr.setCell ⟨g,j,none⟩ (.int .u32 (d:Int))) g (.slice (some ⟨g,0,none⟩) M M) (o.set (i+k) d):=by rw [G.out];exact H.out.2.2.1.set HD.out
      exact ⟨k+1,c1,_,by have:=HK.out;omega,by go_num,rfl,H.out.next bx uY.out G6 (by rw [G.out];exact Ra.out) W.out.1 W.out.2 (by rw [G.out];exact O) jz (H.out.2.2.2.2.2.setCell (by rw [Q8.out];exact aq _) _)⟩
    ·obtain rfl:k=p:=by omega
     obtain ⟨j,S⟩:=pQ (i+k);have ej:(i:Int)+(k:Int)=(j:Int):=by omega
     have O:j<M:=by have:=N.out.2.2;omega
     have kb:=E.frozenAt j;obtain ⟨cu,Fc⟩: ∃cu,wr.cell? ⟨g,j,none⟩=some cu:=⟨_,qZ E (re (by rw [q.2.1];exact O))⟩;have G:=ae S;have hjm:(j:Int)<(M:Int):=by omega
     have Mz:(0:Int)<=j:=by omega
     have ecr:(f:Int) % 4294967296=(f:Int):=by omega
     clear T q E S;go_wp2_with fail
     go_roundg (n-(i+1))
     case measure=>have:=HI.out;omega
     case rel=>
      have jz:fW (wr.setCell ⟨g,j,none⟩ (.int .u32 (f:Int))) g (.slice (some ⟨g,0,none⟩) M M) (o.set (i+k) f):=by rw [G.out];exact H.out.2.2.1.set bc
      exact ⟨i+1,_,by have:=HI.out;omega,by go_num,H.out.done P.out qz.out (by rw [G.out];exact O) jz (H.out.2.2.2.2.2.setCell (by rw [Q8.out];exact aq _) _)⟩
  ·obtain rfl:i=n:=by omega
   have B:val o0=val l*val m:=by
    rw [ld o0,t.1,<-N.out.2.2,t.2.2.1,ld l,ld m,N.out.1,N.out.2.1]
   have HV:=ae B;have W:=ae (wU (w:=wr) (v:= .slice (some ⟨g,0,none⟩) M M) t.2.1.sl (by rw [t.1];omega));have HB:=ae t.2.2.2.2;clear s t B;go_wp2_with fail;refine W.out.mono ?_;rintro e I ⟨y,rfl,h5,h6⟩;have R:=ae (show mP I w.heap.size y (val l*val m)/\Below w.heap.size w I from ⟨HV.out▸h5.base HB.out.size,HB.out.trans (h6.mono HB.out.size)⟩);clear h5 h6;go_wp2_with fail;go_ret;exact ⟨_,rfl,R.out.1,R.out.2⟩
def Rb {u v:Value} {a b:Nat} (h:dL w u a) (h':dL w v b) (f:Sm a) (d:Sm b):Calls Tryz.prog 322 #[u,v] w (rj (a*b) w):=by
 obtain ⟨l,e,i,rfl,j⟩:=h.lim f;obtain ⟨m,g,k,rfl,o⟩:=h'.lim d;exact aqx e g (by omega) (by omega)
end
end
section
open Go.RowKit
section
variable {U V B R top v1 v2 u2 vl ul q g rest:Nat}
def abp (a:u2<B) (b:ul<R):u2*R+ul<B*R:=by
 have:(u2+1)*R<=B*R:=aN _ a;grind
def aqy (k:U=top*(B*R)+(u2*R+ul)) (e:V=v1*(B*R)+(v2*R+vl)) (a:u2<B) (b:ul<R) (h:0<v1) (f:q*V<=U):q<=top/v1:=by
 have i:=abp a b;have d:q*v1*(B*R)<(top+1)*(B*R):=by
  rw [e,fI,<-bF] at f;grind
 have j:=fZ d;rw [cK h];omega
def aqz (k:U=top*(B*R)+(u2*R+ul)) (l:V=v1*(B*R)+(v2*R+vl)) (i:ul<R) (f:g*v1+rest=top) (h:rest*B+u2<g*v2) (m:q*V<=U) (d:q<=g):q<=g-1:=by
 by_cases e:q=g
 ·exfalso
  subst e;have a:(q*v1*B+q*v2)*R<(top*B+u2+1)*R:=by
   have j:q*V=(q*v1*B+q*v2)*R+q*vl:=by
    grind
   grind
  have b:=fZ a;rw [<-f,dF] at b;omega
 omega
def aqA (m:U=top*(B*R)+(u2*R+ul)) (o:V=v1*(B*R)+(v2*R+vl)) (f:vl<R) (e:0<v1) (d:g*v1+rest=top) (b:g*v2<=rest*B+u2) (a:g<=B:=by omega):g*V<=U+V:=by
 have h:g*V=(g*v1*B+g*v2)*R+g*vl:=by
  grind
 have i:(g*v1*B+g*v2)*R<=(top*B+u2)*R:=by
  apply aN;rw [<-d,dF];omega
 have j:(top*B+u2)*R=top*(B*R)+u2*R:=by grind
 have k:g*vl<=B*R:=bH a (by omega);have l:B*R<=v1*(B*R):=Nat.le_mul_of_pos_left _ e;omega
def ag6 (l:U=top*(B*R)+(u2*R+ul)) (m:V=v1*(B*R)+(v2*R+vl)) (e:v2<B) (a:vl<R) (o:g*v1+rest=top) (d:B<=rest) (b:g<=B:=by omega):g*V<=U:=by
 have k:=abp e a;have f:g*V=g*v1*(B*R)+g*(v2*R+vl):=by grind
 have h:g*(v2*R+vl)<=B*(B*R):=bH b (by omega);have i:top*(B*R)=g*v1*(B*R)+rest*(B*R):=by grind
 have j:B*(B*R)<=rest*(B*R):=aN _ d;omega
end
structure rK (g:Nat) (w w':World):Prop where
 tape:w'.tape=w.tape
 os:w'.os=w.os
 output:w'.output=w.output
 size:w'.heap.size=w.heap.size
 block: ∀b,b≠g->w'.heap[b]? =w.heap[b]?
def rK.refl (g:Nat) (w:World):rK g w w:=⟨rfl,rfl,rfl,rfl,fun _ _=>rfl⟩
def rK.set {g:Nat} {w w':World} (h:rK g w w') (j:Nat) (v:Value):rK g w (w'.setCell ⟨g,j,none⟩ v):=by
 refine ⟨h.tape,h.os,h.output,by rw [<-h.size];simp_all,fun b a=> ?_⟩;rw [<-h.block b a];simp only [World.setCell,gQ];grind
def rK.cell {g:Nat} {w w':World} (h:rK g w w') {p:Addr} (a:p.block≠g):w'.cell? p=w.cell? p:=by unfold World.cell?;rw [h.block _ a]
def rK.below {g:Nat} {w w':World} (h:rK g w w') {B:Nat} (a:B<=g):Below B w w':=⟨h.os,h.tape,h.output,by rw [h.size];omega,fun b d=>h.block b (by omega)⟩
def rK.of {B g:Nat} {w w' e:World} (h:rK g w w') (a:Below B w' e) (i:e.heap.size=w'.heap.size) (j:w'.heap.size<=B):rK g w e:=by
 refine ⟨a.tape.trans h.tape,a.os.trans h.os,a.output.trans h.output,i.trans h.size,fun b d=> ?_⟩;rw [<-h.block b d];rcases bV b B with f|f
 ·exact a.block b f
 grind
def l9 (L:List Nat) (k j:Nat):Nat:=el L (k+j)
def VP {L:List Nat} {k i d:Nat} (h:k+i<L.length:=by omega):bK (l9 (L.set (k+i) d) k) (i+1)=bK (l9 L k) i+4294967296^i*d:=by
 show bK (l9 (L.set (k+i) d) k) i+4294967296^i*el (L.set (k+i) d) (k+i)=_;rw [ue d h (k+i),if_pos rfl,AG (f:=l9 (L.set (k+i) d) k) (g:=l9 L k) fun j a=>by show el _ _=_;rw [ue d h,if_neg (by omega)];rfl]
def vj {L:List Nat} (h:j5 L) (i:Nat):el L i<4294967296:=mH h i
def ag7 {x y b:Nat} (d:x<4294967296) (e:y<4294967296) (a:b<=1):rZ x y b+y+b=x+4294967296*wY x y b/\rZ x y b<4294967296/\wY x y b<=1:=by
 unfold rZ wY;grind
def Rc (w wr:World) (g N C base k a:Nat) (L vs:List Nat) (i c b:Nat) (o:List Nat):Prop:=
 c<4294967296/\b<=1/\o.length=N/\fW wr base (.slice (some ⟨g,0,none⟩) N C) o/\
  bK (l9 o k) i+a*bK (el vs) i=bK (l9 L k) i+4294967296^i*(c+b)/\(∀j,j<k\/k+i<=j->el o j=el L j)/\rK g w wr
def aqB {P s g V U c b d x u t l e a:Nat} (h:s+g*V=U+P*(c+b)) (j:t=c+g*x) (f:d+l+b=u+4294967296*a) (i:t=l+4294967296*e):
 (s+P*d)+g*(V+P*x)=(U+P*u)+P*4294967296*(e+a):=by
 grind
def aqC {P s e U c b d u a:Nat} (h:s+e=U+P*(c+b)) (f:d+c+b=u+4294967296*a):(s+P*d)+e=(U+P*u)+P*4294967296*a:=by
 grind
def Rc.next {w wr w':World} {g N C base k a:Nat} {L vs:List Nat} {i c b x u d f e t l:Nat} {o:List Nat} (h:Rc w wr g N C base k a L vs i c b o) (S:el vs i=x) (Q:el L (k+i)=u) (O:k+i<N) (E:f<4294967296) (m:e<=1)
 (A:t=c+a*x) (y:t=l+4294967296*f) (s:d+l+b=u+4294967296*e) (D:fW w' base (.slice (some ⟨g,0,none⟩) N C) (o.set (k+i) d)) (z:rK g w w'):Rc w w' g N C base k a L vs (i+1) f e (o.set (k+i) d):=by
 obtain ⟨F,G,H,I,p,J,M⟩:=h;refine ⟨E,m,by simp_all,D,?_,fun j P=> ?_,z⟩
 ·rw [VP,bI]
  have:=aqB p A s y;show _+a*(bK (el vs) i+4294967296^i*el vs i)=bK (l9 L k) i+4294967296^i*el L (k+i)+_;simp_all
 ·rw [ue d (by omega),if_neg (by omega)]
  grind
def VQ (w wr:World) (g N C base k:Nat) (S vs:List Nat) (i a:Nat) (o:List Nat):Prop:=
 a<=1/\o.length=N/\fW wr base (.slice (some ⟨g,0,none⟩) N C) o/\
  bK (l9 o k) i+4294967296^i*a=bK (l9 S k) i+bK (el vs) i/\(∀j,j<k\/k+i<=j->el o j=el S j)/\rK g w wr
def VQ.next {w wr w':World} {g N C base k:Nat} {S vs:List Nat} {i a x u d b:Nat} {o:List Nat} (h:VQ w wr g N C base k S vs i a o) (G:el vs i=x) (F:el S (k+i)=u) (A:k+i<N) (e:b<=1)
 (D:d+4294967296*b=u+x+a) (l:fW w' base (.slice (some ⟨g,0,none⟩) N C) (o.set (k+i) d)) (f:rK g w w'):VQ w w' g N C base k S vs (i+1) b (o.set (k+i) d):=by
 obtain ⟨m,p,s,t,y,z⟩:=h;refine ⟨e,by simp_all,l,?_,fun j E=> ?_,f⟩
 ·rw [VP,bI]
  show _=(bK (l9 S k) i+4294967296^i*el S (k+i))+(bK (el vs) i+4294967296^i*el vs i);grind
 ·rw [ue d (by omega),if_neg (by omega)]
  grind
def aqD {U V S a:Nat} (h:S+a*V=U) (f:U/V<=a) (d:0<V):U/V=a/\U % V=S:=by
 have e:a<=U/V:=by rw [cK d];omega
 have b:U/V=a:=by omega
 refine ⟨b,?_⟩;have:=du U V;grind
def aqE {U V S a M:Nat} (f:S+a*V=U+M) (h:S<M) (b:a*V<=U+V):0<a/\U/V=a-1/\S+V=M+U % V:=by
 have d:0<a:=by
  grind
 obtain ⟨q,rfl⟩: ∃q,a=q+1:=⟨a-1,by omega⟩;rw [dF,j3] at f b;have e:U/V=q:=by
  apply ox
  all_goals grind
 refine ⟨d,e,?_⟩;have:=du U V;grind
def aqF {P T a b u V R d:Nat} (h:T+P*a=b+V) (j:b+P*u+V=P*4294967296+R) (i:R<P) (k:T<P) (l:a<=1) (o:u<4294967296) (m:d=(u+a) % 4294967296):T+P*d=R:=by
 have f:T+P*(a+u)=P*4294967296+R:=by grind
 rcases bV (a+u) 4294967296 with e|e
 ·exfalso
  have:P*(a+u+1)<=P*4294967296:=aR _ e;grind
 ·have:a+u=4294967296:=by omega
  rw [this] at f;have:d=0:=by omega
  grind
section
variable {w:World}
def aqG (x y b:Nat) (o:x<4294967296) (p:y<4294967296) (m:b<=1):Calls Tryz.prog 283 #[.int .u32 (x:Int),.int .u32 (y:Int),.int .u32 (b:Int)] w (vF (.tuple #[.int .u32 (((x+y+b) % 4294967296:Nat):Int),.int .u32 (((x+y+b)/4294967296:Nat):Int)]) w):=by
 obtain ⟨s,e⟩:=pQ (x+y+b);obtain ⟨d,a⟩:=pQ (s % 4294967296);obtain ⟨c,hc⟩:=pQ (s/4294967296);rw [e,a,hc];have h:(x:Int)+(y:Int)+(b:Int)=(s:Int):=by omega
 have f:(s:Int) % 4294967296=(d:Int):=by omega
 have i:(s:Int)/4294967296=(c:Int):=by omega
 have j:(x:Int)+(y:Int)<=8589934591:=by omega
 have k:(s:Int)<=8589934592:=by omega
 have l:(c:Int)<=2:=by omega
 clear e a hc;go_enter Tryz.func283,Tryz.ntmps283;go_wp2_with fail;go_ret2;rw [<-f];exact ze rfl
end
end
section
open Go.RowKit
def ag8 {w w':World} {base:Nat} {v:Value} {l:List Nat} (h:fW w base v l) (e:Below w.heap.size w w'):fW w' base v l:=by
 refine ⟨⟨h.1.1,?_⟩,h.2⟩;rcases h.1.2 with b|⟨g,cap,cur,rfl,d,a,r⟩
 ·exact .inl b
 ·exact .inr ⟨g,cap,cur,rfl,d,(e.block g (ax.1 a).1).trans a,r⟩
def aqH (x:Addr) (i:Nat):(x.add i).block=x.block:=by unfold Addr.add;split<;>rfl
section
variable {w:World}
def aqI {g N C k n cu base:Nat} {L vs:List Nat} {v:Value} (A:fW w base (.slice (some ⟨g,0,none⟩) N C) L) (hLN:L.length=N) (hk:k+n<N) (hN:N<=200000000) (sU:2<=n)
 (hv:g7 w v vs) (KP:vs.length=n) (hne: ∀x c,v= .slice (some x) n c->x.block≠g) (VS:2147483648<=el vs (n-1)) (hU:bK (fun j=>el L (k+j)) (n+1)<4294967296*val vs):
 Calls Tryz.prog 232 #[.slice (some ⟨g,k,none⟩) (n+1) cu,v] w fun e I=> ∃L',e= .returned (.int .u32 ((bK (fun j=>el L (k+j)) (n+1)/val vs:Nat):Int))/\L'.length=N/\fW I base (.slice (some ⟨g,0,none⟩) N C) L'/\
  (∀j,j<k\/k+n<j->el L' j=el L j)/\bK (fun j=>el L' (k+j)) (n+1)=bK (fun j=>el L (k+j)) (n+1) % val vs/\rK g w I:=by
 have HL:=ae A.2;have VU:=ae hv.2;obtain ⟨a,c,x,rfl,ha,hc,hm,B⟩:=hv.form;rw [KP] at ha B hm;obtain rfl:=ha (by omega);have hxg:=hne x c (by rw [KP]);rw [KP];have HO:=ae A;have fQ:=A.1;rw [hLN] at fQ;obtain ⟨Z,oC⟩: ∃Z,n=Z+1:=⟨n-1,by omega⟩;obtain ⟨l,mT⟩: ∃l,Z=l+1:=⟨Z-1,by omega⟩;obtain ⟨un,VV⟩:=pQ (el L (k+n));obtain ⟨u1,AH⟩:=pQ (el L (k+Z));obtain ⟨u0,VW⟩:=pQ (el L (k+l));have cun:w.cell? ⟨g,k+n,none⟩=some (.int .u32 (un:Int)):=by rw [<-VV];exact qZ fQ (re)
 have cu1:w.cell? ⟨g,k+Z,none⟩=some (.int .u32 (u1:Int)):=by rw [<-AH];exact qZ fQ (re)
 have cu0:w.cell? ⟨g,k+l,none⟩=some (.int .u32 (u0:Int)):=by rw [<-VW];exact qZ fQ (re)
 have q1:=B Z (by omega);have q0:=B l (by omega);obtain ⟨y,mQ⟩:=pQ (vs.getD Z 0);obtain ⟨v0,Gb⟩:=pQ (vs.getD l 0);rw [mQ] at q1;rw [Gb] at q0;have bun:un<4294967296:=by rw [<-VV];exact mH A.2 _
 have bu1:u1<4294967296:=by rw [<-AH];exact mH A.2 _
 have bu0:u0<4294967296:=by rw [<-VW];exact mH A.2 _
 have bv1:y<4294967296:=by rw [<-mQ];exact mH hv.2 _
 have bv0:v0<4294967296:=by rw [<-Gb];exact mH hv.2 _
 have aEZ:2147483648<=y:=by rw [<-mQ];have:=VS;rw [show n-1=Z by omega] at this;exact this
 obtain ⟨u,Nk⟩:=pQ (un*4294967296+u1);have E:(n:Int)-1=(Z:Int):=by omega
 have e0:(n:Int)-2=(l:Int):=by omega
 have hnb:(n:Int)<=200000000:=by omega
 have PD:bits .or .u64 ((un:Int)*4294967296) (u1:Int)=(u:Int):=by
  have:=bits_join .u64 64 (by decide) wraps_u64 32 ((un:Int)*4294967296) (u1:Int) (by omega) (by omega) (by omega) (by omega) (by omega) (by omega);rw [this];omega
 have HN:=ae (af oC (af mT Nk));obtain ⟨V,hV⟩:=pQ (val vs);obtain ⟨U,VX⟩:=pQ (bK (l9 L k) (n+1));have hU':U<4294967296*V:=by rw [<-hV,<-VX];exact hU
 have FV:val vs=y*(4294967296*4294967296^l)+(v0*4294967296^l+bK (el vs) l):=by
  rw [ld,KP,oC,mT,<-mQ,<-Gb,mT];show bK (el vs) l+4294967296^l*el vs l+4294967296^(l+1)*el vs (l+1)=el vs (l+1)*_+(el vs l*_+_);rw [bI,bE (4294967296^l) (el vs l),bE (4294967296^l) 4294967296,bE (4294967296*4294967296^l) (el vs (l+1))];omega
 have FU:bK (l9 L k) (n+1)=u*(4294967296*4294967296^l)+(u0*4294967296^l+bK (l9 L k) l):=by
  rw [<-Nk,oC,mT,<-VV,<-AH,<-VW,oC,mT];show bK (l9 L k) l+4294967296^l*el L (k+l)+4294967296^(l+1)*el L (k+(l+1))+4294967296^(l+1+1)*el L (k+(l+1+1))=(el L (k+(l+1+1))*4294967296+el L (k+(l+1)))*_+(el L (k+l)*_+_);rw [bI 4294967296 (l+1),bI,bE (4294967296^l) (el L (k+l)),bE (4294967296^l) 4294967296,dF,bE (4294967296*4294967296^l) (el L (k+(l+1))),bF (el L (k+(l+1+1))) 4294967296,bE (4294967296*4294967296^l*4294967296),bE (4294967296*4294967296^l) 4294967296];omega
 have bvl:bK (el vs) l<4294967296^l:=qy (fun j=>vj VU.out j) l;have bul:bK (l9 L k) l<4294967296^l:=qy (fun j=>vj HL.out _) l;rw [hV] at FV;rw [VX] at FU;have hV0:0<V:=by
  rw [FV];have:0<y*(4294967296*4294967296^l):=ji (by omega) (ji (by decide) (aO (by decide)));omega
 have FQ:U/V*V<=U:=dT U V;have FT:u<4294967296*y+4294967296:=by
  have h1:u*(4294967296*4294967296^l)<(4294967296*y+4294967296)*(4294967296*4294967296^l):=by
   have h2:=abp bv0 bvl;have h3:4294967296*V<4294967296*(y*(4294967296*4294967296^l)+4294967296*4294967296^l):=by
    rw [FV];omega
   have h4:(4294967296*y+4294967296)*(4294967296*4294967296^l)=4294967296*(y*(4294967296*4294967296^l)+4294967296*4294967296^l):=by
    rw [dF,fI,bF]
   omega
  exact fZ h1
 have VZ:=ae FV;have yw:=ae FU;have O:=ae (af hV VX);have Re:=ae (af bvl bul);have Ii:=ae (af FQ hV0);have Rf:=ae (aqy FU FV bu0 bul (by omega) FQ);have HRG:=ae (af hU' VS);obtain ⟨g0,Bh⟩:=pQ (u/y);obtain ⟨r0,pY⟩:=pQ (u % y);have Bi:g0*y+r0=u:=by rw [<-Bh,<-pY,bE];exact du u y
 have ag9:r0<y:=by rw [<-pY];exact dj _ (by omega)
 have aha:g0<=4294967297:=by
  rcases bV 4294967297 g0 with h|h
  ·exfalso
   have:4294967298*y<=g0*y:=aN _ h;omega
  ·exact h
 have ediv:IntKind.u64.wrap ((u:Int)/(y:Int))=(g0:Int):=by rw [<-Int.natCast_ediv,Bh];exact wraps_u64 _ (by omega) (by omega)
 have emod:=ae (show (u:Int) % (y:Int)=(r0:Int) by rw [<-lB,pY]);rw [Bh] at Rf;have V0:=ae (af Bi (af ag9 aha));have HFT:=ae FT;clear A fQ oC mT Nk hv FV FU bvl bul FQ hV VX hU hU' VS Bi ag9 Bh pY aha FT;go_enter Tryz.func232,Tryz.ntmps232;go_wp2_with fail;go_region;go_wp2_with fail;go_region
 go_upto_block 0 with fail
 go_cut [7,8] from 47 to 82 (fun gv _ wc=> ∃q:Nat,gv= .int .u64 (q:Int)/\q*V<=U+V/\U/V<=q/\q<4294967296/\Below w.heap.size w wc/\wc.heap.size=w.heap.size)
 case first=>
  go_wp2_with fail;go_loopw [7,8] (fun gv rv wr=> ∃q r:Nat,gv= .int .u64 (q:Int)/\rv= .int .u64 (r:Int)/\q*y+r=u/\r<4294967296/\q<=4294967297/\U/V<=q/\Below w.heap.size w wr/\wr.heap.size=w.heap.size) (fun gv _ _=>(intOf gv).toNat)
  case atStart=>exact ⟨g0,r0,by first|rfl|rw [ediv],by first|rfl|rw [emod.out],V0.out.1,by have:=V0.out.2.1;omega,V0.out.2.2,Rf.out,(aH _ w).drew.drew,rfl⟩
  case round=>
   obtain ⟨q,r,rfl,rfl,hT,hr,hg,hq,hb,hs⟩:=hrel;have c0:=(hb.cell (ak w _ cu0)).trans cu0;have d0:=(hb.cell (ak w _ q0)).trans q0;have d1:=(hb.cell (ak w _ q1)).trans q1;obtain ⟨H,ur⟩:=pQ (r+y);have er':(r:Int)+(y:Int)=(H:Int):=by omega
   have br':(H:Int)<8589934592:=by omega
   have W:=ae (af hb hs);have HT:=ae hT;have HQ:=ae hq;have X:=ae ur;clear hT hb hs hq ur;by_cases abq:q<4294967296
   ·have esh:(q:Int)/4294967296=0:=by omega
    obtain ⟨p,hp⟩:=pQ (q*v0);obtain ⟨t,T⟩:=pQ (r*4294967296+u0);have V1:p<=18446744065119617025:=by rw [<-hp];exact (show q*v0<=4294967295*4294967295 from bH (by omega) (by omega))
    have ep:IntKind.u64.wrap ((q:Int)*(v0:Int))=(p:Int):=by rw [VN,hp];exact wraps_u64 _ (by omega) (by omega)
    have eo:bits .or .u64 ((r:Int)*4294967296) (u0:Int)=(t:Int):=by
     have:=bits_join .u64 64 (by decide) wraps_u64 32 ((r:Int)*4294967296) (u0:Int) (by omega) (by omega) (by omega) (by omega) (by omega) (by omega);rw [this];omega
    have HP:=ae (af hp T);by_cases Hw:t<p
    ·have aqJ:(t:Int)<(p:Int):=by omega
     have Ij:0<q:=by
      rcases cC q with e|e
      ·subst e;omega
      ·exact e
     have eg:(q:Int)-1=((q-1:Nat):Int):=by omega
     obtain ⟨D,Rg⟩:=pQ (q-1);rw [Rg] at eg;have Q:=ae (show D*y+H=u/\D+1=q by
      refine ⟨?_,by omega⟩;have E:=HT.out;rw [show q=D+1 by omega,dF,j3] at E;have F:=X.out;omega)
     have HG:=ae (show U/V<=D from by have:=aqz yw.out VZ.out Re.out.2 HT.out (show r*4294967296+u0<q*v0 by rw [hp,T];exact Hw) Ii.out.1 HQ.out;omega);clear hp T;by_cases abr:H<4294967296
     ·have eov:(H:Int)/4294967296=0:=by omega
      go_wp2_with fail;go_region;go_wp2_with fail;go_roundw
      case rel=>exact ⟨D,H,rfl,rfl,Q.out.1,abr,by have:=Q.out.2;omega,HG.out,W.out.1.drew,W.out.2⟩
      case measure=>have:=Q.out.2;simp [intOf];omega
     ·have eov:(H:Int)/4294967296=1:=by omega
      have yk:4294967296<=H:=by omega
      have hgb:D<4294967296:=by
       rcases bV D 4294967296 with h|h
       ·exact h
       ·exfalso
        have:4294967296*y<=D*y:=aN _ h;have:=Q.out.1;have:=HFT.out;omega
      have HX:=ae (show D*V<=U+V from by have:=ag6 yw.out VZ.out bv0 Re.out.1 Q.out.1 yk;omega);clear yk;go_wp2_with fail;go_region;go_wp2_with fail
      go_meet
      case rel=>exact ⟨D,rfl,HX.out,HG.out,hgb,W.out.1.drew,W.out.2⟩
    ·have aqJ: ¬(t:Int)<(p:Int):=by omega
     have HX:=ae (show q*V<=U+V from aqA yw.out VZ.out Re.out.1 (by omega) HT.out (by rw [hp,T];omega));clear hp T;go_wp2_with fail;go_region;go_wp2_with fail
     go_meet
     case rel=>exact ⟨q,rfl,HX.out,HQ.out,abq,W.out.1.drew,W.out.2⟩
   ·have esh:(q:Int)/4294967296=1:=by omega
    have Ij:0<q:=by omega
    have eg:(q:Int)-1=((q-1:Nat):Int):=by omega
    obtain ⟨D,Rg⟩:=pQ (q-1);rw [Rg] at eg;have Q:=ae (show D*y+H=u/\D+1=q by
     refine ⟨?_,by omega⟩;have E:=HT.out;rw [show q=D+1 by omega,dF,j3] at E;have F:=X.out;omega)
    have HG:=ae (show U/V<=D from by have:=(gP Ii.out.2).2 HRG.out.1;omega);by_cases abr:H<4294967296
    ·have eov:(H:Int)/4294967296=0:=by omega
     go_wp2_with fail;go_region;go_wp2_with fail;go_roundw
     case rel=>exact ⟨D,H,rfl,rfl,Q.out.1,abr,by have:=Q.out.2;omega,HG.out,W.out.1.drew,W.out.2⟩
     case measure=>have:=Q.out.2;simp [intOf];omega
    ·have eov:(H:Int)/4294967296=1:=by omega
     have yk:4294967296<=H:=by omega
     have hgb:D<4294967296:=by
      rcases bV D 4294967296 with h|h
      ·exact h
      ·exfalso
       have:4294967296*y<=D*y:=aN _ h;have:=Q.out.1;have:=HFT.out;omega
     have HX:=ae (show D*V<=U+V from by have:=ag6 yw.out VZ.out bv0 Re.out.1 Q.out.1 yk;omega);clear yk;go_wp2_with fail;go_region;go_wp2_with fail
     go_meet
     case rel=>exact ⟨D,rfl,HX.out,HG.out,hgb,W.out.1.drew,W.out.2⟩
 case rest=>
  obtain ⟨q,rfl,hX,hQ,hgu,hb,hs⟩:=hcut;have ahb:Rc w wc g N C base k q L vs 0 0 0 L:=⟨by decide,by decide,hLN,ag8 HO.out hb,by simp [bK],fun _ _=>rfl,(rK.refl g w).of hb hs (aq _)⟩;have Aa:=ae ahb;have HXQ:=ae (af hX hQ);have ahc:=ae (fun I (ho:rK g w I) i (hi:i<n)=>(ho.cell (p:=x.add i) (by rw [aqH];exact hxg)).trans (B i hi));have aE0:(q:Int)<=4294967295:=by omega
  clear ahb hX hQ hb hs B q0 q1 cu0 cu1 cun Gb mQ VV AH VW emod ediv PD V0 Rf HFT hne;go_wp2_with fail
  go_loopg [9,10,85] n (fun gh cv bv iv wr=> ∃(i R b:Nat) (o:List Nat),gh+i=n/\iv= .int .i64 i/\cv= .int .u64 R/\bv= .int .u32 b/\Rc w wr g N C base k q L vs i R b o)
  case atStart=>exact ⟨0,0,0,L,rfl,rfl,rfl,rfl,Aa.out⟩
  case round=>
   obtain ⟨i,R,b,o,hi,rfl,rfl,rfl,s⟩:=hrel;have HI:=ae hi;have qi:=ae s;have A:=s.2.2.2.1.1;rw [s.2.2.1] at A;have bc:=s.1;have bb:=s.2.1;have fq:(0:Int)<=i:=by omega
   have ag5:(i:Int)<=200000000:=by omega
   by_cases bB:i<n
   ·have q1:=ahc.out _ s.2.2.2.2.2.2 i bB
    obtain ⟨J,dW⟩:=pQ (vs.getD i 0);rw [dW] at q1;have bx:J<4294967296:=by rw [<-dW];exact mH VU.out i
    have qz:=ae (show el vs i=J from dW);have kb:=A.frozenAt (k+i);obtain ⟨E,vO⟩:=pQ (el o (k+i));have VO:wr.cell? ⟨g,k+i,none⟩=some (.int .u32 (E:Int)):=by rw [<-vO];exact qZ A (re (by rw [s.2.2.1];omega))
    have be:E<4294967296:=by rw [<-vO];exact vj s.2.2.2.1.2 _
    have Ra:=ae (show el L (k+i)=E by rw [<-vO];exact (s.2.2.2.2.2.1 _ (by omega)).symm);have zf:(i:Int)<n:=by omega
    obtain ⟨z,hz⟩:=pQ (q*J);have PE:z<=18446744065119617025:=by rw [<-hz];exact (show q*J<=4294967295*4294967295 from bH (by omega) (by omega))
    obtain ⟨t,T⟩:=pQ (R+z);have ez:IntKind.u64.wrap ((q:Int)*(J:Int))=(z:Int):=by rw [VN,hz];exact wraps_u64 _ (by omega) (by omega)
    have et:(R:Int)+(z:Int)=(t:Int):=by omega
    obtain ⟨d,hd⟩:=pQ (t % 4294967296);obtain ⟨c1,G4⟩:=pQ (t/4294967296);have ed:(t:Int) % 4294967296=(d:Int):=by omega
    have ec:(t:Int)/4294967296=(c1:Int):=by omega
    have aqK:(z:Int)<=18446744065119617025:=by omega
    have aqL:(t:Int)<=18446744073709551615:=by omega
    have bd:d<4294967296:=by omega
    have HT:=ae (show c1<4294967296/\t=R+q*J/\t=d+4294967296*c1 by refine ⟨?_,?_,?_⟩;omega;rw [hz];exact T.symm;omega);have Ri:=ae (fun I:World=>Uo (w:=I) E d b be bd bb);have Ik:=ae (ag7 be bd bb);clear dW hi s A vO hz PE T hd G4;go_wp2_with fail;refine (Ri.out _).mono ?_;rintro e I ⟨rfl,rfl⟩;go_wp2_with fail
    go_roundg (n-(i+1))
    case measure=>have:=HI.out;omega
    case rel=>
     have Y:fW (wr.setCell ⟨g,k+i,none⟩ (.int .u32 (rZ E d b:Int))) base (.slice (some ⟨g,0,none⟩) N C) (o.set (k+i) (rZ E d b)):=qi.out.2.2.2.1.set Ik.out.2.1;exact ⟨i+1,c1,wY E d b,_,by have:=HI.out;omega,by go_num,rfl,rfl,qi.out.next qz.out Ra.out (by omega) HT.out.1 Ik.out.2.2 HT.out.2.1 HT.out.2.2 Ik.out.1 Y (qi.out.2.2.2.2.2.2.set _ _)⟩
   ·obtain rfl:i=n:=by omega
    have kb:=A.frozenAt (k+i);obtain ⟨E,vO⟩:=pQ (el o (k+i));have VO:wr.cell? ⟨g,k+i,none⟩=some (.int .u32 (E:Int)):=by rw [<-vO];exact qZ A (re (by rw [s.2.2.1];omega))
    have be:E<4294967296:=by rw [<-vO];exact vj s.2.2.2.1.2 _
    have Ra:=ae (show el L (k+i)=E by rw [<-vO];exact (s.2.2.2.2.2.1 _ (by omega)).symm);have ecr:(R:Int) % 4294967296=(R:Int):=by omega
    have Ri:=ae (fun I:World=>Uo (w:=I) E R b be bc bb);have Ik:=ae (ag7 be bc bb);obtain ⟨d,hd⟩:=pQ (rZ E R b);obtain ⟨b1,bW⟩:=pQ (wY E R b);rw [hd,bW] at Ri Ik;have Y:fW (wr.setCell ⟨g,k+i,none⟩ (.int .u32 (d:Int))) base (.slice (some ⟨g,0,none⟩) N C) (o.set (k+i) d):=s.2.2.2.1.set Ik.out.2.1;have FSy:bK (l9 (o.set (k+i) d) k) (i+1)+q*V=U+4294967296^(i+1)*b1:=by
     rw [VP (by rw [s.2.2.1];omega),bI,<-O.out.2];show _=bK (l9 L k) i+4294967296^i*el L (k+i)+_;rw [Ra.out,<-O.out.1,ld,KP];exact aqC s.2.2.2.2.1 Ik.out.1
    have lq:=ae (af Y (show rK g w (wr.setCell ⟨g,k+i,none⟩ (.int .u32 (d:Int))) from s.2.2.2.2.2.2.set _ _));obtain ⟨S,hS⟩:=pQ (o.set (k+i) d);have V2:=ae (show S.length=N/\(∀j,j<k\/k+i<j->el S j=el L j) by
     rw [<-hS];refine ⟨by rw [bA];exact s.2.2.1,fun j hj=> ?_⟩;rw [ue d (by rw [s.2.2.1];omega),if_neg (by omega)];exact s.2.2.2.2.2.1 j (by omega))
    rw [hS] at lq FSy;have bB:=qy (f:=l9 S k) (fun j=>vj lq.out.1.2 _) (i+1);obtain ⟨P,hP⟩:=pQ (4294967296^(i+1));rw [hP] at FSy bB;have HP:=ae hP;have uZ:=ae bB;have HFS:=ae FSy;have bb1:=Ik.out.2.2;clear hi s A vO hd bW Y hS FSy bB hP;by_cases aqM:b1=0
    ·subst aqM
     have hbi:((0:Nat):Int)=0:=rfl;have X:=ae (aqD (by have:=HFS.out;omega) HXQ.out.2 Ii.out.2);go_wp2_with fail;refine (Ri.out _).mono ?_;rintro e I ⟨rfl,rfl⟩;go_wp2_with fail;go_ret;refine ⟨S,?_,V2.out.1,lq.out.1,V2.out.2,?_,lq.out.2⟩
     ·have:bK (fun j=>el L (k+j)) (i+1)/val vs=q:=by rw [O.out.1];exact (congrArg (· /V) O.out.2).trans X.out.1
      rw [this];rfl
     ·rw [O.out.1];exact ((congrArg (· % V) O.out.2).trans X.out.2).symm
    ·obtain rfl:b1=1:=by omega
     have X:=ae (aqE (M:=P) (by have:=HFS.out;omega) uZ.out HXQ.out.1);go_wp2_with fail;refine (Ri.out _).mono ?_;rintro e I ⟨rfl,rfl⟩;go_wp2_with fail;have Ij:(1:Int)<=(q:Int):=by have:=X.out.1;omega
     go_wp2_with fail
     go_loopg [13,133] i (fun gh av iv wr=> ∃(m a:Nat) (o:List Nat),gh+m=i/\iv= .int .i64 m/\av= .int .u32 a/\VQ w wr g N C base k S vs m a o)
     case atStart=>exact ⟨0,0,S,rfl,rfl,rfl,by decide,V2.out.1,lq.out.1,by simp [bK],fun _ _=>rfl,lq.out.2⟩
     case round=>
      obtain ⟨m,a,o,lV,rfl,rfl,s⟩:=hrel;have HI:=ae lV;have qi:=ae s;have A:=s.2.2.1.1;rw [s.2.1] at A;have ba:=s.1;have rq:(0:Int)<=m:=by omega
      have aE1:(m:Int)<=200000000:=by omega
      by_cases bB:m<i
      ·have q1:=ahc.out _ s.2.2.2.2.2 m bB
       obtain ⟨J,dW⟩:=pQ (vs.getD m 0);rw [dW] at q1;have bx:J<4294967296:=by rw [<-dW];exact mH VU.out m
       have qz:=ae (show el vs m=J from dW);have kb:=A.frozenAt (k+m);obtain ⟨F,Cp⟩:=pQ (el o (k+m));have VO:wr.cell? ⟨g,k+m,none⟩=some (.int .u32 (F:Int)):=by rw [<-Cp];exact qZ A (re (by rw [s.2.1];omega))
       have be2:F<4294967296:=by rw [<-Cp];exact vj s.2.2.1.2 _
       have HE2:=ae (show el S (k+m)=F by rw [<-Cp];exact (s.2.2.2.2.1 _ (by omega)).symm);have zf:(m:Int)<i:=by omega
       have Rj:=ae (fun I:World=>aqG (w:=I) F J a be2 bx ba);obtain ⟨t,T⟩:=pQ (F+J+a);rw [T] at Rj;obtain ⟨G,wW⟩:=pQ (t % 4294967296);obtain ⟨a2,ux⟩:=pQ (t/4294967296);rw [wW,ux] at Rj;have tI:=ae (show a2<=1/\G+4294967296*a2=F+J+a/\G<4294967296 by refine ⟨?_,?_,?_⟩<;>omega);clear dW lV s A Cp T wW ux;go_wp2_with fail;refine (Rj.out _).mono ?_;rintro e I ⟨rfl,rfl⟩;go_wp2_with fail
       go_roundg (i-(m+1))
       case measure=>have:=HI.out;omega
       case rel=>
        have Y:fW (wr.setCell ⟨g,k+m,none⟩ (.int .u32 (G:Int))) base (.slice (some ⟨g,0,none⟩) N C) (o.set (k+m) G):=qi.out.2.2.1.set tI.out.2.2;exact ⟨m+1,a2,_,by have:=HI.out;omega,by go_num,rfl,qi.out.next qz.out HE2.out (by omega) tI.out.1 tI.out.2.1 Y (qi.out.2.2.2.2.2.set _ _)⟩
      ·obtain rfl:m=i:=by omega
       have kb:=A.frozenAt (k+m);obtain ⟨F,Cp⟩:=pQ (el o (k+m));have VO:wr.cell? ⟨g,k+m,none⟩=some (.int .u32 (F:Int)):=by rw [<-Cp];exact qZ A (re (by rw [s.2.1];omega))
       have be2:F<4294967296:=by rw [<-Cp];exact vj s.2.2.1.2 _
       have HE2:=ae (show el S (k+m)=F by rw [<-Cp];exact (s.2.2.2.2.1 _ (by omega)).symm);obtain ⟨G,wW⟩:=pQ ((F+a) % 4294967296);have ea1:((F:Int)+(a:Int)) % 4294967296=(G:Int):=by omega
       have ea2:IntKind.u32.wrap ((F:Int)+(a:Int))=(G:Int):=by rw [IntKind.wrap_u32];exact ea1
       have bd2:G<4294967296:=by omega
       have Y:fW (wr.setCell ⟨g,k+m,none⟩ (.int .u32 (G:Int))) base (.slice (some ⟨g,0,none⟩) N C) (o.set (k+m) G):=s.2.2.1.set bd2;have FR:bK (l9 (o.set (k+m) G) k) (m+1)=U % V:=by
        rw [VP (by rw [s.2.1];omega)];have hS:=X.out.2.2;rw [<-HP.out,bI] at hS;have hS2:bK (l9 S k) (m+1)=bK (l9 S k) m+4294967296^m*F:=by
         show bK (l9 S k) m+4294967296^m*el S (k+m)=_;rw [HE2.out]
        rw [hS2] at hS;have hVV:bK (el vs) m=V:=by rw [<-O.out.1,ld,KP]
        refine aqF (hVV▸s.2.2.2.1) hS ?_ (qy (f:=l9 o k) (fun j=>vj s.2.2.1.2 _) m) ba be2 wW.symm;refine oV (dj _ Ii.out.2) ?_;rw [<-hVV];exact qy (fun j=>vj VU.out j) m
       obtain ⟨o2,pf⟩:=pQ (o.set (k+m) G);have HON:=ae (show o2.length=N/\(∀j,j<k\/k+m<j->el o2 j=el L j) by
        rw [<-pf];refine ⟨by rw [bA];exact s.2.1,fun j hj=> ?_⟩;rw [ue G (by rw [s.2.1];omega),if_neg (by omega),s.2.2.2.2.1 j (by omega)];exact V2.out.2 j hj)
       rw [pf] at Y FR;have HFR:=ae FR;have ahd:=ae (af Y (show rK g w (wr.setCell ⟨g,k+m,none⟩ (.int .u32 (G:Int))) from s.2.2.2.2.2.set _ _));clear lV s A Cp wW Y FR pf;go_wp2_with fail;go_ret;refine ⟨o2,?_,HON.out.1,ahd.out.1,HON.out.2,?_,ahd.out.2⟩
       ·have:((bK (fun j=>el L (k+j)) (m+1)/val vs:Nat):Int)=(q:Int)-1:=by
         rw [O.out.1];have h1:=(congrArg (· /V) O.out.2).trans X.out.2.1;have h2:=X.out.1;have h3:bK (fun j=>el L (k+j)) (m+1)/V=q-1:=h1;rw [h3];omega
        rw [this];rfl
       ·rw [O.out.1];exact HFR.out.trans (congrArg (· % V) O.out.2).symm
end
end
section
open Go.RowKit
def aqN {l:List Nat} (a:cP l=l.length) (b:0<val l:=by omega) (d:val l<4294967296:=by omega): ∃x,l= [x]/\x=val l:=by
 match l,a with
 | [],_=>simp [val] at b
 | [x],_=>exact ⟨x,rfl,by simp [val]⟩
 |x::y::t,a=>
  have e:=J0 (l:=x::y::t) (by rw [a];simp);grind
def Nn {l m:List Nat} (f:cP l=l.length) (g:val l=val m) (e:j5 m):l.length<=m.length:=by
 by_cases h:l.length=0
 ·omega
 ·have b:=J0 (l:=l)
  have i:val m<4294967296^m.length:=by rw [ld m];exact qy (xW e) _
  rw [f,g] at b;have d:4294967296^(l.length-1)<4294967296^m.length:=by omega
  have j:=(dC (a:=4294967296) (by omega)).1 d;omega
def V3 (a d:Nat) (w:World) (e:Ending) (w':World):Prop:= ∃q r,e= .returned (.tuple #[q,r,.bool true])/\mP w' w.heap.size q (a/d)/\mP w' w.heap.size r (a % d)/\Below w.heap.size w w'
section
variable {w:World}
def aqO {v u:Value} {l m:List Nat} (h:g7 w v l) (h':g7 w u m) (Y:l.length<=100000000) (hm:m.length<=100000000) (F:0<val m) (X:val m<4294967296):
 Calls Tryz.prog 184 #[v,u] w (V3 (val l) (val m) w):=by
 have z:=ae (wU h (by omega));have Q:=ae h';obtain ⟨a,A⟩:=pQ (val l);obtain ⟨d,G⟩:=pQ (val m);rw [A] at z⊢;rw [G] at F X⊢;have HD:=ae G;have Rk:=ae Y;have V4:=ae h.2;have p:=ae A;clear G h' h Y A;go_enter Tryz.func184,Tryz.ntmps184;go_wp2_with fail;refine z.out.mono ?_;rintro e w1 ⟨v1,rfl,ny,D⟩;have lJ:=ae ny;have W:=ae D;have tI:=ae (wU (Q.out.below D) (by omega));clear ny D z;go_wp2_with fail;refine tI.out.mono ?_;rintro e w2 ⟨v2,rfl,lr,E⟩;rw [HD.out] at lr;obtain ⟨l2,o,sU,jF⟩:=lr;obtain ⟨x,rfl,hx⟩:=aqN sU;obtain rfl:x=d:=hx.trans jF;obtain ⟨a2,c2,M,rfl,ux,xA,lV,T⟩:=o.sl.form;obtain rfl:=ux (by simp);have I:w2.cell? (M.add 0)=some (.int .u32 (x:Int)):=T 0 (by simp);rw [show [x].length=1 from rfl] at xA⊢;have Gc:=ae o;have iX:=ae (W.out.trans (E.mono W.out.size));have P:=ae ((lJ.out.below E));obtain ⟨l1,f,oC,mQ⟩:=P.out;obtain ⟨a1,c1,x1,rfl,_⟩:=f.sl.form;have U:=ae (Uh f.sl o.sl);have MF:=ae f.sl;have t:=ae oC;have B:=ae mQ;have Bj:l1.length<=maxLen:=by obtain ⟨_,_,_,_,_,_,h,_⟩:=f.sl.form;exact h
 unfold maxLen at Bj;clear oC mQ sU jF hx;clear o E f T lV ux lJ tI Q;have s:=ae (Nn t.out (B.out.trans p.out.symm) V4.out);go_wp2_with fail;refine U.out.mono ?_;rintro e w3 ⟨rfl,k⟩;rw [B.out,show val [x]=x by simp [val]];have q3:=(k.cell (ak w2 _ I)).trans I;have sG:=ae k;have i:=ae (iX.out.trans (k.mono iX.out.size));clear k I U;by_cases b:a<x
 ·have g:=ae (show a/x=0/\a % x=a from ⟨eW b,dY b⟩)
  rw [Mv b];clear b;go_wp2_with fail;refine bodyPost_ret (v:= .tuple #[.slice none 0 0,.slice a1 l1.length c1,.bool true]) (by simp [results,Tryz.results184,go_sem]) rfl ?_;exact ⟨_,_,rfl,by rw [g.out.1];exact JW _ _,by rw [g.out.2];exact P.out.below sG.out,i.out⟩
 ·obtain ⟨j,R,ahe⟩: ∃j,tG a x=j/\0<=j:=⟨_,rfl,by unfold tG;rw [if_neg b];split<;>omega⟩
  rw [R];have ahf: ¬j<0:=by omega
  rw [show M.add 0=M from if_pos rfl] at q3;have N:=ae (Zx (MF.out.below sG.out) (aK s.out Rk.out) x F X);clear R b;go_wp2_with fail;rw [B.out] at N;refine N.out.mono ?_;rintro e w4 ⟨q,rfl,Z,nf⟩;obtain ⟨rr,C⟩:=pQ (a % x);have H:rr<18446744073709551616:=by have:=dj a F;omega
  rw [C];have y:=ae C;have g:=ae Z;have J:=ae (i.out.trans (nf.mono i.out.size));have Rn:=ae (Ms (w:=w4) rr H);clear C Z nf N;go_wp2_with fail;refine Rn.out.mono ?_;rintro e w5 ⟨v5,rfl,S,rz⟩;have rA:=ae S;have O:=ae rz;clear S rz;go_wp2_with fail;refine bodyPost_ret (v:= .tuple #[q,v5,.bool true]) (by simp [results,Tryz.results184,go_sem]) rfl ?_;exact ⟨_,_,rfl,(g.out.below O.out).base i.out.size,by rw [y.out];exact rA.out.base J.out.size,J.out.trans (O.out.mono J.out.size)⟩
end
end
section
open Go.RowKit
variable {V n A N x P d U k R:Nat} {L Q o:List Nat} {w:World}
def aqP (h:j5 o) (b:d<4294967296):j5 (o++ [d]):=fun x a=>by
 rcases bZ.1 a with a|a
 ·exact h x a
 simp_all
def aqQ {f:Array Oper} {b:List Oper} {l:Oper} {a:Act} {Q:Exit->Act->World->Prop} (Y:l.guard=none) (s x:Operand) (O:l.op= .call {callee:= .builtin .append,args:= #[s,x],argTypes:= #[35,35]})
 (base:Nat) (q:base<=w.heap.size) (v:Value) (o:List Nat) (n:Nat) (J:o.length=n) (S:a.eval s=v) (m:fW w base v o) (B d:Nat) (T:a.eval x= .slice (some ⟨B,0,none⟩) 1 1)
 (F:w.heap[B]? =some (.cells #[.int .u32 (d:Int)] 172 (0,0))) (H:d<4294967296) (M:n<=100000000)
 (h: ∀g cap i,fW i base (.slice (some ⟨g,0,none⟩) (n+1) cap) (o++ [d])->(∀W,Below base W w->Below base W i)->
  wpList Tryz.prog f Q b (a.put l.dst (.slice (some ⟨g,0,none⟩) (n+1) cap)) i):wpList Tryz.prog f Q (l::b) a w:=by
 subst J;obtain ⟨X,C,z,y,t⟩:=info_parts B9;refine wpList_append_lies w Y s x 35 O base 172 X _ 1 4 Tryz.underlying35 C z y t rfl (by decide) v o.length (rb o) S m.1 ⟨B,0,none⟩ 1 1 [.int .u32 (d:Int)] T rfl (World.news_of_block (cs:= #[.int .u32 (d:Int)]) F)
  (by intro u p;simp at p;rw [p];rfl) (by omega) (by unfold maxLen;omega) (by omega) q w.heap.size rfl ?_
 intro g cap i D E Z _;refine h g cap i ⟨?_,aqP m.2 H⟩ fun W G=>G.grown E q (fun j I=>(m.1.lt j I).1)
 rw [aX];have e:rb (o++ [d])=rb o++ [.int .u32 (d:Int)]:=by simp [rb]
 rw [e];exact D
def aqR {base:Nat} {v:Value} (h:fW w base v o) (c:Obj):fW (w.alloc c) base v o:=⟨h.1.alloc c,h.2⟩
def ahg {l:List Nat} (h:l.length<=n:=by omega):val l=bK (el l) n:=by
 rw [ld l];exact (JR h fun j a _=>by
  unfold el;simp_all).symm
def V5 (f:Nat->Nat) (a:Nat): ∀b,bK f (a+b)=bK f a+4294967296^a*bK (fun j=>f (a+j)) b
 |0=>by simp [bK]
 |b+1=>by
  show bK f (a+b)+4294967296^(a+b)*f (a+b)=bK f a+4294967296^a*(bK (fun j=>f (a+j)) b+4294967296^b*f (a+b));rw [V5 f a b,fI,bC,bF,eK]
def ahh: ∀ {l:List Nat} {k d:Nat},k<l.length->el l k=0->val (l.set k d)=val l+4294967296^k*d
 | [],k,d,h,_=>by simp at h
 |x::l,0,d,_,a=>by
  have:x=0:=a;subst this;simp [val,iC]
 |x::l,k+1,d,h,a=>by
  have b:=ahh (l:=l) (k:=k) (d:=d) (by simp_all) a;show x+4294967296*val (l.set k d)=x+4294967296*val l+_;grind
def ahi: ∀n,val (List.replicate n 0)=0
 |0=>rfl
 |n+1=>by show 0+4294967296*val (List.replicate n 0)=0;rw [ahi n]
def ahj: ∀l:List Nat,val (l++ [0])=val l
 | []=>rfl
 |x::l=>by show x+4294967296*val (l++ [0])=x+4294967296*val l;rw [ahj l]
structure Ab (A V n N k:Nat) (L Q:List Nat):Prop where
 len:L.length=N
 abt:Q.length=N-n
 lim:j5 L
 high: ∀j,k+n<=j->el L j=0
 low: ∀j,j<k->el Q j=0
 sum:val Q*V+bK (el L) (k+n)=A
 less:bK (el L) (k+n)<4294967296^k*V
def aqS (h:x+P*U<P*n*V):U<n*V:=by
 have:P*U<P*(n*V):=by grind
 exact kE this
def Ab.abu (h:Ab A V n N (k+1) L Q):bK (l9 L k) (n+1)<4294967296*V:=by
 have a:=h.less;rw [show k+1+n=k+(n+1) by omega,V5,bI] at a;exact aqS a
def aqT {q:Nat} (b:q*V+(x+P*U)=A) (a:d*V+R=U):(q+P*d)*V+(x+P*R)=A:=by
 grind
def aqU (b:x<P) (a:R<V):x+P*R<P*V:=by
 have:P*(R+1)<=P*V:=aR _ a;grind
def Ab.next {a:List Nat} (h:Ab A V n N (k+1) L Q) (F:k+n<N) (u:0<V) (y:V<=4294967296^n) (z:a.length=N) (B:j5 a) (m: ∀j,j<k\/k+n<j->el a j=el L j) (g:bK (l9 a k) (n+1)=bK (l9 L k) (n+1) % V):
 Ab A V n N k a (Q.set k (bK (l9 L k) (n+1)/V)):=by
 have f:=h.abu;obtain ⟨U,i⟩:=pQ (bK (l9 L k) (n+1));rw [i] at g f⊢;have t:U % V<V:=dj _ u;have D:bK (el a) k=bK (el L) k:=AG fun j b=>m j (.inl b)
 have E:el a (k+n)=0:=by
  have s:bK (l9 a k) n+4294967296^n*el a (k+n)=U % V:=g;rcases cC (el a (k+n)) with e|e
  ·exact e
  ·exfalso
   have:4294967296^n*1<=4294967296^n*el a (k+n):=aR _ e;omega
 have q:bK (l9 a k) n=U % V:=by
  have s:bK (l9 a k) n+4294967296^n*el a (k+n)=U % V:=g;simp_all
 have l:bK (el a) (k+n)=bK (el L) k+4294967296^k*(U % V):=by
  rw [V5,D];show _+4294967296^k*bK (l9 a k) n=_;grind
 have C:bK (el L) k<4294967296^k:=qy (fun j=>vj h.lim j) k;have p:=h.sum;rw [show k+1+n=k+(n+1) by omega,V5] at p;refine ⟨z,by rw [bA];exact h.abt,B,fun j b=> ?_,fun j b=> ?_,?_,?_⟩
 ·rcases Nat.eq_or_lt_of_le b with e|e
  ·simp_all
  ·rw [m j (.inr e)];exact h.high j (by omega)
 ·rw [ue _ (by rw [h.abt];omega),if_neg (by omega)]
  exact h.low j (by omega)
 ·rw [ahh (by rw [h.abt];omega) (h.low k (by omega)),l]
  refine aqT (U:=U) ?_ (by rw [bE];exact du U V);rw [<-i];exact p
 ·rw [l];exact aqU C t
def Ab.start (b:L.length=N) (e:j5 L) (a:val L=A) (l:0<n) (h:n<N) (g:4294967296^(n-1)<=V) (f:A<4294967296^(N-1)):Ab A V n N (N-n) L (List.replicate (N-n) 0):=by
 refine ⟨b,aZ,e,fun j i=> ?_,fun j _=> ?_,?_,?_⟩
 ·unfold el
  grind
 ·unfold el
  simp_all
 ·rw [ahi,Nat.zero_mul,cV,<-ahg];omega
 ·rw [<-ahg,a]
  refine az f ?_;rw [show N-1=(N-n)+(n-1) by omega,bC];exact aR _ g
def Ab.done (h:Ab A V n N 0 L Q) (g:n<=N):A/V=val Q/\A % V=val (L.take n):=by
 have a:=h.less;have b:=h.sum;rw [cV,lR,j3] at a;rw [cV] at b;have e:val (L.take n)=bK (el L) n:=by
  rw [ld,bM,h.len,dV g];refine AG fun j i=> ?_
  unfold el;simp_all
 rw [e];have f:A/V=val Q:=ox (by omega) (by grind);refine ⟨f,?_⟩;have:=du A V;grind
def aqW (a b s:Nat):a*2^s/(b*2^s)=a/b/\a*2^s % (b*2^s)=a % b*2^s:=
 ⟨Nat.mul_div_mul_right _ _ (aO (by decide)),Nat.mul_mod_mul_right _ _ _⟩
end
end Go.Proofs.YtnmpjdgobafdkaaGreatDoor
