/- refineFuel_proved. -/
import Derived.Test.YtnmpjdgobafdkaaGreatDoorPmaj
import Derived.Lib.UnsafeStr
import Derived.Laws.IdiomStrings
import Derived.Laws.MakeOwn
import Derived.Laws.Append
set_option maxRecDepth 100000
set_option maxHeartbeats 16000000
set_option linter.all false
noncomputable section
namespace Go.Ev
section
variable [aJ] {S:Nat->Prop}
section
variable {P:Program} {E:Env}
def afA (m:Mp) (F:Value->ByteArray->Sem (ForInStep ByteArray)) (d: ∀n r,F (.int .u8 n) r=pure (ForInStep.yield (r.push (UInt8.ofNat n.toNat)))): ∀(l:List aj) (s:List UInt8) (a:ByteArray) (w:World),bytesOf l=some s->
 (forIn (aV m l) a F).run P w= .ok ⟨⟨a.data.toList++s⟩⟩ w
 | [],s,a,w,h=>by cases h;simp [aV]
 |v::l,s,a,w,h=>by
  unfold bytesOf at h;cases v<;>try (cases h;done)
  rename_i k n;cases k<;>try (cases h;done)
  cases n<;>try (cases h;done)
  rename_i n;simp only at h;cases b:bytesOf l with
  |none=>rw [b] at h;cases h
  |some r=>
   rw [b] at h;simp only [yh,aW] at h;subst h;have e:=afA m F d l r (a.push (UInt8.ofNat n)) w b;simp only [aV,γ,List.forIn_cons,d,aI,bp,aB];rw [show (Int.ofNat n).toNat=n from rfl,e];congr 1;apply oq;simp [ByteArray.data_push]
def Qs (m:Mp): ∀l:List UInt8,aV m (uk l)=l.map fun b=> .int .u8 b.toNat
 | []=>rfl
 |b::l=>by simp only [uk,yh,aV,γ,Qs m l,cI];rfl
omit [aJ] in
def aam {D:Pos->Prop} : ∀l:List UInt8,i9 D (uk l)
 | []=>trivial
 |b::l=>by simp only [uk,yh];exact ⟨trivial,aam l⟩
omit [aJ] in
def aan: ∀l:List UInt8,(uk l).length=l.length
 | []=>rfl
 |b::l=>by simp only [uk,yh,jk,aan l]
def aoB (m:Mp) (l:List UInt8) (cap:Nat):bytesRow ⟨⟨l⟩⟩ cap=⟨aV m (uk l)++List.replicate (cap-l.length) (.int .u8 0)⟩:=by
 apply eO;simp [bytesRow,Qs,ByteArray.size]
def aoC (ok:eD P E) {s d e:TypeId} {x:Operand} (z:E.cQ s=some .string) (A:E.cQ d=some (.slice e)) (B:E.cQ e=some (.int .u8)):
 gZ P E (.convert s d x) (.wr fun k h=>match (bP E x).g k with
  | .str l=>sW l.length fun n=> .ok (.i7 h.nx 0 n (.rest 0)) (h.new (.cells (uk l) e 1))
  |_=> .fail):=by
 intro S m h k ρ w o D p F;obtain ⟨t,J⟩:=iV (E:=E) F x;simp only;generalize (bP E x).g k=u at t J;cases u<;>try (exact trivial)
 rename_i l;simp only [yh];have b:=run_bytes_of_string (P:=P) w s d e ⟨⟨l⟩⟩ (ok.cQ z) (ok.cQ A) (ok.cQ B);have i:(⟨⟨l⟩⟩:ByteArray).size=l.length:=rfl;rw [i] at b;have M:l.length<=grownCap w l.length 0 e:=by simp only [grownCap,Question.cut];omega
 generalize N:grownCap w l.length 0 e=cap at b M;rw [aoB m] at b;have a:(aV m (uk l)++List.replicate (cap-l.length) (Value.int .u8 0)).length=cap:=by
  rw [aX,oJ,aan,aZ];omega
 have f:(⟨aV m (uk l)++List.replicate (cap-l.length) (Value.int .u8 0)⟩:Array Value).size=cap:=a;rw [f] at b;have Q: ¬aF h h.nx:=fun C=>bO _ (p.fresh _ C)
 have y: ∀q:Mp,aV q (uk l)=aV m (uk l):=fun q=>by rw [Qs,Qs]
 obtain ⟨G,H,I⟩:=p.Kh (ob:= .cells (uk l) e 1) (o:= .cells ⟨aV m (uk l)++List.replicate (cap-l.length) (.int .u8 0)⟩ e (cap,cap+1))
  (w':=w.drew.alloc (.cells ⟨aV m (uk l)++List.replicate (cap-l.length) (.int .u8 0)⟩ e (cap,cap+1))) (cap:=cap) ⟨rfl,rfl,rfl,rfl⟩ (by simp)
  ⟨List.replicate (cap-l.length) (.int .u8 0),(cap,cap+1),by simp_all,by rw [y (m.set h.nx w.heap.size cap),Mp.Kg,fk];exact a,fun j O=>by grind⟩ (aam l)
 refine ⟨_,_,.value (.slice (some ⟨w.heap.size,0,none⟩) l.length cap),?_,.inl ?_,G,H,I,rfl⟩
 ·have:execOp ρ o=(do pure (.value (<-convert s d (ρ x)))):=by simp only [execOp,D]
  rw [this];simp only [aI,t,γ,b,aB,bp]
 ·simp [γ,Mp.set,Mp.c]
def aoE (ok:eD P E) (s d:TypeId) (x:Operand):gZ P E (.convert s d x) (lh E (.convert s d x)):=by
 show gZ P E (.convert s d x) (MM E s d x);have N: ∀(j:TypeDesc) (k:IntKind),E.cQ s=some j->E.cQ d=some (.int k)->gZ P E (.convert s d x) (xf E (fun v=>match v with
  | .int _ n=>oH k (ya k n)
  |_=>none) x):=fun j k p q=>Kk (fun a=>convert s d a) (fun ρ o H=>by simp only [execOp,H]) fun m D u v w X i=>by
  cases u<;>try (cases i;done)
  rename_i Y n;have:=xp i;subst this;refine ⟨?_,trivial⟩;simp only [convert,aI,ok.nj p,ok.nj q,aB,γ,xv];cases j<;>rfl
 generalize f:MM E s d x=K;unfold MM at f;cases p:E.cQ s with
 |none=>rw [p] at f;subst f;exact mV _
 |some j=>
  cases q:E.cQ d with
  |none=>rw [p,q] at f;cases j<;>(subst f;exact mV _)
  |some M=>
   rw [p,q] at f;cases M with
   |int k=>cases j<;>(subst f;exact N _ k p q)
   |string=>
    cases j<;>try (subst f;exact mV _)
    rename_i e;simp only at f;cases t:E.cQ e with
    |none=>rw [t] at f;subst f;exact mV _
    |some A=>
     rw [t] at f;cases A<;>try (subst f;exact mV _)
     rename_i k;cases k<;>try (subst f;exact mV _)
     subst f;intro S m h W ρ v w o H Q R i;obtain ⟨J,U⟩:=iV (E:=E) R x;simp only at i;generalize (bP E x).g W=a at J U i;have z:(convert s d (ρ x)).run P w= .ok (γ m v) w/\In (aF h) v:=by
      rw [J];cases a<;>try (cases i;done)
      ·rename_i n off len cap
       simp only at i;cases C:h.u5 n off len with
       |none=>rw [C] at i;cases i
       |some l=>
        rw [C] at i;simp only at i;cases B:bytesOf l with
        |none=>rw [B] at i;cases i
        |some I=>
         rw [B] at i;cases i;refine ⟨?_,trivial⟩;have G:=Q.Qh (P:=P) C;have T:=fun F O=>afA (P:=P) m F O l I ByteArray.empty w B
         have y: ∀c,(Conv.bytesToString (.slice (some ⟨m.b n,off,none⟩) len c)).run P w= .ok (γ m (.str I)) w:=fun c=>by
          simp only [Conv.bytesToString,aI,G,aB];rw [<-Array.forIn_toList];rw [T _ (fun _ _=>rfl)];rfl
         cases cap<;>simp only [convert,aI,ok.nj p,ok.nj q,ok.nj t,aB,γ,y]
      ·cases i
       exact ⟨by simp only [convert,aI,ok.nj p,ok.nj q,ok.nj t,aB,γ];rfl,trivial⟩
     exact ⟨FK (s:=convert s d (ρ x)) (by simp only [execOp,H]) z.1,z.2⟩
   |slice e=>
    cases j<;>try (subst f;exact mV _)
    simp only at f;cases t:E.cQ e with
    |none=>rw [t] at f;subst f;exact mV _
    |some A=>
     rw [t] at f;cases A<;>try (subst f;exact mV _)
     rename_i k;cases k<;>try (subst f;exact mV _)
     subst f;exact aoC ok p q t
   |_=>cases j<;>(subst f;exact mV _)
end
end
section
variable [aJ] {S:Nat->Prop}
section
variable {P:Program} {E:Env}
omit [aJ] in
def afB {ρ:Operand->Value} {o:Oper} {s:Sem Value} {w w':World} {r:Value} (a:execOp ρ o=(do pure (.value (<-s)))) (h:s.run P w= .ok r w'):(execOp ρ o).run P w= .ok (.value r) w':=by
 rw [a];simp [h]
omit [aJ] in
def afC (z:List Value): ∀n,((List.range (n*z.length)).map fun i=>z[i % z.length]!)=(List.replicate n z).flatten
 |0=>by simp
 |n+1=>by
  have a:=afC z n;rw [Nat.succ_mul,iC,List.range_add,mh,ot,List.flatten_cons,<-a];congr 1
  ·apply kp
   intro i;by_cases h:i<z.length
   ·simp [h,dY h]
   ·simp [h]
  ·rw [lM]
   apply dy;intro i _;simp [Nat.add_mod_left]
def aoF (m:Mp) (z:List aj) (n:Nat):aV m (Ci z n)=(List.replicate n (aV m z)).flatten:=by
 rw [ZT,oZ,oZ]
 induction n with
 |zero=>simp
 |succ n a=>simp_all
def afD (m:Mp) (v:Value) (k n:Nat) (b:(aj.ofValue v).cells.length=k):madeCells v.cells (n*k)=⟨aV m (Ci (aj.ofValue v).cells n)⟩:=by
 have a:v.cells=⟨aV m (aj.ofValue v).cells⟩:=by rw [<-Hn (D:=fun _=>False) m (zJ _ v),FD]
 subst b;rw [a,aoF];apply eO;simp only [madeCells,lC,Array.toList_range];rw [<-oJ m (aj.ofValue v).cells];rw [<-afC (aV m (aj.ofValue v).cells) n]
 all_goals grind
omit [aJ] in
def afE (z:List aj) (n:Nat):(Ci z n).length=n*z.length:=by rw [ZT];simp
omit [aJ] in
def afF {D:Pos->Prop} {z:List aj} (h:i9 D z) (n:Nat):i9 D (Ci z n):=by
 rw [ZT,mn];intro v d;obtain ⟨l,a,b⟩:=List.mem_flatten.1 d;rw [List.mem_replicate] at a;rw [a.2] at b;exact (mn _).1 h v b
def aao (ok:eD P E) {e:TypeId} {n:Nat} {z:List aj} (h:AU E e n=some z): ∃i v,P.info? e=some i/\E.ty e=some i/\i.zero=some v/\(aj.ofValue v).cells.length=i.size/\z=Ci (aj.ofValue v).cells n:=by
 unfold AU at h;cases a:E.ty e with
 |none=>rw [a] at h;cases h
 |some i=>
  rw [a] at h;simp only at h;cases b:i.zero with
  |none=>rw [b] at h;cases h
  |some v=>
   rw [b] at h;simp only at h;obtain ⟨d,f⟩:=Ht h;cases f;exact ⟨i,v,ok.ty e i a,rfl,b,beq_iff.1 d,rfl⟩
def Vc {m:Mp} {n:Pos} {l:List aj} {e:TypeId} {s cap:Nat} (hc:m.c n=cap) (a:l.length=cap*s:=by simp):vb m n (.cells l e s) (.cells ⟨aV m l⟩ e):=
 ⟨[],(0,0),by simp,by simp [oJ,a,hc],fun j _=>by simp⟩
def A5 {D:Pos->Prop} {m:Mp} {n:Pos} (f: ¬D n) {l:List aj} (h:i9 D l) (a b:Nat):aV (m.set n a b) l=aV m l:=
 AY (fun k d=>Mp.A0 m a b (fun e=>f (by rw [<-e];exact d))) l h
def aoG (ok:eD P E) (e:TypeId):gZ P E (.alloc e) (lh E (.alloc e)):=by
 show gZ P E (.alloc e) (match E.zero e with
  |some z=> .nw fun _=>some (.cells z.cells e z.cells.length,.ptr)
  |none=> .bad)
 cases k:E.zero e with
 |none=>exact mV _
 |some z=>
  intro m D q ρ p mk w o h l j n g;cases j;obtain ⟨i,v,d,f,rfl⟩:=ok.zero k;have a:=Ho (zJ D v);have b:v.cells=⟨aV m (aj.ofValue v).cells⟩:=by rw [<-Hn (D:=D) m (zJ _ v),FD]
  refine ⟨1,.cells ⟨aV m (aj.ofValue v).cells⟩ e,?_,?_,a,by simp⟩
  ·simp [execOp,h,Instr.alloc,UZ d f,newVar,newRow,b,Mk.mk,γ,Mp.set]
  ·rw [<-A5 g a w.heap.size 1]
   exact Vc (cap:=1) (by simp [Mp.set,Mp.c])
def aoH (e:TypeId) (x:Operand):gZ P E (.box e x) (lh E (.box e x)):=by
 intro m D k ρ l mk w o h i j n f;obtain ⟨d,b⟩:=iV (E:=E) i x;cases j;have a:=Ho b;refine ⟨1,.cells ⟨aV m ((bP E x).g k).cells⟩ e,?_,?_,a,by simp⟩
 ·simp [execOp,h,Instr.box,newVar,newRow,d,Hn m b,Mk.mk,γ,Mp.set]
 ·rw [<-A5 f a w.heap.size 1]
  exact Vc (cap:=1) (by simp [Mp.set,Mp.c])
def aoI (t:TypeId):gZ P E (.makeMap t none) (lh E (.makeMap t none)):=by
 intro m D i ρ h mk w o b g d n f;cases d;exact ⟨0,.map #[] 0,by simp [execOp,b,Instr.makeMap,Mk.mk,γ,Mp.set],rfl,fun e a=>(nomatch a),by simp⟩
def aoJ (ok:eD P E) (t:TypeId) (l c:Operand):gZ P E (.makeSlice t l c) (lh E (.makeSlice t l c)):=by
 show gZ P E (.makeSlice t l c) (match E.cQ t with
  |some (.slice e)=>match E.ty e with
   |some i=> .nw fun q=>yb ((bP E l).g q) none fun l=>yb ((bP E c).g q) none fun c=>
     cond (Nat.ble l c&&(Nat.ble (Nat.mul c i.bytes) 1099511627776&&Nat.ble c 1099511627776))
      (Option.casesOn (AU E e c) none fun z=>some (.cells z e i.size,.i7 l c)) none
   |none=> .bad
  |_=> .bad)
 cases Q:E.cQ t with
 |none=>exact mV _
 |some d=>
  cases d<;>try (exact mV _)
  rename_i e;simp only;cases O:E.ty e with
  |none=>exact mV _
  |some i=>
   intro m D q ρ ob mk w o N F u n M;obtain ⟨C,h2⟩:=iV (E:=E) F l;obtain ⟨B,g2⟩:=iV (E:=E) F c;simp only at u;generalize (bP E l).g q=a at C u;generalize (bP E c).g q=b at B u;have p: ∀ {v:aj} {k:Nat->Option (jG×Mk)} {r},yb v none k=some r-> ∃kd n,v= .int kd (.ofNat n)/\k n=some r:=fun {v k r} h=>by
    unfold yb at h;cases v<;>try (cases h;done)
    rename_i kd n;cases n with
    |negSucc n=>cases h
    |ofNat n=>grind
   obtain ⟨W,j,rfl,Y⟩:=p u;obtain ⟨X,f,rfl,x⟩:=p Y;cases hc:(Nat.ble j f&&(Nat.ble (Nat.mul f i.bytes) 1099511627776&&Nat.ble f 1099511627776)) with
   |false=>grind
   |true=>
    rw [hc] at x;simp only [cond_true] at x;rw [au,au] at hc;have c1:=p7.1 hc.1;have Z:f*i.bytes<=1099511627776:=p7.1 hc.2.1;have c3:=p7.1 hc.2.2;cases G:AU E e f with
    |none=>simp_all
    |some z=>
     rw [G] at x;cases x;obtain ⟨i',v,R,H,T,I,rfl⟩:=aao ok G;rw [O] at H;cases H;have A:i9 D (Ci (aj.ofValue v).cells f):=afF (Ho (zJ D v)) f;refine ⟨f,.cells ⟨aV m (Ci (aj.ofValue v).cells f)⟩ e,?_,?_,A,by simp⟩
     ·have U:(i.bytes:Int)*(f:Int)<=281474976710656:=by
       grind
      have J:=run_make (P:=P) w t e i v (ok.cQ Q) R T W X (j:Int) (f:Int) (by omega) (by omega) U (by omega);rw [Int.toNat_natCast,Int.toNat_natCast,afD m v i.size f I] at J;refine afB (s:=Instr.makeSlice t (ρ l) (ρ c)) (by simp only [execOp,N]) ?_;rw [C,B];simp only [γ];rw [show (Int.ofNat j)=(j:Int) from rfl,show (Int.ofNat f)=(f:Int) from rfl,J];have y:γ (m.set n w.heap.size f) (Mk.mk (.i7 j f) n)= .slice (some ⟨w.heap.size,0,none⟩) j f:=by simp [Mk.mk,γ,Mp.set]
      rw [y];rfl
     ·rw [<-A5 M A w.heap.size f]
      exact Vc (cap:=f) (by simp [Mp.set,Mp.c]) (by rw [afE,I])
def aoK (ok:eD P E) (t:TypeId) (len:Nat) (a:Array (Nat×Operand)):gZ P E (.buildSlice t len a) (lh E (.buildSlice t len a)):=by
 show gZ P E (.buildSlice t len a) (match E.cQ t with
  |some (.slice e)=>match E.size e,AU E e len with
   |some s,some z=>
    cond (Nat.ble (Nat.mul len s) 16777216)
     (.nw fun j=>Option.casesOn (zD (fun i=>some (Nat.mul i s,s)) (Fv E a) j z) none fun l=>some (.cells l e s,.i7 len len)) .bad
   |_,_=> .bad
  |_=> .bad)
 cases G:E.cQ t with
 |none=>exact mV _
 |some d=>
  cases d<;>try (exact mV _)
  rename_i e;simp only;cases U:E.size e with
  |none=>exact mV _
  |some s=>
   cases Y:AU E e len with
   |none=>exact mV _
   |some z=>
    simp only;cases hb:Nat.ble (Nat.mul len s) 16777216 with
    |false=>exact mV _
    |true=>
     intro m D j ρ ob mk w o X F h n W;have N: ∀x:Operand,In D ((bP E x).g j):=fun x=>(iV (E:=E) F x).2
     have J:(a.map fun (i,x)=>(i,ρ x)).toList=a.toList.map fun p=>(p.1,γ m ((bP E p.2).g j)):=by
      simp only [lC];apply dy;intro p _;rw [(iV (E:=E) F p.2).1]
     simp only at h;cases q:zD (fun i=>some (Nat.mul i s,s)) (Fv E a) j z with
     |none=>rw [q] at h;cases h
     |some l=>
      rw [q] at h;cases h;obtain ⟨i,v,k,i2,Z,H,rfl⟩:=aao ok Y;obtain ⟨ii,I,j2⟩:=ok.size U;rw [k] at I;cases I;subst j2;have u:i9 D (Ci (aj.ofValue v).cells len):=afF (Ho (zJ D v)) len;obtain ⟨R,B,T⟩:=U6 N a.toList _ _ q u;have f: ¬(len*i.size>2^24):=by simp_all
      refine ⟨len,.cells ⟨aV m l⟩ e,?_,?_,B,by simp⟩
      ·refine afB (s:=Instr.buildSlice t len (a.map fun (i,x)=>(i,ρ x))) (by simp only [execOp,X]) ?_
       have mk:=afD m v i.size len H;unfold madeCells at mk;have M:Instr.fill (fun b=>some (b*i.size,i.size)) ((Array.range (len*i.size)).map fun x=>v.cells[x % v.cells.size]!) (a.map fun (i,x)=>(i,ρ x)).toList=some ⟨aV m l⟩:=by
        rw [mk,J];exact R
       by_cases C:len*i.size=0
       ·have Q:Instr.fill (fun b=>some (b*i.size,i.size)) (#[]:Array Value) (a.map fun (i,x)=>(i,ρ x)).toList=some ⟨aV m l⟩:=by
         grind
        have y:=ok.nj G w;have A:=Go.Ev.yl k w;have O:((Array.range (len*i.size)).map fun x=>(#[]:Array Value)[x % (#[]:Array Value).size]!)= #[]:=by simp_all
        simp only [Instr.buildSlice,aI,y,A,aB,if_neg f,if_pos C,bp,O,Q];simp [newRow,Mk.mk,γ,Mp.set]
       ·have y:=ok.nj G w
        have A:=Go.Ev.yl k w;simp only [Instr.buildSlice,aI,y,A,aB,if_neg f,C,if_false,bp,UZ k Z];simp only [M];simp [newRow,Mk.mk,γ,Mp.set]
      ·rw [<-A5 W B w.heap.size len]
       exact Vc (cap:=len) (by simp [Mp.set,Mp.c]) (by rw [T,afE,H])
end
end
section
variable [aJ] {S:Nat->Prop}
section
variable {P:Program} {E:Env}
def aoL (ok:eD P E) (t:TypeId) (a x:Operand):gZ P E (.store t a x) (lh E (.store t a x)):=by
 show gZ P E (.store t a x) (match E.size t with
  |some k=> .wr fun b h=>match (bP E a).g b with
   | .ptr n off=>cond (Nat.beq ((bP E x).g b).cells.length k) (okU (h.store n off ((bP E x).g b).cells)) .fail
   |_=> .fail
  |none=> .bad)
 cases A:E.size t with
 |none=>exact mV _
 |some k=>
  intro S m h b ρ w o y z l;obtain ⟨j,s⟩:=iV (E:=E) l a;obtain ⟨i,d⟩:=iV (E:=E) l x;simp only;generalize (bP E a).g b=p at j s;generalize (bP E x).g b=v at i d;cases p<;>try (exact trivial)
  rename_i n off;simp only;cases u:Nat.beq v.cells.length k with
  |false=>exact trivial
  |true=>
   simp only [cond_true];cases q:h.store n off v.cells with
   |none=>exact trivial
   |some H=>
    obtain ⟨G,B,C,D,F,I⟩:=z.store q (Ho d) P;refine ⟨m,G,.skip,?_,.inr ⟨rfl,rfl⟩,C,D,trivial,F⟩;have f:=ok.yl A w;have e:(γ m v).cells.size=k:=by rw [Hn m d];simp [oJ];exact beq_iff.1 u
    simp only [execOp,y,Instr.storeAt,aI,j,i,γ,Instr.sureAddr,bp,aB,storeVar,f];rw [if_neg (by rw [e];simp),Hn m d,B];rfl
omit [aJ] in
def afH {a b:aj} (h:uj a b=some true):a=b:=by
 unfold uj at h;cases a<;>cases b<;>try (cases h;done)
 ·rename_i e x f y
  simp only [sameKey] at h;cases d:nh e f with
  |false=>rw [d] at h;cases h
  |true=>rw [d,AX] at h;simp at h;rw [(AW _ _).1 d,h]
 ·simp [sameKey,Ka] at h;rw [h]
 ·simp [Hm] at h;rw [h]
omit [aJ] in
def afI: ∀ {a b:List aj},AR a b=some true->a=b
 | [],[],_=>rfl
 | [],b::e,h=>by simp [AR] at h
 |a::as,[],h=>by simp [AR] at h
 |a::as,b::e,h=>by
  simp only [AR] at h;cases d:uj a b with
  |none=>rw [d] at h;cases h
  |some q=>
   rw [d] at h;cases q with
   |false=>cases h
   |true=>rw [afH d,afI h]
omit [aJ] in
def aoM {a b:aj} (h:Fu a b=some true):a=b:=by
 unfold Fu at h;cases a<;>cases b<;>first|exact afH h|(rw [afI h])
def Vd {m:Mp} {t:TypeId} {a:aj} (h:p9 E t a=true) (n:Nat):Instr.sameBits n (γ m a) (γ m a)=true:=by
 unfold p9 at h;cases b:E.cQ t with
 |none=>rw [b] at h;cases h
 |some d=>
  rw [b] at h;cases d<;>cases a<;>first|(cases h;done)|(cases n<;>simp [γ,Instr.sameBits,beq_toListBytes])
def afJ {m:Mp} (n:Nat): ∀(d:List Field) (l:List aj) (k:Nat),tJ E k d l=true-> ∀v∈l,Instr.sameBits n (γ m v) (γ m v)=true
 | [],[],_,_,v,b=>by cases b
 | [],a::l,_,h,_,_=>by simp [tJ] at h
 |f::d,[],_,h,_,_=>by simp [tJ] at h
 |f::d,a::l,k,h,v,b=>by
  obtain ⟨e,_,_,g⟩:=aae h;rcases bu.1 b with rfl|b
  ·exact Vd e n
  ·exact afJ n d l (k+1) g v b
def aoN {m:Mp} {t:TypeId} {k:aj} {b:Bool} (h:(yc E t).f k k=some b):Instr.sameBits 10000 (γ m k) (γ m k)=true:=by
 unfold yc at h;cases a:E.cQ t with
 |none=>rw [a] at h;cases h
 |some d=>
  rw [a] at h;cases d<;>try (cases h;done)
  ·exact Vd (t:=t) (by unfold p9;rw [a];cases k<;>first|(cases h;done)|rfl) _
  ·exact Vd (t:=t) (by unfold p9;rw [a];cases k<;>first|(cases h;done)|rfl) _
  ·exact Vd (t:=t) (by unfold p9;rw [a];cases k<;>first|(cases h;done)|rfl) _
  ·rename_i g
   cases i:E.gt t with
   |false=>rw [i] at h;cases h
   |true=>
    rw [i] at h;simp only [cond_true] at h;cases k<;>try (cases h;done)
    rename_i l;simp only at h;cases j:tJ E 0 g.toList l with
    |false=>rw [j] at h;cases h
    |true=>
     have fb:=afJ (m:=m) 9999 g.toList l 0 j;have e: ∀n,(∀v∈l,Instr.sameBits n (γ m v) (γ m v)=true)->Instr.sameBits (n+1) (.agg ⟨aV m l⟩) (.agg ⟨aV m l⟩)=true:=fun n p=>by
      simp only [Instr.sameBits,beq_self_eq_true,Bool.true_and,ef];rintro ⟨x,y⟩ o;rw [oZ] at o
      all_goals grind
     exact e 9999 fb
def afK (m:Mp) (v k:aj): ∀(i:Nat) (a:List lK),(ye v k i a).map (js m)=(a.map (js m)).modify i fun e=> {e with key:=γ m k,val:=γ m v}
 |_,[]=>by simp [ye]
 |0,e::a=>by simp [ye,js]
 |i+1,e::a=>by simp [ye,afK m v k i a]
omit [aJ] in
def afL {v k:aj} : ∀(i:Nat) (a:List lK) (e:lK),e∈ye v k i a->e∈a\/(e.key=k/\e.val=v)
 |_,[],e,h=>by simp [ye] at h
 |0,q::a,e,h=>by
  simp only [ye,bu] at h
  all_goals grind
 |i+1,q::a,e,h=>by
  simp only [ye,bu] at h;rcases h with rfl|h
  ·simp_all
  ·rcases afL i a e h with h|h
   all_goals grind
omit [aJ] in
def run_setObj_map {w:World} {r:Nat} {a:Array MapEntry} {cl:Nat} (h:w.heap[r]? =some (.map a cl)) (o:Obj):(setObj r o).run P w= .ok () {w with heap:=w.heap.setIfInBounds r o} :=by
 simp [setObj,Sem.run,h]
omit [aJ] in
def afM {k:aj} : ∀(a:List lK) (i:Nat) (j:Nat) (v:aj),yd k a i=some (some (j,v))-> ∃e,a[j-i]? =some e/\i<=j/\e.key=k
 | [],i,j,v,h=>by cases h
 |e::a,i,j,v,h=>by
  simp only [yd] at h;cases b:Fu k e.key with
  |none=>rw [b] at h;cases h
  |some q=>
   rw [b] at h;cases q with
   |true=>simp only [aW,ke] at h;obtain ⟨rfl,rfl⟩:=h;exact ⟨e,by simp,aq _,(aoM b).symm⟩
   |false=>
    obtain ⟨d,f,g,l⟩:=afM a (i+1) j v h
    all_goals grind
def afN (ok:eD P E) {m:Mp} {h:aP} {w:World} (z:bR E.gl S m h w) {t:TypeId} {a k v:aj} (Y:In (aF h) k) (Z:In (aF h) v):
 Kj P E S m h w (do Instr.mapUpdate t (γ m a) (γ m k) (γ m v);pure .skip) ((UH E t).f h a k v):=by
 unfold UH;cases O:E.cQ t with
 |none=>exact trivial
 |some d=>
  cases d<;>try (exact trivial)
  rename_i Q T;simp only;cases a<;>try (exact trivial)
  rename_i n;simp only;cases y:(yc E Q).f k k with
  |none=>exact trivial
  |some b=>
   simp only;cases F:(h.at n).obj<;>try (exact trivial)
   rename_i g j;simp only;cases G:yd k g 0 with
   |none=>exact trivial
   |some r=>
    obtain ⟨X,o,m2⟩:=z.MY F;have C:(h.at n).obj.MV=true:=by rw [F];rfl
    have I:=ok.nj O w;have D:=afq (P:=P) (m:=m) ok y false w;have H:=afu (m:=m) ok y w G;cases r with
    |none=>
     simp only;obtain ⟨A,B,R⟩:=z.Qm (n:=n) C (.map (g++ [(⟨k,v,j⟩:lK)]) (j+1)) (.map ⟨(g++ [(⟨k,v,j⟩:lK)]).map (js m)⟩ (j+1)) (w':= {w with heap:=w.heap.setIfInBounds (m.b n) (.map ⟨(g++ [(⟨k,v,j⟩:lK)]).map (js m)⟩ (j+1))})
      (by simp) rfl (fun e s=>by
       grind) rfl rfl rfl rfl
     refine ⟨m,_,.skip,?_,.inr ⟨rfl,rfl⟩,A,B,trivial,rfl⟩;simp only [Instr.mapUpdate,aI,I,aB,γ,run_getObj_map o,D,H,found];rw [run_setObj_map o];have q:(⟨g.map (js m)⟩:Array MapEntry).push {key:=γ m k,val:=γ m v,born:=j} =⟨(g++ [(⟨k,v,j⟩:lK)]).map (js m)⟩:=by apply eO;simp [js]
     rw [q];rfl
    |some p=>
     obtain ⟨i,u⟩:=p;simp only;obtain ⟨A,B,R⟩:=z.Qm (n:=n) C (.map (ye v k i g) j) (.map ⟨(ye v k i g).map (js m)⟩ j) (w':= {w with heap:=w.heap.setIfInBounds (m.b n) (.map ⟨(ye v k i g).map (js m)⟩ j)})
      (by simp) rfl (fun e s=>by
       rcases afL i g e s with s|⟨U,W⟩
       all_goals grind) rfl rfl rfl rfl
     refine ⟨m,_,.skip,?_,.inr ⟨rfl,rfl⟩,A,B,trivial,rfl⟩;obtain ⟨e,M,_,N⟩:=afM g 0 i u G;have l:((((⟨g.map (js m)⟩:Array MapEntry)[i]?).map (·.key)).getD (γ m k))=γ m k:=by
      have J:g[i]? =some e:=by simpa using M
      simp [J,js,N]
     have x:(Instr.keyThatStays (γ m k) (γ m k)).run P w= .ok (γ m k) w:=by simp [Instr.keyThatStays,aoN (m:=m) y]
     simp only [Instr.mapUpdate,aI,I,aB,γ,run_getObj_map o,D,H,found,l,x];rw [run_setObj_map o];have q:(⟨g.map (js m)⟩:Array MapEntry).modify i (fun e=> {key:=γ m k,val:=γ m v,born:=e.born})=⟨(ye v k i g).map (js m)⟩:=by apply eO;rw [afK];simp
     rw [q];rfl
def aoO (ok:eD P E) (t:TypeId) (a k v:Operand):gZ P E (.mapUpdate t a k v) (lh E (.mapUpdate t a k v)):=fun S m h s ρ w o j l b=>by
 obtain ⟨i,_⟩:=iV (E:=E) b a;obtain ⟨d,f⟩:=iV (E:=E) b k;obtain ⟨p,q⟩:=iV (E:=E) b v;have:=afN (P:=P) ok l (t:=t) (a:=(bP E a).g s) f q;rw [<-i,<-d,<-p] at this;have e:execOp ρ o=(do Instr.mapUpdate t (ρ a) (ρ k) (ρ v);pure .skip):=by simp only [execOp,j]
 rw [e];exact this
def aoP (ok:eD P E) (t:TypeId) (a k v:Operand):gZ P E (.insert t a k v) (lh E (.insert t a k v)):=fun S m h s ρ w o j l b=>by
 obtain ⟨i,_⟩:=iV (E:=E) b a;obtain ⟨d,f⟩:=iV (E:=E) b k;obtain ⟨p,q⟩:=iV (E:=E) b v;have:=afN (P:=P) ok l (t:=t) (a:=(bP E a).g s) f q;rw [<-i,<-d,<-p] at this;have e:execOp ρ o=(do Instr.mapUpdate t (ρ a) (ρ k) (ρ v);pure .skip):=by simp only [execOp,j]
 rw [e];exact this
end
end
section
variable [aJ] {S:Nat->Prop}
section
variable {P:Program} {E:Env}
def bR.aap {G:gb} {m:Mp} {h:aP} {w w':World} (r:bR G S m h w) (e:w'.heap=w.heap):bR G S m h w':=
 ⟨fun n a=>by rw [e];exact r.blk n a,r.fresh,r.apart,r.mem,r.mq,r.ins,fun g l f=>by rw [e];exact r.qF g l f,fun n id a i o=>r.jf n id a i fun b d j k=>by simp_all,fun b d=>by rw [e];exact r.lim b d⟩
def aoQ {x:aj} {k:Nat->OR} {r:OR} (h:UG x .fail k=r) (a:r≠ .fail): ∃n,(∀m w,(Builtin.lenOf (γ m x)).run P w= .ok n w)/\k n=r/\(∀s,x= .str s->n=s.length)/\(x= .jP->n=0):=by
 unfold UG at h;cases x<;>try grind
 ·rename_i n off l c
  refine ⟨l,fun m w=> ?_,h,fun s e=>(by cases e),fun e=>(by cases e)⟩;cases c<;>simp [γ,Builtin.lenOf]
 ·rename_i s
  change sW s.length k=r at h;rw [yh] at h;exact ⟨s.length,fun m w=>by simp [γ,Builtin.lenOf];rfl,h,fun b e=>by cases e;rfl,fun e=>(by cases e)⟩
 ·exact ⟨0,fun m w=>by simp [γ,Builtin.lenOf],h,fun s e=>(by cases e),fun _=>rfl⟩
def aoR {m:Mp} {h:aP} {w0:World} (b:bR E.gl S m h w0) {size n:Nat} {x:aj} {l:List aj} (e:P9 h size n x=some l):
 i9 (aF h) l/\(∀w,bR E.gl S m h w->(Builtin.firstCells size n (γ m x)).run P w= .ok ⟨aV m l⟩ w)/\((∀s,x= .str s->n<=s.length)->(x= .jP->n=0)->l.length=n*size):=by
 unfold P9 at e;cases x<;>try (cases e;done)
 ·rename_i q off len c
  simp only at e;refine ⟨(b.u5 e).2.1,fun w i=> ?_,fun _ _=>(b.u5 e).1⟩;have:=i.Qh (P:=P) e;cases c<;>exact this
 ·rename_i s
  simp only at e;obtain ⟨f,g⟩:=Ht e;cases g;have a:=beq_iff.1 f;refine ⟨aam _,fun w _=> ?_,fun j _=> ?_⟩
  ·simp only [γ,Builtin.firstCells,afy,List.drop_zero,oQ,Qs]
   simp
  ·rw [aan,bM,dV (j s rfl),a,fk]
 ·cases e
  exact ⟨trivial,fun w _=>by simp [γ,Builtin.firstCells,aV],fun _ d=>by rw [d rfl];simp⟩
omit [aJ] in
def aoS {b n:Nat} (h:roomy b n=true):(8*n+4096)*b<=281474976710656/\n<=281474976710656/\0<b:=by
 unfold roomy at h;rw [au,au] at h;exact ⟨p7.1 h.1,p7.1 h.2.1,sw.1 h.2.2⟩
def Ve (w:World) (o:Obj):World:= {w with heap:=w.heap.push o,drawn:=w.drawn+1}
def aaq {m:Mp} {h:aP} {w:World} (s:bR E.gl S m h w) (ok:eD P E) {u y e:TypeId} {i:TypeInfo} {d:TypeDesc} (F:E.cQ u=some (.slice e)) (Q:E.cQ y=some d) (R: ∀k,d≠ .int k)
 (hi:E.ty e=some i) {z:List aj} (J:AU E e 0=some z) (ty:TypeId) {base:Option Addr} {sLen sCap n:Nat} {x:aj} {old new:List aj}
 (f:(Builtin.lenOf (γ m x)).run P w= .ok n w) (C: ∀w,bR E.gl S m h w->(Builtin.firstCells i.size n (γ m x)).run P w= .ok ⟨aV m new⟩ w)
 (g: ∀w,bR E.gl S m h w->(Builtin.firstCells i.size sLen (.slice base sLen sCap)).run P w= .ok ⟨aV m old⟩ w)
 (B:sCap<sLen+n) (j:roomy i.bytes (sLen+n)=true) (H:(old++new).length=(sLen+n)*i.size):
 ∃cap a,sLen+n<=cap/\(aV m (old++new)++a).length=cap*i.size/\
  (Builtin.append_ #[u,y] ty #[.slice base sLen sCap,γ m x]).run P w= .ok (.slice (some ⟨w.heap.size,0,none⟩) (sLen+n) cap) (Ve w (.cells ⟨aV m (old++new)++a⟩ e)):=by
 obtain ⟨U,v,M,t,N,O,_⟩:=aao ok J;rw [hi] at t;cases t;obtain ⟨W,X,Y⟩:=aoS j;have b:sLen+n<=(Question.appendCap (sLen+n) sCap e).cut (w.tape w.drawn (Question.appendCap (sLen+n) sCap e)):=by
  simp only [Question.cut];omega
 generalize q:(Question.appendCap (sLen+n) sCap e).cut (w.tape w.drawn (Question.appendCap (sLen+n) sCap e))=cap at b;have G:v.cells.size=i.size:=by
  have A:v.cells=⟨aV m (aj.ofValue v).cells⟩:=by rw [<-Hn (D:=fun _=>False) m (zJ _ v),FD]
  rw [A];simp [oJ,O]
 refine ⟨cap,(Builtin.zeroCells v.cells (cap-(sLen+n))).toList,b,?_,?_⟩
 ·rw [aX,oJ,H,Array.length_toList,size_zeroCells,G,<-dF];congr 1;omega
 ·have T:Builtin.nextslicecap (sLen+n) sCap*i.bytes<=281474976710656:=growslice_fits B (by
   have:(sLen+n)*i.bytes<=(8*(sLen+n)+4096)*i.bytes/2:=by
    rw [cK (by omega)];rw [bF,bE i.bytes 2,<-bF];exact aN _ (by omega)
   omega)
  have l:(Question.appendCap (sLen+n) sCap e).forced=false:=rfl;have I: ¬(sLen+n<=sCap):=by omega
  have o: ¬(9223372036854775807<((sLen:Int)+(n:Int))):=by omega
  have p: ¬(281474976710656<Builtin.nextslicecap (sLen+n) sCap*i.bytes):=by omega
  simp [Builtin.append_,run_underlying (ok.cQ F),run_underlying (ok.cQ Q),Go.sizeOf,typeInfo,zeroValue,M,N,f,I,o,p,l,newRow,q];rw [g w.drew (s.aap rfl)];simp only [aB];rw [C w.drew (s.aap rfl)];simp only [aB];have e:((⟨aV m old⟩:Array Value)++((⟨aV m new⟩:Array Value)++Builtin.zeroCells v.cells (cap-(sLen+n))))=⟨aV m (old++new)++(Builtin.zeroCells v.cells (cap-(sLen+n))).toList⟩:=by
   apply eO;simp [FC]
  rw [e];rfl
def aar {m:Mp} {h:aP} {w w':World} (t:bR E.gl S m h w) (ok:eD P E) {l o e:TypeId} {i:TypeInfo} {d:TypeDesc} (q:E.cQ l=some (.slice e)) (u:E.cQ o=some d) (y: ∀k,d≠ .int k)
 (hi:E.ty e=some i) (ty:TypeId) {b off sLen sCap n:Nat} {x:aj} {new:List aj}
 (a:(Builtin.lenOf (γ m x)).run P w= .ok n w) (p: ∀w,bR E.gl S m h w->(Builtin.firstCells i.size n (γ m x)).run P w= .ok ⟨aV m new⟩ w)
 (j:sLen+n<=sCap) (g:(storeCells ⟨b,off+sLen*i.size,none⟩ (aV m new)).run P w= .ok () w'):
 (Builtin.append_ #[l,o] ty #[.slice (some ⟨b,off,none⟩) sLen sCap,γ m x]).run P w= .ok (.slice (some ⟨b,off,none⟩) (sLen+n) sCap) w':=by
 have s:=p w t;have f:(⟨b,off,none⟩:Addr).add (sLen*i.size)=⟨b,off+sLen*i.size,none⟩:=FG _ _ _;simp [Builtin.append_,run_underlying (ok.cQ q),run_underlying (ok.cQ u),Go.sizeOf,typeInfo,ok.ty e i hi,a,j,s,f,g]
def append_nil {m:Mp} {h:aP} {w:World} (o:bR E.gl S m h w) (ok:eD P E) {b f e:TypeId} {i:TypeInfo} {d:TypeDesc} (j:E.cQ b=some (.slice e)) (p:E.cQ f=some d) (q: ∀k,d≠ .int k)
 (hi:E.ty e=some i) (ty:TypeId) {x:aj} {new:List aj}
 (a:(Builtin.lenOf (γ m x)).run P w= .ok 0 w) (g: ∀w,bR E.gl S m h w->(Builtin.firstCells i.size 0 (γ m x)).run P w= .ok ⟨aV m new⟩ w):
 (Builtin.append_ #[b,f] ty #[.slice none 0 0,γ m x]).run P w= .ok (.slice none 0 0) w:=by
 have l:=g w o;simp [Builtin.append_,run_underlying (ok.cQ j),run_underlying (ok.cQ p),Go.sizeOf,typeInfo,ok.ty e i hi,a,l]
end
end
section
variable [aJ] {S:Nat->Prop}
section
variable {P:Program} {E:Env}
def bR.aoY {G:gb} {m:Mp} {h:aP} {w:World} (r:bR G S m h w) {n:Pos} {x:List aj} {e s:TypeId} {off:Nat}
 (f:(h.at n).obj= .cells x e s) (g:off<=x.length):
 let b:aP:=⟨forget off h.nx (n::h.al.get [] (h.at n).rt) h.t,h.nx,h.al,h.df⟩
 bR G S m b w/\Goes m h w m b w/\(∀k,aF b k↔aF h k)/\b.at n=⟨.cells (x.take off) e s,(h.at n).rt⟩/\(∀k,(b.at k).rt=(h.at k).rt):=by
 intro b;obtain ⟨_,_,a,j,d,hc,i⟩:=r.cells f;have:=r.ae5 (vs:= []) f d hc i g (by simp [oJ];omega);simp only [im,fo,dt,eZ] at this;rw [show (aV m x++a).toArray=(⟨aV m x++a⟩:Array Value) from rfl,setRow_self w _ _ _ _ d] at this;exact this
def aoZ (ok:eD P E) {c:Call} {x y:Operand} (hc:c.callee= .builtin .append) (ha:c.args.toList= [x,y]):
 gZ P E (.call c) (.wr fun tm h=>(ZI E c.argTypes.toList).f h ((bP E x).g tm) ((bP E y).g tm)):=fun S m h tm ρ w o ho A hs=>by
 obtain ⟨h1,h2⟩:=iV (E:=E) hs x;obtain ⟨g1,g2⟩:=iV (E:=E) hs y;simp only;generalize (bP E x).g tm=a at h1 h2;generalize (bP E y).g tm=b at g1 g2;rw [Km ho hc,Kn ha];have key: ∀W Y,c.argTypes.toList= [W,Y]-> ∀e,E.cQ W=some (.slice e)-> ∀d,E.cQ Y=some d->(∀k,d≠ .int k)-> ∀i,E.ty e=some i-> ∀z,AU E e 0=some z->
  ∀r,(UG b .fail fun n=>Option.casesOn (P9 h i.size n b) .fail fun new=>ZH e i.size i.bytes h a n new)=r->
  Kj P E S m h w (builtin .append c.argTypes o.type (c.args.map fun| .const _=>true|_=>false) ⟨[x,y].map ρ⟩) r:=by
  intro W Y MZ e N d X u i O z hz r ur;by_cases I:r= .fail
  ·subst I;exact trivial
  obtain ⟨n,C,p,aEQ,Hx⟩:=aoQ ur I;cases hsc:P9 h i.size n b with
  |none=>simp_all
  |some new=>
   rw [hsc] at p;simp only at p;obtain ⟨n1,n2,Q⟩:=aoR (P:=P) A hsc;have Q:=Q (fun s e=>by simp_all) Hx;rw [U8 MZ];simp only [cI,lO,h1,g1];have fin: ∀ {val:Value} {w':World},(Builtin.append_ #[W,Y] o.type #[γ m a,γ m b]).run P w= .ok val w'->(builtin .append ⟨[W,Y]⟩ o.type (c.args.map fun| .const _=>true|_=>false) ⟨[γ m a,γ m b]⟩).run P w= .ok (.value val) w':=fun {val w'} hh=>by
    show ((do pure (Next.value (<-Builtin.append_ #[W,Y] o.type #[γ m a,γ m b])):Sem Next)).run P w=_;simp [hh]
   unfold ZH at p;cases a<;>try (exact absurd p.symm I)
   case jP=>
    simp only at p;cases mT:Nat.beq n 0 with
    |true=>
     rw [mT] at p;simp only [cond_true] at p;subst p;have:=beq_iff.1 mT;subst this;exact ⟨m,w,_,fin (append_nil A ok N X u O o.type (C m w) n2),.inl rfl,A,Goes.refl m h w,trivial,rfl⟩
    |false=>
     rw [mT] at p;simp only [cond_false] at p;cases G:roomy i.bytes n with
     |false=>rw [G] at p;exact absurd p.symm I
     |true=>
      rw [G] at p;simp only [cond_true] at p;subst p;have hn:0<n:=by
       rcases cC n with h0|h0
       ·subst h0;cases mT
       ·exact h0
      obtain ⟨cap,rest,k1,k2,k3⟩:=aaq (P:=P) A ok N X u O hz o.type (base:=none) (sLen:=0) (sCap:=0) (old:= []) (new:=new) (C m w) n2 (fun w' _=>by simp [Builtin.firstCells,aV]) (by omega) (by simpa using G) (by simpa using Q);simp only [im,cV] at k1 k2 k3;obtain ⟨R,T,U⟩:=A.Kh (ob:= .cells new e i.size) (o:= .cells ⟨aV m new++rest⟩ e) (w':=Ve w (.cells ⟨aV m new++rest⟩ e)) (cap:=cap) ⟨rfl,rfl,rfl,rfl⟩ (by simp)
       ⟨rest,(0,0),by rw [A5 (D:=aF h) (fun u=>bO _ (A.fresh _ u)) n1],by rw [A5 (D:=aF h) (fun u=>bO _ (A.fresh _ u)) n1,Mp.Kg];exact k2,fun j _=>by simp⟩ n1
      refine ⟨_,_,_,fin k3,.inl ?_,R,T,U,rfl⟩;simp [γ,Mp.set,Mp.c]
   case i7 q off len cp=>
    simp only [yh] at p;cases cp with
    |exact cc=>
     simp only [ML] at p;cases M:Nat.ble (Nat.add len n) cc with
     |true=>
      rw [M] at p;simp only [cond_true] at p;cases aas:h.store q (Nat.add off (Nat.mul len i.size)) new with
      |none=>rw [aas] at p;exact absurd p.symm I
      |some h'=>
       rw [aas] at p;simp only at p;subst p;obtain ⟨w',s1,s2,s3,s4,s5⟩:=A.store aas n1 P;have ar:=aar (P:=P) A ok N X u O o.type (b:=m.b q) (off:=off) (sLen:=len) (sCap:=cc) (C m w) n2 (p7.1 M) s1;exact ⟨m,w',_,fin ar,.inl rfl,s2,s3,(s5 q).2 h2,s4⟩
     |false=>
      rw [M] at p;simp only [cond_false] at p;cases G:roomy i.bytes (Nat.add len n) with
      |false=>rw [G] at p;exact absurd p.symm I
      |true=>
       rw [G] at p;simp only [cond_true] at p;cases hl:h.u5 q off (Nat.mul len i.size) with
       |none=>rw [hl] at p;exact absurd p.symm I
       |some old=>
        rw [hl] at p;simp only at p;subst p;have Hw:cc<len+n:=by
         rcases bV cc (len+n) with h0|h0
         ·exact h0
         ·have:Nat.ble (Nat.add len n) cc=true:=p7.2 h0
          rw [this] at M;cases M
        obtain ⟨l1,l2,_⟩:=A.u5 hl;have l1':old.length=len*i.size:=l1;obtain ⟨cap,rest,k1,k2,k3⟩:=aaq (P:=P) A ok N X u O hz o.type (base:=some ⟨m.b q,off,none⟩) (sLen:=len) (sCap:=cc) (old:=old) (new:=new) (C m w) n2
         (fun w' ur=>by simp only [Builtin.firstCells];exact ur.Qh hl) Hw G (by rw [aX,l1',Q,dF])
        have bz:i9 (aF h) (old++new):=(mn _).2 fun v J=>by
         rcases bZ.1 J with J|J
         ·exact (mn _).1 l2 v J
         ·exact (mn _).1 n1 v J
        rw [Qf];obtain ⟨R,T,U⟩:=A.Kh (ob:= .cells (old++new) e i.size) (o:= .cells ⟨aV m (old++new)++rest⟩ e) (w':=Ve w (.cells ⟨aV m (old++new)++rest⟩ e)) (cap:=cap) ⟨rfl,rfl,rfl,rfl⟩ (by simp)
         ⟨rest,(0,0),by rw [A5 (D:=aF h) (fun u=>bO _ (A.fresh _ u)) bz],by rw [A5 (D:=aF h) (fun u=>bO _ (A.fresh _ u)) bz,Mp.Kg];exact k2,fun j _=>by simp⟩ bz
        refine ⟨_,_,_,fin k3,.inl ?_,R,T,U,rfl⟩;simp [γ,Mp.set,Mp.c]
    |rest dd=>
     simp only [ML] at p;cases eV:(Nat.beq dd 0&&Nat.beq off 0) with
     |false=>rw [eV] at p;exact absurd p.symm I
     |true=>
      rw [eV] at p;rw [au] at eV;have:=beq_iff.1 eV.1;subst this;have:=beq_iff.1 eV.2;subst this;simp only [cond_true] at p;cases eR:(h.at q).obj<;>rw [eR] at p<;>try (exact absurd p.symm I)
      rename_i F e' s';simp only [cellsOf] at p;cases hq:(Nat.beq e' e&&(Nat.beq s' i.size&&Nat.blt 0 i.size)) with
      |false=>rw [hq] at p;exact absurd p.symm I
      |true=>
       rw [hq] at p;rw [au,au] at hq;have:=beq_iff.1 hq.1;subst this;have:=beq_iff.1 hq.2.1;subst this;have Qr:=sw.1 hq.2.2;simp only [cond_true] at p;cases ht:Hc (Nat.mul len i.size) F with
       |none=>rw [ht] at p;exact absurd p.symm I
       |some old=>
        rw [ht] at p;simp only at p;obtain ⟨t1,t2⟩:=ZR _ _ _ ht;have mA:len*i.size<=F.length:=t1;have t2':old=F.take (len*i.size):=t2;obtain ⟨PQ,D2,H,fz,hh,Qu,FH⟩:=A.cells eR;have xz:len<=m.c q:=by
         have h6:F.length<=m.c q*i.size:=by rw [<-Qu];simp [oJ]
         exact bS (aK mA h6) Qr
        cases mT:Nat.beq n 0 with
        |true=>
         rw [mT] at p;simp only [cond_true] at p;subst p;have:=beq_iff.1 mT;subst this;have ao0:new= []:=by
          have:new.length=0:=by rw [Q];simp
          exact cJ this
         subst ao0;have ar:=aar (P:=P) A ok N X u O o.type (b:=m.b q) (off:=0) (sLen:=len) (sCap:=m.c q) (w':=w) (C m w) n2 (by simpa using xz) (by simp [aV,storeCells]);refine ⟨m,w,_,fin (by simpa [γ] using ar),.inl rfl,A,Goes.refl m h w,h2,rfl⟩
        |false=>
         rw [mT] at p;simp only [cond_false] at p;cases G:(roomy i.bytes (Nat.add len n)&&MG new) with
         |false=>rw [G] at p;exact absurd p.symm I
         |true=>
          rw [G] at p;rw [au] at G;simp only [cond_true] at p;subst p;rw [Qf];have bz:i9 (aF h) (old++new):=(mn _).2 fun v J=>by
           rcases bZ.1 J with J|J
           ·rw [t2'] at J;exact (mn _).1 D2 v (dr J)
           ·exact (mn _).1 n1 v J
          have aat:old.length=len*i.size:=by rw [t2',bM,dV mA]
          have afP: ¬aF h h.nx:=fun u=>bO _ (A.fresh _ u)
          by_cases FP:len+n<=m.c q
          ·
           have Hy:len*i.size+(aV m new).length<=(aV m F++H).length:=by
            rw [Qu,oJ,Q,<-dF];exact aN _ FP
           have iY:=ZY P (m.b q) (0+len*i.size) _ fz (aV m new) 0 ⟨aV m F++H⟩ w hh FH (by simpa using Hy) (aeZ m new G.2);simp only [cV,dt] at iY;rw [show ((aV m F++H).take (len*i.size)++aV m new++(aV m F++H).drop (len*i.size+(aV m new).length))=(aV m F++H).take (len*i.size)++(aV m new++(aV m F++H).drop (len*i.size+(aV m new).length)) by simp] at iY;have ar:=aar (P:=P) A ok N X u O o.type (b:=m.b q) (off:=0) (sLen:=len) (sCap:=m.c q) (C m w) n2 FP (by rw [cV];exact iY);obtain ⟨f1,f2,f3,f4,f5⟩:=A.ae5 (vs:=aV m new) eR hh Qu FH mA Hy;have hA:(aV m F++H).take (len*i.size)=aV m old:=by
            rw [fC (by rw [oJ];exact mA),t2',oZ,oZ,gD]
           have AZ:=setRow_heap w (m.b q) _ ((aV m F++H).take (len*i.size)++(aV m new++(aV m F++H).drop (len*i.size+(aV m new).length))).toArray _ fz hh;have FL:i9 (aF (⟨forget (len*i.size) h.nx (q::h.al.get [] (h.at q).rt) h.t,h.nx,h.al,h.df⟩:aP)) (old++new):=Ck (fun k p=>(f3 k).2 p) _ bz;have Qv: ¬aF (⟨forget (len*i.size) h.nx (q::h.al.get [] (h.at q).rt) h.t,h.nx,h.al,h.df⟩:aP) h.nx:=fun u=>afP ((f3 _).1 u)
           obtain ⟨R,T,U⟩:=f1.named (n:=q) (y:=old++new) (e:=e') (s:=i.size) (cap:=m.c q) (B:=m.b q) (l:=h.al.get [] (h.at q).rt) ((f3 q).2 PQ) (by rw [f4];rfl) (by rw [f4]) (.inl rfl) (aq _) AZ (fun _ _=>rfl) rfl rfl rfl
            ⟨(
             aV m F++H).drop (len*i.size+(aV m new).length),fz,by
             have Z:aV (m.set h.nx (m.b q) (m.c q)) (old++new)=aV m (old++new):=A5 Qv FL _ _;have e2:(aV m F++H).take (len*i.size)++(aV m new++(aV m F++H).drop (len*i.size+(aV m new).length))=aV m (old++new)++(aV m F++H).drop (len*i.size+(aV m new).length):=by
              rw [hA,FC,dR]
             show _=Obj.cells ⟨aV (m.set h.nx (m.b q) (m.c q)) (old++new)++_⟩ _ _;rw [Z,<-e2],by
             have Z:aV (m.set h.nx (m.b q) (m.c q)) (old++new)=aV m (old++new):=A5 Qv FL _ _;show (aV (m.set h.nx (m.b q) (m.c q)) (old++new)++_).length=_;rw [Z,Mp.Kg,aX,lj,Qu,oJ,aX,aat,oJ,Q];have:(len+n)*i.size<=m.c q*i.size:=aN _ FP;rw [dF] at this;omega,by
             have Z:aV (m.set h.nx (m.b q) (m.c q)) (old++new)=aV m (old++new):=A5 Qv FL _ _;show∀j,j<(aV (m.set h.nx (m.b q) (m.c q)) (old++new)++_).length->_;intro j hj;refine FH j ?_;rw [Z,aX,lj,oJ,aX,aat,oJ,Q] at hj;rw [Qu] at hj⊢;have:(len+n)*i.size<=m.c q*i.size:=aN _ FP;rw [dF] at this;omega⟩ FL
           rw [f5 q] at R T U;refine ⟨_,_,_,fin (by simpa [γ] using ar),.inl ?_,R,Goes.trans A f1 f2 T,U,rfl⟩;simp [γ,Mp.set,Mp.c]
          ·
           have Hw:m.c q<len+n:=by omega
           obtain ⟨cap,rest,k1,k2,k3⟩:=aaq (P:=P) A ok N X u O hz o.type (base:=some ⟨m.b q,0,none⟩) (sLen:=len) (sCap:=m.c q) (old:=old) (new:=new) (C m w) n2
            (fun w' ur=>by
             have hl:h.u5 q 0 (len*i.size)=some old:=by
              unfold aP.u5;rw [eR];simp only [cellsOf,ZQ,List.drop_zero];exact ht
             simp only [Builtin.firstCells];exact ur.Qh hl) Hw G.1 (by rw [aX,aat,Q,dF])
           obtain ⟨f1,f2,f3,f4,f5⟩:=A.aoY eR mA;have FL:i9 (aF (⟨forget (len*i.size) h.nx (q::h.al.get [] (h.at q).rt) h.t,h.nx,h.al,h.df⟩:aP)) (old++new):=Ck (fun k p=>(f3 k).2 p) _ bz;have Qv: ¬aF (⟨forget (len*i.size) h.nx (q::h.al.get [] (h.at q).rt) h.t,h.nx,h.al,h.df⟩:aP) h.nx:=fun u=>afP ((f3 _).1 u)
           have Z:aV (m.set h.nx w.heap.size cap) (old++new)=aV m (old++new):=A5 Qv FL _ _;obtain ⟨R,T,U⟩:=f1.named (n:=q) (y:=old++new) (e:=e') (s:=i.size) (cap:=cap) (B:=w.heap.size) (w':=Ve w (.cells ⟨aV m (old++new)++rest⟩ e')) (o:= .cells ⟨aV m (old++new)++rest⟩ e') (l:=h.al.get [] (h.at q).rt)
            ((f3 q).2 PQ) (by rw [f4];rfl) (by rw [f4]) (.inr rfl) (by show w.heap.size<=(w.heap.push _).size;simp) (by show (w.heap.push _)[w.heap.size]? =some _;simp) (fun b hb=>by show (w.heap.push _)[b]? =_;rw [jW,if_neg (gR hb)]) rfl rfl rfl
            ⟨rest,(0,0),by show _=Obj.cells ⟨aV (m.set h.nx w.heap.size cap) (old++new)++_⟩ _ _;rw [Z],by show (aV (m.set h.nx w.heap.size cap) (old++new)++_).length=_;rw [Z,Mp.Kg];exact k2,fun j _=>by simp⟩ FL
           rw [f5 q] at R T U;refine ⟨_,_,_,fin (by simpa [γ] using k3),.inl ?_,R,Goes.trans A f1 f2 T,U,rfl⟩;simp [γ,Mp.set,Mp.c]
 unfold ZI;cases MZ:c.argTypes.toList with
 |nil=>exact trivial
 |cons W ts=>
  cases ts with
  |nil=>exact trivial
  |cons Y ts=>
   cases ts with
   |cons _ _=>exact trivial
   |nil=>
    simp only;cases N:E.cQ W with
    |none=>exact trivial
    |some d1=>
     cases d1<;>try (exact trivial)
     rename_i e;cases X:E.cQ Y with
     |none=>exact trivial
     |some d=>
      by_cases u: ∃k,d= .int k
      ·obtain ⟨k,rfl⟩:=u;exact trivial
      ·have Mq: ∀k,d≠ .int k:=fun k e=>u ⟨k,e⟩
       cases d<;>first
        |exact absurd rfl (Mq _)
        |(
          simp only;cases O:E.ty e with
          |none=>exact trivial
          |some i=>
           cases hz:AU E e 0 with
           |none=>exact trivial
           |some z=>exact key W Y MZ e N _ X Mq i O z hz _ rfl)
end
end
end Go.Ev
