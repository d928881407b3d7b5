/- refineCopies_proved. -/
import Derived.Test.YthleenhngcdgkaaGreatDoorPmai
import Derived.Lib.UnsafeStr
import Derived.Laws.IdiomStrings
import Derived.Laws.MakeOwn
import Derived.Laws.Append
set_option maxRecDepth 100000
set_option maxHeartbeats 16000000
set_option linter.all false
noncomputable section
namespace Go.Ev
section
variable [aJ] {S:Nat->Prop}
section
variable {P:Program} {E:Env}
def ags (m:Mp) (F:Value->ByteArray->Sem (ForInStep ByteArray)) (d: ∀n r,F (.int .u8 n) r=pure (ForInStep.yield (r.push (UInt8.ofNat n.toNat)))): ∀(l:List ai) (s:List UInt8) (a:ByteArray) (w:World),bytesOf l=some s->
 (forIn (aW m l) a F).run P w= .ok ⟨⟨a.data.toList++s⟩⟩ w
 | [],s,a,w,h=>by cases h;simp [aW]
 |v::l,s,a,w,h=>by
  unfold bytesOf at h;cases v<;>try (cases h;done)
  rename_i k n;cases k<;>try (cases h;done)
  cases n<;>try (cases h;done)
  rename_i n;simp only at h;cases b:bytesOf l with
  |none=>rw [b] at h;cases h
  |some r=>
   rw [b] at h;simp only [yS,aX] at h;subst h;have e:=ags m F d l r (a.push (UInt8.ofNat n)) w b;simp only [aW,γ,List.forIn_cons,d,aI,bh,az];rw [show (Int.ofNat n).toNat=n from rfl,e];congr 1;apply nQ;simp [ByteArray.data_push]
def Rt (m:Mp): ∀l:List UInt8,aW m (uI l)=l.map fun b=> .int .u8 b.toNat
 | []=>rfl
 |b::l=>by simp only [uI,yS,aW,γ,Rt m l,cJ];rfl
omit [aJ] in
def aaZ {D:Pos->Prop} : ∀l:List UInt8,jn D (uI l)
 | []=>trivial
 |b::l=>by simp only [uI,yS];exact ⟨trivial,aaZ l⟩
omit [aJ] in
def aa0: ∀l:List UInt8,(uI l).length=l.length
 | []=>rfl
 |b::l=>by simp only [uI,yS,jg,aa0 l]
def apu (m:Mp) (l:List UInt8) (cap:Nat):bytesRow ⟨⟨l⟩⟩ cap=⟨aW m (uI l)++List.replicate (cap-l.length) (.int .u8 0)⟩:=by
 apply eJ;simp [bytesRow,Rt,ByteArray.size]
def apv (ok:eN P E) {s d e:TypeId} {x:Operand} (z:E.cU s=some .string) (A:E.cU d=some (.slice e)) (B:E.cU e=some (.int .u8)):
 iA P E (.convert s d x) (.wr fun p h=>match (bR E x).g p with
  | .str l=>th l.length fun n=> .ok (.jm h.nx 0 n (.rest 0)) (h.new (.cells (uI l) e 1))
  |_=> .fail):=by
 intro S m h p ρ w o D q F;obtain ⟨y,J⟩:=jf (E:=E) F x;simp only;generalize (bR E x).g p=u at y J;cases u<;>try (exact trivial)
 rename_i l;simp only [yS];have b:=run_bytes_of_string (P:=P) w s d e ⟨⟨l⟩⟩ (ok.cU z) (ok.cU A) (ok.cU B);have k:(⟨⟨l⟩⟩:ByteArray).size=l.length:=rfl;rw [k] at b;have M:l.length<=grownCap w l.length 0 e:=by simp only [grownCap,Question.cut];omega
 generalize N:grownCap w l.length 0 e=cap at b M;rw [apu m] at b;have a:(aW m (uI l)++List.replicate (cap-l.length) (Value.int .u8 0)).length=cap:=by
  rw [bp,o8,aa0,aV];omega
 have f:(⟨aW m (uI l)++List.replicate (cap-l.length) (Value.int .u8 0)⟩:Array Value).size=cap:=a;rw [f] at b;have Q: ¬aH h h.nx:=fun C=>bQ _ (q.fresh _ C)
 have i: ∀t:Mp,aW t (uI l)=aW m (uI l):=fun t=>by rw [Rt,Rt]
 obtain ⟨G,H,I⟩:=q.Lc (ob:= .cells (uI l) e 1) (o:= .cells ⟨aW m (uI l)++List.replicate (cap-l.length) (.int .u8 0)⟩ e (cap,cap+1))
  (w':=w.drew.alloc (.cells ⟨aW m (uI l)++List.replicate (cap-l.length) (.int .u8 0)⟩ e (cap,cap+1))) (cap:=cap) ⟨rfl,rfl,rfl,rfl⟩ (by simp)
  ⟨List.replicate (cap-l.length) (.int .u8 0),(cap,cap+1),by simp_all,by rw [i (m.set h.nx w.heap.size cap),Mp.Lb,fw];exact a,fun j O=>by grind⟩ (aaZ l)
 refine ⟨_,_,.value (.slice (some ⟨w.heap.size,0,none⟩) l.length cap),?_,.inl ?_,G,H,I,rfl⟩
 ·have:execOp ρ o=(do pure (.value (<-convert s d (ρ x)))):=by simp only [execOp,D]
  rw [this];simp only [aI,y,γ,b,az,bh]
 ·simp [γ,Mp.set,Mp.c]
def apx (ok:eN P E) (s d:TypeId) (x:Operand):iA P E (.convert s d x) (lO E (.convert s d x)):=by
 show iA P E (.convert s d x) (NT E s d x);have O: ∀(j:TypeDesc) (k:IntKind),E.cU s=some j->E.cU d=some (.int k)->iA P E (.convert s d x) (xX E (fun v=>match v with
  | .int _ n=>oZ k (yL k n)
  |_=>none) x):=fun j k p q=>Lh (fun a=>convert s d a) (fun ρ o H=>by simp only [execOp,H]) fun m D u v w Y i=>by
  cases u<;>try (cases i;done)
  rename_i Z n;have:=ya i;subst this;refine ⟨?_,trivial⟩;simp only [convert,aI,ok.nO p,ok.nO q,az,γ,yb];cases j<;>rfl
 generalize f:NT E s d x=K;unfold NT at f;cases p:E.cU s with
 |none=>rw [p] at f;subst f;exact ny _
 |some j=>
  cases q:E.cU d with
  |none=>rw [p,q] at f;cases j<;>(subst f;exact ny _)
  |some N=>
   rw [p,q] at f;cases N with
   |int k=>cases j<;>(subst f;exact O _ k p q)
   |string=>
    cases j<;>try (subst f;exact ny _)
    rename_i e;simp only at f;cases t:E.cU e with
    |none=>rw [t] at f;subst f;exact ny _
    |some B=>
     rw [t] at f;cases B<;>try (subst f;exact ny _)
     rename_i k;cases k<;>try (subst f;exact ny _)
     subst f;intro S m h X ρ v w o H R T i;obtain ⟨J,W⟩:=jf (E:=E) T x;simp only at i;generalize (bR E x).g X=a at J W i;have z:(convert s d (ρ x)).run P w= .ok (γ m v) w/\In (aH h) v:=by
      rw [J];cases a<;>try (cases i;done)
      ·rename_i n A len cap
       simp only at i;cases G:h.vw n A len with
       |none=>rw [G] at i;cases i
       |some l=>
        rw [G] at i;simp only at i;cases C:bytesOf l with
        |none=>rw [C] at i;cases i
        |some I=>
         rw [C] at i;cases i;refine ⟨?_,trivial⟩;have M:=R.Rg (P:=P) G;have U:=fun F Q=>ags (P:=P) m F Q l I ByteArray.empty w C
         have y: ∀c,(Conv.bytesToString (.slice (some ⟨m.b n,A,none⟩) len c)).run P w= .ok (γ m (.str I)) w:=fun c=>by
          simp only [Conv.bytesToString,aI,M,az];rw [<-Array.forIn_toList];rw [U _ (fun _ _=>rfl)];rfl
         cases cap<;>simp only [convert,aI,ok.nO p,ok.nO q,ok.nO t,az,γ,y]
      ·cases i
       exact ⟨by simp only [convert,aI,ok.nO p,ok.nO q,ok.nO t,az,γ];rfl,trivial⟩
     exact ⟨Gr (s:=convert s d (ρ x)) (by simp only [execOp,H]) z.1,z.2⟩
   |slice e=>
    cases j<;>try (subst f;exact ny _)
    simp only at f;cases t:E.cU e with
    |none=>rw [t] at f;subst f;exact ny _
    |some B=>
     rw [t] at f;cases B<;>try (subst f;exact ny _)
     rename_i k;cases k<;>try (subst f;exact ny _)
     subst f;exact apv ok p q t
   |_=>cases j<;>(subst f;exact ny _)
end
end
section
variable [aJ] {S:Nat->Prop}
section
variable {P:Program} {E:Env}
omit [aJ] in
def agt {ρ:Operand->Value} {o:Oper} {s:Sem Value} {w w':World} {r:Value} (a:execOp ρ o=(do pure (.value (<-s)))) (h:s.run P w= .ok r w'):(execOp ρ o).run P w= .ok (.value r) w':=by
 rw [a];simp [h]
omit [aJ] in
def agu (z:List Value): ∀n,((List.range (n*z.length)).map fun i=>z[i % z.length]!)=(List.replicate n z).flatten
 |0=>by simp
 |n+1=>by
  have a:=agu z n;rw [Nat.succ_mul,iH,List.range_add,lJ,ou,List.flatten_cons,<-a];congr 1
  ·apply kh
   intro i;by_cases h:i<z.length
   ·simp [h,dV h]
   ·simp [h]
  ·rw [kP]
   apply dy;intro i _;simp [Nat.add_mod_left]
def apy (m:Mp) (z:List ai) (n:Nat):aW m (CX z n)=(List.replicate n (aW m z)).flatten:=by
 rw [aaC,pD,pD]
 induction n with
 |zero=>simp
 |succ n a=>simp_all
def agv (m:Mp) (v:Value) (k n:Nat) (b:(ai.ofValue v).cells.length=k):madeCells v.cells (n*k)=⟨aW m (CX (ai.ofValue v).cells n)⟩:=by
 have a:v.cells=⟨aW m (ai.ofValue v).cells⟩:=by rw [<-IG (D:=fun _=>False) m (Ay _ v),Gk]
 subst b;rw [a,apy];apply eJ;simp only [madeCells,kL,Array.toList_range];rw [<-o8 m (ai.ofValue v).cells];rw [<-agu (aW m (ai.ofValue v).cells) n]
 all_goals grind
omit [aJ] in
def agw (z:List ai) (n:Nat):(CX z n).length=n*z.length:=by rw [aaC];simp
omit [aJ] in
def agx {D:Pos->Prop} {z:List ai} (h:jn D z) (n:Nat):jn D (CX z n):=by
 rw [aaC,mW];intro v d;obtain ⟨l,a,b⟩:=List.mem_flatten.1 d;rw [List.mem_replicate] at a;rw [a.2] at b;exact (mW _).1 h v b
def aa1 (ok:eN P E) {e:TypeId} {n:Nat} {z:List ai} (h:BA E e n=some z): ∃i v,P.info? e=some i/\E.ty e=some i/\i.zero=some v/\(ai.ofValue v).cells.length=i.size/\z=CX (ai.ofValue v).cells n:=by
 unfold BA at h;cases a:E.ty e with
 |none=>rw [a] at h;cases h
 |some i=>
  rw [a] at h;simp only at h;cases b:i.zero with
  |none=>rw [b] at h;cases h
  |some v=>
   rw [b] at h;simp only at h;obtain ⟨d,f⟩:=IP h;cases f;exact ⟨i,v,ok.ty e i a,rfl,b,beq_iff.1 d,rfl⟩
def V8 {m:Mp} {n:Pos} {l:List ai} {e:TypeId} {s cap:Nat} (hc:m.c n=cap) (a:l.length=cap*s:=by simp):vD m n (.cells l e s) (.cells ⟨aW m l⟩ e):=
 ⟨[],(0,0),by simp,by simp [o8,a,hc],fun j _=>by simp⟩
def BL {D:Pos->Prop} {m:Mp} {n:Pos} (f: ¬D n) {l:List ai} (h:jn D l) (a b:Nat):aW (m.set n a b) l=aW m l:=
 BG (fun k d=>Mp.BI m a b (fun e=>f (by rw [<-e];exact d))) l h
def apz (ok:eN P E) (e:TypeId):iA P E (.alloc e) (lO E (.alloc e)):=by
 show iA P E (.alloc e) (match E.zero e with
  |some z=> .nw fun _=>some (.cells z.cells e z.cells.length,.ptr)
  |none=> .bad)
 cases k:E.zero e with
 |none=>exact ny _
 |some z=>
  intro m D q ρ p mk w o h l j n g;cases j;obtain ⟨i,v,d,f,rfl⟩:=ok.zero k;have a:=IH (Ay D v);have b:v.cells=⟨aW m (ai.ofValue v).cells⟩:=by rw [<-IG (D:=D) m (Ay _ v),Gk]
  refine ⟨1,.cells ⟨aW m (ai.ofValue v).cells⟩ e,?_,?_,a,by simp⟩
  ·simp [execOp,h,Instr.alloc,VV d f,newVar,newRow,b,Mk.mk,γ,Mp.set]
  ·rw [<-BL g a w.heap.size 1]
   exact V8 (cap:=1) (by simp [Mp.set,Mp.c])
def apA (e:TypeId) (x:Operand):iA P E (.box e x) (lO E (.box e x)):=by
 intro m D k ρ l mk w o h i j n f;obtain ⟨d,b⟩:=jf (E:=E) i x;cases j;have a:=IH b;refine ⟨1,.cells ⟨aW m ((bR E x).g k).cells⟩ e,?_,?_,a,by simp⟩
 ·simp [execOp,h,Instr.box,newVar,newRow,d,IG m b,Mk.mk,γ,Mp.set]
 ·rw [<-BL f a w.heap.size 1]
  exact V8 (cap:=1) (by simp [Mp.set,Mp.c])
def apC (t:TypeId):iA P E (.makeMap t none) (lO E (.makeMap t none)):=by
 intro m D i ρ h mk w o b g d n f;cases d;exact ⟨0,.map #[] 0,by simp [execOp,b,Instr.makeMap,Mk.mk,γ,Mp.set],rfl,fun e a=>(nomatch a),by simp⟩
def apD (ok:eN P E) (t:TypeId) (l c:Operand):iA P E (.makeSlice t l c) (lO E (.makeSlice t l c)):=by
 show iA P E (.makeSlice t l c) (match E.cU t with
  |some (.slice e)=>match E.ty e with
   |some i=> .nw fun q=>yM ((bR E l).g q) none fun l=>yM ((bR E c).g q) none fun c=>
     cond (Nat.ble l c&&(Nat.ble (Nat.mul c i.bytes) 1099511627776&&Nat.ble c 1099511627776))
      (Option.casesOn (BA E e c) none fun z=>some (.cells z e i.size,.jm l c)) none
   |none=> .bad
  |_=> .bad)
 cases Q:E.cU t with
 |none=>exact ny _
 |some d=>
  cases d<;>try (exact ny _)
  rename_i e;simp only;cases O:E.ty e with
  |none=>exact ny _
  |some i=>
   intro m D q ρ ob mk w o N F u n M;obtain ⟨C,h2⟩:=jf (E:=E) F l;obtain ⟨B,g2⟩:=jf (E:=E) F c;simp only at u;generalize (bR E l).g q=a at C u;generalize (bR E c).g q=b at B u;have p: ∀ {v:ai} {k:Nat->Option (jR×Mk)} {r},yM v none k=some r-> ∃kd n,v= .int kd (.ofNat n)/\k n=some r:=fun {v k r} h=>by
    unfold yM at h;cases v<;>try (cases h;done)
    rename_i kd n;cases n with
    |negSucc n=>cases h
    |ofNat n=>grind
   obtain ⟨U,j,rfl,Y⟩:=p u;obtain ⟨W,f,rfl,x⟩:=p Y;cases hc:(Nat.ble j f&&(Nat.ble (Nat.mul f i.bytes) 1099511627776&&Nat.ble f 1099511627776)) with
   |false=>grind
   |true=>
    rw [hc] at x;simp only [cond_true] at x;rw [aq,aq] at hc;have c1:=qt.1 hc.1;have Z:f*i.bytes<=1099511627776:=qt.1 hc.2.1;have c3:=qt.1 hc.2.2;cases G:BA E e f with
    |none=>simp_all
    |some z=>
     rw [G] at x;cases x;obtain ⟨i',v,R,H,T,I,rfl⟩:=aa1 ok G;rw [O] at H;cases H;have A:jn D (CX (ai.ofValue v).cells f):=agx (IH (Ay D v)) f;refine ⟨f,.cells ⟨aW m (CX (ai.ofValue v).cells f)⟩ e,?_,?_,A,by simp⟩
     ·have X:(i.bytes:Int)*(f:Int)<=281474976710656:=by
       grind
      have J:=run_make (P:=P) w t e i v (ok.cU Q) R T U W (j:Int) (f:Int) (by omega) (by omega) X (by omega);rw [Int.toNat_natCast,Int.toNat_natCast,agv m v i.size f I] at J;refine agt (s:=Instr.makeSlice t (ρ l) (ρ c)) (by simp only [execOp,N]) ?_;rw [C,B];simp only [γ];rw [show (Int.ofNat j)=(j:Int) from rfl,show (Int.ofNat f)=(f:Int) from rfl,J];have y:γ (m.set n w.heap.size f) (Mk.mk (.jm j f) n)= .slice (some ⟨w.heap.size,0,none⟩) j f:=by simp [Mk.mk,γ,Mp.set]
      rw [y];rfl
     ·rw [<-BL M A w.heap.size f]
      exact V8 (cap:=f) (by simp [Mp.set,Mp.c]) (by rw [agw,I])
def apE (ok:eN P E) (t:TypeId) (len:Nat) (a:Array (Nat×Operand)):iA P E (.buildSlice t len a) (lO E (.buildSlice t len a)):=by
 show iA P E (.buildSlice t len a) (match E.cU t with
  |some (.slice e)=>match E.size e,BA E e len with
   |some s,some z=>
    cond (Nat.ble (Nat.mul len s) 16777216)
     (.nw fun j=>Option.casesOn (Ar (fun i=>some (Nat.mul i s,s)) (Gb E a) j z) none fun l=>some (.cells l e s,.jm len len)) .bad
   |_,_=> .bad
  |_=> .bad)
 cases H:E.cU t with
 |none=>exact ny _
 |some d=>
  cases d<;>try (exact ny _)
  rename_i e;simp only;cases U:E.size e with
  |none=>exact ny _
  |some s=>
   cases Y:BA E e len with
   |none=>exact ny _
   |some z=>
    simp only;cases hb:Nat.ble (Nat.mul len s) 16777216 with
    |false=>exact ny _
    |true=>
     intro m D j ρ ob mk w o X G h n W;have N: ∀x:Operand,In D ((bR E x).g j):=fun x=>(jf (E:=E) G x).2
     have M:(a.map fun (i,x)=>(i,ρ x)).toList=a.toList.map fun p=>(p.1,γ m ((bR E p.2).g j)):=by
      simp only [kL];apply dy;intro p _;rw [(jf (E:=E) G p.2).1]
     simp only at h;cases u:Ar (fun i=>some (Nat.mul i s,s)) (Gb E a) j z with
     |none=>rw [u] at h;cases h
     |some l=>
      rw [u] at h;cases h;obtain ⟨i,v,k,i2,Z,I,rfl⟩:=aa1 ok Y;obtain ⟨ii,J,j2⟩:=ok.size U;rw [k] at J;cases J;subst j2;have y:jn D (CX (ai.ofValue v).cells len):=agx (IH (Ay D v)) len;obtain ⟨R,C,T⟩:=VZ N a.toList _ _ u y;have f: ¬(len*i.size>2^24):=by simp_all
      refine ⟨len,.cells ⟨aW m l⟩ e,?_,?_,C,by simp⟩
      ·refine agt (s:=Instr.buildSlice t len (a.map fun (i,x)=>(i,ρ x))) (by simp only [execOp,X]) ?_
       have mk:=agv m v i.size len I;unfold madeCells at mk;have q:Instr.fill (fun b=>some (b*i.size,i.size)) ((Array.range (len*i.size)).map fun x=>v.cells[x % v.cells.size]!) (a.map fun (i,x)=>(i,ρ x)).toList=some ⟨aW m l⟩:=by
        rw [mk,M];exact R
       by_cases F:len*i.size=0
       ·have Q:Instr.fill (fun b=>some (b*i.size,i.size)) (#[]:Array Value) (a.map fun (i,x)=>(i,ρ x)).toList=some ⟨aW m l⟩:=by
         grind
        have A:=ok.nO H w;have B:=Go.Ev.yX k w;have O:((Array.range (len*i.size)).map fun x=>(#[]:Array Value)[x % (#[]:Array Value).size]!)= #[]:=by simp_all
        simp only [Instr.buildSlice,aI,A,B,az,if_neg f,if_pos F,bh,O,Q];simp [newRow,Mk.mk,γ,Mp.set]
       ·have A:=ok.nO H w
        have B:=Go.Ev.yX k w;simp only [Instr.buildSlice,aI,A,B,az,if_neg f,F,if_false,bh,VV k Z];simp only [q];simp [newRow,Mk.mk,γ,Mp.set]
      ·rw [<-BL W C w.heap.size len]
       exact V8 (cap:=len) (by simp [Mp.set,Mp.c]) (by rw [T,agw,I])
end
end
section
variable [aJ] {S:Nat->Prop}
section
variable {P:Program} {E:Env}
def apF (ok:eN P E) (t:TypeId) (a x:Operand):iA P E (.store t a x) (lO E (.store t a x)):=by
 show iA P E (.store t a x) (match E.size t with
  |some k=> .wr fun d h=>match (bR E a).g d with
   | .ptr n b=>cond (Nat.beq ((bR E x).g d).cells.length k) (okU (h.store n b ((bR E x).g d).cells)) .fail
   |_=> .fail
  |none=> .bad)
 cases B:E.size t with
 |none=>exact ny _
 |some k=>
  intro S m h d ρ w o z A q;obtain ⟨l,u⟩:=jf (E:=E) q a;obtain ⟨j,e⟩:=jf (E:=E) q x;simp only;generalize (bR E a).g d=p at l u;generalize (bR E x).g d=v at j e;cases p<;>try (exact trivial)
  rename_i n b;simp only;cases y:Nat.beq v.cells.length k with
  |false=>exact trivial
  |true=>
   simp only [cond_true];cases s:h.store n b v.cells with
   |none=>exact trivial
   |some I=>
    obtain ⟨H,C,D,F,G,J⟩:=A.store s (IH e) P;refine ⟨m,H,.skip,?_,.inr ⟨rfl,rfl⟩,D,F,trivial,G⟩;have i:=ok.yX B w;have f:(γ m v).cells.size=k:=by rw [IG m e];simp [o8];exact beq_iff.1 y
    simp only [execOp,z,Instr.storeAt,aI,l,j,γ,Instr.sureAddr,bh,az,storeVar,i];rw [if_neg (by rw [f];simp),IG m e,C];rfl
omit [aJ] in
def agz {a b:ai} (h:uH a b=some true):a=b:=by
 unfold uH at h;cases a<;>cases b<;>try (cases h;done)
 ·rename_i e x f y
  simp only [sameKey] at h;cases d:nM e f with
  |false=>rw [d] at h;cases h
  |true=>rw [d,BF] at h;simp at h;rw [(BC _ _).1 d,h]
 ·simp [sameKey,K7] at h;rw [h]
 ·simp [IE] at h;rw [h]
omit [aJ] in
def agA: ∀ {a b:List ai},Bx a b=some true->a=b
 | [],[],_=>rfl
 | [],b::e,h=>by simp [Bx] at h
 |a::as,[],h=>by simp [Bx] at h
 |a::as,b::e,h=>by
  simp only [Bx] at h;cases d:uH a b with
  |none=>rw [d] at h;cases h
  |some q=>
   rw [d] at h;cases q with
   |false=>cases h
   |true=>rw [agz d,agA h]
omit [aJ] in
def apG {a b:ai} (h:Ga a b=some true):a=b:=by
 unfold Ga at h;cases a<;>cases b<;>first|exact agz h|(rw [agA h])
def V9 {m:Mp} {t:TypeId} {a:ai} (h:qv E t a=true) (n:Nat):Instr.sameBits n (γ m a) (γ m a)=true:=by
 unfold qv at h;cases b:E.cU t with
 |none=>rw [b] at h;cases h
 |some d=>
  rw [b] at h;cases d<;>cases a<;>first|(cases h;done)|(cases n<;>simp [γ,Instr.sameBits,beq_toListBytes])
def agB {m:Mp} (n:Nat): ∀(d:List Field) (l:List ai) (k:Nat),tZ E k d l=true-> ∀v∈l,Instr.sameBits n (γ m v) (γ m v)=true
 | [],[],_,_,v,b=>by cases b
 | [],a::l,_,h,_,_=>by simp [tZ] at h
 |f::d,[],_,h,_,_=>by simp [tZ] at h
 |f::d,a::l,k,h,v,b=>by
  obtain ⟨e,_,_,g⟩:=aaR h;rcases bq.1 b with rfl|b
  ·exact V9 e n
  ·exact agB n d l (k+1) g v b
def apH {m:Mp} {t:TypeId} {k:ai} {b:Bool} (h:(yN E t).f k k=some b):Instr.sameBits 10000 (γ m k) (γ m k)=true:=by
 unfold yN at h;cases a:E.cU t with
 |none=>rw [a] at h;cases h
 |some d=>
  rw [a] at h;cases d<;>try (cases h;done)
  ·exact V9 (t:=t) (by unfold qv;rw [a];cases k<;>first|(cases h;done)|rfl) _
  ·exact V9 (t:=t) (by unfold qv;rw [a];cases k<;>first|(cases h;done)|rfl) _
  ·exact V9 (t:=t) (by unfold qv;rw [a];cases k<;>first|(cases h;done)|rfl) _
  ·rename_i g
   cases i:E.gt t with
   |false=>rw [i] at h;cases h
   |true=>
    rw [i] at h;simp only [cond_true] at h;cases k<;>try (cases h;done)
    rename_i l;simp only at h;cases j:tZ E 0 g.toList l with
    |false=>rw [j] at h;cases h
    |true=>
     have fb:=agB (m:=m) 9999 g.toList l 0 j;have e: ∀n,(∀v∈l,Instr.sameBits n (γ m v) (γ m v)=true)->Instr.sameBits (n+1) (.agg ⟨aW m l⟩) (.agg ⟨aW m l⟩)=true:=fun n p=>by
      simp only [Instr.sameBits,beq_self_eq_true,Bool.true_and,dw];rintro ⟨x,y⟩ o;rw [pD] at o
      all_goals grind
     exact e 9999 fb
def agC (m:Mp) (v k:ai): ∀(i:Nat) (a:List ml),(yP v k i a).map (jJ m)=(a.map (jJ m)).modify i fun e=> {e with key:=γ m k,val:=γ m v}
 |_,[]=>by simp [yP]
 |0,e::a=>by simp [yP,jJ]
 |i+1,e::a=>by simp [yP,agC m v k i a]
omit [aJ] in
def agD {v k:ai} : ∀(i:Nat) (a:List ml) (e:ml),e∈yP v k i a->e∈a\/(e.key=k/\e.val=v)
 |_,[],e,h=>by simp [yP] at h
 |0,q::a,e,h=>by
  simp only [yP,bq] at h
  all_goals grind
 |i+1,q::a,e,h=>by
  simp only [yP,bq] at h;rcases h with rfl|h
  ·simp_all
  ·rcases agD i a e h with h|h
   all_goals grind
omit [aJ] in
def run_setObj_map {w:World} {r:Nat} {a:Array MapEntry} {cl:Nat} (h:w.heap[r]? =some (.map a cl)) (o:Obj):(setObj r o).run P w= .ok () {w with heap:=w.heap.setIfInBounds r o} :=by
 simp [setObj,Sem.run,h]
omit [aJ] in
def agE {k:ai} : ∀(a:List ml) (i:Nat) (j:Nat) (v:ai),yO k a i=some (some (j,v))-> ∃e,a[j-i]? =some e/\i<=j/\e.key=k
 | [],i,j,v,h=>by cases h
 |e::a,i,j,v,h=>by
  simp only [yO] at h;cases b:Ga k e.key with
  |none=>rw [b] at h;cases h
  |some q=>
   rw [b] at h;cases q with
   |true=>simp only [aX,Prod.mk.injEq] at h;obtain ⟨rfl,rfl⟩:=h;exact ⟨e,by simp,ak _,(apG b).symm⟩
   |false=>
    obtain ⟨d,f,g,l⟩:=agE a (i+1) j v h
    all_goals grind
def agF (ok:eN P E) {m:Mp} {h:aP} {w:World} (A:bV E.gl S m h w) {t:TypeId} {a k v:ai} (Y:In (aH h) k) (Z:In (aH h) v):
 Lg P E S m h w (do Instr.mapUpdate t (γ m a) (γ m k) (γ m v);pure .skip) ((VD E t).f h a k v):=by
 unfold VD;cases O:E.cU t with
 |none=>exact trivial
 |some d=>
  cases d<;>try (exact trivial)
  rename_i Q T;simp only;cases a<;>try (exact trivial)
  rename_i n;simp only;cases z:(yN E Q).f k k with
  |none=>exact trivial
  |some b=>
   simp only;cases G:(h.at n).obj<;>try (exact trivial)
   rename_i g j;simp only;cases H:yO k g 0 with
   |none=>exact trivial
   |some r=>
    obtain ⟨X,o,m2⟩:=A.N7 G;have D:(h.at n).obj.N4=true:=by rw [G];rfl
    have J:=ok.nO O w;have F:=agi (P:=P) (m:=m) ok z false w;have I:=agm (m:=m) ok z w H;cases r with
    |none=>
     simp only;obtain ⟨B,C,R⟩:=A.Rl (n:=n) D (.map (g++ [(⟨k,v,j⟩:ml)]) (j+1)) (.map ⟨(g++ [(⟨k,v,j⟩:ml)]).map (jJ m)⟩ (j+1)) (w':= {w with heap:=w.heap.setIfInBounds (m.b n) (.map ⟨(g++ [(⟨k,v,j⟩:ml)]).map (jJ m)⟩ (j+1))})
      (by simp) rfl (fun e x=>by
       grind) rfl rfl rfl rfl
     refine ⟨m,_,.skip,?_,.inr ⟨rfl,rfl⟩,B,C,trivial,rfl⟩;simp only [Instr.mapUpdate,aI,J,az,γ,run_getObj_map o,F,I,found];rw [run_setObj_map o];have s:(⟨g.map (jJ m)⟩:Array MapEntry).push {key:=γ m k,val:=γ m v,born:=j} =⟨(g++ [(⟨k,v,j⟩:ml)]).map (jJ m)⟩:=by apply eJ;simp [jJ]
     rw [s];rfl
    |some p=>
     obtain ⟨i,u⟩:=p;simp only;obtain ⟨B,C,R⟩:=A.Rl (n:=n) D (.map (yP v k i g) j) (.map ⟨(yP v k i g).map (jJ m)⟩ j) (w':= {w with heap:=w.heap.setIfInBounds (m.b n) (.map ⟨(yP v k i g).map (jJ m)⟩ j)})
      (by simp) rfl (fun e x=>by
       rcases agD i g e x with x|⟨U,W⟩
       all_goals grind) rfl rfl rfl rfl
     refine ⟨m,_,.skip,?_,.inr ⟨rfl,rfl⟩,B,C,trivial,rfl⟩;obtain ⟨e,M,_,N⟩:=agE g 0 i u H;have l:((((⟨g.map (jJ m)⟩:Array MapEntry)[i]?).map (·.key)).getD (γ m k))=γ m k:=by
      have q:g[i]? =some e:=by simpa using M
      simp [q,jJ,N]
     have y:(Instr.keyThatStays (γ m k) (γ m k)).run P w= .ok (γ m k) w:=by simp [Instr.keyThatStays,apH (m:=m) z]
     simp only [Instr.mapUpdate,aI,J,az,γ,run_getObj_map o,F,I,found,l,y];rw [run_setObj_map o];have s:(⟨g.map (jJ m)⟩:Array MapEntry).modify i (fun e=> {key:=γ m k,val:=γ m v,born:=e.born})=⟨(yP v k i g).map (jJ m)⟩:=by apply eJ;rw [agC];simp
     rw [s];rfl
def apI (ok:eN P E) (t:TypeId) (a k v:Operand):iA P E (.mapUpdate t a k v) (lO E (.mapUpdate t a k v)):=fun S m h s ρ w o j l b=>by
 obtain ⟨i,_⟩:=jf (E:=E) b a;obtain ⟨d,f⟩:=jf (E:=E) b k;obtain ⟨p,q⟩:=jf (E:=E) b v;have:=agF (P:=P) ok l (t:=t) (a:=(bR E a).g s) f q;rw [<-i,<-d,<-p] at this;have e:execOp ρ o=(do Instr.mapUpdate t (ρ a) (ρ k) (ρ v);pure .skip):=by simp only [execOp,j]
 rw [e];exact this
def apJ (ok:eN P E) (t:TypeId) (a k v:Operand):iA P E (.insert t a k v) (lO E (.insert t a k v)):=fun S m h s ρ w o j l b=>by
 obtain ⟨i,_⟩:=jf (E:=E) b a;obtain ⟨d,f⟩:=jf (E:=E) b k;obtain ⟨p,q⟩:=jf (E:=E) b v;have:=agF (P:=P) ok l (t:=t) (a:=(bR E a).g s) f q;rw [<-i,<-d,<-p] at this;have e:execOp ρ o=(do Instr.mapUpdate t (ρ a) (ρ k) (ρ v);pure .skip):=by simp only [execOp,j]
 rw [e];exact this
end
end
section
variable [aJ] {S:Nat->Prop}
section
variable {P:Program} {E:Env}
def bV.aa2 {G:gI} {m:Mp} {h:aP} {w w':World} (r:bV G S m h w) (e:w'.heap=w.heap):bV G S m h w':=
 ⟨fun n a=>by rw [e];exact r.blk n a,r.fresh,r.apart,r.mem,r.mX,r.ins,fun g l f=>by rw [e];exact r.qN g l f,fun n id a i o=>r.jt n id a i fun b d j k=>by simp_all,fun b d=>by rw [e];exact r.lim b d⟩
def apK {x:ai} {k:Nat->OR} {r:OR} (h:VC x .fail k=r) (b:r≠ .fail): ∃n,(∀m w,(Builtin.lenOf (γ m x)).run P w= .ok n w)/\k n=r/\(∀s,x= .str s->n=s.length)/\(x= .j7->n=0):=by
 unfold VC at h;cases x<;>try grind
 ·rename_i n a l c
  refine ⟨l,fun m w=> ?_,h,fun s e=>(by cases e),fun e=>(by cases e)⟩;cases c<;>simp [γ,Builtin.lenOf]
 ·rename_i s
  change th s.length k=r at h;rw [yS] at h;exact ⟨s.length,fun m w=>by simp [γ,Builtin.lenOf];rfl,h,fun d e=>by cases e;rfl,fun e=>(by cases e)⟩
 ·exact ⟨0,fun m w=>by simp [γ,Builtin.lenOf],h,fun s e=>(by cases e),fun _=>rfl⟩
def apL {m:Mp} {h:aP} {w0:World} (b:bV E.gl S m h w0) {size n:Nat} {x:ai} {l:List ai} (e:Q6 h size n x=some l):
 jn (aH h) l/\(∀w,bV E.gl S m h w->(Builtin.firstCells size n (γ m x)).run P w= .ok ⟨aW m l⟩ w)/\((∀s,x= .str s->n<=s.length)->(x= .j7->n=0)->l.length=n*size):=by
 unfold Q6 at e;cases x<;>try (cases e;done)
 ·rename_i q k len c
  simp only at e;refine ⟨(b.vw e).2.1,fun w i=> ?_,fun _ _=>(b.vw e).1⟩;have:=i.Rg (P:=P) e;cases c<;>exact this
 ·rename_i s
  simp only at e;obtain ⟨f,g⟩:=IP e;cases g;have a:=beq_iff.1 f;refine ⟨aaZ _,fun w _=> ?_,fun j _=> ?_⟩
  ·simp only [γ,Builtin.firstCells,agq,List.drop_zero,oL,Rt]
   simp
  ·rw [aa0,cY,fe (j s rfl),a,fw]
 ·cases e
  exact ⟨trivial,fun w _=>by simp [γ,Builtin.firstCells,aW],fun _ d=>by rw [d rfl];simp⟩
omit [aJ] in
def apM {b n:Nat} (h:roomy b n=true):(8*n+4096)*b<=281474976710656/\n<=281474976710656/\0<b:=by
 unfold roomy at h;rw [aq,aq] at h;exact ⟨qt.1 h.1,qt.1 h.2.1,sM.1 h.2.2⟩
def V' (w:World) (o:Obj):World:= {w with heap:=w.heap.push o,drawn:=w.drawn+1}
def aa3 {m:Mp} {h:aP} {w:World} (s:bV E.gl S m h w) (ok:eN P E) {u y e:TypeId} {i:TypeInfo} {d:TypeDesc} (F:E.cU u=some (.slice e)) (Q:E.cU y=some d) (R: ∀k,d≠ .int k)
 (hi:E.ty e=some i) {z:List ai} (J:BA E e 0=some z) (ty:TypeId) {base:Option Addr} {sLen sCap n:Nat} {x:ai} {old new:List ai}
 (f:(Builtin.lenOf (γ m x)).run P w= .ok n w) (C: ∀w,bV E.gl S m h w->(Builtin.firstCells i.size n (γ m x)).run P w= .ok ⟨aW m new⟩ w)
 (g: ∀w,bV E.gl S m h w->(Builtin.firstCells i.size sLen (.slice base sLen sCap)).run P w= .ok ⟨aW m old⟩ w)
 (B:sCap<sLen+n) (j:roomy i.bytes (sLen+n)=true) (H:(old++new).length=(sLen+n)*i.size):
 ∃cap a,sLen+n<=cap/\(aW m (old++new)++a).length=cap*i.size/\
  (Builtin.append_ #[u,y] ty #[.slice base sLen sCap,γ m x]).run P w= .ok (.slice (some ⟨w.heap.size,0,none⟩) (sLen+n) cap) (V' w (.cells ⟨aW m (old++new)++a⟩ e)):=by
 obtain ⟨U,v,M,t,N,O,_⟩:=aa1 ok J;rw [hi] at t;cases t;obtain ⟨W,X,Y⟩:=apM j;have b:sLen+n<=(Question.appendCap (sLen+n) sCap e).cut (w.tape w.drawn (Question.appendCap (sLen+n) sCap e)):=by
  simp only [Question.cut];omega
 generalize q:(Question.appendCap (sLen+n) sCap e).cut (w.tape w.drawn (Question.appendCap (sLen+n) sCap e))=cap at b;have G:v.cells.size=i.size:=by
  have A:v.cells=⟨aW m (ai.ofValue v).cells⟩:=by rw [<-IG (D:=fun _=>False) m (Ay _ v),Gk]
  rw [A];simp [o8,O]
 refine ⟨cap,(Builtin.zeroCells v.cells (cap-(sLen+n))).toList,b,?_,?_⟩
 ·rw [bp,o8,H,Array.length_toList,size_zeroCells,G,<-dE];congr 1;omega
 ·have T:Builtin.nextslicecap (sLen+n) sCap*i.bytes<=281474976710656:=growslice_fits B (by
   have:(sLen+n)*i.bytes<=(8*(sLen+n)+4096)*i.bytes/2:=by
    rw [cK (by omega)];rw [bD,bG i.bytes 2,<-bD];exact aN _ (by omega)
   omega)
  have l:(Question.appendCap (sLen+n) sCap e).forced=false:=rfl;have I: ¬(sLen+n<=sCap):=by omega
  have o: ¬(9223372036854775807<((sLen:Int)+(n:Int))):=by omega
  have p: ¬(281474976710656<Builtin.nextslicecap (sLen+n) sCap*i.bytes):=by omega
  simp [Builtin.append_,run_underlying (ok.cU F),run_underlying (ok.cU Q),Go.sizeOf,typeInfo,zeroValue,M,N,f,I,o,p,l,newRow,q];rw [g w.drew (s.aa2 rfl)];simp only [az];rw [C w.drew (s.aa2 rfl)];simp only [az];have e:((⟨aW m old⟩:Array Value)++((⟨aW m new⟩:Array Value)++Builtin.zeroCells v.cells (cap-(sLen+n))))=⟨aW m (old++new)++(Builtin.zeroCells v.cells (cap-(sLen+n))).toList⟩:=by
   apply eJ;simp [Gj]
  rw [e];rfl
def aa4 {m:Mp} {h:aP} {w w':World} (t:bV E.gl S m h w) (ok:eN P E) {l o e:TypeId} {i:TypeInfo} {d:TypeDesc} (q:E.cU l=some (.slice e)) (u:E.cU o=some d) (y: ∀k,d≠ .int k)
 (hi:E.ty e=some i) (ty:TypeId) {b off sLen sCap n:Nat} {x:ai} {new:List ai}
 (a:(Builtin.lenOf (γ m x)).run P w= .ok n w) (p: ∀w,bV E.gl S m h w->(Builtin.firstCells i.size n (γ m x)).run P w= .ok ⟨aW m new⟩ w)
 (j:sLen+n<=sCap) (g:(storeCells ⟨b,off+sLen*i.size,none⟩ (aW m new)).run P w= .ok () w'):
 (Builtin.append_ #[l,o] ty #[.slice (some ⟨b,off,none⟩) sLen sCap,γ m x]).run P w= .ok (.slice (some ⟨b,off,none⟩) (sLen+n) sCap) w':=by
 have s:=p w t;have f:(⟨b,off,none⟩:Addr).add (sLen*i.size)=⟨b,off+sLen*i.size,none⟩:=Gn _ _ _;simp [Builtin.append_,run_underlying (ok.cU q),run_underlying (ok.cU u),Go.sizeOf,typeInfo,ok.ty e i hi,a,j,s,f,g]
def append_nil {m:Mp} {h:aP} {w:World} (o:bV E.gl S m h w) (ok:eN P E) {b f e:TypeId} {i:TypeInfo} {d:TypeDesc} (j:E.cU b=some (.slice e)) (p:E.cU f=some d) (q: ∀k,d≠ .int k)
 (hi:E.ty e=some i) (ty:TypeId) {x:ai} {new:List ai}
 (a:(Builtin.lenOf (γ m x)).run P w= .ok 0 w) (g: ∀w,bV E.gl S m h w->(Builtin.firstCells i.size 0 (γ m x)).run P w= .ok ⟨aW m new⟩ w):
 (Builtin.append_ #[b,f] ty #[.slice none 0 0,γ m x]).run P w= .ok (.slice none 0 0) w:=by
 have l:=g w o;simp [Builtin.append_,run_underlying (ok.cU j),run_underlying (ok.cU p),Go.sizeOf,typeInfo,ok.ty e i hi,a,l]
end
end
section
variable [aJ] {S:Nat->Prop}
section
variable {P:Program} {E:Env}
def bV.apT {G:gI} {m:Mp} {h:aP} {w:World} (r:bV G S m h w) {n:Pos} {x:List ai} {e s:TypeId} {off:Nat}
 (g:(h.at n).obj= .cells x e s) (d:off<=x.length):
 let b:aP:=⟨forget off h.nx (n::h.al.get [] (h.at n).rt) h.t,h.nx,h.al,h.df⟩
 bV G S m b w/\Goes m h w m b w/\(∀k,aH b k↔aH h k)/\b.at n=⟨.cells (x.take off) e s,(h.at n).rt⟩/\(∀k,(b.at k).rt=(h.at k).rt):=by
 intro b;obtain ⟨_,_,a,j,f,hc,i⟩:=r.cells g;have:=r.afW (vs:= []) g f hc i d (by simp [o8];omega);simp only [jy,gj,dt,eS] at this;rw [show (aW m x++a).toArray=(⟨aW m x++a⟩:Array Value) from rfl,setRow_self w _ _ _ _ f] at this;exact this
def apU (ok:eN P E) {c:Call} {x y:Operand} (hc:c.callee= .builtin .append) (ha:c.args.toList= [x,y]):
 iA P E (.call c) (.wr fun tm h=>(aas E c.argTypes.toList).f h ((bR E x).g tm) ((bR E y).g tm)):=fun S m h tm ρ w o ho A hs=>by
 obtain ⟨h1,h2⟩:=jf (E:=E) hs x;obtain ⟨g1,g2⟩:=jf (E:=E) hs y;simp only;generalize (bR E x).g tm=a at h1 h2;generalize (bR E y).g tm=b at g1 g2;rw [Lj ho hc,Ll ha];have key: ∀W X,c.argTypes.toList= [W,X]-> ∀e,E.cU W=some (.slice e)-> ∀d,E.cU X=some d->(∀k,d≠ .int k)-> ∀i,E.ty e=some i-> ∀z,BA E e 0=some z->
  ∀r,(VC b .fail fun n=>Option.casesOn (Q6 h i.size n b) .fail fun new=>aar e i.size i.bytes h a n new)=r->
  Lg P E S m h w (builtin .append c.argTypes o.type (c.args.map fun| .const _=>true|_=>false) ⟨[x,y].map ρ⟩) r:=by
  intro W X hts e N d Y u i O z hz r uL;by_cases I:r= .fail
  ·subst I;exact trivial
  obtain ⟨n,C,p,aFY,IV⟩:=apK uL I;cases hsc:Q6 h i.size n b with
  |none=>simp_all
  |some new=>
   rw [hsc] at p;simp only at p;obtain ⟨n1,n2,Q⟩:=apL (P:=P) A hsc;have Q:=Q (fun s e=>by simp_all) IV;rw [V1 hts];simp only [cJ,kR,h1,g1];have fin: ∀ {val:Value} {w':World},(Builtin.append_ #[W,X] o.type #[γ m a,γ m b]).run P w= .ok val w'->(builtin .append ⟨[W,X]⟩ o.type (c.args.map fun| .const _=>true|_=>false) ⟨[γ m a,γ m b]⟩).run P w= .ok (.value val) w':=fun {val w'} hh=>by
    show ((do pure (Next.value (<-Builtin.append_ #[W,X] o.type #[γ m a,γ m b])):Sem Next)).run P w=_;simp [hh]
   unfold aar at p;cases a<;>try (exact absurd p.symm I)
   case j7=>
    simp only at p;cases j8:Nat.beq n 0 with
    |true=>
     rw [j8] at p;simp only [cond_true] at p;subst p;have:=beq_iff.1 j8;subst this;exact ⟨m,w,_,fin (append_nil A ok N Y u O o.type (C m w) n2),.inl rfl,A,Goes.refl m h w,trivial,rfl⟩
    |false=>
     rw [j8] at p;simp only [cond_false] at p;cases G:roomy i.bytes n with
     |false=>rw [G] at p;exact absurd p.symm I
     |true=>
      rw [G] at p;simp only [cond_true] at p;subst p;have hn:0<n:=by
       rcases bT n with h0|h0
       ·subst h0;cases j8
       ·exact h0
      obtain ⟨cap,rest,k1,k2,k3⟩:=aa3 (P:=P) A ok N Y u O hz o.type (base:=none) (sLen:=0) (sCap:=0) (old:= []) (new:=new) (C m w) n2 (fun w' _=>by simp [Builtin.firstCells,aW]) (by omega) (by simpa using G) (by simpa using Q);simp only [jy,dr] at k1 k2 k3;obtain ⟨R,T,U⟩:=A.Lc (ob:= .cells new e i.size) (o:= .cells ⟨aW m new++rest⟩ e) (w':=V' w (.cells ⟨aW m new++rest⟩ e)) (cap:=cap) ⟨rfl,rfl,rfl,rfl⟩ (by simp)
       ⟨rest,(0,0),by rw [BL (D:=aH h) (fun u=>bQ _ (A.fresh _ u)) n1],by rw [BL (D:=aH h) (fun u=>bQ _ (A.fresh _ u)) n1,Mp.Lb];exact k2,fun j _=>by simp⟩ n1
      refine ⟨_,_,_,fin k3,.inl ?_,R,T,U,rfl⟩;simp [γ,Mp.set,Mp.c]
   case jm q off len cp=>
    simp only [yS] at p;cases cp with
    |exact cc=>
     simp only [NS] at p;cases M:Nat.ble (Nat.add len n) cc with
     |true=>
      rw [M] at p;simp only [cond_true] at p;cases aa6:h.store q (Nat.add off (Nat.mul len i.size)) new with
      |none=>rw [aa6] at p;exact absurd p.symm I
      |some h'=>
       rw [aa6] at p;simp only at p;subst p;obtain ⟨w',s1,s2,s3,s4,s5⟩:=A.store aa6 n1 P;have ar:=aa4 (P:=P) A ok N Y u O o.type (b:=m.b q) (off:=off) (sLen:=len) (sCap:=cc) (C m w) n2 (qt.1 M) s1;exact ⟨m,w',_,fin ar,.inl rfl,s2,s3,(s5 q).2 h2,s4⟩
     |false=>
      rw [M] at p;simp only [cond_false] at p;cases G:roomy i.bytes (Nat.add len n) with
      |false=>rw [G] at p;exact absurd p.symm I
      |true=>
       rw [G] at p;simp only [cond_true] at p;cases hl:h.vw q off (Nat.mul len i.size) with
       |none=>rw [hl] at p;exact absurd p.symm I
       |some old=>
        rw [hl] at p;simp only at p;subst p;have IU:cc<len+n:=by
         rcases b6 cc (len+n) with h0|h0
         ·exact h0
         ·have:Nat.ble (Nat.add len n) cc=true:=qt.2 h0
          rw [this] at M;cases M
        obtain ⟨l1,l2,_⟩:=A.vw hl;have l1':old.length=len*i.size:=l1;obtain ⟨cap,rest,k1,k2,k3⟩:=aa3 (P:=P) A ok N Y u O hz o.type (base:=some ⟨m.b q,off,none⟩) (sLen:=len) (sCap:=cc) (old:=old) (new:=new) (C m w) n2
         (fun w' uL=>by simp only [Builtin.firstCells];exact uL.Rg hl) IU G (by rw [bp,l1',Q,dE])
        have bz:jn (aH h) (old++new):=(mW _).2 fun v J=>by
         rcases b8.1 J with J|J
         ·exact (mW _).1 l2 v J
         ·exact (mW _).1 n1 v J
        rw [Re];obtain ⟨R,T,U⟩:=A.Lc (ob:= .cells (old++new) e i.size) (o:= .cells ⟨aW m (old++new)++rest⟩ e) (w':=V' w (.cells ⟨aW m (old++new)++rest⟩ e)) (cap:=cap) ⟨rfl,rfl,rfl,rfl⟩ (by simp)
         ⟨rest,(0,0),by rw [BL (D:=aH h) (fun u=>bQ _ (A.fresh _ u)) bz],by rw [BL (D:=aH h) (fun u=>bQ _ (A.fresh _ u)) bz,Mp.Lb];exact k2,fun j _=>by simp⟩ bz
        refine ⟨_,_,_,fin k3,.inl ?_,R,T,U,rfl⟩;simp [γ,Mp.set,Mp.c]
    |rest dd=>
     simp only [NS] at p;cases fG:(Nat.beq dd 0&&Nat.beq off 0) with
     |false=>rw [fG] at p;exact absurd p.symm I
     |true=>
      rw [fG] at p;rw [aq] at fG;have:=beq_iff.1 fG.1;subst this;have:=beq_iff.1 fG.2;subst this;simp only [cond_true] at p;cases eY:(h.at q).obj<;>rw [eY] at p<;>try (exact absurd p.symm I)
      rename_i F e' s';simp only [cellsOf] at p;cases hq:(Nat.beq e' e&&(Nat.beq s' i.size&&Nat.blt 0 i.size)) with
      |false=>rw [hq] at p;exact absurd p.symm I
      |true=>
       rw [hq] at p;rw [aq,aq] at hq;have:=beq_iff.1 hq.1;subst this;have:=beq_iff.1 hq.2.1;subst this;have Rq:=sM.1 hq.2.2;simp only [cond_true] at p;cases ht:Iu (Nat.mul len i.size) F with
       |none=>rw [ht] at p;exact absurd p.symm I
       |some old=>
        rw [ht] at p;simp only at p;obtain ⟨t1,t2⟩:=aaB _ _ _ ht;have m5:len*i.size<=F.length:=t1;have t2':old=F.take (len*i.size):=t2;obtain ⟨QP,EI,H,fz,hh,Ru,yV⟩:=A.cells eY;have yd:len<=m.c q:=by
         have h6:F.length<=m.c q*i.size:=by rw [<-Ru];simp [o8]
         exact bU (aL m5 h6) Rq
        cases j8:Nat.beq n 0 with
        |true=>
         rw [j8] at p;simp only [cond_true] at p;subst p;have:=beq_iff.1 j8;subst this;have apV:new= []:=by
          have:new.length=0:=by rw [Q];simp
          exact b7 this
         subst apV;have ar:=aa4 (P:=P) A ok N Y u O o.type (b:=m.b q) (off:=0) (sLen:=len) (sCap:=m.c q) (w':=w) (C m w) n2 (by simpa using yd) (by simp [aW,storeCells]);refine ⟨m,w,_,fin (by simpa [γ] using ar),.inl rfl,A,Goes.refl m h w,h2,rfl⟩
        |false=>
         rw [j8] at p;simp only [cond_false] at p;cases G:(roomy i.bytes (Nat.add len n)&&NM new) with
         |false=>rw [G] at p;exact absurd p.symm I
         |true=>
          rw [G] at p;rw [aq] at G;simp only [cond_true] at p;subst p;rw [Re];have bz:jn (aH h) (old++new):=(mW _).2 fun v J=>by
           rcases b8.1 J with J|J
           ·rw [t2'] at J;exact (mW _).1 EI v (dG J)
           ·exact (mW _).1 n1 v J
          have aa7:old.length=len*i.size:=by rw [t2',cY,fe m5]
          have agH: ¬aH h h.nx:=fun u=>bQ _ (A.fresh _ u)
          by_cases Wa:len+n<=m.c q
          ·
           have IW:len*i.size+(aW m new).length<=(aW m F++H).length:=by
            rw [Ru,o8,Q,<-dE];exact aN _ Wa
           have iB:=aaH P (m.b q) (0+len*i.size) _ fz (aW m new) 0 ⟨aW m F++H⟩ w hh yV (by simpa using IW) (afQ m new G.2);simp only [dr,dt] at iB;rw [show ((aW m F++H).take (len*i.size)++aW m new++(aW m F++H).drop (len*i.size+(aW m new).length))=(aW m F++H).take (len*i.size)++(aW m new++(aW m F++H).drop (len*i.size+(aW m new).length)) by simp] at iB;have ar:=aa4 (P:=P) A ok N Y u O o.type (b:=m.b q) (off:=0) (sLen:=len) (sCap:=m.c q) (C m w) n2 Wa (by rw [dr];exact iB);obtain ⟨f1,f2,f3,f4,f5⟩:=A.afW (vs:=aW m new) eY hh Ru yV m5 IW;have hA:(aW m F++H).take (len*i.size)=aW m old:=by
            rw [fu (by rw [o8];exact m5),t2',pD,pD,gb]
           have BH:=setRow_heap w (m.b q) _ ((aW m F++H).take (len*i.size)++(aW m new++(aW m F++H).drop (len*i.size+(aW m new).length))).toArray _ fz hh;have Gs:jn (aH (⟨forget (len*i.size) h.nx (q::h.al.get [] (h.at q).rt) h.t,h.nx,h.al,h.df⟩:aP)) (old++new):=CZ (fun k p=>(f3 k).2 p) _ bz;have Rv: ¬aH (⟨forget (len*i.size) h.nx (q::h.al.get [] (h.at q).rt) h.t,h.nx,h.al,h.df⟩:aP) h.nx:=fun u=>agH ((f3 _).1 u)
           obtain ⟨R,T,U⟩:=f1.named (n:=q) (y:=old++new) (e:=e') (s:=i.size) (cap:=m.c q) (B:=m.b q) (l:=h.al.get [] (h.at q).rt) ((f3 q).2 QP) (by rw [f4];rfl) (by rw [f4]) (.inl rfl) (ak _) BH (fun _ _=>rfl) rfl rfl rfl
            ⟨(
             aW m F++H).drop (len*i.size+(aW m new).length),fz,by
             have Z:aW (m.set h.nx (m.b q) (m.c q)) (old++new)=aW m (old++new):=BL Rv Gs _ _;have e2:(aW m F++H).take (len*i.size)++(aW m new++(aW m F++H).drop (len*i.size+(aW m new).length))=aW m (old++new)++(aW m F++H).drop (len*i.size+(aW m new).length):=by
              rw [hA,Gj,fo]
             show _=Obj.cells ⟨aW (m.set h.nx (m.b q) (m.c q)) (old++new)++_⟩ _ _;rw [Z,<-e2],by
             have Z:aW (m.set h.nx (m.b q) (m.c q)) (old++new)=aW m (old++new):=BL Rv Gs _ _;show (aW (m.set h.nx (m.b q) (m.c q)) (old++new)++_).length=_;rw [Z,Mp.Lb,bp,kI,Ru,o8,bp,aa7,o8,Q];have:(len+n)*i.size<=m.c q*i.size:=aN _ Wa;rw [dE] at this;omega,by
             have Z:aW (m.set h.nx (m.b q) (m.c q)) (old++new)=aW m (old++new):=BL Rv Gs _ _;show∀j,j<(aW (m.set h.nx (m.b q) (m.c q)) (old++new)++_).length->_;intro j hj;refine yV j ?_;rw [Z,bp,kI,o8,bp,aa7,o8,Q] at hj;rw [Ru] at hj⊢;have:(len+n)*i.size<=m.c q*i.size:=aN _ Wa;rw [dE] at this;omega⟩ Gs
           rw [f5 q] at R T U;refine ⟨_,_,_,fin (by simpa [γ] using ar),.inl ?_,R,Goes.trans A f1 f2 T,U,rfl⟩;simp [γ,Mp.set,Mp.c]
          ·
           have IU:m.c q<len+n:=by omega
           obtain ⟨cap,rest,k1,k2,k3⟩:=aa3 (P:=P) A ok N Y u O hz o.type (base:=some ⟨m.b q,0,none⟩) (sLen:=len) (sCap:=m.c q) (old:=old) (new:=new) (C m w) n2
            (fun w' uL=>by
             have hl:h.vw q 0 (len*i.size)=some old:=by
              unfold aP.vw;rw [eY];simp only [cellsOf,aaA,List.drop_zero];exact ht
             simp only [Builtin.firstCells];exact uL.Rg hl) IU G.1 (by rw [bp,aa7,Q,dE])
           obtain ⟨f1,f2,f3,f4,f5⟩:=A.apT eY m5;have Gs:jn (aH (⟨forget (len*i.size) h.nx (q::h.al.get [] (h.at q).rt) h.t,h.nx,h.al,h.df⟩:aP)) (old++new):=CZ (fun k p=>(f3 k).2 p) _ bz;have Rv: ¬aH (⟨forget (len*i.size) h.nx (q::h.al.get [] (h.at q).rt) h.t,h.nx,h.al,h.df⟩:aP) h.nx:=fun u=>agH ((f3 _).1 u)
           have Z:aW (m.set h.nx w.heap.size cap) (old++new)=aW m (old++new):=BL Rv Gs _ _;obtain ⟨R,T,U⟩:=f1.named (n:=q) (y:=old++new) (e:=e') (s:=i.size) (cap:=cap) (B:=w.heap.size) (w':=V' w (.cells ⟨aW m (old++new)++rest⟩ e')) (o:= .cells ⟨aW m (old++new)++rest⟩ e') (l:=h.al.get [] (h.at q).rt)
            ((f3 q).2 QP) (by rw [f4];rfl) (by rw [f4]) (.inr rfl) (by show w.heap.size<=(w.heap.push _).size;simp) (by show (w.heap.push _)[w.heap.size]? =some _;simp) (fun b hb=>by show (w.heap.push _)[b]? =_;rw [jO,if_neg (gO hb)]) rfl rfl rfl
            ⟨rest,(0,0),by show _=Obj.cells ⟨aW (m.set h.nx w.heap.size cap) (old++new)++_⟩ _ _;rw [Z],by show (aW (m.set h.nx w.heap.size cap) (old++new)++_).length=_;rw [Z,Mp.Lb];exact k2,fun j _=>by simp⟩ Gs
           rw [f5 q] at R T U;refine ⟨_,_,_,fin (by simpa [γ] using k3),.inl ?_,R,Goes.trans A f1 f2 T,U,rfl⟩;simp [γ,Mp.set,Mp.c]
 unfold aas;cases hts:c.argTypes.toList with
 |nil=>exact trivial
 |cons W ts=>
  cases ts with
  |nil=>exact trivial
  |cons X ts=>
   cases ts with
   |cons _ _=>exact trivial
   |nil=>
    simp only;cases N:E.cU W with
    |none=>exact trivial
    |some d1=>
     cases d1<;>try (exact trivial)
     rename_i e;cases Y:E.cU X with
     |none=>exact trivial
     |some d=>
      by_cases u: ∃k,d= .int k
      ·obtain ⟨k,rfl⟩:=u;exact trivial
      ·have Nw: ∀k,d≠ .int k:=fun k e=>u ⟨k,e⟩
       cases d<;>first
        |exact absurd rfl (Nw _)
        |(
          simp only;cases O:E.ty e with
          |none=>exact trivial
          |some i=>
           cases hz:BA E e 0 with
           |none=>exact trivial
           |some z=>exact key W X hts e N _ Y Nw i O z hz _ rfl)
end
end
end Go.Ev
