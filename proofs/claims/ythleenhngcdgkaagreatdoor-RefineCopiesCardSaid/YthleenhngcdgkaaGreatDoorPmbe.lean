/- refineCopies_proved. -/
import Derived.Test.YthleenhngcdgkaaGreatDoorPmbd
import Derived.StringKeys
import Derived.Deep.AppendLies
set_option maxRecDepth 100000
set_option maxHeartbeats 16000000
set_option linter.all false
noncomputable section
namespace Go.Proofs.YthleenhngcdgkaaGreatDoor
section
open Go.Proofs.Tryz Go Go.RowKit Go.Maps
variable {c b n j B g k c' p:Nat} {D D':DataW Nat} {M:List Bool} {L:List bI} {W w w' wr:World} {v m:Value}
def Bi (L:List bI) (id:Nat):Prop:= ∀j:Nat,j<L.length->Reach L (id:Int) (j:Int)->(L.getD j dP).k≠2
def aEd {size:Nat} {e:TypeId} {xs:List Value} (h:w.ownsRow B e size v n xs): ∃a c,v= .slice a n c:=by
 rcases h.2 with ⟨rfl,e⟩|⟨g,c,_,rfl,_⟩
 all_goals grind
def FI (w:World) (b c:Nat) (D:DataW Nat):Prop:=w.ownsMap prog 9 (plainElem prog 4) b c D
def aEe (f:FI w b c D) (hc:c<=5000):
 Calls prog 75 #[.map (some b)] w fun e w'=>w'=w.alloc (.cells #[.map (some b)] 142)/\ ∃v,e= .returned v/\
  Calls prog 74 #[v] w' fun h i=> ∃a d,h= .returned (.slice a (Maps.size D) d)/\(Maps.size D=0->a=none/\d=0)/\Below w.heap.size w i:=by
 have z:=f.size_le;refine (callsIn_wide.1 (Tryz.maps_Keys_75 (some b) w)).mono ?_;rintro e w' ⟨rfl,rfl⟩;refine ⟨rfl,_,rfl,?_⟩;refine (callsIn_wide.1 (Tryz.slices_Sorted_keys_74_75 b c D _ w f (by unfold maxLen;omega) (by omega))).mono ?_;rintro h i ⟨v,u,rfl,s,t,q,l⟩;have o:u.length=Maps.size D:=by
  obtain ⟨x,rfl,_⟩:=f.keysOf;rw [s.length_eq];simp [strKeys,Maps.size]
 obtain ⟨a,d,rfl⟩:=aEd t;rw [o] at q⊢;refine ⟨a,d,rfl,fun y=> ?_,((aG w.heap.size w).alloc (ak _) _).trans (l.mono (by simp))⟩
 all_goals grind
def amJ:Keyed prog 9:=string_keyed underlying9
def FI.store (h:FI w b c D) (hc:c<=10000) {t:ByteArray} (l:t.size<=maxLen):
 ∃w' D',(Instr.mapUpdate 142 (.map (some b)) (.string t) (.bool true)).run prog w= .ok () w'/\FI w' b (c+1) D'/\Maps.size D'≠0/\Fr (· =b) w w':=by
 obtain ⟨w',o,d,f⟩:=World.ownsMap.update h amJ underlying142 (by unfold maxLen;omega) (Go.WideMaps.keyOf_string_mk underlying9 l) (plainElem_bool underlying4 true);refine ⟨w',_,o,d,?_,(vW f).mono (fun k _ e=>by cases e;rfl)⟩;rw [size_put (World.ownsMap.tidy h amJ)];split
 ·rename_i i
  intro a;obtain ⟨q,rfl,_⟩:=World.ownsMap.keysOf h;simp only [Maps.size,List.length_eq_zero_iff] at a;subst a;simp [has_eq] at i
 ·omega
def FI.frame {S:Nat->Prop} (h:FI w b c D) (q:Fr S w w') (o: ¬S b):FI w' b c D:=by
 obtain ⟨e,a,d,f,i,l⟩:=h;exact ⟨e,a,(q.block b (au.1 d).1 o).trans d,f,i,l⟩
def ext (n:Nat) (M:List Bool):List Bool:=M++List.replicate (n-M.length) false
def Hx (n:Nat) (M:List Bool) (j:Nat):lY (ext n M) j=lY M j:=by
 unfold ext lY
 all_goals grind
def amK (b:Bool) (h:j<M.length:=by simp):(ext n M).set j b=ext n (M.set j b):=by
 unfold ext;rw [List.set_append_left _ _ h,bu]
def aEf (h:k<n):ext n ((List.replicate (k+1) false).set k true)=(List.replicate n false).set k true:=by
 rw [<-amK _];congr 1;unfold ext;rw [aV,List.replicate_append_replicate];congr 1;omega
def aEg {id:Nat} (h:Kh L id M (j:Int)) (i:lY M j=false):Kh L id M ((j:Int)-1):=
 ⟨h.len,h.sound,h.self,fun q f a d=>by
  by_cases e:q=j
  ·simp_all
  ·exact h.cl q (by omega) a d⟩
structure Bj (W wr:World) (g b c:Nat) (D:DataW Nat) (M:List Bool):Prop where
 xH:Fz W wr g M
 mp:FI wr b c D
 ne:b≠g
 hg:W.heap.size<=g
 hb:W.heap.size<=b
def Bj.later (h:Bj W wr g b c D M) (a:Below wr.heap.size wr w'):Bj W w' g b c D M:=
 ⟨h.xH.later a,h.mp.frame (S:=fun _=>False) (Fr.iE a) (fun e=>e),h.ne,h.hg,h.hb⟩
def Bj.set (h:Bj W wr g b c D M) (i:Nat) (x:Bool):Bj W (wr.setCell ⟨g,i,none⟩ (.bool x)) g b c D (M.set i x):=
 ⟨h.xH.set i x h.hg,h.mp.frame (S:=(· =g)) ((Fr.refl _ _).setCell _ (fun _=>rfl)) h.ne,h.ne,h.hg,h.hb⟩
def Bj.name (h:Bj W wr g b c D M) (f:FI w' b c' D') (a:Fr (· =b) wr w'):Bj W w' g b c' D' M:=
 ⟨⟨oh h.xH.row a (fun k d e=>h.ne (by cases d;exact e.symm)),h.xH.below.trans (a.oe (fun k d e=>by have:=h.hb;omega) h.xH.below.size)⟩,f,h.ne,h.hg,h.hb⟩
structure FJ (L:List bI) (id:Nat) (M:List Bool) (D:DataW Nat) (c:Nat) (i:Int):Prop where
 len:M.length=id+1
 Qe:Kh L id (ext L.length M) i
 FH:(c:Int)+i<=id
 FA:Maps.size D=0↔ ∀j:Nat,i<(j:Int)->j<=id->lY M j=true->(L.getD j dP).k≠2
def FJ.skip {id:Nat} (h:FJ L id M D c (j:Int)) (f:lY M j=false):FJ L id M D c ((j:Int)-1):=
 ⟨h.len,aEg h.Qe (by rw [Hx];exact f),by have:=h.FH;omega,h.FA.trans ⟨fun q k e a d=>by
  grind,fun q k e a d=>q k (by omega) a d⟩⟩
def FJ.next {id:Nat} {a:List Bool} (h:FJ L id M D c (j:Int)) (o:lY M j=true) (d:a.length=id+1) (e:Hr L id (ext L.length M) (ext L.length a) j (args (L.getD j dP)).length)
 (hc:c'<=c+1) (t:j<=id) (i:((L.getD j dP).k≠2/\D'=D)\/((L.getD j dP).k=2/\Maps.size D'≠0)):FJ L id a D' c' ((j:Int)-1):=by
 have y: ∀k,j<k->lY a k=lY M k:=fun k f=>by
  have:=e.above k f
  rwa [Hx,Hx] at this
 have x:lY a j=true:=by
  have:=e.at_;rw [Hx,Hx,o] at this;exact this
 refine ⟨d,aCV h.Qe e,by have:=h.FH;omega,?_⟩;rcases i with ⟨f,rfl⟩|⟨f,u⟩
 ·refine h.FA.trans ⟨fun q k s d l=> ?_,fun q k s d l=>q k (by omega) d (by simp_all)⟩
  all_goals grind
 all_goals grind
def FJ.fin {id:Nat} (a:xD L) (hi:id<L.length) (h:FJ L id M D c (-1)):Maps.size D=0↔Bi L id:=by
 refine h.FA.trans ⟨fun q j d e=> ?_,fun q j _ d f=>q j (by omega) ((amg a hi h.Qe j).1 (by rw [Hx];exact f))⟩;have i:=e.bound a (by omega) (by omega);refine q j (by omega) (by omega) ?_;rw [<-Hx L.length];exact (amg a hi h.Qe j d).2 e
def amL {id i a:Nat} {d:List Bool} (f:xD L) (h:Hr L id d (ext n M) i k) (e:lY d i=true) (hi:i<L.length) (o:k<(args (L.getD i dP)).length) (l:(args (L.getD i dP)).getD k 0=(a:Int)) (s:a<M.length):
 a<i/\Hr L id d (ext n (M.set a true)) i (k+1):=by
 have q:=aCU f h hi o l;rw [h.at_,e,Bool.or_true,amK true s] at q;exact q
def amM (hg:iR W B p v m L) (hL:xD L) (hk: ∀i,i<L.length->(1<=(L.getD i dP).k/\(L.getD i dP).k<=16)/\(L.getD i dP).t.size<=maxLen) (hl:L.length<=4096) {id:Nat} (hi:id<L.length):
 Calls prog 43 #[ptr p,.int .i64 id] W fun e w'=> ∃a n c,e= .returned (.slice a n c)/\(n=0↔Bi L id)/\(n=0->a=none/\c=0)/\Below W.heap.size W w':=by
 have G:=ae (af hg (af hL (af hk (af hl hi))));have b0:=mD hg.blk 0;simp only [bM,bB] at b0;have hp:p<W.heap.size:=aj W _ b0;obtain ⟨va,vc,rfl⟩:=hg.iT.slice;obtain ⟨n,hn⟩:=pS L.length;rw [hn] at b0 hl hi;have HN:=ae hn;obtain ⟨i0,eT,fL,gd,fG⟩:=info_parts Tryz.info4;have id0:(0:Int)<=(id:Int):=by omega
 have id1:(id:Int)<(n:Int):=by omega
 have Nh:= @run_makeMap prog;clear hg hL hk hn;unfold ptr;go_enter func43,ntmps43;go_wp2_with (refine wpList_make_full W rfl (.tmp 25) (.tmp 25) 141 rfl W.heap.size 4 i0 _ 1 underlying141 eT fL gd _ _ _ _ (id+1) rfl rfl (by omega) (by omega) (by rw [fG];omega) (by unfold maxLen;omega) (ak _) ?_;intro w5 PU Um;have Zv:=ae (by rw [aCY] at PU;exact ⟨by rw [aV];exact PU,(vW Um).oe (fun k _ e=>by cases e) (ak _)⟩:Fz W w5 W.heap.size (List.replicate (id+1) false));have ZZ:=Zv.out.cell (i:=id) (by rw [aV];omega);have hfm:=Zv.out.row.frozenAt id;clear PU Um);have Ec:=Zv.out.set id true (ak _);obtain ⟨g,qV⟩:=pS W.heap.size;have BX:W.heap.size<=g:=by omega
 rw [qV] at Ec⊢;have amN:=(Ec.row.lt g rfl).2;have e6:(w5.setCell ⟨g,id,none⟩ (.bool true)).heap.size=w5.heap.size:=by simp [World.setCell]
 generalize w5.setCell ⟨g,id,none⟩ (.bool true)=w6 at Ec amN e6⊢;have j8:Bj W (w6.alloc (.map #[] 0)) g w6.heap.size 0 (.map []) ((List.replicate (id+1) false).set id true):=⟨Ec.later ((aG _ _).alloc (ak _) _),World.ownsMap_made _ _ _ _,by omega,BX,by omega⟩;have Uu:FJ L id ((List.replicate (id+1) false).set id true) (.map []) 0 id:=⟨by simp,by rw [aEf (by rw [HN.out];exact hi)];exact aCT (by rw [HN.out];exact hi),by omega,⟨fun _ j h1 h2=>by omega,fun _=>rfl⟩⟩;generalize (List.replicate (id+1) false).set id true=M0 at j8 Uu;obtain ⟨b,yI⟩:=pS w5.heap.size;rw [e6,yI] at j8;rw [yI];generalize w6.alloc (.map #[] 0)=w7 at j8⊢;have R:=ae (af j8 Uu);clear Ec qV BX ZZ hfm Zv eT fL gd fG j8 Uu yI amN e6;go_loopw [7] (fun iv wr=> ∃(i:Int) (M:List Bool) (c:Nat) (D:DataW Nat),iv= .int .i64 i/\ -1<=i/\i<=(id:Int)/\FJ L id M D c i/\Bj W wr g b c D M) (fun iv _=>(intOf iv+1).toNat)
 case atStart=>exact ⟨id,_,_,_,rfl,by omega,by omega,R.out.2,R.out.1⟩
 case round=>
  obtain ⟨i,M,c,D,rfl,xO,Ih,hMl,hM⟩:=hrel;have d:=ae (af hMl hM);clear hMl hM R;by_cases h0:0<=i
  ·obtain ⟨j,rfl⟩: ∃j:Nat,i=(j:Int):=⟨i.toNat,by omega⟩
   have hj:j<L.length:=by rw [HN.out];omega
   obtain ⟨y,hy⟩:=pS (L.getD j dP);have GR:=G.out.1.iT.frame (S:=fun _=>False) (Fr.iE d.out.2.xH.below) (fun _ _ e=>e);obtain ⟨gv,cv,ev,c0,c1,c2,c3,c4⟩:=GR.form hj hy;have b1:wr.cell? ⟨p,0,none⟩=some (.slice va n vc):=(d.out.2.xH.below.cell hp).trans b0;cases ev;have cj:=d.out.2.xH.cell (i:=j) (by rw [d.out.1.len];omega);obtain ⟨x,hx⟩:=pS (lY M j);rw [hx] at cj;have HX:=ae hx;have xB:=G.out.2.2.1 j hj;rw [hy] at xB;obtain ⟨k,a,f,h,t⟩:=y;simp only at c0 c1 c2 c3 c4 xB;have l:=ae (af hy (af hj xB));have j0:(0:Int)<=(j:Int):=by omega
   have j1:(j:Int)<(n:Int):=by omega
   have j2:(j:Int)<((id+1:Nat):Int):=by omega
   have H:=ae Ih;clear GR hy hj xO Ih h0 xB hx;cases x
   ·go_wp2_with fail
    go_roundw
    case rel=>exact ⟨(j:Int)-1,_,_,_,rfl,by omega,by have:=H.out;omega,d.out.1.skip HX.out,d.out.2⟩
    case measure=>first|(simp [intOf];done)|(simp [intOf];omega)
   ·have Ow:=ae (fun w4 (hb:Below wr.heap.size wr w4)=>FI.store (d.out.2.later hb).mp (by have:=d.out.1.FH;have:=H.out;omega) (t:=t) l.out.2.2.2)
    have lP:Below wr.heap.size wr (wr.alloc (.cells ⟨fZ ⟨k,a,f,h,t⟩⟩ 90)):=(aG _ _).alloc (ak _) _;have mG:(wr.alloc (.cells ⟨fZ ⟨k,a,f,h,t⟩⟩ 90)).heap[wr.heap.size]? =some (.cells ⟨fZ ⟨k,a,f,h,t⟩⟩ 90 (0,0)):=heap_alloc_new wr _;obtain ⟨x,I0⟩: ∃x:bI,x=⟨k,a,f,h,t⟩:=⟨_,rfl⟩;by_cases qK:k=2
    ·obtain ⟨wU,D',iB,h1,h2,h3⟩:=Ow.out _ lP
     have T:=ae (af ((d.out.2.later lP).name h1 h3) (show c+1<c+2/\(k=2/\Maps.size D'≠0) from ⟨by omega,qK,h2⟩));obtain ⟨d0,d1,d2,d3,d4⟩:=jF ((h3.block _ (by simp) (fun e=>by have:=d.out.2.mp.lt;omega)).trans mG);simp only at d0 d1 d2 d3 d4;have Pj:(k==2)=true:=by simp [qK]
     have iB:(Instr.mapUpdate 142 (.map (some b)) (.string t) (.bool true)).run prog (wr.alloc (.cells #[.int .i64 k,.int .i64 a,.int .i64 f,.int .i64 h,.string t] 90))= .ok () wU:=iB;have HK2:=ae qK;clear h1 h2 h3 qK lP mG;go_wp2_with fail;refine (J9 (x:=⟨k,a,f,h,t⟩) l.out.2.2.1.1 l.out.2.2.1.2 _).mono ?_;rintro e w8 ⟨av,rfl,E⟩;obtain ⟨aa,ac,rfl⟩:=ry E.2;obtain ⟨c',vh⟩:=pS (c+1);rw [vh] at T;have UH:=T.out.1.later E.1;have UI:=T.out.2;clear iB Pj d0 d1 d2 d3 d4 vh;have fM:(Value.slice aa (args ⟨k,a,f,h,t⟩).length ac).ownBlock≠some g:=fun e=>by
      have h1:=(E.2.lt g e).1;have h2:=(T.out.1.xH.row.lt g rfl).2;omega
     have o:=ae (af UH (af E.2 (af fM UI)));obtain ⟨u,J⟩:=pS ((args ⟨k,a,f,h,t⟩).length);have mn:u<=2:=by rw [<-J];exact vX _
     have Z:=ae J;clear E UH fM UI;rw [J];clear J b1 c0 c1 c2 c3 c4 cj;go_wp2_with fail;go_loopw [61] (fun Y DN=> ∃(q:Nat) (s:List Bool),Y= .int .i64 (q:Int)/\q<=u/\s.length=id+1/\Hr L id (ext L.length M) (ext L.length s) j q/\Bj W DN g b c' D' s/\ ∃B2,DN.ownsRow B2 3 1 (.slice aa (args ⟨k,a,f,h,t⟩).length ac) (args ⟨k,a,f,h,t⟩).length (ints (args ⟨k,a,f,h,t⟩))) (fun Y _=>u-(intOf Y).toNat)
     case atStart=>exact ⟨0,_,rfl,by omega,d.out.1.len,amf d.out.1.Qe,o.out.1,_,o.out.2.1⟩
     case round=>
      obtain ⟨q,s,rfl,U,C,I,A,B2,O⟩:=hrel;by_cases F:q<u
      ·obtain ⟨a4,c4,e4,pH⟩:=Bb O
       obtain ⟨g4,e5,uf⟩:=pH q (by rw [Z.out];exact F);cases e4;subst e5;have P:q<(args ⟨k,a,f,h,t⟩).length:=by rw [Z.out];exact F
       have vE:=G.out.2.1 j l.out.2.1 ((args ⟨k,a,f,h,t⟩).getD q 0) (by rw [l.out.1];exact Ke P);obtain ⟨z,X⟩: ∃z:Nat,(args ⟨k,a,f,h,t⟩).getD q 0=(z:Int):=⟨_,(jX vE.1).symm⟩;rw [X] at uf vE;have Q:z<s.length:=by rw [C];have:=H.out;omega
       have ca:=A.xH.cell (i:=z) Q;have fa:=A.xH.row.frozenAt z;have A5:=A.set z true;have UJ:=oh (S:=fun k=>k=g) O ((Fr.refl (fun k=>k=g) wr).setCell (a:=⟨g,z,none⟩) (.bool true) (fun _=>rfl)) (fun k' iG e=>o.out.2.2.1 (by rw [iG,e]));have eB:=(amL G.out.2.1 I (by rw [Hx];exact HX.out) l.out.2.1 (by rw [l.out.1];exact P) (by rw [l.out.1];exact X) Q).2;have N:=ae (af A5 (af UJ (af (by rw [bu];exact C:(s.set z true).length=id+1) eB)));have a0:(0:Int)<=(z:Int):=by omega
       have a1:(z:Int)<((id+1:Nat):Int):=by have:=H.out;omega
       have jG:(0:Int)<=(q:Int):=by omega
       have Di:(q:Int)<(u:Int):=by omega
       have xT:q<2:=by omega
       have ve:=ae (af F U);clear A5 UJ O pH P vE X A C F U eB I Q;go_wp2_with fail;go_roundw
       case rel=>exact ⟨q+1,_,by go_num,by have:=ve.out.1;omega,N.out.2.2.1,N.out.2.2.2,N.out.1,_,N.out.2.1⟩
       case measure=>have:=ve.out.1;simp [intOf];omega
      ·have UK:q=u:=by omega
       subst UK;have HE:=ae (af (d.out.1.next HX.out C (by rw [l.out.1,Z.out];exact I) (Nat.le_of_lt_succ o.out.2.2.2.1) (by have:=H.out;omega) (.inr (by rw [l.out.1];exact o.out.2.2.2.2))) A);clear A C O F U I;go_wp2_with fail;go_roundw
       case rel=>exact ⟨(j:Int)-1,_,_,_,rfl,by omega,by have:=H.out;omega,HE.out.1,HE.out.2⟩
       case measure=>first|(simp [intOf];done)|(simp [intOf];omega)
    ·have T:=ae (af (d.out.2.later lP) (show c<=c+1/\k≠2 from ⟨by omega,qK⟩))
     clear lP mG;go_wp2_with fail;refine (J9 (x:=⟨k,a,f,h,t⟩) l.out.2.2.1.1 l.out.2.2.1.2 _).mono ?_;rintro e w8 ⟨av,rfl,E⟩;obtain ⟨aa,ac,rfl⟩:=ry E.2;have UH:=T.out.1.later E.1;have UI:=T.out.2;clear qK;have fM:(Value.slice aa (args ⟨k,a,f,h,t⟩).length ac).ownBlock≠some g:=fun e=>by
      have h1:=(E.2.lt g e).1;have h2:=(d.out.2.xH.row.lt g rfl).2;simp at h1;omega
     have o:=ae (af UH (af E.2 (af fM UI)));obtain ⟨u,J⟩:=pS ((args ⟨k,a,f,h,t⟩).length);have mn:u<=2:=by rw [<-J];exact vX _
     have Z:=ae J;clear E UH fM UI;rw [J];clear J b1 c0 c1 c2 c3 c4 cj;go_wp2_with fail;go_loopw [61] (fun Y DN=> ∃(q:Nat) (s:List Bool),Y= .int .i64 (q:Int)/\q<=u/\s.length=id+1/\Hr L id (ext L.length M) (ext L.length s) j q/\Bj W DN g b c D s/\ ∃B2,DN.ownsRow B2 3 1 (.slice aa (args ⟨k,a,f,h,t⟩).length ac) (args ⟨k,a,f,h,t⟩).length (ints (args ⟨k,a,f,h,t⟩))) (fun Y _=>u-(intOf Y).toNat)
     case atStart=>exact ⟨0,_,rfl,by omega,d.out.1.len,amf d.out.1.Qe,o.out.1,_,o.out.2.1⟩
     case round=>
      obtain ⟨q,s,rfl,U,C,I,A,B2,O⟩:=hrel;by_cases F:q<u
      ·obtain ⟨a4,c4,e4,pH⟩:=Bb O
       obtain ⟨g4,e5,uf⟩:=pH q (by rw [Z.out];exact F);cases e4;subst e5;have P:q<(args ⟨k,a,f,h,t⟩).length:=by rw [Z.out];exact F
       have vE:=G.out.2.1 j l.out.2.1 ((args ⟨k,a,f,h,t⟩).getD q 0) (by rw [l.out.1];exact Ke P);obtain ⟨z,X⟩: ∃z:Nat,(args ⟨k,a,f,h,t⟩).getD q 0=(z:Int):=⟨_,(jX vE.1).symm⟩;rw [X] at uf vE;have Q:z<s.length:=by rw [C];have:=H.out;omega
       have ca:=A.xH.cell (i:=z) Q;have fa:=A.xH.row.frozenAt z;have A5:=A.set z true;have UJ:=oh (S:=fun k=>k=g) O ((Fr.refl (fun k=>k=g) wr).setCell (a:=⟨g,z,none⟩) (.bool true) (fun _=>rfl)) (fun k' iG e=>o.out.2.2.1 (by rw [iG,e]));have eB:=(amL G.out.2.1 I (by rw [Hx];exact HX.out) l.out.2.1 (by rw [l.out.1];exact P) (by rw [l.out.1];exact X) Q).2;have N:=ae (af A5 (af UJ (af (by rw [bu];exact C:(s.set z true).length=id+1) eB)));have a0:(0:Int)<=(z:Int):=by omega
       have a1:(z:Int)<((id+1:Nat):Int):=by have:=H.out;omega
       have jG:(0:Int)<=(q:Int):=by omega
       have Di:(q:Int)<(u:Int):=by omega
       have xT:q<2:=by omega
       have ve:=ae (af F U);clear A5 UJ O pH P vE X A C F U eB I Q;go_wp2_with fail;go_roundw
       case rel=>exact ⟨q+1,_,by go_num,by have:=ve.out.1;omega,N.out.2.2.1,N.out.2.2.2,N.out.1,_,N.out.2.1⟩
       case measure=>have:=ve.out.1;simp [intOf];omega
      ·have UK:q=u:=by omega
       subst UK;have HE:=ae (af (d.out.1.next HX.out C (by rw [l.out.1,Z.out];exact I) o.out.2.2.2.1 (by have:=H.out;omega) (.inl ⟨by rw [l.out.1];exact o.out.2.2.2.2,rfl⟩)) A);clear A C O F U I;go_wp2_with fail;go_roundw
       case rel=>exact ⟨(j:Int)-1,_,_,_,rfl,by omega,by have:=H.out;omega,HE.out.1,HE.out.2⟩
       case measure=>first|(simp [intOf];done)|(simp [intOf];omega)
  ·have Ni:i= -1:=by omega
   subst Ni;clear h0 xO Ih;have NK:=ae (aEe d.out.2.mp (by have:=d.out.1.FH;have:=HN.out;omega));go_wp2_with fail;refine NK.out.mono ?_;rintro e w8 ⟨hw8,v8,rfl,hS⟩;have o:=ae hS;clear hS hw8;go_wp2_with fail;refine o.out.mono ?_;rintro e w9 ⟨sa,sd,rfl,h9,GW⟩;have CS:=ae (af h9 GW);clear h9 GW;go_wp2_with fail;go_ret;exact ⟨sa,_,sd,rfl,d.out.1.fin G.out.2.1 G.out.2.2.2.2,CS.out.1,d.out.2.xH.below.trans (CS.out.2.mono d.out.2.xH.below.size)⟩
def aEh: ∀t∈tQ,t.size<=maxLen:=by
 have h:(tQ.all fun t=>Nat.ble t.size maxLen)=true:=by kernel_rfl
 exact fun t a=>aZ (dw.1 h t a)
def aEi: ∀t∈Bf,t.size<=maxLen:=by
 have h:(Bf.all fun t=>Nat.ble t.size maxLen)=true:=by kernel_rfl
 exact fun t a=>aZ (dw.1 h t a)
def amO {x:bI} (h:nJ x):(1<=x.k/\x.k<=16)/\x.t.size<=maxLen:=⟨⟨h.k1,h.k2⟩,by
 by_cases a:x.k=1
 ·exact aEh _ (h.Ct a)
 ·by_cases d:x.k=2
  ·exact aEi _ (h.FA d)
  ·rw [h.pP a d];exact bZ _⟩
def aEj (f:iR W B p v m L) (d:xD L) (h: ∀i,i<L.length->(1<=(L.getD i dP).k/\(L.getD i dP).k<=16)/\(L.getD i dP).t.size<=maxLen) (l:L.length<=4096) {id:Nat} (hi:id<L.length) (u:Bi L id):
 Calls prog 43 #[ptr p,.int .i64 id] W fun e w'=>e= .returned (.slice none 0 0)/\Below W.heap.size W w':=
 (amM f d h l hi).mono fun e w' ⟨a,n,c,x,o,q,s⟩=>by
  simp_all
end
section
open Go Go.RowKit
def aEk {w:World} {B p b:Nat} {v:Value} {L:List bI} {x:bI} (h:iR w B p v (.map (some b)) L) (hi:qE w b L) (R:nJ x) (O:mS L.length x) {i:Nat} (F:i<L.length) (E:L.getD i dP=x) (P:L.length<=4000) (M:om w):
 Calls Tryz.prog 40 #[ptr p,gK x] w fun e Z=>e= .returned (.tuple #[.int .i64 i,.int .i64 0])/\Below w.heap.size w Z:=by
 have d:=ae (af h (af hi (af F (af R (af O (af E (af P M)))))));have Q:p<w.heap.size:=(au.1 h.blk).1;obtain ⟨a,c,rfl⟩:=h.iT.slice;obtain ⟨n,o⟩:=pS L.length;have A:=ae o;have C:=ae (by rw [<-o];exact h:iR w B p (.slice a n c) (.map (some b)) L);have T:=ae (Zu h hi);rw [o] at P;clear h hi F R O E M o;obtain ⟨k,f,g,m,t⟩:=x;have z:=ae ((aG w.heap.size w).alloc (ak _) (.cells ⟨fZ ⟨k,f,g,m,t⟩⟩ 90));have HQ:=ae Q;clear Q;unfold ptr;rw [show gK ⟨k,f,g,m,t⟩= .agg #[.int .i64 k,.int .i64 f,.int .i64 g,.int .i64 m,.string t] from rfl];go_enter Tryz.func40,Tryz.ntmps40;go_wp2_with fail;refine (amA (x:=⟨k,f,g,m,t⟩) (C.out.below z.out) (by have:=A.out;omega) d.out.2.2.2.1 d.out.2.2.2.2.1 (d.out.2.2.2.2.2.2.2.below z.out)).mono ?_;rintro e j ⟨rfl,N⟩;have l:=ae (by rw [<-uv w];exact N:Below (w.heap.size+1) (w.alloc (.cells ⟨fZ ⟨k,f,g,m,t⟩⟩ 90)) j);clear N;obtain ⟨u,G,H,I,J⟩:=jF (rA l.out);simp only at u G H I J;have Y:w.heap.size<j.heap.size:=aj j _ u;have y:=ae (C.out.below (lI l.out));have q:=ae (d.out.2.1.frame (Fr.iE (S:=fun _=>False) (lI l.out)) (fun e=>e));have mj:=ae (Fr.iE (S:=fun _=>False) (lI l.out));have s:=mD y.out.blk 0;have b1:=mD y.out.blk 1;simp only [bM,bB,eh] at s b1;have W:=yw y.out.blk 0;have U:p<j.heap.size:=aj j _ s;have D:=(q.out.frame (Fr.refl (fun _=>False) j).drew (fun e=>e)).aD4 (x:=⟨k,f,g,m,t⟩) d.out.2.2.2.1 d.out.2.2.2.2.1 (by have:=A.out;omega) d.out.2.2.1 d.out.2.2.2.2.2.1;rw [show gK ⟨k,f,g,m,t⟩= .agg #[.int .i64 k,.int .i64 f,.int .i64 g,.int .i64 m,.string t] from rfl] at D;go_wp2_with fail;go_region;have X:=ae ((lI l.out).drew);clear u G H I J Y s b1 W U D;go_wp2_with fail;go_ret2;exact ⟨rfl,X.out⟩
end
section
open Go Go.RowKit
variable {x:bI} {L:List bI} {f:Int->Int} {n:Nat}
open Classical in
def CH (L:List bI) (x:bI):Nat:=L.findIdx fun y=>decide (y=x)
def xI (L:List bI) (x:bI):List bI:=if CH L x<L.length then L else L++ [x]
open Classical in
def aeo (h:x∈L):CH L x<L.length/\L.getD (CH L x) dP=x:=by
 have a:CH L x<L.length:=List.findIdx_lt_length.2 ⟨x,h,by simp⟩;have b:=List.findIdx_getElem (p:=fun y=>decide (y=x)) (xs:=L) (w:=a);refine ⟨a,?_⟩;rw [aD,aO a];exact of_decide_eq_true b
open Classical in
def aep (h:x∉L):CH L x=L.length:=List.findIdx_eq_length.2 fun y a=>decide_eq_false fun e=>h (e▸a)
def Zw (h:x∈L):xI L x=L:=if_pos (aeo h).1
def Zx (h:x∉L):xI L x=L++ [x]:=if_neg (by rw [aep h];omega)
def Nk (L:List bI) (x:bI):CH L x<(xI L x).length/\L.length<=(xI L x).length/\(xI L x).length<=L.length+1:=by
 by_cases h:x∈L
 ·rw [Zw h];have:=(aeo h).1;omega
 ·rw [Zx h,aep h,bp];simp
def NN (L:List bI):Prop:= ∀i,i<L.length->(L.getD i dP).k≠2
def NN.put (h:NN L) (d:x.k≠2):NN (xI L x):=by
 by_cases a:x∈L
 ·rw [Zw a];exact h
 ·rw [Zx a]
  intro i b;rw [bp] at b;rw [aeb];split
  ·rename_i q;exact h i q
  omega
def GI.put (h:GI L) (d:nJ x) (b:mS L.length x):GI (xI L x):=by
 by_cases a:x∈L
 ·rw [Zw a];exact h
 ·rw [Zx a];exact h.snoc d b a
def ren (f:Int->Int) (x:bI):bI:=⟨x.k,if arity x.k=0 then x.a else f x.a,if arity x.k=2 then f x.b else x.b,x.n,x.t⟩
def aEl (h:nJ x):nJ (ren f x):=⟨h.k1,h.k2,h.Ct,h.FA,h.pP,h.pow,h.lW⟩
def aEm {m:Nat} (h:mS m x) (d: ∀a∈args x,0<=f a/\f a<(n:Int)):mS n (ren f x):=by
 obtain ⟨k,a,b,c,t⟩:=x;refine ⟨fun z g=> ?_,fun e=> ?_,fun e=> ?_⟩
 ·simp only [args,ren] at g d
  rcases Kj k with e|e|e<;>simp [e] at g d
  all_goals grind
 ·have e:arity k=0:=e
  simp only [ren,e,if_true];exact h.a0 e
 ·have e:arity k<2:=e
  simp only [ren,if_neg (show¬arity k=2 by omega)];exact h.b0 e
def jh (L G:List bI) (o:Nat->Nat):Nat->List bI×(Int->Int)
 |0=>(G,fun _=>0)
 |j+1=>(xI (jh L G o j).1 (ren (jh L G o j).2 (L.getD (o j) dP)),fun z=>if z=(o j:Int) then (CH (jh L G o j).1 (ren (jh L G o j).2 (L.getD (o j) dP)):Int) else (jh L G o j).2 z)
structure aeq (L:List bI) (o:Nat->Nat) (n:Nat):Prop where
 nd: ∀j,j<n->nJ (L.getD (o j) dP)
 fit: ∀j,j<n-> ∃m,mS m (L.getD (o j) dP)
 ahead: ∀j,j<n-> ∀a∈args (L.getD (o j) dP),∃i,i<j/\a=(o i:Int)
structure aer (L G:List bI) (o:Nat->Nat) (j:Nat):Prop where
 gi:GI (jh L G o j).1
 lo:G.length<=(jh L G o j).1.length
 hi:(jh L G o j).1.length<=G.length+j
 toX: ∀i,i<j->0<=(jh L G o j).2 (o i)/\(jh L G o j).2 (o i)<((jh L G o j).1.length:Int)
 zero: ∀z,(∀i,i<j->z≠(o i:Int))->(jh L G o j).2 z=0
def aer.node {G:List bI} {o:Nat->Nat} {j:Nat} (h:aer L G o j) (d:aeq L o n) (b:j<n):nJ (ren (jh L G o j).2 (L.getD (o j) dP))/\mS (jh L G o j).1.length (ren (jh L G o j).2 (L.getD (o j) dP)):=by
 obtain ⟨m,k⟩:=d.fit j b;refine ⟨aEl (d.nd j b),aEm k fun a e=> ?_⟩;obtain ⟨i,g,rfl⟩:=d.ahead j b a e;exact h.toX i g
def aes {L G:List bI} {o:Nat->Nat} {n:Nat} (a:GI G) (b:aeq L o n): ∀j,j<=n->aer L G o j
 |0,_=>⟨a,ak _,ak _,fun i h=>by omega,fun _ _=>rfl⟩
 |j+1,m=>by
  have h:=aes a b j (by omega);obtain ⟨k,l⟩:=h.node b (by omega);have p:=Nk (jh L G o j).1 (ren (jh L G o j).2 (L.getD (o j) dP));refine ⟨h.gi.put k l,?_,?_,fun i e=> ?_,fun z d=> ?_⟩
  ·have:=h.lo;show _<=(xI _ _).length;omega
  ·have:=h.hi;show (xI _ _).length<=_;omega
  ·show 0<=(if (o i:Int)=(o j:Int) then _ else _)/\(if (o i:Int)=(o j:Int) then _ else _)<((xI _ _).length:Int)
   split
   ·omega
   ·rename_i g
    have:=h.toX i (by grind);omega
  ·show (if z=(o j:Int) then _ else _)=(0:Int)
   rw [if_neg (d j (by omega))];exact h.zero z fun i e=>d i (by omega)
def amP {L G:List bI} {o:Nat->Nat} {n:Nat} (a:NN G) (b: ∀j,j<n->(L.getD (o j) dP).k≠2): ∀j,j<=n->NN (jh L G o j).1
 |0,_=>a
 |j+1,d=>(amP a b j (by omega)).put (x:=ren _ _) (b j (by omega))
end
section
open Go Go.RowKit
def aet {w:World} {B p b:Nat} {v:Value} {L:List bI} {x:bI} (h:iR w B p v (.map (some b)) L) (hi:qE w b L) (t:B<=w.heap.size) (m:nJ x) (k:mS L.length x) (l:L.length<=4000) (i:om w):
 Calls Tryz.prog 40 #[ptr p,gK x] w fun e d=> ∃g,e= .returned (.tuple #[.int .i64 (CH L x),.int .i64 0])/\iR d B p g (.map (some b)) (xI L x)/\qE d b (xI L x)/\Fr (fun j=>j=p\/j=b\/v.ownBlock=some j) w d:=by
 by_cases a:x∈L
 ·obtain ⟨u,y⟩:=aeo a
  refine (aEk h hi m k u y l i).mono ?_;rintro e d ⟨rfl,f⟩;rw [Zw a];exact ⟨v,rfl,h.below f,hi.frame (S:=fun _=>False) (Fr.iE f) (fun e=>e),Fr.iE f⟩
 ·refine (amF h hi t m k a l i).mono ?_
  rintro e d ⟨g,rfl,o,q,s⟩;rw [Zx a,aep a];exact ⟨g,rfl,o,q,s⟩
def amQ {L G:List bI} {o:Nat->Nat} {j:Nat} {x y:bI} (a:L.getD (o j) dP=x) (b:ren (jh L G o j).2 x=y):(jh L G o (j+1)).1=xI (jh L G o j).1 y:=by
 rw [<-b,<-a];rfl
end
section
open Go.Proofs.Tryz Go Go.RowKit Go.Ev
def aEn {r:Rs} (h:r.Ok): ∃x:Rs,x.Ok/\x.s=r.s/\bH prog bw 95 [sU r.p r.q] (sU x.p x.q):=by
 by_cases g:r.s=1
 ·have d:=h.pos g
  obtain ⟨a,i,M,b,_,_,hc⟩:=axI.h [] rfl [.z r.p,.n r.q] (qh s7 h.hp (yq (fun _=>d) h.hq gS)) iV;obtain rfl:=cB.1 i;obtain ⟨p,j,rfl,_,f,b⟩:=nG b;obtain rfl:j= []:=b;exact ⟨⟨p,r.q,1⟩,⟨by simp_all,by simp_all,f,h.hq,fun _=>d,fun h=>absurd rfl h⟩,g.symm,hc _ rfl⟩
 ·obtain ⟨l,m⟩:=h.no g
  obtain ⟨a,i,M,b,_,_,hc⟩:=axJ.h [] rfl [.z r.p,.n r.q] (by rw [l,m];exact qh ⟨fun h=>absurd h (by decide),fun _=>rfl,fun h=>absurd h (by decide)⟩ (show (0:Int).natAbs<1 by decide) (yq (fun e=>by cases e) (show 0<1 by decide) gS)) iV;obtain rfl:=cB.1 i;obtain ⟨p,j,rfl,_,f,b⟩:=nG b;obtain ⟨q,k,rfl,_,d,b⟩:=s6 b;obtain rfl:k= []:=b;exact ⟨⟨p,q,r.s⟩,⟨h.s0,h.s2,DF f (bZ _),Mi d (bZ _),fun e=>absurd e g,fun _=>⟨bz0 f,bn0 d⟩⟩,rfl,hc _ rfl⟩
def aeu (l l2:List Rs):Prop:=l2.length=l.length/\ ∀i,i<l.length->(l2.getD i eR).Ok/\(l2.getD i eR).s=(l.getD i eR).s/\bH prog bw 95 [sU (l.getD i eR).p (l.getD i eR).q] (sU (l2.getD i eR).p (l2.getD i eR).q)
def amR: ∀ {l:List Rs},(∀r∈l,r.Ok)-> ∃a,aeu l a
 | [],_=>⟨[],rfl,fun i h=>absurd h (iw _)⟩
 |r::l,h=>by
  obtain ⟨a,b,e⟩:=amR (fun x d=>h x (aw _ d));obtain ⟨x,q⟩:=aEn (h r (aC ..));refine ⟨x::a,by simp [b],fun i f=> ?_⟩;grind
def oq:Value->List Value
 | .agg a=>a.toList
 |_=> []
def UL (vv sv:Value) (k:Nat):Prop:=vv.ownBlock=some k\/sv.ownBlock=some k
def Hz {S S':Nat->Prop} {w w':World} {Φ:World->Prop} (h:jw S w Φ) (b:Fr S w w') (g: ∀k,k<w.heap.size->S' k->S k):jw S' w' Φ:=fun i f=>
 h i fun k a d=>(f k (ax a b.size) fun e=>d (g k a e)).trans (b.block k a d)
structure oV (W1 w:World) (N:List (Value×Int×Nat)) (R:List Value) (s:List Int) (vv sv:Value) (K:List (Nat×Obj)):Prop where
 below:Below W1.heap.size W1 w
 wD:w.ownsRow W1.heap.size 117 3 vv R.length (R.flatMap oq)
 oG:w.ownsRow W1.heap.size 3 1 sv s.length (ints s)
 nat: ∀x∈N,jw (UL vv sv) w fun w'=>sU x.2.1 x.2.2 w' x.1
 kept: ∀x∈K,w.heap[x.1]? =some x.2/\vv.ownBlock≠some x.1/\sv.ownBlock≠some x.1
section
variable {W1 w:World} {N:List (Value×Int×Nat)} {R:List Value} {s:List Int} {vv sv:Value} {KK:List (Nat×Obj)}
def oV.later {w':World} (h:oV W1 w N R s vv sv KK) (hb:Below w.heap.size w w'):oV W1 w' N R s vv sv KK where
 below:=h.below.trans (hb.mono h.below.size)
 wD:=oh (S:=fun _=>False) h.wD (Fr.iE hb) (fun _ _ e=>e)
 oG:=oh (S:=fun _=>False) h.oG (Fr.iE hb) (fun _ _ e=>e)
 nat:=fun x hx=>Hz (h.nat x hx) (Fr.iE hb) (fun _ _ e=>e)
 kept:=fun x hx=>⟨(hb.block _ (au.1 (h.kept x hx).1).1).trans (h.kept x hx).1,(h.kept x hx).2⟩
def oV.drew (h:oV W1 w N R s vv sv KK):oV W1 w.drew N R s vv sv KK:=h.later (aG _ _).drew
def oV.al (h:oV W1 w N R s vv sv KK) (o:Obj):oV W1 (w.alloc o) N R s vv sv ((w.heap.size,o)::KK):=by
 have q:=h.later ((aG w.heap.size w).alloc (ak _) o);refine ⟨q.below,q.wD,q.oG,q.nat,fun x a=> ?_⟩;rcases bq.1 a with rfl|a
 ·exact ⟨heap_alloc_new w o,fun e=>by have b:w.heap.size<w.heap.size:=Ue h.wD e;omega,fun e=>by have b:w.heap.size<w.heap.size:=Ue h.oG e;omega⟩
 ·exact q.kept x a
def oV.Zy (h:oV W1 w N R s vv sv KK) (o a:Obj):oV W1 ((w.alloc o).alloc a) N R s vv sv ((w.heap.size+1,a)::(w.heap.size,o)::KK):=by
 have q:=(h.al o).al a;rw [uv] at q;exact q
def amS {e:TypeId} {size n B:Nat} {xs:List Value} {v:Value} (h:w.ownsRow B e size v n xs) {u:Value} {j:Nat} {d:List Value} {f:TypeId} {a:Nat} (h':w.ownsRow B f a u j d) (b:e≠f) {k:Nat} (i:v.ownBlock=some k):u.ownBlock≠some k:=fun g=>alR h h' b i g rfl
def oV.aEo {w':World} {g cap m:Nat} {x:Value} (h:oV W1 w N R s vv sv KK) (hm:R.length=m) (eU:w'.ownsRow W1.heap.size 117 3 (.slice (some ⟨g,0,none⟩) (m+1) cap) (m+1) ((R++ [x]).flatMap oq)) (lZ:Fr (fun k=>vv.ownBlock=some k) w w') (im:vv.ownBlock=some g\/w.heap.size<=g):
 oV W1 w' N (R++ [x]) s (.slice (some ⟨g,0,none⟩) (m+1) cap) sv KK where
 below:=h.below.trans (lZ.oe (fun k hk e=>by have:=(h.wD.lt k e).1;omega) h.below.size)
 wD:=by simp_all
 oG:=oh h.oG lZ (fun k hk e=>amS h.wD h.oG (by decide) e hk)
 nat:=fun y hy=>Hz (h.nat y hy) (lZ.mono fun k _ e=> .inl e) fun k hk e=>by
  rcases e with e|e
  ·simp [Value.ownBlock] at e
   subst e;exact .inl (im.resolve_right (by omega))
  ·exact .inr e
 kept:=fun y hy=>by
  obtain ⟨q1,q2,q3⟩:=h.kept y hy;have bA:=(au.1 q1).1;refine ⟨(lZ.block _ bA q2).trans q1,fun e=> ?_,q3⟩;simp [Value.ownBlock] at e;grind
def oV.aEp {w':World} {g cap m:Nat} {x:Int} (h:oV W1 w N R s vv sv KK) (hm:s.length=m) (eU:w'.ownsRow W1.heap.size 3 1 (.slice (some ⟨g,0,none⟩) (m+1) cap) (m+1) (ints (s++ [x]))) (lZ:Fr (fun k=>sv.ownBlock=some k) w w') (im:sv.ownBlock=some g\/w.heap.size<=g):
 oV W1 w' N R (s++ [x]) vv (.slice (some ⟨g,0,none⟩) (m+1) cap) KK where
 below:=h.below.trans (lZ.oe (fun k hk e=>by have:=(h.oG.lt k e).1;omega) h.below.size)
 wD:=oh h.wD lZ (fun k hk e=>amS h.oG h.wD (by decide) e hk)
 oG:=by simp_all
 nat:=fun y hy=>Hz (h.nat y hy) (lZ.mono fun k _ e=> .inr e) fun k hk e=>by
  rcases e with e|e
  ·exact .inl e
  ·simp [Value.ownBlock] at e
   subst e;exact .inr (im.resolve_right (by omega))
 kept:=fun y hy=>by
  obtain ⟨q1,q2,q3⟩:=h.kept y hy;have bA:=(au.1 q1).1;refine ⟨(lZ.block _ bA q3).trans q1,q2,fun e=> ?_⟩;simp [Value.ownBlock] at e;grind
end
def aEq:(prog.info? 117).map (fun i=>(i.zero,i.size,i.bytes))=some (some (.agg #[.bool false,.slice none 0 0,.slice none 0 0]),3,56):=by kernel_rfl
def aEr {f:Array Oper} {o:Oper} {a:Act} {w:World} {K:Act->World->Prop} {Q:Exit->Act->World->Prop} {E:Prop} (M:o.guard=none) (s x:Operand) (G:o.op= .call {callee:= .builtin .append,args:= #[s,x],argTypes:= #[102,102]})
 {W1:World} {N:List (Value×Int×Nat)} {R:List Value} {l:List Int} {vv sv:Value} {KK:List (Nat×Obj)} (H:a.eval s=vv) (B:Nat) (I:a.eval x= .slice (some ⟨B,0,none⟩) 1 1) (h:oV W1 w N R l vv sv KK) {t:Bool} {a1 a2:Option Addr} {k1 c1 k2 c2:Nat}
 (F:(B,.cells #[.bool t,.slice a1 k1 c1,.slice a2 k2 c2] 117 (0,0))∈KK) {m:Nat} (j:R.length=m) (O:m<=100000)
 (h': ∀g cap b,oV W1 b N (R++ [.agg #[.bool t,.slice a1 k1 c1,.slice a2 k2 c2]]) l (.slice (some ⟨g,0,none⟩) (m+1) cap) sv KK->K (a.put o.dst (.slice (some ⟨g,0,none⟩) (m+1) cap)) b):
 if Region.wanted o (yielded f a.tmps)=true then Oper.wp prog o a w K Q else E:=by
 obtain ⟨J,p,y,z,q⟩:=info_parts aEq;have d:=h.wD;rw [j] at d;have i:(R.flatMap oq).length=m*3:=by have:=d.1;omega
 refine step_append_lies w M s x 102 G W1.heap.size 117 J _ 3 56 underlying102 p y z q rfl (by omega) vv m (R.flatMap oq) H d ⟨B,0,none⟩ 1 1 [.bool t,.slice a1 k1 c1,.slice a2 k2 c2] I rfl (World.news_of_block (cs:= #[.bool t,.slice a1 k1 c1,.slice a2 k2 c2]) (h.kept _ F).1)
  (by intro u k;simp at k;rcases k with rfl|rfl|rfl<;>rfl) (by omega) (by unfold maxLen;omega) (by omega) h.below.size w.heap.size rfl ?_
 intro g cap b A C D _;refine h' g cap b (h.aEo j ?_ (vW C) (D.imp id (fun e=>by omega)));rw [oH];exact A
def aEs {f:Array Oper} {o:Oper} {a:Act} {w:World} {K:Act->World->Prop} {Q:Exit->Act->World->Prop} {E:Prop} (J:o.guard=none) (s x:Operand) (F:o.op= .call {callee:= .builtin .append,args:= #[s,x],argTypes:= #[22,22]})
 {W1:World} {N:List (Value×Int×Nat)} {R:List Value} {b:List Int} {vv sv:Value} {KK:List (Nat×Obj)} (G:a.eval s=sv) (B:Nat) (H:a.eval x= .slice (some ⟨B,0,none⟩) 1 1) (h:oV W1 w N R b vv sv KK) {y:Int}
 (D:(B,.cells #[.int .i64 y] 3 (0,0))∈KK) {m:Nat} (j:b.length=m) (M:m<=100000)
 (h': ∀g cap d,oV W1 d N R (b++ [y]) vv (.slice (some ⟨g,0,none⟩) (m+1) cap) KK->K (a.put o.dst (.slice (some ⟨g,0,none⟩) (m+1) cap)) d):
 if Region.wanted o (yielded f a.tmps)=true then Oper.wp prog o a w K Q else E:=by
 obtain ⟨I,l,q,t,p⟩:=info_parts Tryz.info3;have i:=h.oG;rw [j] at i;refine step_append_lies w J s x 22 F W1.heap.size 3 I _ 1 8 underlying22 l q t p rfl (by omega) sv m (ints b) G i ⟨B,0,none⟩ 1 1 [.int .i64 y] H rfl (World.news_of_block (cs:= #[.int .i64 y]) (h.kept _ D).1)
  (by intro u k;simp at k;rcases k with rfl;rfl) (by omega) (by unfold maxLen;omega) (by omega) h.below.size w.heap.size rfl ?_
 intro g cap d z A C _;refine h' g cap d (h.aEp j ?_ (vW A) (C.imp id (fun e=>by omega)));rw [show ints (b++ [y])=ints b++ [.int .i64 y] by simp [ints]];exact z
def aEt {W1 w:World} {N:List (Value×Int×Nat)} {R:List Value} {O:List Int} {vv sv:Value} {KK:List (Nat×Obj)} (h:oV W1 w N R O vv sv KK) (F:bw W1) {p I:Int} {q J:Nat} (Q:bH prog bw 95 [sU p q] (sU I J)) {x:Value} (T:sU p q W1 x):
 Calls prog 95 #[x] w fun e f=> ∃t i z c1 l A m,e= .returned (.agg #[.bool t,.slice i z c1,.slice l A m])/\oV W1 f ((.agg #[.bool t,.slice i z c1,.slice l A m],I,J)::N) R O vv sv KK:=by
 have M: ∀k,UL vv sv k->W1.heap.size<=k/\k<w.heap.size:=fun k g=>by
  rcases g with g|g
  ·exact h.wD.lt k g
  ·exact h.oG.lt k g
 have B: ∀f:World,(∀b,b<w.heap.size-> ¬UL vv sv b->f.heap[b]? =w.heap[b]?)-> ∀b,b<W1.heap.size->f.heap[b]? =W1.heap[b]? :=fun f a b o=>
  (a b (ax o h.below.size) fun e=>by have:=(M b e).1;omega).trans (h.below.block b o)
 refine (Q (UL vv sv) w [x] (fun b o=>(M b o).2) (fun f a=> ?_) (fun f a=> ?_)).mono ?_
 ·exact fun j G=>(World.cell?_of_block (B f a _ (aj W1 _ (F j G)))).trans (F j G)
 ·obtain ⟨u,d,e,D,E⟩:=T
  exact ⟨x,[],rfl,⟨u,d,e,D6 (S:=fun _=>False) D (fun k g _=>B f a k g) (fun _ _ e=>e.elim),D6 (S:=fun _=>False) E (fun k g _=>B f a k g) (fun _ _ e=>e.elim)⟩,rfl⟩
 ·rintro e f ⟨v,rfl,H,P⟩
  obtain ⟨u,d,rfl,D,E⟩:=H f (fun _ _ _=>rfl);obtain ⟨i,z,c1,rfl,_⟩:=D.form;obtain ⟨l,A,m,rfl,_⟩:=E.form;have q:=h.later P;refine ⟨_,i,z,c1,l,A,m,rfl,q.below,q.wD,q.oG,fun y C=> ?_,q.kept⟩;rcases bq.1 C with rfl|C
  ·exact H
  ·exact q.nat y C
def Qg {w:World} {B n size:Nat} {e:TypeId} {v:Value} {xs:List Value} (h:w.ownsRow B e size v n xs): ∃a c,v= .slice a n c:=by
 rcases h.2 with ⟨rfl,e⟩|⟨g,c,_,rfl,_⟩
 all_goals grind
def aEu (W:World) (l2:List Rs) (w':World) (vv sv:Value):Prop:= ∃W1 N R,Below W.heap.size W W1/\oV W1 w' N R (l2.map Rs.s) vv sv []/\R.length=l2.length/\ ∀j,j<R.length->(R.getD j (.bool false),(l2.getD j eR).p,(l2.getD j eR).q)∈N
structure UM (W1 w:World) (l2:List Rs) (i:Nat) (vv sv:Value):Prop where
 ex: ∃N R,oV W1 w N R ((l2.take i).map Rs.s) vv sv []/\R.length=i/\ ∀j,j<i->(R.getD j (.bool false),(l2.getD j eR).p,(l2.getD j eR).q)∈N
def UM.next {W1 w':World} {l2:List Rs} {i:Nat} {b a:Value} {N:List (Value×Int×Nat)} {R:List Value} {x:Value} {KK:List (Nat×Obj)} {y:Int} (d:R.length=i) (hi:i<l2.length) (k: ∀j,j<i->(R.getD j (.bool false),(l2.getD j eR).p,(l2.getD j eR).q)∈N) (f:y=(l2.getD i eR).s)
 (h:oV W1 w' ((x,(l2.getD i eR).p,(l2.getD i eR).q)::N) (R++ [x]) ((l2.take i).map Rs.s++ [y]) b a KK):UM W1 w' l2 (i+1) b a:=by
 refine ⟨_,_,⟨h.below,h.wD,?_,h.nat,fun z g=>by cases g⟩,by simp [d],fun j l=> ?_⟩
 ·have e:(l2.take (i+1)).map Rs.s=(l2.take i).map Rs.s++ [y]:=by
   rw [iY,aO hi,f,aD,aO hi,lJ];rfl
  rw [e];exact h.oG
 grind
def aev {w:World} {b:Nat} {t:TypeId} {a d e f:Value} (h:w.heap[b]? =some (.cells #[a,d,e,f] t (0,0))):(w.cell? ⟨b,0,none⟩=some a/\w.cell? ⟨b,1,none⟩=some d/\w.cell? ⟨b,2,none⟩=some e/\w.cell? ⟨b,3,none⟩=some f)/\b<w.heap.size:=
 ⟨⟨by simp [World.cell?,h],by simp [World.cell?,h],by simp [World.cell?,h],by simp [World.cell?,h]⟩,(au.1 h).1⟩
def aEv {W:World} {B p:Nat} {v m:Value} {L:List bI} (hg:iR W B p v m L) {l l2:List Rs} (T:Ud (L.map zO) l) (hl:l.length=L.length) (h2:aeu l l2) (h0:0<L.length) (F:L.length<=10000) (hT:bw W):
 Calls prog 50 #[ptr p] W fun e w'=> ∃vv sv,e= .returned (.tuple #[vv,sv])/\aEu W l2 w' vv sv:=by
 have f:=ae (af hg (af T (af hl (af h2 (af h0 (af F hT))))));have Zm:=ae (amI hg (by omega:L.length<=100000));obtain ⟨n,hn⟩:=pS L.length;have HN:=ae hn;rw [hn] at h0 F;clear hg T hl h2 hT hn;unfold ptr at Zm⊢;go_enter func50,ntmps50;go_wp2_with fail;refine Zm.out.mono ?_;rintro e w1 ⟨v1,rfl,wT,bP⟩;have S:bw w1:=Hu f.out.2.2.2.2.2.2 bP;have M:=ae (aDp wT f.out.2.1 f.out.2.2.1 f.out.2.2.2.2.1 f.out.2.2.2.2.2.1 S);obtain ⟨va1,vc1,rfl⟩:=wT.slice;have Z:=ae bP;rw [HN.out] at M⊢;clear wT bP S;go_wp2_with fail;refine M.out.mono ?_;rintro e I ⟨b,g,rfl,hA⟩;have J:=ae hA;have gC:=ae (Z.out.trans (hA.below.mono Z.out.size));have tY:=ae (Hu f.out.2.2.2.2.2.2 (Z.out.trans (hA.below.mono Z.out.size)));have X:=ae (show l2.length=n by rw [f.out.2.2.2.1.1,f.out.2.2.1,HN.out]);have Zz:=ae (⟨[],[],⟨aG _ _,World.ownsRow_nil _ _ _ _,World.ownsRow_nil _ _ _ _,(fun x hx=>by cases hx),fun x hx=>by cases hx⟩,rfl,fun j hj=>by omega⟩:UM I I l2 0 (.slice none 0 0) (.slice none 0 0));clear hA;go_wp2_with fail;go_loopw [4,5,12] (fun vv sv iv wr=> ∃i:Nat,iv= .int .i64 (i:Int)/\i<=n/\UM I wr l2 i vv sv) (fun _ _ iv _=>n-(intOf iv).toNat)
 case atStart=>exact ⟨0,rfl,by omega,Zz.out⟩
 case round=>
  obtain ⟨i,rfl,hi,hW⟩:=hrel;have HW:=ae hW;obtain ⟨N,R,d,hR,Q⟩:=hW.ex;obtain ⟨va,vc,rfl⟩:=Qg d.wD;obtain ⟨sa,sc,rfl⟩:=Qg d.oG;have Qh:((l2.take i).map Rs.s).length=i:=by rw [ir,cY,X.out];omega
  rw [Qh,hR] at HW d⊢;have H:=ae (af Qh (af hR Q));by_cases O:i<n
  ·obtain ⟨h,u,c1,k,y,o,⟨U,q1,q2,q3⟩,n1,n2⟩:=(by obtain ⟨arr,P,e3,e4,e5⟩:=J.out.row;obtain ⟨h,u,c1,k,y,o,⟨U,q1,q2,q3⟩,n1,n2⟩:=e5 i O;exact ⟨h,u,c1,k,y,o,⟨(d.below.cell (p:=⟨g,i*4,none⟩) J.out.blt.2).trans (g5 P U).1,(d.below.cell (p:=⟨g,i*4+1,none⟩) J.out.blt.2).trans (g5 P q1).1,(d.below.cell (p:=⟨g,i*4+2,none⟩) J.out.blt.2).trans (g5 P q2).1,(d.below.cell (p:=⟨g,i*4+3,none⟩) J.out.blt.2).trans (g5 P q3).1⟩,n1,n2⟩: ∃h u c1 k y o,(wr.cell? ⟨g,i*4,none⟩=some (.bool (decide ((l.getD i eR).p<0)))/\wr.cell? ⟨g,i*4+1,none⟩=some (.slice h u c1)/\wr.cell? ⟨g,i*4+2,none⟩=some (.slice k y o)/\wr.cell? ⟨g,i*4+3,none⟩=some (.int .i64 (l.getD i eR).s))/\eD I (.slice h u c1) (l.getD i eR).p.natAbs/\eD I (.slice k y o) (l.getD i eR).q)
   have hC:=f.out.2.2.2.1.2 i (by rw [f.out.2.2.1,HN.out];exact O);have HC:=ae (af hC.2.2 (show sU (l.getD i eR).p (l.getD i eR).q I (.agg #[.bool (decide ((l.getD i eR).p<0)),.slice h u c1,.slice k y o]) from ⟨_,_,rfl,n1,n2⟩));have Vq:=ae hC.2.1.symm;have lS:=ae (af O hi);have Vk:g<wr.heap.size:=aj wr _ U;obtain ⟨Y,lN⟩:=pS (decide ((l.getD i eR).p<0));obtain ⟨ss,Af⟩:=pS ((l.getD i eR).s);rw [lN] at U HC;rw [Af] at q3 Vq;have i0:(0:Int)<=(i:Int):=by omega
   have i1:(i:Int)<(n:Int):=by omega
   have a:=ae ((d.al (.cells #[.bool Y,.slice h u c1,.slice k y o,.int .i64 ss] 164)));clear hC n1 n2 d hW lN Af Qh hR Q O hi;go_wp2_with fail;clear U q1 q2 q3 Vk;generalize wr.alloc (.cells #[.bool Y,.slice h u c1,.slice k y o,.int .i64 ss] 164)=w4 at a⊢;obtain ⟨⟨A,C,D,E⟩,G⟩:=aev (a.out.kept _ (aC ..)).1;simp only at A C D E G
   go_region_law (first
    |(refine aEr (by rfl) _ _ (by rfl) (by rfl) _ (by rfl) (by first|exact a.out|exact a.out.al _|exact a.out.Zy _ _|exact a.out.drew|exact a.out.drew.al _|exact a.out.drew.Zy _ _) (by first|exact List.Mem.head _|exact List.Mem.tail _ (List.Mem.head _)|exact List.Mem.tail _ (List.Mem.tail _ (List.Mem.head _))) (m:=i) H.out.2.1 (by omega) ?_;intro gg mN w5 z;replace a:=ae z;clear z A C D E G;obtain ⟨⟨A,C,D,E⟩,G⟩:=aev (a.out.kept (wr.heap.size,.cells #[.bool Y,.slice h u c1,.slice k y o,.int .i64 ss] 164 (0,0)) (by simp)).1;simp only at A C D E G)
    |(refine aEs (by rfl) _ _ (by rfl) (by rfl) _ (by rfl) (by first|exact a.out|exact a.out.al _|exact a.out.Zy _ _|exact a.out.drew|exact a.out.drew.al _|exact a.out.drew.Zy _ _) (by first|exact List.Mem.head _|exact List.Mem.tail _ (List.Mem.head _)|exact List.Mem.tail _ (List.Mem.tail _ (List.Mem.head _))) (m:=i) H.out.1 (by omega) ?_;intro gg mN w5 z;replace a:=ae z;clear z A C D E G)
    |(go_simp;go_at_call 95;refine (aEt (by first|exact a.out|exact a.out.al _|exact a.out.drew|exact a.out.drew.al _) tY.out HC.out.1 HC.out.2).mono ?_;rintro e w5 ⟨t,b1,j1,e1,b2,j2,P,rfl,z⟩;replace a:=ae z;clear z A C D E G;obtain ⟨⟨A,C,D,E⟩,G⟩:=aev (a.out.kept (wr.heap.size,.cells #[.bool Y,.slice h u c1,.slice k y o,.int .i64 ss] 164 (0,0)) (by simp)).1;simp only at A C D E G))
   all_goals
    go_wp2_with fail;go_roundw
    case rel=>exact ⟨i+1,by go_num,by have:=lS.out.1;omega,UM.next H.out.2.1 (by rw [X.out];exact lS.out.1) H.out.2.2 Vq.out a.out⟩
    case measure=>have:=lS.out.1;simp [intOf];omega
  ·have Ni:i=n:=by omega
   subst Ni;clear O hi hW;go_wp2_with fail;go_ret2;refine ⟨_,_,rfl,I,N,R,gC.out,?_,by rw [X.out];exact H.out.2.1,fun j hj=>H.out.2.2 j (by rw [H.out.2.1] at hj;exact hj)⟩;have e:l2.take i=l2:=by rw [<-X.out];exact g7
   rw [e] at d;exact d
end
section
open Go.Proofs.Tryz Go Go.RowKit Go.Maps
def Qi (L:List bI) (id:Int) (j:Nat):Nat:=((partsOf L id).getD j 0).toNat
def aEw {l:List Int} (h:l.Pairwise (· < ·)) {i j:Nat} (hi:i<l.length) (a:j<l.length) (d:l.getD i 0<l.getD j 0:=by omega):i<j:=by
 rw [List.pairwise_iff_getElem] at h;grind
def GI.ahead {L:List bI} (h:GI L):xD L:=fun i e a d=>(h.fit i e).args a d
def Kv {L:List bI} (d:xD L) {id:Nat} (hi:id<L.length) {j:Nat} (e:j<(partsOf L id).length):Reach L id ((partsOf L id).getD j 0)/\(partsOf L id).getD j 0=(Qi L id j:Int)/\Qi L id j<L.length:=by
 have a:=(Za d).1 (Ke e);have f:=a.bound d (by omega) (by omega);refine ⟨a,?_,?_⟩<;>unfold Qi<;>omega
def aew {L:List bI} (hg:GI L) {id:Nat} (hi:id<L.length):aeq L (Qi L id) (partsOf L id).length where
 nd:=fun j hj=>hg.nd _ (Kv hg.ahead hi hj).2.2
 fit:=fun j hj=>⟨_,hg.fit _ (Kv hg.ahead hi hj).2.2⟩
 ahead:=fun j hj a ha=>by
  obtain ⟨h1,h2,h3⟩:=Kv hg.ahead hi hj;have hr:Reach L id a:=h1.step (by rw [h2];exact ha);obtain ⟨i,nK,e⟩:=Hn.1 ((Za hg.ahead).2 hr);have bA:=hg.ahead _ h3 a ha;exact ⟨i,aEw (al6 L id) nK hj,by rw [<-e];exact (Kv hg.ahead hi nK).2.1⟩
def amT (L:List bI) (id:Int):(partsOf L id).length<=L.length:=by
 unfold partsOf;grind
def aEx {L:List bI} (a:xD L) {id:Nat} (hi:id<L.length):0<(partsOf L id).length:=List.length_pos_of_mem ((Za a).2 .self)
structure xJ (w:World) (b c:Nat) (f:Int->Int):Prop where
 ex: ∃D:DataW Nat,w.ownsMap prog 3 (plainElem prog 3) b c D/\ ∀z:Int,(Lit.int .i64 z).wf=true->D.atKey (.int .i64 z) (.lit (.int .i64 0))= .lit (.int .i64 (f z))
def xJ.start (w:World):xJ (w.alloc (.map #[] 0)) w.heap.size 0 fun _=>0:=⟨⟨_,World.ownsMap_made w prog 3 _,fun _ _=>rfl⟩⟩
def xJ.frame {w w':World} {b c:Nat} {f:Int->Int} {S:Nat->Prop} (h:xJ w b c f) (q:Fr S w w') (m: ¬S b):xJ w' b c f:=by
 obtain ⟨D,⟨e,a,d,g,i,k⟩,l⟩:=h.ex;exact ⟨⟨D,⟨e,a,(q.block b (au.1 d).1 m).trans d,g,i,k⟩,l⟩⟩
def xJ.blk {w:World} {b c:Nat} {f:Int->Int} (h:xJ w b c f): ∃d a,w.heap[b]? =some (.map d a):=by
 obtain ⟨D,⟨d,a,e,_⟩,_⟩:=h.ex;simp_all
def UN:Keyed prog 3:=int_keyed underlying3
def xJ.look {w:World} {b c:Nat} {f:Int->Int} (h:xJ w b c f) {z:Int} (a:(Lit.int .i64 z).wf=true):(Instr.lookup 159 (.map (some b)) (.int .i64 z) false).run prog w= .ok (.int .i64 (f z)) w:=by
 obtain ⟨D,e,g⟩:=h.ex;obtain ⟨k,i,d,_⟩:=e.lookup_int UN underlying159 underlying3 (aek w) (keyOf_int_mk underlying3 a);rw [g z a] at d;cases d;exact i
def xJ.store {w:World} {b c:Nat} {f:Int->Int} (h:xJ w b c f) (hc:c<=10000) {z x:Int} (d:(Lit.int .i64 z).wf=true) (m:(Lit.int .i64 x).wf=true):
 ∃w',(Instr.mapUpdate 159 (.map (some b)) (.int .i64 z) (.int .i64 x)).run prog w= .ok () w'/\xJ w' b (c+1) (fun y=>if y=z then x else f y)/\Fr (· =b) w w':=by
 obtain ⟨D,a,g⟩:=h.ex;obtain ⟨w',t,i,l⟩:=a.update UN underlying159 (by unfold maxLen;omega) (keyOf_int_mk underlying3 d) (plainElem_int (q:= .i64) underlying3 m);refine ⟨w',t,⟨⟨_,i,fun y s=> ?_⟩⟩,(vW l).mono (fun k _ e=>by cases e;rfl)⟩;by_cases e:y=z
 ·subst e
  rw [if_pos rfl];exact atKey_put_same a.isMap (UN.key (keyOf_int_mk underlying3 d)) _ _
 ·rw [if_neg e,atKey_put_other (fun q=>e (by cases q;rfl))]
  exact g y s
structure sF (W wr:World) (p b bt:Nat) (L:List bI) (o:Nat->Nat) (j:Nat) (v ov:Value) (zs:List Int):Prop where
 gr:iR wr W.heap.size p v (.map (some b)) (jh L [] o j).1
 ix:qE wr b (jh L [] o j).1
 toX:xJ wr bt j (jh L [] o j).2
 row:wr.ownsRow W.heap.size 3 1 ov zs.length (ints zs)
 below:Below W.heap.size W wr
 hp:W.heap.size<=p
 hb:W.heap.size<=b
 oQ:W.heap.size<=bt
 np:bt≠p
 nb:bt≠b
section
variable {W wr w':World} {p b bt:Nat} {L:List bI} {o:Nat->Nat} {j:Nat} {v ov:Value} {zs:List Int}
def sF.frame {S:Nat->Prop} (h:sF W wr p b bt L o j v ov zs) (g:Fr S wr w') (f: ∀k,k<wr.heap.size-> ¬S k):sF W w' p b bt L o j v ov zs:=
 have d:Below wr.heap.size wr w':=g.oe f (ak _);have a:Fr (fun _=>False) wr w':=Fr.iE d
 ⟨h.gr.below d,h.ix.frame a (fun e=>e),h.toX.frame a (fun e=>e),oh h.row a (fun _ _ e=>e),h.below.trans (d.mono h.below.size),h.hp,h.hb,h.oQ,h.np,h.nb⟩
def sF.later (h:sF W wr p b bt L o j v ov zs) (a:Below wr.heap.size wr w'):sF W w' p b bt L o j v ov zs:=h.frame (S:=fun _=>False) (Fr.iE a) (fun _ _ e=>e)
def sF.aex (h:sF W wr p b bt L o j v ov zs): ¬(bt=p\/bt=b\/v.ownBlock=some bt):=fun e=>by
 rcases e with e|e|e
 ·exact h.np e
 ·exact h.nb e
 ·obtain ⟨cur,hc⟩:=vV h.gr.iT.own e
  obtain ⟨d,a,f⟩:=h.toX.blk;simp_all
def sF.box (a:sF W wr p b bt L o j v ov zs) (h:sF W w' p b bt L o j v ov zs) {c i:Nat} {u:Value} (hc:wr.heap.size<=c):sF W (w'.setCell ⟨c,i,none⟩ u) p b bt L o j v ov zs:=by
 have d:Fr (fun k=>k=c) w' (w'.setCell ⟨c,i,none⟩ u):=(Fr.refl _ w').setCell _ (fun _=>rfl);have m:=a.below.size;have s:p<wr.heap.size:=(au.1 a.gr.blk).1;have t:b<wr.heap.size:=by obtain ⟨l,g,q⟩:=a.ix.blk;grind
 have x:bt<wr.heap.size:=by obtain ⟨l,g,q⟩:=a.toX.blk;grind
 refine ⟨h.gr.frame d (by omega) (fun k f e=>by have:=Ue a.gr.iT.own f;omega),h.ix.frame d (by omega),h.toX.frame d (by omega),oh h.row d (fun k f e=>by have:=Ue a.row f;omega),h.below.trans (d.oe (fun k f e=>by omega) h.below.size),h.hp,h.hb,h.oQ,h.np,h.nb⟩
def sF.next {f:World} {A:Value} {x y:bI} {z i:Int} (h:sF W wr p b bt L o j v ov zs) (s:L.getD (o j) dP=x) (t:ren (jh L [] o j).2 x=y) (u:iR f W.heap.size p A (.map (some b)) (xI (jh L [] o j).1 y)) (F:qE f b (xI (jh L [] o j).1 y)) (g:Fr (fun k=>k=p\/k=b\/v.ownBlock=some k) wr f)
 (G:z=(o j:Int)) (hi:i=(CH (jh L [] o j).1 y:Int)) (M:xJ w' bt (j+1) (fun q=>if q=z then i else (jh L [] o j).2 q)) (l:Fr (· =bt) f w'):sF W w' p b bt L o (j+1) A ov zs:=by
 obtain ⟨J,I,N⟩:=h.ix.blk;have H: ∀k,ov.ownBlock=some k-> ¬(k=p\/k=b\/v.ownBlock=some k):=fun k a e=>by
  obtain ⟨cur,hc⟩:=vV h.row a;rcases e with e|e|e
  ·rw [e,h.gr.blk] at hc;grind
  ·simp_all
  ·exact alR h.gr.iT.own h.row (by decide) e a rfl
 have d:=oh h.row g H;have m:xJ f bt j (jh L [] o j).2:=h.toX.frame g (fun e=>by
  rcases e with e|e|e
  ·exact h.np e
  ·exact h.nb e
  ·obtain ⟨cur,hc⟩:=vV h.gr.iT.own e
   obtain ⟨D,B,P⟩:=h.toX.blk;simp_all)
 obtain ⟨E,C,O⟩:=m.blk;refine ⟨?_,?_,?_,oh d l (fun k a e=> ?_),(h.below.trans (g.oe (fun k a e=> ?_) h.below.size)).trans (l.oe (fun k a e=>by have:=h.oQ;omega) (aL h.below.size g.size)),h.hp,h.hb,h.oQ,h.np,h.nb⟩
 ·rw [amQ s t]
  exact u.frame l (fun e=>h.np e.symm) (fun k a e=>by
   obtain ⟨cur,hc⟩:=vV u.iT.own a;simp_all)
 ·rw [amQ s t]
  exact F.frame l (fun e=>h.nb e.symm)
 ·have e:(jh L [] o (j+1)).2=fun q=>if q=z then i else (jh L [] o j).2 q:=by
   rw [G,hi,<-t,<-s];rfl
  simp_all
 ·obtain ⟨cur,hc⟩:=vV d a
  simp_all
 ·rcases e with e|e|e
  ·have:=h.hp;omega
  ·have:=h.hb;omega
  ·have:=(h.gr.iT.own.lt k e).1;omega
end
def amU {w:World} {B d n size:Nat} {e:TypeId} {v:Value} {xs:List Value} (h:w.ownsRow B e size v n xs) (i:d<=B):w.ownsRow d e size v n xs:=by
 refine ⟨h.1,?_⟩;rcases h.2 with l|⟨g,cap,cur,f,k,a⟩
 ·exact .inl l
 ·exact .inr ⟨g,cap,cur,f,aL i k,a⟩
def iR.low {w:World} {B a p:Nat} {v m:Value} {L:List bI} (h:iR w B p v m L) (d:a<=B):iR w a p v m L:=⟨h.blk,⟨amU h.iT.own d⟩⟩
def uw (L:List bI) (id:Nat):List bI:=(jh L [] (Qi L id) (partsOf L id).length).1
def amV:GI ([]:List bI):=amv
def amW {L:List bI} (a:GI L) {id:Nat} (g:Bi L id) (hi:id<L.length):GI (uw L id)/\NN (uw L id)/\(uw L id).length<=L.length/\0<(uw L id).length:=by
 have k:=aew a hi;have h:=aes amV k _ (ak _);have l:=aEx a.ahead hi;refine ⟨h.gi,amP (fun i hi=>absurd hi (iw _)) (fun j d=>g _ (Kv a.ahead hi d).2.2 (by rw [<-(Kv a.ahead hi d).2.1];exact (Kv a.ahead hi d).1)) _ (ak _),?_,?_⟩
 ·have e:=h.hi
  have f:=amT L id;simp at e;exact aL e f
 ·have:=h.toX 0 l
  unfold uw;omega
def Kw {z:Int} (d:0<=z:=by omega) (a:z<=100000:=by omega):(Lit.int .i64 z).wf=true:=Qd (by omega) a
def aEz {W:World} {B p0:Nat} {v0 m0:Value} {L:List bI} (hg:iR W B p0 v0 m0 L) (Z:GI L) (hl:L.length<=4000) {id:Nat} (hi:id<L.length) (hT:om W):
 Calls prog 49 #[ptr p0,.int .i64 id] W fun e w'=> ∃p b v,e= .returned (ptr p)/\iR w' W.heap.size p v (.map (some b)) (uw L id)/\Below W.heap.size W w':=by
 have l:=ae (af hg (af Z (af hl (af hi hT))));have HO:=ae (aew Z hi);have HI:=ae (aes amV (aew Z hi));have HA:=ae (fun j hj=>(Kv Z.ahead hi (j:=j) hj).2);have hnl:=aL (amT L id) hl;obtain ⟨zs,zg⟩:=pS (partsOf L id);obtain ⟨n,hn⟩:=pS zs.length;obtain ⟨o,ho⟩:=pS (Qi L id);have HP:=ae (show uw L id=(jh L [] o n).1 by unfold uw;rw [ho,zg,hn]);have HK:=ae (fun i hi=>af (Z.nd i hi).k1 (Z.nd i hi).k2);have HZ:=ae zg;have HN:=ae hn;rw [zg,ho] at HO HI HA;rw [zg] at hnl;rw [hn] at HO HI HA hnl;have Nh:= @run_makeMap prog;clear hg Z hl hT zg hn ho;unfold ptr;go_enter func49,ntmps49;go_wp2_with fail;refine amG.mono ?_;rintro e w1 ⟨p,b,rfl,Y,P,h3,h4,h5⟩;rw [uv] at h3 h4 h5;have Zz:=ae ((xJ.start W).frame (S:=fun _=>False) (Fr.iE (by rw [uv];exact h5)) (fun e=>e));have cC:=ae (((aG W.heap.size W).alloc (ak _) (.map #[] 0)).trans (h5.mono (by omega)));have H1:=ae (af Y (af P (af h3 h4)));obtain ⟨bt,oQ⟩:=pS W.heap.size;have T:=ae oQ;rw [oQ] at Zz;rw [oQ];clear Y P h3 h4 h5 Nh oQ;unfold ptr;go_wp2_with fail;refine (aCR (l.out.1.below cC.out) l.out.2.1.ahead HK.out (by have:=l.out.2.2.1;omega) l.out.2.2.2.1).mono ?_;rintro e w2 ⟨ov,rfl,Y,P⟩;rw [HZ.out] at Y;have gC:=ae (cC.out.trans (P.mono cC.out.size));obtain ⟨oa,oc,rfl⟩:=ry Y;have HS:=ae (⟨(H1.out.1.below P).low (by rw [uv];omega),H1.out.2.1.frame (S:=fun _=>False) (Fr.iE P) (fun e=>e),Zz.out.frame (S:=fun _=>False) (Fr.iE P) (fun e=>e),amU Y cC.out.size,gC.out,by have:=H1.out.2.2.1;omega,by have:=H1.out.2.2.2;omega,by have:=T.out;omega,by have:=H1.out.2.2.1;have:=T.out;omega,by have:=H1.out.2.2.2;have:=T.out;omega⟩:sF W w2 p b bt L o 0 (.slice none 0 0) (.slice oa zs.length oc) zs);rw [HN.out] at HS⊢;clear Y P;go_wp2_with fail;go_loopw [17] (fun iv wr=> ∃(j:Nat) (v:Value),j<=n/\iv= .int .i64 (j:Int)/\sF W wr p b bt L o j v (.slice oa n oc) zs) (fun iv _=>n-(intOf iv).toNat)
 case atStart=>exact ⟨0,_,by omega,rfl,HS.out⟩
 case round=>
  obtain ⟨j,v,hj,rfl,hD⟩:=hrel;have HD:=ae hD;clear hD HS;by_cases U:j<n
  ·obtain ⟨gd,fG⟩:=HA.out j U
   obtain ⟨z,hz⟩:=pS (o j);rw [hz] at gd fG;obtain ⟨x,hx⟩:=pS (L.getD z dP);have hI:=HI.out j (by omega);have X:=hI.node HO.out U;have rF:=hI.hi;have hah:=HO.out.ahead j U;have Oe:=hI.toX;have Ed:=l.out.2.1.nd z fG;rw [hz,hx] at X hah;rw [hx] at Ed;have s:=ae (af U (af hj (show L.getD (o j) dP=x by rw [hz];exact hx)));have qF:=ae X;have wH:=ae (show (jh L [] o j).1.length<=4000 by simp at rF;omega);have Qk:=ae (af hz.symm fG);have lS:=ae (PN (l.out.1.below HD.out.below) fG (by have:=l.out.2.2.1;omega) hx);have Oy:=ae Ed;have HAH:=ae (af hah Oe);obtain ⟨oa',oc',eo,E⟩:=Bb HD.out.row;rw [HN.out] at eo;cases eo;obtain ⟨go',rfl,c0⟩:=E j (by rw [HN.out];exact U);rw [gd] at c0;have j0:(0:Int)<=(j:Int):=by omega
   have j1:(j:Int)<(n:Int):=by omega
   obtain ⟨k,f,d,m,t⟩:=x;clear gd fG hz hx hI X rF hah Oe Ed E U hj;go_wp2_with fail;refine lS.out.mono ?_;rintro e I ⟨rfl,nL⟩;have Ql:=ae (HD.out.later nL.below);rw [show gK ⟨k,f,d,m,t⟩= .agg #[.int .i64 k,.int .i64 f,.int .i64 d,.int .i64 m,.string t] from rfl];clear c0 nL;go_wp2_with fail;refine (Y6 (x:=⟨k,f,d,m,t⟩) Oy.out.k1 Oy.out.k2 _).mono ?_;rintro e w8 ⟨av,rfl,ha⟩;obtain ⟨aa,ac,rfl⟩:=ry ha.2;have yk:Below (I.heap.size+1) (I.alloc (.cells ⟨fZ ⟨k,f,d,m,t⟩⟩ 90)) w8:=by rw [<-uv I];exact ha.1
   obtain ⟨d0,d1,d2,d3,d4⟩:=jF (rA yk);simp only at d0 d1 d2 d3 d4;have hs:I.heap.size<w8.heap.size:=aj w8 _ d0;have q:=ae (Ql.out.later (lI yk));have f1:=yw (rA yk) 1;have f2:=yw (rA yk) 2;have G: ∀a∈args ⟨k,f,d,m,t⟩,(Lit.int .i64 a).wf=true:=fun a ha=>by
    obtain ⟨i,hi,rfl⟩:=HAH.out.1 a ha;have:=(HA.out i (by have:=s.out.1;omega)).2;exact Kw (by omega) (by have:=l.out.2.2.1;omega)
   clear yk ha;rcases Kj k with F|F|F
   ·have H:args ⟨k,f,d,m,t⟩= []:=by simp [args,F]
    have D:=ae (show ren (jh L [] o j).2 ⟨k,f,d,m,t⟩=⟨k,f,d,m,t⟩ by simp [ren,F]);rw [H];clear G H F;go_wp2_with fail
    ·skip
     refine (aet (x:=⟨k,f,d,m,t⟩) (q.out).gr (q.out).ix (q.out).below.size (by have:=qF.out.1;rw [D.out] at this;exact this) (by have:=qF.out.2;rw [D.out] at this;exact this) (by have:=wH.out;omega) (l.out.2.2.2.2.below (q.out).below)).mono ?_;rintro e wA ⟨vA,rfl,M,J,A⟩;obtain ⟨Ej,C⟩:=pS (CH (jh L [] o j).1 ⟨k,f,d,m,t⟩);have g:=(Nk (jh L [] o j).1 ⟨k,f,d,m,t⟩).1;have IW:=(Nk (jh L [] o j).1 ⟨k,f,d,m,t⟩).2.2;rw [C] at g⊢;have N:=(q.out).toX.frame A ((q.out).aex);obtain ⟨wB,iB,O,R⟩:=N.store (z:=(z:Int)) (x:=(Ej:Int)) (by have:=s.out.1;omega) (Kw (by omega) (by have:=Qk.out.2;have:=l.out.2.2.1;omega)) (Kw (by omega) (by have:=wH.out;omega));have lU:=ae ((q.out).next s.out.2.2 (D.out) M J A (by rw [Qk.out.1]) (by rw [C]) O R);clear M J A N O R C g IW;go_wp2_with fail;go_roundw
     case rel=>exact ⟨j+1,vA,by have:=s.out.1;omega,by go_num,lU.out⟩
     case measure=>have:=s.out.1;simp [intOf];omega
   ·have H:args ⟨k,f,d,m,t⟩= [f]:=by simp [args,F]
    rw [H] at G;have l1:=q.out.toX.look (G f (by simp));obtain ⟨y,Q⟩:=pS ((jh L [] o j).2 f);have D:=ae (show ren (jh L [] o j).2 ⟨k,f,d,m,t⟩=⟨k,y,d,m,t⟩ by simp [ren,F,Q]);rw [Q] at l1;rw [H];have h:=ae (sF.box (c:=I.heap.size) (i:=1) (u:= .int .i64 y) Ql.out q.out (ak _));clear G H F Q;go_wp2_with fail
    ·skip
     refine (aet (x:=⟨k,y,d,m,t⟩) (h.out).gr (h.out).ix (h.out).below.size (by have:=qF.out.1;rw [D.out] at this;exact this) (by have:=qF.out.2;rw [D.out] at this;exact this) (by have:=wH.out;omega) (l.out.2.2.2.2.below (h.out).below)).mono ?_;rintro e wA ⟨vA,rfl,M,J,A⟩;obtain ⟨Ej,C⟩:=pS (CH (jh L [] o j).1 ⟨k,y,d,m,t⟩);have g:=(Nk (jh L [] o j).1 ⟨k,y,d,m,t⟩).1;have IW:=(Nk (jh L [] o j).1 ⟨k,y,d,m,t⟩).2.2;rw [C] at g⊢;have N:=(h.out).toX.frame A ((h.out).aex);obtain ⟨wB,iB,O,R⟩:=N.store (z:=(z:Int)) (x:=(Ej:Int)) (by have:=s.out.1;omega) (Kw (by omega) (by have:=Qk.out.2;have:=l.out.2.2.1;omega)) (Kw (by omega) (by have:=wH.out;omega));have lU:=ae ((h.out).next s.out.2.2 (D.out) M J A (by rw [Qk.out.1]) (by rw [C]) O R);clear M J A N O R C g IW;go_wp2_with fail;go_roundw
     case rel=>exact ⟨j+1,vA,by have:=s.out.1;omega,by go_num,lU.out⟩
     case measure=>have:=s.out.1;simp [intOf];omega
   ·have H:args ⟨k,f,d,m,t⟩= [f,d]:=by simp [args,F]
    rw [H] at G;have l1:=(q.out.later (aG _ _).drew).toX.look (G f (by simp));have l2:=(q.out.later (aG _ _).drew).toX.look (G d (by simp));obtain ⟨y,Q⟩:=pS ((jh L [] o j).2 f);obtain ⟨y',Uc⟩:=pS ((jh L [] o j).2 d);have D:=ae (show ren (jh L [] o j).2 ⟨k,f,d,m,t⟩=⟨k,y,y',m,t⟩ by simp [ren,F,Q,Uc]);rw [Q] at l1;rw [Uc] at l2;have l3:=((sF.box (c:=I.heap.size) (i:=1) (u:= .int .i64 y) Ql.out q.out (ak _)).later (aG _ _).drew).toX.look (G d (by simp));have l4:=((sF.box (c:=I.heap.size) (i:=2) (u:= .int .i64 y') Ql.out q.out (ak _)).later (aG _ _).drew).toX.look (G f (by simp));rw [Uc] at l3;rw [Q] at l4;rw [H];have h:=ae (sF.box (c:=I.heap.size) (i:=2) (u:= .int .i64 y') Ql.out (sF.box (c:=I.heap.size) (i:=1) (u:= .int .i64 y) Ql.out (q.out.later (aG _ _).drew) (ak _)) (ak _));clear G H F Q Uc;go_wp2_with fail;go_region
    all_goals
     go_wp2_with fail;refine (aet (x:=⟨k,y,y',m,t⟩) (h.out).gr (h.out).ix (h.out).below.size (by have:=qF.out.1;rw [D.out] at this;exact this) (by have:=qF.out.2;rw [D.out] at this;exact this) (by have:=wH.out;omega) (l.out.2.2.2.2.below (h.out).below)).mono ?_;rintro e wA ⟨vA,rfl,M,J,A⟩;obtain ⟨Ej,C⟩:=pS (CH (jh L [] o j).1 ⟨k,y,y',m,t⟩);have g:=(Nk (jh L [] o j).1 ⟨k,y,y',m,t⟩).1;have IW:=(Nk (jh L [] o j).1 ⟨k,y,y',m,t⟩).2.2;rw [C] at g⊢;have N:=(h.out).toX.frame A ((h.out).aex);obtain ⟨wB,iB,O,R⟩:=N.store (z:=(z:Int)) (x:=(Ej:Int)) (by have:=s.out.1;omega) (Kw (by omega) (by have:=Qk.out.2;have:=l.out.2.2.1;omega)) (Kw (by omega) (by have:=wH.out;omega));have lU:=ae ((h.out).next s.out.2.2 (D.out) M J A (by rw [Qk.out.1]) (by rw [C]) O R);clear M J A N O R C g IW;go_wp2_with fail;go_roundw
     case rel=>exact ⟨j+1,vA,by have:=s.out.1;omega,by go_num,lU.out⟩
     case measure=>have:=s.out.1;simp [intOf];omega
  ·have Hv:j=n:=by omega
   subst Hv;clear hj U;go_wp2_with fail;go_ret;exact ⟨p,b,v,rfl,by rw [HP.out];exact HD.out.gr,HD.out.below⟩
end
end Go.Proofs.YthleenhngcdgkaaGreatDoor
