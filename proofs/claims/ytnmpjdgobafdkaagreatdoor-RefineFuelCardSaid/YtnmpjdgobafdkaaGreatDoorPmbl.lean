/- refineFuel_proved. -/
import Derived.Test.YtnmpjdgobafdkaaGreatDoorItl
import Derived.Test.YtnmpjdgobafdkaaGreatDoorPmbk
import Derived.Shelf.SlIter.Nil
import Derived.Shelf.SortM.Plain
import Derived.Shelf.SortM.SortNone
import Derived.Ground.GgzProg
import Derived.Ground.SlgmProg
import Derived.Test.YtnmpjdgobafdkaaGreatDoorProg
set_option maxRecDepth 100000
set_option maxHeartbeats 16000000
set_option linter.all false
noncomputable section
namespace Go.Proofs.YtnmpjdgobafdkaaGreatDoor
section
open Go.Proofs.Tryz Go Go.RowKit
variable {L:List b8} {w:World} {B p:Nat} {v m:Value}
def aCO : ∀u∈Di L,u.oneCell'=true:=fun u b=>by
 obtain ⟨x,_,a⟩:=List.mem_flatMap.1 b;simp only [jD,bu,jj,or_false] at a;rcases a with rfl|rfl|rfl|rfl|rfl<;>rfl
def aCP (h:jE w B v L) (l:L.length<=100000):
 Calls prog 90 #[v] w fun e g=> ∃f,e= .returned f/\jE g w.heap.size f L/\Below w.heap.size w g:=by
 obtain ⟨E,⟨rfl,C⟩|⟨a,cap,rfl,J,M,b⟩⟩:=ad4 h.own
 ·obtain rfl:L= []:=cJ C
  have F:=fun w=>Lib.run_eql_slice_nil (P:=prog) w 25 60 none 0 0 0 0 underlying25
  go_enter func90,ntmps90;go_wp2_with fail;go_ret;exact ⟨_,rfl,⟨World.ownsRow_nil _ _ _ _⟩,aH _ _⟩
 ·have F:=fun w=>Lib.run_eql_slice_nil (P:=prog) w 25 60 (some a) L.length cap 0 0 underlying25
  obtain ⟨H,A,z,y,x⟩:=info_parts Tryz.infoNode;have s:=ae b;have q:=ae (aCO (L:=L));have i:(w.alloc (.cells #[] 60)).ownsRow w.heap.size 60 5 (.slice (some ⟨w.heap.size,0,none⟩) 0 0) 0 []:=World.ownsRow_lit w #[] 0 (aq _) (by unfold maxLen;omega) rfl;have I:=ae i;clear b i h;go_enter func90,ntmps90;go_wp2_with (at_builtin;refine wpList_append_own _ rfl _ _ 25 rfl w.heap.size 60 H _ 5 48 underlying25 A z y x rfl (by decide) _ 0 [] rfl I.out a L.length cap (Di L) rfl E ?_ q.out (by unfold maxLen;omega) (by omega) (by simp) ?_)
  ·intro j u G
   have:=s.out j u G;exact (((aH w.heap.size w).alloc (aq _) (.cells #[] 60)).cell (ak w _ this)).trans this
  ·intro f g d o _
   try simp only [im,cV] at d
   have HO:=ae d;have t:=ae o;clear d o;go_wp2_with fail;go_ret;exact ⟨_,rfl,⟨HO.out⟩,((aH w.heap.size w).alloc (aq _) (.cells #[] 60)).grown t.out (by simp) (by intro k D;simp [Value.ownBlock] at D;omega)⟩
def alI (h:iI w B p v m L) (a:L.length<=100000):
 Calls prog 50 #[ptr p] w fun e f=> ∃b,e= .returned b/\jE f w.heap.size b L/\Below w.heap.size w f:=by
 have j:=qv h.blk 0;simp only [cS,bX] at j;have g:=ae (aCP h.lz a);obtain ⟨k,l,rfl⟩:=h.lz.slice;clear h;unfold ptr;go_enter func50,ntmps50;go_wp2_with fail;refine g.out.mono ?_;rintro e o ⟨b,rfl,d⟩;have i:=ae d;clear d;go_wp2_with fail;go_ret;exact ⟨b,rfl,i.out⟩
def aCQ (h:iI w B p v m L) (a:L.length<=100000):
 Calls prog 49 #[ptr p] w fun e d=>e= .returned (.int .i64 L.length)/\d=w:=by
 have b:=qv h.blk 0;simp only [cS,bX] at b;obtain ⟨f,g,rfl⟩:=h.lz.slice;clear h;unfold ptr;go_enter func49,ntmps49;go_wp2_with fail;go_ret;exact ⟨rfl,rfl⟩
end
end Go.Proofs.YtnmpjdgobafdkaaGreatDoor
namespace Go.Proofs
section
open Go.RowKit Go.Maps Go.Sort Go.Shelf
def Tryz.sorts68 (m:Nat):AnyZ.SortsIn Tryz.prog Tryz.sorted68_ren Fence.wide m:=
 ⟨fun blk off cap d W b e a=>callsIn_wide.2 (AnyM.slices_Sort_string Tryz.sort122 blk off cap d W b e a),
  fun p cap W=>callsIn_wide.2 (AnyM.slices_Sort_string_none Tryz.sort122 p cap W)⟩
def Tryz.maps_Keys_69 (a:Option Nat) (W:World):CallsIn Fence.wide 5 Tryz.prog 69 #[.map a] W fun e b=>e= .returned (.func (.func 123) #[] #[.pointer (some ⟨W.heap.size,0,none⟩)])/\b=W.alloc (.cells #[.map a] 134):=
 AnyZ.keys_in Tryz.keys69 Fence.wide 5 trivial rfl a W
def Tryz.slices_Sorted_keys_68_69 {H:Type} (b k:Nat) (a:DataW H) (R:Value->Option (DataW H×List MemPlace)) (w:World) (j:w.ownsMap Tryz.prog 9 R b k a) (g:Maps.size a<=maxLen) (h:Maps.size a*16<=140737488355328):
 CallsIn Fence.wide 5 Tryz.prog 68 #[.func (.func 123) #[] #[.pointer (some ⟨w.heap.size,0,none⟩)]] (w.alloc (.cells #[.map (some b)] 134)) fun e l=> ∃(v:Value) (f:List (List UInt8)),e= .returned v/\f.Perm (strKeys a)/\
  l.ownsRow (w.alloc (.cells #[.map (some b)] 134)).heap.size 9 1 v f.length ((f.mergeSort (fun x y=>decide (x<=y))).map encStr)/\(v= .slice none 0 0↔f= [])/\Below (w.alloc (.cells #[.map (some b)] 134)).heap.size (w.alloc (.cells #[.map (some b)] 134)) l:=by
 have t:=j.lt;have i:SeqGives Fence.wide 2 Tryz.prog 123 #[.pointer (some ⟨w.heap.size,0,none⟩)] encStr (fun f=>f.Perm (strKeys a)) (Maps.size a) (w.alloc (.cells #[.map (some b)] 134)):=
  AnyZ.keys_gives (ρ:=Tryz.keys69_ren) {Tryz.keys69 with} Fence.wide _ trivial rfl (by omega) w.heap.size b k a _ (by simp) (by simp) (by
   obtain ⟨o,d,q,m,s,p⟩:=j;exact ⟨o,d,(dI _ _ b t).trans q,m,s,p⟩)
 exact AnyZ.sorted_in Tryz.sorted68 Fence.wide 5 trivial trivial trivial trivial rfl (by omega) (Tryz.sorts68 _) (enters_of Tryz.func122 (by kernel_rfl) rfl) 123 #[.pointer (some ⟨w.heap.size,0,none⟩)] trivial (enters_of Tryz.func123 (by kernel_rfl) rfl) _ _ g h _ i
end
end Go.Proofs
namespace Go.Proofs.YtnmpjdgobafdkaaGreatDoor
section
open Go.Proofs.Tryz Go Go.RowKit Go.Maps
variable {b g:Nat} {W w wr:World} {M:List Bool}
def aCT (h:w.heap[b]? =some (.map #[] 0)) (k:TypeId) {H:Type} (R:Value->Option (DataW H×List MemPlace)): ∃D:DataW H,w.ownsMap prog k R b 0 D/\strKeys D= []/\Maps.size D=0:=by
 obtain ⟨i,a,d,e,f,j⟩:=World.ownsMap_made (H:=H) w prog k R;rw [heap_alloc_new] at d;cases d;refine ⟨_,⟨#[],0,h,e,f,rfl⟩,?_,?_⟩<;>rfl
def aCU (h:w.heap[b]? =some (.map #[] 0)):
 Calls prog 69 #[.map (some b)] w fun e a=>a=w.alloc (.cells #[.map (some b)] 134)/\ ∃v,e= .returned v/\
  Calls prog 68 #[v] a fun d j=>d= .returned (.slice none 0 0)/\Below w.heap.size w j:=by
 obtain ⟨D,k,m,i⟩:=aCT (H:=Nat) h 9 (plainElem prog 4);refine (callsIn_wide.1 (Tryz.maps_Keys_69 (some b) w)).mono ?_;rintro e a ⟨rfl,rfl⟩;refine ⟨rfl,_,rfl,?_⟩;refine (callsIn_wide.1 (Tryz.slices_Sorted_keys_68_69 b 0 D _ w k (by rw [i];exact b6 _) (by rw [i];decide))).mono ?_;rintro d j ⟨v,p,rfl,f,_,o,l⟩;rw [m] at f;have:=o.2 f.eq_nil;subst this;exact ⟨rfl,((aH w.heap.size w).alloc (aq _) _).trans (l.mono (by simp))⟩
structure GP (W wr:World) (g b:Nat) (M:List Bool):Prop where
 E9:E1 W wr g M
 mp:wr.heap[b]? =some (.map #[] 0)
 ne:b≠g
 hg:W.heap.size<=g
 hb:W.heap.size<=b
def GP.later {w':World} (h:GP W wr g b M) (a:Below wr.heap.size wr w'):GP W w' g b M:=
 ⟨h.E9.later a,(a.block _ (ax.1 h.mp).1).trans h.mp,h.ne,h.hg,h.hb⟩
def GP.set (h:GP W wr g b M) (i:Nat) (x:Bool):GP W (wr.setCell ⟨g,i,none⟩ (.bool x)) g b (M.set i x):=
 ⟨h.E9.set i x h.hg,(gI _ _ _ _ h.ne).trans h.mp,h.ne,h.hg,h.hb⟩
def alJ {B p:Nat} {v m:Value} {L:List b8} (Y:iI W B p v m L) (hL:Dl L) (hk: ∀i,i<L.length->1<=(L.getD i fS).k/\(L.getD i fS).k<=16/\(L.getD i fS).k≠2) (hl:L.length<=4096) {id:Nat} (hi:id<L.length):
 Calls prog 41 #[ptr p,.int .i64 id] W fun e w'=>e= .returned (.slice none 0 0)/\Below W.heap.size W w':=by
 have G:=ae (af Y (af hL (af hk (af hl hi))));have X:=qv Y.blk 0;simp only [cS,bX] at X;have hp:p<W.heap.size:=ak W _ X;obtain ⟨va,vc,rfl⟩:=Y.lz.slice;obtain ⟨n,hn⟩:=pQ L.length;rw [hn] at X hl hi;have HN:=ae hn;obtain ⟨i0,fq,ff,fH,eV⟩:=info_parts Tryz.info4;have id0:(0:Int)<=(id:Int):=by omega
 have id1:(id:Int)<(n:Int):=by omega
 have Mc:= @run_makeMap prog;clear Y hL hk hn;unfold ptr;go_enter func41,ntmps41;go_wp2_with (refine wpList_make_full W rfl (.tmp 25) (.tmp 25) 133 rfl W.heap.size 4 i0 _ 1 underlying133 fq ff fH _ _ _ _ (id+1) rfl rfl (by omega) (by omega) (by rw [eV];omega) (by unfold maxLen;omega) (aq _) ?_;intro P OT L4;have U:=ae (by rw [aB4] at OT;exact ⟨by rw [aZ];exact OT,(uN L4).nJ (fun k _ e=>by cases e) (aq _)⟩:E1 W P W.heap.size (List.replicate (id+1) false));have Y9:=U.out.cell (i:=id) (by rw [aZ];omega);have hfm:=U.out.row.frozenAt id;clear OT L4);have C:=U.out.set id true (aq _);obtain ⟨g,ph⟩:=pQ W.heap.size;have Bh:W.heap.size<=g:=by omega
 rw [ph] at C⊢;have E:=(C.row.lt g rfl).2;have e6:(P.setCell ⟨g,id,none⟩ (.bool true)).heap.size=P.heap.size:=by simp [World.setCell]
 generalize P.setCell ⟨g,id,none⟩ (.bool true)=w6 at C E e6⊢;have N:GP W (w6.alloc (.map #[] 0)) g w6.heap.size ((List.replicate (id+1) false).set id true):=⟨C.later ((aH _ _).alloc (aq _) _),heap_alloc_new _ _,by omega,Bh,by omega⟩;have TE:((List.replicate (id+1) false).set id true).length=id+1:=by simp
 generalize (List.replicate (id+1) false).set id true=M0 at N TE;obtain ⟨b,xY⟩:=pQ P.heap.size;rw [e6,xY] at N;rw [xY];generalize w6.alloc (.map #[] 0)=w7 at N⊢;have l:=ae (af N TE);clear C ph Bh Y9 hfm U fq ff fH eV N TE xY E e6;go_loopw [7] (fun iv wr=> ∃(i:Int) (M:List Bool),iv= .int .i64 i/\ -1<=i/\i<=(id:Int)/\M.length=id+1/\GP W wr g b M) (fun iv _=>(intOf iv+1).toNat)
 case atStart=>exact ⟨id,_,rfl,by omega,by omega,l.out.2,l.out.1⟩
 case round=>
  obtain ⟨i,M,rfl,xX,G5,I,hM⟩:=hrel;have d:=ae (af I hM);clear I hM l;by_cases h0:0<=i
  ·obtain ⟨j,rfl⟩: ∃j:Nat,i=(j:Int):=⟨i.toNat,by omega⟩
   have Z:j<L.length:=by rw [HN.out];omega
   obtain ⟨y,hy⟩:=pQ (L.getD j fS);have Bi:=G.out.1.lz.frame (S:=fun _=>False) (Fr.jq d.out.2.E9.below) (fun _ _ e=>e);obtain ⟨gv,cv,ev,c0,c1,c2,c3,c4⟩:=Bi.form Z hy;have b1:wr.cell? ⟨p,0,none⟩=some (.slice va n vc):=(d.out.2.E9.below.cell hp).trans X;cases ev;have cj:=d.out.2.E9.cell (i:=j) (by rw [d.out.1];omega);have Rg:OV M j=OV M j:=rfl;have O:=G.out.2.2.1 j Z;rw [hy] at O;obtain ⟨k,a,f,h,t⟩:=y;simp only at c0 c1 c2 c3 c4 O;have R:=ae (af hy (af Z O));have zl:k≠2:=O.2.2;have j0:(0:Int)<=(j:Int):=by omega
   have j1:(j:Int)<(n:Int):=by omega
   have j2:(j:Int)<((id+1:Nat):Int):=by omega
   have Q:=ae G5;clear Bi hy Z xX G5 h0 O Rg;cases hx:OV M j
   ·rw [hx] at cj
    clear hx;go_wp2_with fail;go_roundw
    case rel=>exact ⟨(j:Int)-1,_,rfl,by omega,by have:=Q.out;omega,d.out.1,d.out.2⟩
    case measure=>first|(simp [intOf];done)|(simp [intOf];omega)
   ·rw [hx] at cj
    clear hx;go_wp2_with fail;refine (Jr (x:=⟨k,a,f,h,t⟩) R.out.2.2.1 R.out.2.2.2.1 _).mono ?_;rintro e w8 ⟨av,rfl,J⟩;obtain ⟨aa,ac,rfl⟩:=vw J.2;have H:=(d.out.2.later ((aH _ _).alloc (aq _) _)).later J.1;have fT:(Value.slice aa (args ⟨k,a,f,h,t⟩).length ac).ownBlock≠some g:=fun e=>by
     have h1:=(J.2.lt g e).1;have h2:=(d.out.2.E9.row.lt g rfl).2;simp at h1;omega
    have A:=ae (af H (af J.2 fT));obtain ⟨o,kg⟩:=pQ ((args ⟨k,a,f,h,t⟩).length);have om:o<=2:=by rw [<-kg];exact xP _
    have rX:=ae kg;clear J H fT;rw [kg];clear kg b1 c0 c1 c2 c3 c4 cj;go_wp2_with fail;go_loopw [61] (fun kv Je=> ∃(q:Nat) (T:List Bool),kv= .int .i64 (q:Int)/\q<=o/\T.length=id+1/\GP W Je g b T/\ ∃B2,Je.ownsRow B2 3 1 (.slice aa (args ⟨k,a,f,h,t⟩).length ac) (args ⟨k,a,f,h,t⟩).length (ints (args ⟨k,a,f,h,t⟩))) (fun kv _=>o-(intOf kv).toNat)
    case atStart=>exact ⟨0,_,rfl,by omega,d.out.1,A.out.1,_,A.out.2.1⟩
    case round=>
     obtain ⟨q,T,rfl,hq,D,s,B2,qR⟩:=hrel;by_cases u:q<o
     ·obtain ⟨a4,c4,e4,yx⟩:=GK qR
      obtain ⟨g4,e5,CH⟩:=yx q (by rw [rX.out];exact u);cases e4;subst e5;have OL:q<(args ⟨k,a,f,h,t⟩).length:=by rw [rX.out];exact u
      have zM:=G.out.2.1 j R.out.2.1 ((args ⟨k,a,f,h,t⟩).getD q 0) (by rw [R.out.1];exact Yl OL);obtain ⟨z,hz⟩: ∃z:Nat,(args ⟨k,a,f,h,t⟩).getD q 0=(z:Int):=⟨_,(jX zM.1).symm⟩;rw [hz] at CH zM;have ca:=s.E9.cell (i:=z) (by rw [D];have:=Q.out;omega);have fa:=s.E9.row.frozenAt z;have EK:=s.set z true;have F:=qu (S:=fun k=>k=g) qR ((Fr.refl (fun k=>k=g) wr).setCell (a:=⟨g,z,none⟩) (.bool true) (fun _=>rfl)) (fun k' i5 e=>A.out.2.2 (by rw [i5,e]));have lq:=ae (af EK (af F (by rw [bA];exact D:(T.set z true).length=id+1)));have a0:(0:Int)<=(z:Int):=by omega
      have a1:(z:Int)<((id+1:Nat):Int):=by have:=Q.out;omega
      have jx:(0:Int)<=(q:Int):=by omega
      have Gd:(q:Int)<(o:Int):=by omega
      have AL:q<2:=by omega
      have xQ:=ae (af u hq);clear EK F qR yx OL zM hz s D u hq;go_wp2_with fail;go_roundw
      case rel=>exact ⟨q+1,_,by go_num,by have:=xQ.out.1;omega,lq.out.2.2,lq.out.1,_,lq.out.2.1⟩
      case measure=>have:=xQ.out.1;simp [intOf];omega
     ·have hqe:q=o:=by omega
      subst hqe;have HE:=ae (af D s);clear s D qR u hq;go_wp2_with fail;go_roundw
      case rel=>exact ⟨(j:Int)-1,_,rfl,by omega,by have:=Q.out;omega,HE.out.1,HE.out.2⟩
      case measure=>first|(simp [intOf];done)|(simp [intOf];omega)
  ·have GQ:i= -1:=by omega
   subst GQ;clear h0 xX G5;have NK:=ae (aCU d.out.2.mp);go_wp2_with fail;refine NK.out.mono ?_;rintro e w8 ⟨hw8,v8,rfl,hS⟩;have A:=ae hS;clear hS hw8;go_wp2_with fail;refine A.out.mono ?_;rintro e w9 ⟨rfl,Bl⟩;have DM:=ae Bl;clear Bl;go_wp2_with fail;go_ret;exact ⟨rfl,d.out.2.E9.below.trans (DM.out.mono d.out.2.E9.below.size)⟩
end
section
open Go Go.RowKit
def aCV {w:World} {B p b:Nat} {v:Value} {L:List b8} {x:b8} (h:iI w B p v (.map (some b)) L) (hi:pA w b L) (R:px x) (O:qU L.length x) {i:Nat} (F:i<L.length) (E:L.getD i fS=x) (P:L.length<=4000) (M:pz w):
 Calls Tryz.prog 21 #[ptr p,ig x] w fun e Z=>e= .returned (.tuple #[.int .i64 i,.int .i64 0])/\Below w.heap.size w Z:=by
 have d:=ae (af h (af hi (af F (af R (af O (af E (af P M)))))));have Q:p<w.heap.size:=(ax.1 h.blk).1;obtain ⟨a,c,rfl⟩:=h.lz.slice;obtain ⟨n,o⟩:=pQ L.length;have A:=ae o;have C:=ae (by rw [<-o];exact h:iI w B p (.slice a n c) (.map (some b)) L);have U:=ae (Yw h hi);rw [o] at P;clear h hi F R O E M o;obtain ⟨k,f,g,m,t⟩:=x;have z:=ae ((aH w.heap.size w).alloc (aq _) (.cells ⟨jD ⟨k,f,g,m,t⟩⟩ 60));have HQ:=ae Q;clear Q;unfold ptr;rw [show ig ⟨k,f,g,m,t⟩= .agg #[.int .i64 k,.int .i64 f,.int .i64 g,.int .i64 m,.string t] from rfl];go_enter Tryz.func21,Tryz.ntmps21;go_wp2_with fail;refine (alC (x:=⟨k,f,g,m,t⟩) (C.out.below z.out) (by have:=A.out;omega) d.out.2.2.2.1 d.out.2.2.2.2.1 (d.out.2.2.2.2.2.2.2.below z.out)).mono ?_;rintro e j ⟨rfl,N⟩;have l:=ae (by rw [<-uS w];exact N:Below (w.heap.size+1) (w.alloc (.cells ⟨jD ⟨k,f,g,m,t⟩⟩ 60)) j);clear N;obtain ⟨u,G,H,I,J⟩:=mF (wM l.out);simp only at u G H I J;have X:w.heap.size<j.heap.size:=ak j _ u;have y:=ae (C.out.below (uR l.out));have q:=ae (d.out.2.1.frame (Fr.jq (S:=fun _=>False) (uR l.out)) (fun e=>e));have lJ:=ae (Fr.jq (S:=fun _=>False) (uR l.out));have s:=qv y.out.blk 0;have b1:=qv y.out.blk 1;simp only [cS,bX,fG] at s b1;have W:=Au y.out.blk 0;have T:p<j.heap.size:=ak j _ s;have D:=(q.out.frame (Fr.refl (fun _=>False) j).drew (fun e=>e)).aCJ (x:=⟨k,f,g,m,t⟩) d.out.2.2.2.1 d.out.2.2.2.2.1 (by have:=A.out;omega) d.out.2.2.1 d.out.2.2.2.2.2.1;rw [show ig ⟨k,f,g,m,t⟩= .agg #[.int .i64 k,.int .i64 f,.int .i64 g,.int .i64 m,.string t] from rfl] at D;go_wp2_with fail;go_region;have Y:=ae ((uR l.out).drew);clear u G H I J X s b1 W T D;go_wp2_with fail;go_ret2;exact ⟨rfl,Y.out⟩
end
section
open Go.Proofs.Tryz Go Go.RowKit
def aCW {k:Int} (a:1<=k) (b:k<=16) (w:World):Calls prog 61 #[.int .i64 k] w fun e d=>e= .returned (.int .i64 (arity k))/\d=w:=by
 rcases kinds a b with rfl|rfl|rfl|rfl|rfl|rfl|rfl|rfl|rfl|rfl|rfl|rfl|rfl|rfl|rfl|rfl
 all_goals
  clear a b;go_enter func61,ntmps61;go_wp2;go_ret;exact ⟨rfl,rfl⟩
def aCX {x:b8} (d:px x) (l:x.k≠2) {w:World} (j:pz w):
 Calls prog 62 #[ig x] w fun e H=>e= .returned (.bool true)/\Below w.heap.size w H:=by
 obtain ⟨k,a,b,n,t⟩:=x;have s:=d.k1;have u:=d.k2;have h:=d.pow;have f:=d.lH;have i:=d.qt;simp only at s u h f i l;have z:=ae (af d j);have o:=ae (fun x:b8=>(aH w.heap.size w).alloc (aq _) (.cells ⟨jD x⟩ 60));unfold ig;simp only;by_cases m:k=1
 ·subst m
  obtain rfl:=f (by omega);clear s u h f i d j l;go_enter func62,ntmps62;go_wp2_with fail;refine (alx alz (z.out.2.below (o.out ⟨1,a,b,0,t⟩)) (z.out.1.ES rfl)).mono ?_;rintro e y ⟨p,N,P,O,Q,S,R,rfl,C⟩;have q:Below (w.heap.size+1) (w.alloc (.cells ⟨jD ⟨1,a,b,0,t⟩⟩ 60)) y:=by rw [<-uS w];exact C
  obtain ⟨A,D,E,F,G⟩:=mF (wM q);simp only at A D E F G;have B:=ae (uR q);have I:w.heap.size<y.heap.size:=ak y _ A;clear C q;go_wp2_with fail;go_ret;exact ⟨rfl,B.out.alloc B.out.size _⟩
 ·obtain rfl:=i m l
  by_cases g:k=10
  ·subst g
   obtain ⟨J,M⟩:=h rfl;clear s u h f i d j l m;go_enter func62,ntmps62;go_wp2_with fail;go_ret;exact ⟨by simp,o.out ⟨10,a,b,n,ByteArray.empty⟩⟩
  ·obtain rfl:=f g
   clear h f i d j;go_enter func62,ntmps62;go_wp2_with fail;go_ret;exact ⟨rfl,o.out ⟨k,a,b,0,ByteArray.empty⟩⟩
end
section
open Go Go.RowKit
variable {l:List (Int×Int)} {w w':World} {B i m j:Nat} {v:Value} {ops:Array Oper} {o:Oper} {a:Act} {Q:Exit->Act->World->Prop}
def uV (l:List (Int×Int)):List Value:=l.flatMap fun p=> [.int .i64 p.1,.int .i64 p.2]
def aCY (l:List (Int×Int)):(uV l).length=l.length*2:=by
 induction l with
 |nil=>rfl
 |cons x l b=>simp only [uV,kB,aX] at b⊢;grind
def alN: ∀(l:List (Int×Int)) (i:Nat),i<l.length->(uV l)[i*2]? =some (.int .i64 (l.getD i (0,0)).1)/\(uV l)[i*2+1]? =some (.int .i64 (l.getD i (0,0)).2)
 | [],i,h=>by simp at h
 |x::l,0,_=>by simp [uV]
 |x::l,i+1,h=>by
  have b:=alN l i (by simpa using h);have e:uV (x::l)= .int .i64 x.1:: .int .i64 x.2::uV l:=by rfl
  grind
def alO: ∀(l:List (Int×Int)) (m:Nat),uV (l.take m)=(uV l).take (m*2)
 | [],m=>by simp [uV]
 |x::l,0=>by rfl
 |x::l,m+1=>by
  have e: ∀l:List (Int×Int),uV (x::l)= .int .i64 x.1:: .int .i64 x.2::uV l:=fun l=>by rfl
  rw [jV,e,e,alO l m,show (m+1)*2=m*2+1+1 by omega];simp
def alP (l:List (Int×Int)) (x:Int×Int):uV (l++ [x])=uV l++ [.int .i64 x.1,.int .i64 x.2]:=by simp [uV]
structure oA (w:World) (B:Nat) (v:Value) (l:List (Int×Int)):Prop where
 own:w.ownsRow B 92 2 v l.length (uV l)
def oA.nil (w:World) (B:Nat):oA w B (.slice none 0 0) []:=⟨World.ownsRow_nil _ _ _ _⟩
def oA.slice (h:oA w B v l): ∃a c,v= .slice a l.length c/\l.length<=c:=by
 rcases h.own.2 with ⟨rfl,e⟩|⟨g,c,_,rfl,_,_,hc,_⟩
 all_goals grind
def oA.frame {S:Nat->Prop} (h:oA w B v l) (d:Fr S w w') (b: ∀k,v.ownBlock=some k-> ¬S k):oA w' B v l:=⟨qu h.own d b⟩
def oA.pop {n c:Nat} {a:Option Addr} (h:oA w B (.slice a n c) l) (u:m<=l.length):oA w B (.slice a m c) (l.take m):=by
 have p:(l.take m).length=m:=by simp_all
 refine ⟨?_⟩;rw [p,alO];refine ⟨by rw [bM,aCY];omega,?_⟩;rcases h.own.2 with ⟨e,q⟩|⟨g,cap,cur,e,b,d,s,f,k,t⟩
 ·simp_all
 ·cases e
  refine .inr ⟨g,c,cur,rfl,b,d,by omega,f,k,?_⟩;grind
def oA.cell (h:oA w B v l) (b:j<l.length): ∃g c,v= .slice (some ⟨g,0,none⟩) l.length c/\w.cell? ⟨g,j*2,none⟩=some (.int .i64 (l.getD j (0,0)).1)/\w.cell? ⟨g,j*2+1,none⟩=some (.int .i64 (l.getD j (0,0)).2):=by
 obtain ⟨g,c,rfl,_,_,_⟩:=OE h.own;have q:=alN l j b;exact ⟨g,c,rfl,by rw [h.own.cellAt _ (by omega),q.1],by rw [h.own.cellAt _ (by omega),q.2]⟩
def alQ:(Tryz.prog.info? 92).map (fun i=>(i.zero,i.size,i.bytes))=some (some (.agg #[.int .i64 0,.int .i64 0]),2,16):=by kernel_rfl
def Yy {b:List Oper} (M:o.guard=none) (s x:Operand) (F:o.op= .call {callee:= .builtin .append,args:= #[s,x],argTypes:= #[88,88]})
 (base:Nat) (J:base<=w.heap.size) (v:Value) (L:List (Int×Int)) (G:a.eval s=v) (f:oA w base v L) (B:Nat) (y:Int×Int) (H:a.eval x= .slice (some ⟨B,0,none⟩) 1 1)
 (E:w.heap[B]? =some (.cells #[.int .i64 y.1,.int .i64 y.2] 92 (0,0))) (N:L.length<=100000)
 (h: ∀g cap w',oA w' base (.slice (some ⟨g,0,none⟩) (L.length+1) cap) (L++ [y])->Fr (fun k=>v.ownBlock=some k) w w'->(v.ownBlock=some g\/w.heap.size<=g)->
  wpList Tryz.prog ops Q b (a.put o.dst (.slice (some ⟨g,0,none⟩) (L.length+1) cap)) w'):wpList Tryz.prog ops Q (o::b) a w:=by
 obtain ⟨I,z,t,q,p⟩:=info_parts alQ;refine wpList_append_lies w M s x 88 F base 92 I _ 2 16 Tryz.underlying88 z t q p rfl (by omega) v L.length (uV L) G f.own ⟨B,0,none⟩ 1 1 [.int .i64 y.1,.int .i64 y.2] H rfl (World.news_of_block (cs:= #[.int .i64 y.1,.int .i64 y.2]) E)
  (by intro u d;simp at d;rcases d with rfl|rfl<;>rfl) (by omega) (by unfold maxLen;omega) (by omega) J w.heap.size rfl ?_
 intro g cap w' A C D _;refine h g cap w' ⟨?_⟩ (uN C) (D.imp id (fun e=>by omega));rw [alP,aX];exact A
def Yz {K:Act->World->Prop} {E:Prop} (M:o.guard=none) (s x:Operand) (F:o.op= .call {callee:= .builtin .append,args:= #[s,x],argTypes:= #[88,88]})
 (base:Nat) (J:base<=w.heap.size) (v:Value) (L:List (Int×Int)) (G:a.eval s=v) (d:oA w base v L) (B:Nat) (y:Int×Int) (H:a.eval x= .slice (some ⟨B,0,none⟩) 1 1)
 (D:w.heap[B]? =some (.cells #[.int .i64 y.1,.int .i64 y.2] 92 (0,0))) (N:L.length<=100000)
 (h: ∀g cap w',oA w' base (.slice (some ⟨g,0,none⟩) (L.length+1) cap) (L++ [y])->Fr (fun k=>v.ownBlock=some k) w w'->(v.ownBlock=some g\/w.heap.size<=g)->
  K (a.put o.dst (.slice (some ⟨g,0,none⟩) (L.length+1) cap)) w'):
 if Region.wanted o (yielded ops a.tmps)=true then Oper.wp Tryz.prog o a w K Q else E:=by
 obtain ⟨I,t,q,p,f⟩:=info_parts alQ;refine step_append_lies w M s x 88 F base 92 I _ 2 16 Tryz.underlying88 t q p f rfl (by omega) v L.length (uV L) G d.own ⟨B,0,none⟩ 1 1 [.int .i64 y.1,.int .i64 y.2] H rfl (World.news_of_block (cs:= #[.int .i64 y.1,.int .i64 y.2]) D)
  (by intro u b;simp at b;rcases b with rfl|rfl<;>rfl) (by omega) (by unfold maxLen;omega) (by omega) J w.heap.size rfl ?_
 intro g cap w' z A C _;refine h g cap w' ⟨?_⟩ (uN A) (C.imp id (fun e=>by omega));rw [alP,aX];exact z
structure BX (i:Nat) (l:List (Int×Int)):Prop where
 len:l.length<=i
 all: ∀p∈l,(0<=p.1/\p.1<(i:Int))/\1<=p.2/\p.2<=(i:Int)
structure wN (W wr:World) (av sv:Value) (A S:List (Int×Int)) (i:Nat):Prop where
 below:Below W.heap.size W wr
 TP:oA wr W.heap.size av A
 lI:oA wr W.heap.size sv S
 ne: ∀k,av.ownBlock=some k->sv.ownBlock≠some k
 al:A.length=i
 ai:BX i A
 si:BX i S
def BX.get (h:BX i l) (b:j<l.length):(0<=(l.getD j (0,0)).1/\(l.getD j (0,0)).1<(i:Int))/\1<=(l.getD j (0,0)).2/\(l.getD j (0,0)).2<=(i:Int):=by
 rw [aD,aM b];exact h.all _ (eU b)
def BX.take (h:BX i l):BX i (l.take m):=⟨by rw [bM];have:=h.len;omega,fun p b=>h.all p (dr b)⟩
def BX.snoc (h:BX i l) {y:Int×Int} (d:(0<=y.1/\y.1<(i:Int)+1)/\1<=y.2/\y.2<=(i:Int)+1):BX (i+1) (l++ [y]):=by
 refine ⟨by rw [aX];have:=h.len;simp_all,fun p b=> ?_⟩;rcases bZ.1 b with q|q
 ·have:=h.all p q
  omega
 simp_all
def wN.start (W:World):wN W W (.slice none 0 0) (.slice none 0 0) [] [] 0:=
 ⟨aH _ _,oA.nil _ _,oA.nil _ _,fun k e=>by simp [Value.ownBlock] at e,rfl,⟨aq _,fun p h=>by cases h⟩,⟨aq _,fun p h=>by cases h⟩⟩
def wN.later {W wr:World} {d f:Value} {A S:List (Int×Int)} (h:wN W wr d f A S i) (b:Below wr.heap.size wr w'):wN W w' d f A S i:=
 ⟨h.below.trans (b.mono h.below.size),h.TP.frame (S:=fun _=>False) (Fr.jq b) (fun _ _ e=>e),h.lI.frame (S:=fun _=>False) (Fr.jq b) (fun _ _ e=>e),h.ne,h.al,h.ai,h.si⟩
end
end Go.Proofs.YtnmpjdgobafdkaaGreatDoor
