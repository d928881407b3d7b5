/- refineFuel_proved. -/
import Derived.Test.YtnmpjdgobafdkaaGreatDoorPmab
import Derived.Lib.EndianBits
set_option maxRecDepth 100000
set_option maxHeartbeats 16000000
set_option linter.all false
noncomputable section
namespace Go.Proofs.YtnmpjdgobafdkaaGreatDoor
section
open Go.RowKit
def aeB {l:List Nat} {k:Nat} (a:k<l.length):val (l.drop k)=el l k+4294967296*val (l.drop (k+1)):=by
 rw [gp a];show l[k]+_=_;unfold el;simp_all
def anC {l:List Nat} {k d:Nat} (a:k<l.length):val ((l.set k d).drop k)=d+4294967296*val (l.drop (k+1)):=by
 rw [aeB (by simp_all),ue d a,if_pos rfl,List.drop_set_of_lt (by omega)]
def anE {t q r x d s:Nat} (h:t=d*q+r) (b:r*4294967296+x=s):x+4294967296*t=d*(s/d+4294967296*q)+s % d:=by
 have a:=du s d;grind
def div_lt {r x d s:Nat} (a:r<d) (e:x<4294967296) (b:r*4294967296+x=s):s/d<4294967296:=by
 rw [gP (by omega)];omega
def anF (a d:Nat) (w:World) (e:Ending) (w':World):Prop:= ∃v,e= .returned (.tuple #[v,.int .u32 ((a % d:Nat):Int),.bool true])/\mP w' w.heap.size v (a/d)/\Below w.heap.size w w'
section
variable {w:World}
def Zx {v:Value} {l:List Nat} (h:g7 w v l) (hn:l.length<=100000000) (d:Nat) (O:0<d) (hd:d<4294967296):Calls Tryz.prog 108 #[v,.int .u32 (d:Int)] w (anF (val l) d w):=by
 have HL:=ae h.2;obtain ⟨a,c,x,rfl,Z,hc,hm,b⟩:=h.form;have HC:=ae (fun w' (f:Below w.heap.size w w') i (t:i<l.length)=>(f.cell (ak w _ (b i t))).trans (b i t));have HA:=ae Z;unfold maxLen at hm;clear h b Z;have hdi:((d:Int)==0)=false:=by rw [cW];intro e;rw [beq_iff_eq] at e;omega
 have aEM: ¬(d:Int)=0:=by omega
 obtain ⟨i0,Y,X,W,U⟩:=info_parts B9;go_enter Tryz.func108,Tryz.ntmps108;go_wp2_with (refine wpList_make_full w rfl (.tmp 13) (.tmp 13) 35 rfl w.heap.size 172 i0 _ 1 Tryz.underlying35 Y X W _ _ _ _ l.length rfl rfl rfl rfl (by rw [U];omega) (by unfold maxLen;omega) (aq _) ?_;intro w1 I p);have R:Below w.heap.size w w1:=(aH _ _).grown p (aq _) (by intro k hk;cases hk);rw [Fa] at I;have j:fW w1 w.heap.size (.slice (some ⟨w.heap.size,0,none⟩) l.length l.length) (List.replicate l.length 0):=⟨by rw [aZ];exact I,Fb _⟩;have HO:=ae j;have T:=ae R;clear I p R j Y X W U;go_wp2_with fail;obtain ⟨g,p⟩:=pQ w.heap.size;rw [p] at HO⊢;have HG:=ae p;clear p
 go_loopg [8,9] l.length (fun gh cv iv wr=> ∃(k r:Nat) (o:List Nat),gh=k/\k<=l.length/\((k=0/\iv= .int .i64 (-1))\/(0<k/\iv= .int .i64 ((k-1:Nat):Int)))/\cv= .int .u64 r/\r<d/\o.length=l.length/\fW wr g (.slice (some ⟨g,0,none⟩) l.length l.length) o/\
  val (l.drop k)=d*val (o.drop k)+r/\Below w.heap.size w wr)
 case atStart=>
  refine ⟨l.length,0,_,rfl,aq _,?_,rfl,O,aZ,HO.out,by rw [mi (aq _),mi (by rw [aZ];exact aq _)];rfl,T.out⟩;by_cases e:l.length=0
  ·exact .inl ⟨e,by rw [e];rfl⟩
  ·exact .inr ⟨by omega,by congr 1;omega⟩
 case round=>
  obtain ⟨k,r,o,rfl,hk,Px,rfl,J,D,j,B,f⟩:=hrel;rcases Px with ⟨rfl,rfl⟩|⟨jx,rfl⟩
  ·have HT:=ae (wU j.sl (by omega))
   have q:=ae f;have e1:(r:Int) % 4294967296=(r:Int):=by omega
   have Q:val l/d=val o/\val l % d=r:=by
    have h1:val l=d*val o+r:=by simpa using B
    rw [h1];exact ⟨by rw [Nat.mul_add_div O,eW J,dt],by rw [Nat.mul_add_mod,dY J]⟩
   have P:=ae Q;clear Q B j D f HO T;go_wp2_with fail;refine HT.out.mono ?_;rintro e w' ⟨v,rfl,hf,f⟩;have HF:=ae hf;have iX:=ae f;clear hf f;go_wp2_with fail;refine bodyPost_ret (v:= .tuple #[v,.int .u32 (r:Int),.bool true]) (by simp [results,Tryz.results108,go_sem]) rfl ?_;exact ⟨v,by rw [P.out.2],P.out.1▸HF.out.base q.out.size,q.out.trans (iX.out.mono q.out.size)⟩
  ·obtain ⟨i,t⟩:=pQ (gk-1)
   rw [t];have G:i<l.length:=by omega
   have JS:gk=i+1:=by omega
   subst JS;clear t;obtain rfl:=HA.out (by omega);have A:=j.1;rw [D] at A;have kb:=A.frozenAt i;obtain ⟨S,Fc⟩: ∃S,wr.cell? ⟨g,i,none⟩=some S:=⟨_,qZ A (re)⟩;have q1:=HC.out _ f i G;obtain ⟨u,z⟩:=pQ (l.getD i 0);rw [z] at q1;have bx:u<4294967296:=by rw [<-z];exact mH HL.out i
   have qz:=ae (show el l i=u from z);have F:=ae j;have iT:=ae D;have HV:=ae B;have q:=ae f;have i0:(0:Int)<=i:=by omega
   have i1:(i:Int)<l.length:=by omega
   clear z D B f j A;obtain ⟨s,M⟩:=pQ (r*4294967296+u);obtain ⟨m,E⟩:=pQ (s % d);obtain ⟨y,C⟩:=pQ (s/d);have N:y<4294967296:=by rw [<-C];exact div_lt J bx M
   have H:m<d:=by rw [<-E];exact dj _ O
   have PD:bits .or .u64 ((r:Int)*4294967296) (u:Int)=(s:Int):=by
    rw [bits_join .u64 64 (by decide) wraps_u64 32 ((r:Int)*4294967296) (u:Int) (by omega) (by omega) (by omega) (by omega) (by omega) (by omega)];omega
   have etm:(s:Int).tmod (d:Int)=(m:Int):=by rw [<-E,eL (by omega)];exact (lB s d).symm
   have etd:(s:Int).tdiv (d:Int)=(y:Int):=by rw [<-C,fV (by omega)];exact (Int.natCast_ediv s d).symm
   have ewr:IntKind.u64.wrap (y:Int)=(y:Int):=wraps_u64 _ (by omega) (by omega);have emo:(y:Int) % 4294967296=(y:Int):=by omega
   have Zy:=ae M;have HY:=ae C;have oX:=ae E;clear M C E;go_wp2_with fail
   go_roundg i
   case measure=>omega
   case rel=>
    refine ⟨i,m,o.set i y,rfl,by omega,?_,rfl,H,by rw [bA];exact iT.out,F.out.set N,?_,q.out.setCell (by rw [HG.out];exact aq _) _⟩
    ·by_cases e:i=0
     ·exact .inl ⟨e,by subst e;rfl⟩
     ·exact .inr ⟨by omega,by congr 1;omega⟩
    ·rw [aeB G,anC (by rw [iT.out];exact G),qz.out,anE HV.out Zy.out,HY.out,oX.out]
end
end
end Go.Proofs.YtnmpjdgobafdkaaGreatDoor
