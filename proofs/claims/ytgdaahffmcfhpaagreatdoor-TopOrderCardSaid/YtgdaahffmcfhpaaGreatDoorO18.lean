/- Lemmas on the way: PShD. -/
import Derived.StillTailTactics
import Derived.Laws.Tables
import Derived.Test.YtgdaahffmcfhpaaGreatDoorO15
namespace Go.Proofs.YtgdaahffmcfhpaaGreatDoor
open aA
open Tryz
namespace Pt
open Go.RowKit
attribute [local go_sem] dR dO dS dP
def cellsN (n:Nat) (l:List Nat):Array Value:=Array.ofFn (n:=n) λi=>Value.int .u64 ((l.getD i 0:Nat):Int)
theorem iQ (n:Nat) (l:List Nat) (i:Nat) (h:i < n):(cellsN n l)[i]? =some (.int .u64 ((l.getD i 0:Nat):Int)):=by simp [cellsN,h]
theorem iH (n:Nat) (l:List Nat):(cellsN n l).size=n:=by simp [cellsN]
theorem G8 (n:Nat) (l:List Nat) (i x:Nat) (h:i < n) (l':List Nat) (h1:l'.getD i 0=x) (h2:∀j,j < n->j≠i->l'.getD j 0=l.getD j 0):(cellsN n l).setIfInBounds i (.int .u64 (x:Int))=cellsN n l':=by
 apply cQ;intro j;rw [dD];by_cases e:i=j
 ·subst e
  rw [if_pos rfl,if_pos (by rw [iH];exact h),iQ _ _ _ h,h1]
 ·rw [if_neg e]
  rcases aD j n with hj|hj
  ·rw [iQ _ _ _ hj,iQ _ _ _ hj,h2 j hj (λh=>e h.symm)]
  ·rw [ax (by rw [iH];exact hj),ax (by rw [iH];exact hj)]
theorem uM (n:Nat) (l:List Nat) (x:Nat) (h:l.length < n):(cellsN n l).setIfInBounds l.length (.int .u64 (x:Int))=cellsN n (l++[x]):=
 G8 n l l.length x h _ (by simp) (λj _ hj=>by
  simp only [List.getD_eq_getElem?_getD];rcases aD j l.length with h|h
  ·rw [bY h]
  ·rw [bD (show (l++[x]).length<=j from by simp;omega),bD h])
theorem G9 (x n:Nat) (hx:x < 18446744073709551616) (hn:1<=n) (hn2:n<=63) (w:World):
  Calls prog 363 #[.int .u64 x,n] w λe w'=>e=.returned (.int .u64 (tr x n:Nat))/\w'=w:=
 (W7 x n hx hn hn2 w).mono λ_ _ ⟨h,e⟩=> ⟨h,e.symm⟩
theorem AO (l:List UInt8) (k j:Nat):qN ((eD l k).getD j 0):=by
 induction k generalizing j with
 |zero=>simp [eD,qN]
 |succ k ih=>
  simp only [eD,NT,List.getD_eq_getElem?_getD,List.getElem?_append];split
  ·have:=ih j;simpa using this
  ·rcases Nat.eq_zero_or_pos (j - (eD l k).length) with h|h
   ·rw [h];exact NU _ _
   ·rw [bD (by simp;omega)];simp [qN]
theorem iI (a b:Nat):IntKind.u64.wrap ((a:Int)+(b:Int))=((fW a b:Nat):Int):=by
 rw [IntKind.wrap_u64];unfold fW;omega
theorem Da (a n:Nat):(a:Int) / (n:Int)=((a / n:Nat):Int):=by rw [Int.natCast_ediv]
theorem KH (Mk A2 Ze A7:Nat) (h15:qN Mk) (h2:qN A2):
  IntKind.u64.wrap (IntKind.u64.wrap (IntKind.u64.wrap ((Ze:Int)+A7)+bits .xor .u64 (bits .xor .u64 (tr Mk 1:Nat) (tr Mk 8:Nat)) ((Mk:Int) / 128))+bits .xor .u64 (bits .xor .u64 (tr A2 19:Nat) (tr A2 61:Nat)) ((A2:Int) / 64))
   =((fW (fW (fW Ze A7) (s0 Mk)) (s1 A2):Nat):Int):=by
 rw [show ((Mk:Int) / 128)=((Mk / 128:Nat):Int) from Da Mk 128,show ((A2:Int) / 64)=((A2 / 64:Nat):Int) from Da A2 64];rw [u64_xor_nat _ _ (jc h15) (jc h15),u64_xor_nat _ _ (jc h2) (jc h2)];rw [u64_xor_nat _ _ (mg (jc h15) (jc h15)) (DU h15),u64_xor_nat _ _ (mg (jc h2) (jc h2)) (DU h2)];rw [iI,iI,iI];rfl
theorem Bc {w wq:World} {n:Nat} (h:w.drewN n=wq) {p:Addr} {v:Value} (hc:w.cell? p=some v):wq.cell? p=some v:=by subst h;exact hc
theorem KI {w wq:World} {n:Nat} (h:w.drewN n=wq) {p:Addr} {v:Bool} (hc:w.frozen? p=v):wq.frozen? p=v:=by subst h;exact hc
theorem oq {P:Program} {id:Nat} {Q:Exit->Act->World->Prop} {a:Act} {w:World} {l:List Oper} (n:Nat) (hm:P.follows .mixedOrders=true) (hB:Region.lexTailB .any l.toArray n=true)
  (h:wpStill P l.toArray w.drew (λa'=>wpList P l.toArray Q (l.drop n) a' w.drew) (l.take n) a):(Code.region id l.toArray true).wp P Q a w:=wp_region_still_tail n hm hB h
theorem jP {B:Nat} {w0 w:World} (h:Below B w0 w) {g:Nat} (hg:B<=g) (cs:Array Value):Below B w0 (w.setRow g cs):=
 ⟨h.os,h.tape,h.output,by simpa using h.size,λi hi=>(setRow_other w g i cs (by omega)).trans (h.block i hi)⟩
set_option maxRecDepth 100000 in
set_option maxHeartbeats 1600000 in
theorem SA (l:List UInt8) (hl:l.length=128) (w:World):
  Calls prog 362 #[.string (bs l)] w (dM w (.agg (cellsN 80 (eD l 80)))):=by
 obtain ⟨zs,hzs,hz⟩:∃zs,zs=cellsN 80 []/\∀w,(zeroValue 446).run prog w=.ok (.agg zs) w:=⟨_,rfl,λw=>by kernel_rfl⟩;have Z7:=dL hzs;clear hzs;go_enter func362,ntmps362;go_wp2_with fail;go_loopw [6] (λi wr=>∃k:Nat,k<=80/\i=.int .i64 k/\Blk wr w.heap.size 446 (cellsN 80 (eD l k))/\Below w.heap.size w wr) (λi _=>80 - (intOf i).toNat)
 case atStart=>exact ⟨0,by omega,rfl,by rw [Z7.o];exact Blk.new w 446 _,(aC _ w).alloc (aB _) _⟩
 case round=>
  obtain ⟨k,hk,rfl,hT,hb⟩:=hrel;rcases aD k 80 with hlt|hge
  ·rcases aD k 16 with h16|h16
   ·have tu:((l.drop (8*k)).take (128 - 8*k))=l.drop (8*k):=af (by simp;omega)
    have FU:me l (eD l k)=qG ((l.drop (8*k)).take 8):=by unfold me;rw [iu,if_pos h16]
    have gw:=uM 80 (eD l k) (me l (eD l k)) (by rw [iu];exact hlt);rw [iu] at gw;have Ls:=Blk.set_ hT k (.int .u64 ((me l (eD l k):Nat):Int));rw [gw] at Ls;have hold:=Blk.cell hT k;rw [iQ _ _ _ hlt] at hold;have hfr:=Blk.frozen hT k;have HTS:=dL Ls;have HB:=dL hb;have HN:=dL FU;have HL:=dL tu;clear Ls hb hT gw FU tu;go_wp2_with fail;rw [fM,HL.o];refine (N4 (l.drop (8*k)) (by simp;omega) (by simp;omega) _).mono ?_;rintro e w1 ⟨rfl,rfl⟩;rw [<-HN.o];go_wp2_with fail;exact ⟨⟨k+1,by omega,by go_num,HTS.o,HB.o.setCell (aB _) _⟩,by simp [intOf];omega⟩
   ·have hW:∀j,j < k->wr.cell? ⟨w.heap.size,j,none⟩=some (.int .u64 (((eD l k).getD j 0:Nat):Int)):=λj hj=>(Blk.cell hT j).trans (iQ _ _ _ (by omega))
    have hWl:=λj=>AO l k j
    have FU:me l (eD l k)=fW (fW (fW ((eD l k).getD (k - 16) 0) ((eD l k).getD (k - 7) 0)) (s0 ((eD l k).getD (k - 15) 0))) (s1 ((eD l k).getD (k - 2) 0)):=by
     unfold me;rw [iu,if_neg (by omega)]
    have e15:(k:Int) - 15=((k - 15:Nat):Int):=by omega
    have e2:(k:Int) - 2=((k - 2:Nat):Int):=by omega
    have e16:(k:Int) - 16=((k - 16:Nat):Int):=by omega
    have e7:(k:Int) - 7=((k - 7:Nat):Int):=by omega
    have i15:=hW (k - 15) (by omega);have i2:=hW (k - 2) (by omega);have i16:=hW (k - 16) (by omega);have i7:=hW (k - 7) (by omega);have l15:=hWl (k - 15);have l2:=hWl (k - 2);have l16:=hWl (k - 16);have l7:=hWl (k - 7);have gw:=uM 80 (eD l k) (me l (eD l k)) (by rw [iu];exact hlt);rw [iu] at gw;have Ls:=Blk.set_ hT k (.int .u64 ((me l (eD l k):Nat):Int));rw [gw] at Ls;have hold:=Blk.cell hT k;rw [iQ _ _ _ hlt] at hold;have hfr:=Blk.frozen hT k;rw [show eD l k++[me l (eD l k)]=eD l (k+1) from rfl] at Ls;generalize ZK:eD l (k+1)=ws1 at*;clear gw hW hWl hT;have HWS:=dL ZK;clear ZK;generalize me l (eD l k)=X at*;generalize (eD l k).getD (k - 15) 0=Mk at*;generalize (eD l k).getD (k - 2) 0=A2 at*;generalize (eD l k).getD (k - 16) 0=Ze at*;generalize (eD l k).getD (k - 7) 0=A7 at*;have HTS:=dL Ls;have HB:=dL hb;have HN:=dL FU;have HC:=dL (KH Mk A2 Ze A7 l15 l2);clear Ls hb FU;go_wp2_with fail;go_quiet (fail)
    generalize YP:wr.drewN nq=wq;have i16:=Bc YP i16;have i7:=Bc YP i7;have hold:=Bc YP hold;have hfr:=KI YP hfr;have HTS:dK (Blk (wq.setCell { block:=w.heap.size,off:=k } (Value.int IntKind.u64 ↑X)) w.heap.size 446 (cellsN 80 ws1)):=dL (by rw [<-YP];exact HTS.o);have HB:dK (Below w.heap.size w wq):=dL (by rw [<-YP];exact ⟨HB.o.os,HB.o.tape,HB.o.output,HB.o.size,HB.o.block⟩);have w16:IntKind.i64.wrap ((k - 16:Nat):Int)=((k - 16:Nat):Int):=by rw [IntKind.wrap_i64];omega
    have w7:IntKind.i64.wrap ((k - 7:Nat):Int)=((k - 7:Nat):Int):=by rw [IntKind.wrap_i64];omega
    have b16:((k - 16:Nat):Int) < 80:=by omega
    have b7:((k - 7:Nat):Int) < 80:=by omega
    have b0:(k:Int) < 80:=by omega
    clear YP;go_wp2_with fail;refine oq 29 (by kernel_rfl) (by kernel_rfl) ?_;simp only [dA,List.take_zero,List.drop_succ_cons,bz];repeat (first|still_step|still_call (G9 _ _ (by first|exact l15|exact l2) (by decide) (by decide) _))
    refine wpStill_nil ?_;rw [HC.o,<-HN.o];go_wp2_with fail;refine ⟨⟨k+1,by omega,by go_num,?_,?_⟩,by simp [intOf];omega⟩
    ·rw [HWS.o];exact Blk.drew HTS.o
    ·exact (HB.o.setCell (aB _) _).drew
  ·obtain rfl:k=80:=by omega
   have hsz:∀l,(prog.info? 446).map (·.size)=some (cellsN 80 l).size:=λl=>by rw [iH];kernel_rfl
   have hone:∀l,(cellsN 80 l).all (·.oneCell')=true:=λl=>by
    rw [Array.all_eq_true];intro i hi;simp [cellsN,Value.oneCell']
   go_wp2_with (first|(refine wpList_load_row rfl 446 _ rfl w.heap.size rfl 446 (cellsN 80 (eD l 80)) (0,0) _ hT underlying446 rfl (hsz _) ?_)|(refine wpList_store_row rfl 446 _ _ rfl w.heap.size (cellsN 80 (eD l 80)) rfl rfl 446 (cellsN 80 (eD l 80)) hT (hsz _) rfl (hone _) ?_))
   refine bodyPost_ret (v:=.agg _) (results_cell_row rfl _ _ w.heap.size 446 _ (0,0) _ (by simp [Act.put]) (setRow_heap _ _ _ _ _ _ hT) underlying446 rfl (hsz _)) rfl ⟨rfl,?_⟩;exact jP hb (aB _) _
end Pt
end Go.Proofs.YtgdaahffmcfhpaaGreatDoor
