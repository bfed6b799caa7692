/- Lemmas on the way: PShD. -/
import Derived.StillTailTactics
import Derived.Laws.Tables
import Derived.Test.YtgdaahffmcfhpaaGreatDoorT11
import Derived.Test.YtgdaahffmcfhpaaGreatDoorT00
namespace Go.Proofs.YtgdaahffmcfhpaaGreatDoor
open Tryz
namespace Pt
open Go.RowKit
attribute [local go_sem] dO dL dQ dM
def cellsN (n:Nat) (l:List Nat):Array Value:=Array.ofFn (n:=n) fun i=>Value.int .u64 ((l.getD i 0:Nat):Int)
theorem gw (n:Nat) (l:List Nat) (i:Nat) (h:i < n):(cellsN n l)[i]? =some (.int .u64 ((l.getD i 0:Nat):Int)):=by simp [cellsN,h]
theorem gY (n:Nat) (l:List Nat):(cellsN n l).size=n:=by simp [cellsN]
theorem Ep (n:Nat) (l:List Nat) (i x:Nat) (h:i < n) (l':List Nat) (h1:l'.getD i 0=x) (h2:∀j,j < n->j≠i->l'.getD j 0=l.getD j 0):(cellsN n l).setIfInBounds i (.int .u64 (x:Int))=cellsN n l':=by
 apply Array.ext_getElem?;intro j;rw [cw];by_cases e:i=j
 ·subst e
  rw [if_pos rfl,if_pos (by rw [gY];exact h),gw _ _ _ h,h1]
 ·rw [if_neg e]
  rcases aG j n with hj|hj
  ·rw [gw _ _ _ hj,gw _ _ _ hj,h2 j hj (fun h=>e h.symm)]
  ·rw [ak (by rw [gY];exact hj),ak (by rw [gY];exact hj)]
theorem tD (n:Nat) (l:List Nat) (x:Nat) (h:l.length < n):(cellsN n l).setIfInBounds l.length (.int .u64 (x:Int))=cellsN n (l++[x]):=
 Ep n l l.length x h _ (by simp) (fun j _ hj=>by
  simp only [List.getD_eq_getElem?_getD];rcases aG j l.length with h|h
  ·rw [bt h]
  ·rw [bI (show (l++[x]).length<=j from by simp;omega),bI h])
theorem Er (x n:Nat) (hx:x < 18446744073709551616) (hn:1<=n) (hn2:n<=63) (w:World):
  Calls prog 363 #[.int .u64 x,.int .i64 n] w fun e w'=>e=.returned (.int .u64 (tr x n:Nat))/\w'=w:=
 (TV x n hx hn hn2 w).mono fun _ _ ⟨h,e⟩=> ⟨h,e.symm⟩
theorem yo (l:List UInt8) (k j:Nat):pJ ((dy l k).getD j 0):=by
 induction k generalizing j with
 |zero=>simp [dy,pJ]
 |succ k ih=>
  simp only [dy,LY,List.getD_eq_getElem?_getD,List.getElem?_append];split
  ·have:=ih j;simpa using this
  ·rcases Nat.eq_zero_or_pos (j - (dy l k).length) with h|h
   ·rw [h];exact LZ _ _
   ·rw [bI (by simp;omega)];simp [pJ]
theorem gZ (a b:Nat):IntKind.u64.wrap ((a:Int)+(b:Int))=((fO a b:Nat):Int):=by
 rw [IntKind.wrap_u64];unfold fO;omega
theorem CR (a n:Nat):(a:Int) / (n:Int)=((a / n:Nat):Int):=by rw [Int.natCast_ediv]
theorem Iq (PX A2 A16 A7:Nat) (h15:pJ PX) (h2:pJ A2):
  IntKind.u64.wrap (IntKind.u64.wrap (IntKind.u64.wrap ((A16:Int)+A7)+bits .xor .u64 (bits .xor .u64 (tr PX 1:Nat) (tr PX 8:Nat)) ((PX:Int) / 128))+bits .xor .u64 (bits .xor .u64 (tr A2 19:Nat) (tr A2 61:Nat)) ((A2:Int) / 64))
   =((fO (fO (fO A16 A7) (s0 PX)) (s1 A2):Nat):Int):=by
 rw [show ((PX:Int) / 128)=((PX / 128:Nat):Int) from CR PX 128,show ((A2:Int) / 64)=((A2 / 64:Nat):Int) from CR A2 64];rw [u64_xor_nat _ _ (jF h15) (jF h15),u64_xor_nat _ _ (jF h2) (jF h2)];rw [u64_xor_nat _ _ (mD (jF h15) (jF h15)) (CI h15),u64_xor_nat _ _ (mD (jF h2) (jF h2)) (CI h2)];rw [gZ,gZ,gZ];rfl
theorem AI {w wq:World} {n:Nat} (h:w.drewN n=wq) {p:Addr} {v:Value} (hc:w.cell? p=some v):wq.cell? p=some v:=by subst h;exact hc
theorem Ir {w wq:World} {n:Nat} (h:w.drewN n=wq) {p:Addr} {v:Bool} (hc:w.frozen? p=v):wq.frozen? p=v:=by subst h;exact hc
theorem oB {P:Program} {id:Nat} {Q:Exit->Act->World->Prop} {a:Act} {w:World} {l:List Oper} (n:Nat) (hm:P.follows .mixedOrders=true) (hB:Region.lexTailB .any l.toArray n=true)
  (h:wpStill P l.toArray w.drew (fun a'=>wpList P l.toArray Q (l.drop n) a' w.drew) (l.take n) a):(Code.region id l.toArray true).wp P Q a w:=wp_region_still_tail n hm hB h
theorem ir {B:Nat} {w0 w:World} (h:Below B w0 w) {g:Nat} (hg:B<=g) (cs:Array Value):Below B w0 (w.setRow g cs):=
 ⟨h.os,h.tape,h.output,by simpa using h.size,fun i hi=>(setRow_other w g i cs (by omega)).trans (h.block i hi)⟩
set_option maxRecDepth 100000 in
set_option maxHeartbeats 1600000 in
theorem Q8 (l:List UInt8) (hl:l.length=128) (w:World):
  Calls prog 362 #[.string (bs l)] w (dJ w (.agg (cellsN 80 (dy l 80)))):=by
 obtain ⟨zs,hzs,hz⟩:∃zs,zs=cellsN 80 []/\∀w,(zeroValue 446).run prog w=.ok (.agg zs) w:=⟨_,rfl,fun w=>by kernel_rfl⟩;have Wt:=dH hzs;clear hzs;go_enter func362,ntmps362;go_wp2_with fail;go_loopw [6] (fun i wr=>∃k:Nat,k<=80/\i=.int .i64 k/\Blk wr w.heap.size 446 (cellsN 80 (dy l k))/\Below w.heap.size w wr) (fun i _=>80 - (intOf i).toNat)
 case atStart=>exact ⟨0,by omega,rfl,by rw [Wt.o];exact Blk.new w 446 _,(aC _ w).alloc (aB _) _⟩
 case round=>
  obtain ⟨k,hk,rfl,hT,hb⟩:=hrel;rcases aG k 80 with hlt|hge
  ·rcases aG k 16 with h16|h16
   ·have tY:((l.drop (8*k)).take (128 - 8*k))=l.drop (8*k):=az (by simp;omega)
    have Jz:mC l (dy l k)=ou ((l.drop (8*k)).take 8):=by unfold mC;rw [iM,if_pos h16]
    have gR:=tD 80 (dy l k) (mC l (dy l k)) (by rw [iM];exact hlt);rw [iM] at gR;have Jy:=Blk.set_ hT k (.int .u64 ((mC l (dy l k):Nat):Int));rw [gR] at Jy;have hold:=Blk.cell hT k;rw [gw _ _ _ hlt] at hold;have hfr:=Blk.frozen hT k;have Yt:=dH Jy;have HB:=dH hb;have HN:=dH Jz;have HL:=dH tY;clear Jy hb hT gR Jz tY;go_wp2_with fail;rw [fV,HL.o];refine (LB (l.drop (8*k)) (by simp;omega) (by simp;omega) _).mono ?_;rintro e w1 ⟨rfl,rfl⟩;rw [<-HN.o];go_wp2_with fail;exact ⟨⟨k+1,by omega,by go_num,Yt.o,HB.o.setCell (aB _) _⟩,by simp [intOf];omega⟩
   ·have hW:∀j,j < k->wr.cell? ⟨w.heap.size,j,none⟩=some (.int .u64 (((dy l k).getD j 0:Nat):Int)):=fun j hj=>(Blk.cell hT j).trans (gw _ _ _ (by omega))
    have Yu:=fun j=>yo l k j
    have Jz:mC l (dy l k)=fO (fO (fO ((dy l k).getD (k - 16) 0) ((dy l k).getD (k - 7) 0)) (s0 ((dy l k).getD (k - 15) 0))) (s1 ((dy l k).getD (k - 2) 0)):=by
     unfold mC;rw [iM,if_neg (by omega)]
    have e15:(k:Int) - 15=((k - 15:Nat):Int):=by omega
    have e2:(k:Int) - 2=((k - 2:Nat):Int):=by omega
    have e16:(k:Int) - 16=((k - 16:Nat):Int):=by omega
    have e7:(k:Int) - 7=((k - 7:Nat):Int):=by omega
    have i15:=hW (k - 15) (by omega);have i2:=hW (k - 2) (by omega);have i16:=hW (k - 16) (by omega);have i7:=hW (k - 7) (by omega);have l15:=Yu (k - 15);have l2:=Yu (k - 2);have l16:=Yu (k - 16);have l7:=Yu (k - 7);have gR:=tD 80 (dy l k) (mC l (dy l k)) (by rw [iM];exact hlt);rw [iM] at gR;have Jy:=Blk.set_ hT k (.int .u64 ((mC l (dy l k):Nat):Int));rw [gR] at Jy;have hold:=Blk.cell hT k;rw [gw _ _ _ hlt] at hold;have hfr:=Blk.frozen hT k;rw [show dy l k++[mC l (dy l k)]=dy l (k+1) from rfl] at Jy;generalize X3:dy l (k+1)=ws1 at*;clear gR hW Yu hT;have HWS:=dH X3;clear X3;generalize mC l (dy l k)=X at*;generalize (dy l k).getD (k - 15) 0=PX at*;generalize (dy l k).getD (k - 2) 0=A2 at*;generalize (dy l k).getD (k - 16) 0=A16 at*;generalize (dy l k).getD (k - 7) 0=A7 at*;have Yt:=dH Jy;have HB:=dH hb;have HN:=dH Jz;have HC:=dH (Iq PX A2 A16 A7 l15 l2);clear Jy hb Jz;go_wp2_with fail;go_quiet (fail)
    generalize WI:wr.drewN nq=wq;have i16:=AI WI i16;have i7:=AI WI i7;have hold:=AI WI hold;have hfr:=Ir WI hfr;have Yt:dG (Blk (wq.setCell { block:=w.heap.size,off:=k } (Value.int IntKind.u64 ↑X)) w.heap.size 446 (cellsN 80 ws1)):=dH (by rw [<-WI];exact Yt.o);have HB:dG (Below w.heap.size w wq):=dH (by rw [<-WI];exact ⟨HB.o.os,HB.o.tape,HB.o.output,HB.o.size,HB.o.block⟩);have w16:IntKind.i64.wrap ((k - 16:Nat):Int)=((k - 16:Nat):Int):=by rw [IntKind.wrap_i64];omega
    have w7:IntKind.i64.wrap ((k - 7:Nat):Int)=((k - 7:Nat):Int):=by rw [IntKind.wrap_i64];omega
    have b16:((k - 16:Nat):Int) < 80:=by omega
    have b7:((k - 7:Nat):Int) < 80:=by omega
    have b0:(k:Int) < 80:=by omega
    clear WI;go_wp2_with fail;refine oB 29 (by kernel_rfl) (by kernel_rfl) ?_;simp only [cU,List.take_zero,List.drop_succ_cons,bk];repeat (first|still_step|still_call (Er _ _ (by first|exact l15|exact l2) (by decide) (by decide) _))
    refine wpStill_nil ?_;rw [HC.o,<-HN.o];go_wp2_with fail;refine ⟨⟨k+1,by omega,by go_num,?_,?_⟩,by simp [intOf];omega⟩
    ·rw [HWS.o];exact Blk.drew Yt.o
    ·exact (HB.o.setCell (aB _) _).drew
  ·obtain rfl:k=80:=by omega
   have hsz:∀l,(prog.info? 446).map (·.size)=some (cellsN 80 l).size:=fun l=>by rw [gY];kernel_rfl
   have hone:∀l,(cellsN 80 l).all (·.oneCell')=true:=fun l=>by
    rw [Array.all_eq_true];intro i hi;simp [cellsN,Value.oneCell']
   go_wp2_with (first|(refine wpList_load_row rfl 446 _ rfl w.heap.size rfl 446 (cellsN 80 (dy l 80)) (0,0) _ hT underlying446 rfl (hsz _) ?_)|(refine wpList_store_row rfl 446 _ _ rfl w.heap.size (cellsN 80 (dy l 80)) rfl rfl 446 (cellsN 80 (dy l 80)) hT (hsz _) rfl (hone _) ?_))
   refine bodyPost_ret (v:=.agg _) (results_cell_row rfl _ _ w.heap.size 446 _ (0,0) _ (by simp [Act.put]) (setRow_heap _ _ _ _ _ _ hT) underlying446 rfl (hsz _)) rfl ⟨rfl,?_⟩;exact ir hb (aB _) _
end Pt
end Go.Proofs.YtgdaahffmcfhpaaGreatDoor
