/- Lemmas on the way: PIt. -/
import Derived.RangeFuncNested
import Derived.RangeFuncBound
import Derived.RangeFuncCalls
import Derived.RangeFuncLeaves
import Derived.RangeFuncBox
import Derived.Shelf.Abstract
import Derived.Shelf.RegionOpen
import Derived.OwnWalkIn
import Derived.TacticsInMore
import Derived.LoopNIn
import Derived.LoopIn
import Derived.Sort.QuietIn
import Derived.Maps.AppendAt
import Derived.Test.YtgdaahffmcfhpaaGreatDoorO02
set_option maxRecDepth 100000
set_option maxHeartbeats 8000000
namespace Go.Proofs.YtgdaahffmcfhpaaGreatDoor
open aA
open Tryz
namespace Pt
open Go.RowKit Go.Shelf
attribute [local go_sem] Oper.semAt_some
def pieces (n:Nat):Nat:=(n+255) / 256
theorem pQ {n k:Nat}:k < pieces n↔256*k < n:=by unfold pieces;omega
def Uo (g n k:Nat):Value:=if 256*k < n then .slice (some ⟨g,256*k,none⟩) (min 256 (n - 256*k)) (min 256 (n - 256*k)) else .slice none 0 0
def Kept (B1 B2:Nat) (W W':World):Prop:=W'.heap[B1]? =W.heap[B1]?/\W'.heap[B2]? =W.heap[B2]?
theorem Kept.refl (B1 B2:Nat) (W:World):Kept B1 B2 W W:=⟨rfl,rfl⟩
theorem Kept.trans {B1 B2:Nat} {A B C:World} (h:Kept B1 B2 A B) (k:Kept B1 B2 B C):Kept B1 B2 A C:=⟨k.1.trans h.1,k.2.trans h.2⟩
theorem Kept.book {B1 B2:Nat} {w:World} (h1:B1 < w.heap.size) (h2:B2 < w.heap.size) (W:World) (l:Nat) (o o':Obj) (hl:w.heap.size<=l) (_:W.heap[l]? =some o) (_:o.isCells=false) (_:o.isWalk=false):Kept B1 B2 W (W.putObj l o'):=
 ⟨World.putObj_heap_other (by omega),World.putObj_heap_other (by omega)⟩
theorem Kept.cell1 {B1 B2:Nat} {W W':World} (h:Kept B1 B2 W W'):W'.cell? B1=W.cell? B1:=aM (a:=⟨B1,0,none⟩) h.1
theorem Kept.cell2 {B1 B2:Nat} {W W':World} (h:Kept B1 B2 W W'):W'.cell? B2=W.cell? B2:=aM (a:=⟨B2,0,none⟩) h.2
theorem K9 (F:Fence) (n:Nat) (Zo:F.fn 254) (hro:F.round=none) (hn:1<=n) (l Bs Bn g len cap:Nat) (A:Option Addr) (hA:0 < len->A=some ⟨g,0,none⟩) (hle:len<=cap) (hlen:len<=1000000) (hcap:cap<=9223372036854775807)
  (J Jx:List Nat->World->Prop) (hJ:∀s (W:World) q,J s W->J s (W.drewN q))
  (hY:∀pre x W,J pre W->pre.length < pieces len->YieldAt F (n - 1) prog l #[Uo g len x] W λe W'=>
   (e=.returned true/\J (pre++[x]) W'/\Kept Bs Bn W W')\/(e=.returned false/\Jx (pre++[x]) W'))
  (W:World) (FY:W.cell? Bs=Qq A len cap) (hBn:W.cell? Bn=(256:Int)) (h0:J [] W):
  CallsIn F n prog 254 #[.func (.yield l) #[] #[],Qp Bs,Qp Bn] W λe W'=>(∃v,e=.returned v)/\
   ((∃ys,ys=List.range (pieces len)/\J ys W')\/(∃pre:List Nat,True/\Jx pre W')):=by
 refine callsIn_of_wp func254 rfl Zo ?_ hro;simp only [ntmps254,bW,aY,bE,Nat.reduceAdd,Nat.reduceSub,Array.replicate_succ,Array.replicate_zero,List.push_toArray,List.append_toArray,ak,bC];gi_wp2;gi_loopw [4] (λi wr=>∃k:Nat,k<=pieces len/\i=.int .i64 (256*k:Nat)/\J (List.range k) wr/\Kept Bs Bn W wr)
  (λi _=>len - (intOf i).toNat)
 case atStart=>exact ⟨0,aS _,rfl,h0,Kept.refl _ _ _⟩
 case round=>
  obtain ⟨k,hk,rfl,Mm,hK⟩:=hrel;have c1:=hK.cell1.trans FY;have c2:=hK.cell2.trans hBn;by_cases hlt:256*k < len
  ·obtain rfl:=hA (by omega)
   have hi:((256*k:Nat):Int) < (len:Int):=by omega
   have qX:(0:Int)<=256*(k:Int):=by omega
   have hn2:256*(k:Int) < (len:Int):=by omega
   have XL:(256*(k:Int)).toNat=256*k:=by omega
   gi_wp2;refine wpIn_region_quiet_lit hro (by kernel_rfl) (by kernel_rfl) ?_;repeat (gi_big_quiet_step (fail))
   refine wpQuietIn_nil ?_;intro _ hw';obtain ⟨nq,afU⟩:=hw';subst afU;obtain ⟨m,hm⟩:=dG (min 256 (len - 256*k));obtain ⟨fn,tmps,assign,body,hy,hR⟩:=hY _ k (wr.drewN nq) (hJ _ _ _ Mm) (by rw [List.length_range];exact pQ.2 hlt);unfold Uo at hy;rw [if_pos hlt,<-hm] at hy;have Tc:(if ((len - 256*k:Nat):Int) < 256 then ((len - 256*k:Nat):Int) else 256)=(m:Int):=by split <;> omega
   rw [Tc];have yu:256*k+m<=len:=by omega
   have hm0:0 < m:=by omega
   have afX:m<=256:=by omega
   have c1:(wr.drewN nq).cell? Bs=Qs g len cap:=c1;have c2:(wr.drewN nq).cell? Bn=(256:Int):=c2;have HM:=dL hm;have HJ:=dL Mm;have HK:=dL (show Kept Bs Bn W (wr.drewN nq) from hK);clear hm Tc hK Mm;obtain ⟨w2,eV⟩:=dG (wr.drewN nq);rw [<-eV] at hy hR c1 c2 HK ⊢;clear eV;have hs1:(0:Int)<=256*(k:Int)+(m:Int):=by omega
   have hs2:256*(k:Int)+(m:Int)<=(cap:Int):=by omega
   have hs3:(256*(k:Int)+(m:Int)).toNat=256*k+m:=by omega
   have hs4:256*k+m - 256*k=m:=by omega
   gi_wp2;refine hR.mono ?_;rintro e W3 (⟨rfl,QY,oD⟩| ⟨rfl,Qy⟩)
   ·have c3:=oD.cell2.trans c2
    have qB:=dL (HK.o.trans oD);have QC:=dL QY;clear QY oD;gi_wp2;go_roundw
    case rel=>exact ⟨k+1,by have:=pQ.2 hlt;omega,by go_num,by rw [List.range_succ];exact QC.o,qB.o⟩
    case measure=>simp [intOf];omega
   ·gi_wp2
    refine bodyPost_ret (results_none rfl _ _ _) rfl ?_;exact ⟨⟨_,rfl⟩,.inr ⟨_,trivial,Qy⟩⟩
  ·obtain rfl:k=pieces len:=by have:=mt pQ.1 hlt;omega
   have hi:¬ ((256*pieces len:Nat):Int) < (len:Int):=by omega
   gi_wp2;go_end0;exact ⟨⟨_,rfl⟩,.inl Mm⟩
theorem DK (F:Fence) (n:Nat) (Zo:F.fn 254) (hro:F.round=none) (hn:1<=n) (Bs Bn g len cap:Nat) (A:Option Addr) (hA:0 < len->A=some ⟨g,0,none⟩) (hle:len<=cap) (hlen:len<=1000000) (hcap:cap<=9223372036854775807) (w:World)
  (h1:Bs < w.heap.size) (h2:Bn < w.heap.size) (FY:w.cell? Bs=Qq A len cap) (hBn:w.cell? Bn=(256:Int)):
  SeqStopsK F n prog 254 #[Qp Bs,Qp Bn] (λk:Nat=>#[Uo g len k]) (Kept Bs Bn) (λys=>ys=List.range (pieces len)) (λ_=>True) (pieces len) w:=λl J Jx W hW hJ _ hY h0=>
 K9 F n Zo hro hn l Bs Bn g len cap A hA hle hlen hcap J Jx (λs W q hs=>hJ s W _ none hs (mT (dz _ _) q) (λr e=>by cases e)) hY W ((hW.cell (p:=Bs) h1).trans FY) ((hW.cell (p:=Bn) h2).trans hBn) h0
theorem Fq (F:Fence) (n:Nat) (h24:F.fn 181) (hro:F.round=none) (A:Option Addr) (len cap:Nat) (w:World):
  CallsIn F n prog 181 #[Qq A len cap,(256:Int)] w λe w'=>e=.returned (.func (.func 254) #[] #[Qp w,.pointer (some ⟨w.heap.size+1,0,none⟩)])/\w'=(w.alloc (.cells #[Qq A len cap] 259)).alloc (.cells #[(256:Int)] 3):=by
 refine callsIn_of_wp func181 rfl h24 ?_ hro;simp only [ntmps181,bW,aY,bE,Nat.reduceAdd,Nat.reduceSub,Array.replicate_succ,Array.replicate_zero,List.push_toArray,List.append_toArray,ak,bC];gi_wp2;go_ret;exact ⟨rfl,rfl⟩
end Pt
end Go.Proofs.YtgdaahffmcfhpaaGreatDoor
