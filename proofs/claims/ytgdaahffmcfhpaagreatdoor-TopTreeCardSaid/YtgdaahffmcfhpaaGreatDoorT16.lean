/- Lemmas on the way: PShE PShF. -/
import Derived.Great.BuildSlice
import Derived.Test.YtgdaahffmcfhpaaGreatDoorT15
import Derived.Test.YtgdaahffmcfhpaaGreatDoorT00
set_option maxRecDepth 100000
set_option maxHeartbeats 8000000
namespace Go.Proofs.YtgdaahffmcfhpaaGreatDoor
open Tryz
namespace Pt
open Go.RowKit
def Lj:List Int:=pK.map Int.ofNat
theorem CS:(Lj.map (Value.int .u64)).toArray=cellsN 80 pK:=by kernel_rfl
theorem CT (w:World):
  Calls prog 361 #[] w fun e w'=>∃g,e=.returned (.pointer (some ⟨g,0,none⟩))/\Blk w' g 446 (cellsN 80 pK)/\w.heap.size<=g/\Below w.heap.size w w':=by
 have hb:∀A,A=cellsN 80 pK->Blk (w.alloc (.cells A 446)) w.heap.size 446 (cellsN 80 pK):=fun A h=>h ▸ Blk.new w 446 _
 go_enter func361,ntmps361;go_wp2_with (refine wpList_buildFlatArrTo rfl 446 332 80 _ rfl .u64 Lj (some 1) rfl underlying446 (by kernel_rfl) (by kernel_rfl) (by kernel_rfl) ?_)
 go_ret;exact ⟨_,rfl,hb _ CS,aB _,(aC _ w).alloc (aB _) _⟩
end Pt
namespace Pt
open Go.RowKit
attribute [local go_sem] dO dL dQ dM
def av (v:V8):Array Value:=#[.int .u64 (v.a:Int),.int .u64 (v.b:Int),.int .u64 (v.c:Int),.int .u64 (v.d:Int),.int .u64 (v.e:Int),.int .u64 (v.f:Int),.int .u64 (v.g:Int),.int .u64 (v.h:Int)]
theorem Q9 (v:V8):av v=cellsN 8 v.list:=rfl
theorem qm (v:V8):(av v).size=8:=rfl
theorem ru {a w:World} {g:Nat} (h:a.grownBy w (some g)) {p:Nat} (hp:p=g\/a.heap.size<=p) (cs:Array Value):a.grownBy (w.setRow p cs) (some g):=
 ⟨h.os,h.tape,h.output,by simpa using h.size,fun i hi hne=>(setRow_other w p i cs (by
  rintro rfl;rcases hp with hp|hp
  ·exact hne (by rw [hp])
  ·omega)).trans (h.block i hi hne)⟩
theorem _root_.Go.Proofs.YtgdaahffmcfhpaaGreatDoor.Blk.setRow {w:World} {g:Nat} {t:TypeId} {old:Array Value} (h:Blk w g t old) (cs:Array Value):Blk (w.setRow g cs) g t cs:=setRow_heap w g old cs t (0,0) h
theorem _root_.Go.Proofs.YtgdaahffmcfhpaaGreatDoor.Blk.setRow_far {w:World} {g p:Nat} {t:TypeId} {cs:Array Value} (h:Blk w g t cs) (hp:g≠p) (xs:Array Value):Blk (w.setRow p xs) g t cs:=(setRow_other w p g xs hp).trans h
theorem _root_.Go.Proofs.YtgdaahffmcfhpaaGreatDoor.Blk.at_ {w:World} {g:Nat} {t:TypeId} {cs:Array Value} (h:Blk w g t cs) (i:Nat) {v:Value} (hv:cs[i]? =some v):w.cell? ⟨g,i,none⟩=some v:=(Blk.cell h i).trans hv
theorem QA (a:Nat) (h:pJ a):bits .xor .u64 18446744073709551615 (a:Int)=((La a:Nat):Int):=u64_xor_nat 18446744073709551615 a (by decide) h
theorem CV {a:Nat} (h:pJ a):pJ (La a):=mD (show pJ 18446744073709551615 by unfold pJ;decide) h
theorem QB (v:V8) (k w:Nat) (h:v.ok):
  IntKind.u64.wrap (IntKind.u64.wrap (IntKind.u64.wrap (IntKind.u64.wrap ((v.h:Int)+bits .xor .u64 (bits .xor .u64 (tr v.e 14:Nat) (tr v.e 18:Nat)) (tr v.e 41:Nat))+bits .xor .u64 (bits .and .u64 (v.e:Int) (v.f:Int)) (bits .and .u64 (bits .xor .u64 18446744073709551615 (v.e:Int)) (v.g:Int)))+(k:Int))+(w:Int))
   =((xx v k w:Nat):Int):=by
 obtain ⟨ha,hb,hc,hd,he,hf,hg,hh⟩:=h;rw [QA _ he,u64_and_nat _ _ he hf,u64_and_nat _ _ (CV he) hg,u64_xor_nat _ _ (kY he) (kY (CV he)),u64_xor_nat _ _ (jF he) (jF he),u64_xor_nat _ _ (mD (jF he) (jF he)) (jF he)];rw [gZ,gZ,gZ,gZ];rfl
theorem QC (v:V8) (h:v.ok):
  IntKind.u64.wrap (bits .xor .u64 (bits .xor .u64 (tr v.a 28:Nat) (tr v.a 34:Nat)) (tr v.a 39:Nat)+bits .xor .u64 (bits .xor .u64 (bits .and .u64 (v.a:Int) (v.b:Int)) (bits .and .u64 (v.a:Int) (v.c:Int))) (bits .and .u64 (v.b:Int) (v.c:Int)))
   =((yy v:Nat):Int):=by
 obtain ⟨ha,hb,hc,hd,he,hf,hg,hh⟩:=h;rw [u64_and_nat _ _ ha hb,u64_and_nat _ _ ha hc,u64_and_nat _ _ hb hc,u64_xor_nat _ _ (kY ha) (kY ha),u64_xor_nat _ _ (mD (kY ha) (kY ha)) (kY hb),u64_xor_nat _ _ (jF ha) (jF ha),u64_xor_nat _ _ (mD (jF ha) (jF ha)) (jF ha)];rw [gZ];rfl
theorem Is (v:V8) (k w:Nat):#[Value.int .u64 (IntKind.u64.wrap ((xx v k w:Nat)+(yy v:Nat))),.int .u64 (v.a:Int),.int .u64 (v.b:Int),.int .u64 (v.c:Int),.int .u64 (IntKind.u64.wrap ((v.d:Int)+(xx v k w:Nat))),.int .u64 (v.e:Int),.int .u64 (v.f:Int),.int .u64 (v.g:Int)]=av (rnd v k w):=by
 rw [gZ,gZ];rfl
theorem Iu {a w wq:World} {r:Option Nat} (h:a.grownBy w r) {n:Nat} (hq:w.drewN n=wq):a.grownBy wq r:=by subst hq;exact lu h n
theorem _root_.Go.Proofs.YtgdaahffmcfhpaaGreatDoor.Blk.dr {w wq:World} {n g:Nat} {t:TypeId} {cs:Array Value} (h:Blk w g t cs) (hq:w.drewN n=wq):Blk wq g t cs:=by subst hq;exact h.drewN n
def AJ (v V:V8) (k:Nat):Array Value:=Array.ofFn (n:=8) fun i=>Value.int .u64 (((if (i:Nat) < k then fO (v.list.getD i 0) (V.list.getD i 0) else v.list.getD i 0:Nat)):Int)
theorem uX (v V:V8) (k i:Nat) (h:i < 8):(AJ v V k)[i]? =some (.int .u64 (((if i < k then fO (v.list.getD i 0) (V.list.getD i 0) else v.list.getD i 0:Nat)):Int)):=by simp [AJ,h]
theorem ry (v V:V8) (k:Nat):(AJ v V k).size=8:=by simp [AJ]
theorem Iv (v V:V8):AJ v V 0=av v:=by kernel_rfl
theorem Es (v V:V8):AJ v V 8=av (Py v V):=by kernel_rfl
theorem Lk (v V:V8) (k:Nat) (h:k < 8):(AJ v V k).setIfInBounds k (.int .u64 ((fO (v.list.getD k 0) (V.list.getD k 0):Nat):Int))=AJ v V (k+1):=by
 apply Array.ext_getElem?;intro j;rw [cw];by_cases e:k=j
 ·subst e
  rw [if_pos rfl,if_pos (by rw [ry];exact h),uX _ _ _ _ h,if_pos (by omega)]
 ·rw [if_neg e]
  rcases aG j 8 with hj|hj
  ·rw [uX _ _ _ _ hj,uX _ _ _ _ hj]
   simp only [show (j < k)↔(j < k+1) from by omega]
  ·rw [ak (by rw [ry];exact hj),ak (by rw [ry];exact hj)]
theorem Ll {P:Program} {ops:Array Oper} {rest:List Oper} {o:Oper} {a:Act} {w:World} {Q:Exit->Act->World->Prop} (hgd:o.guard=none) (ty:TypeId) (x y:Operand) (ho:o.op=.store ty x y)
  (g:Nat) (x0 x1 x2 x3 x4 x5 x6 x7:Int) (hx:a.eval x=.pointer (some ⟨g,0,none⟩)) (hy:a.eval y=.agg #[.int .u64 x0,.int .u64 x1,.int .u64 x2,.int .u64 x3,.int .u64 x4,.int .u64 x5,.int .u64 x6,.int .u64 x7])
  (t:TypeId) (old:Array Value) (hg:w.heap[g]? =some (.cells old t (0,0))) (hi:(P.info? ty).map (·.size)=some 8) (hold:old.size=8)
  (h:wpList P ops Q rest (a.put o.dst undef) (w.setRow g #[.int .u64 x0,.int .u64 x1,.int .u64 x2,.int .u64 x3,.int .u64 x4,.int .u64 x5,.int .u64 x6,.int .u64 x7])):wpList P ops Q (o :: rest) a w:=
 wpList_store_row hgd ty x y ho g _ hx hy t old hg hi hold (by simp [Value.oneCell']) h
theorem Iw (v:V8) (hv:v.ok) (l:List UInt8) (hl:l.length=128) (V9:V8) (H9:dG (Py v (rounds (dy l 80) v 80)=V9)) (w:World):
  Calls prog 317 #[.agg (av v),.string (bs l)] w (dJ w (.agg (av V9))):=by
 have hsz:∀l,(prog.info? 446).map (·.size)=some (cellsN 80 l).size:=fun l=>by rw [gY];kernel_rfl
 have hone:∀l,(cellsN 80 l).all (·.oneCell')=true:=fun l=>by
  rw [Array.all_eq_true];intro i hi;simp [cellsN,Value.oneCell']
 have K8:∀v,(prog.info? 400).map (·.size)=some (av v).size:=fun v=>by rw [qm];kernel_rfl
 have Hs:∀v,(av v).all (·.oneCell')=true:=fun v=>by simp [av,Value.oneCell']
 obtain ⟨zs,hzs,hz⟩:∃zs,zs=cellsN 80 []/\∀w,(zeroValue 446).run prog w=.ok (.agg zs) w:=⟨_,rfl,fun w=>by kernel_rfl⟩;obtain ⟨W1,mQ⟩:=dB (((w.alloc (.cells (av v) 400)).alloc (.cells (av ⟨0,0,0,0,0,0,0,0⟩) 400)));have PK:Blk W1 w.heap.size 400 (av v):=by rw [mQ];exact (Blk.new w 400 _).alloc _
 have nG:Blk W1 (w.heap.size+1) 400 (av ⟨0,0,0,0,0,0,0,0⟩):=by
  rw [mQ];have:=Blk.new (w.alloc (.cells (av v) 400)) 400 (av ⟨0,0,0,0,0,0,0,0⟩);simpa using this
 have fq:Below w.heap.size w W1:=by rw [mQ];exact ((aC _ w).alloc (aB _) _).alloc (by simp) _
 have uH:W1.heap.size=w.heap.size+2:=by rw [mQ];simp
 have rG:=dH (show W1=((w.alloc (.cells (av v) 400)).alloc (.cells #[.int .u64 0,.int .u64 0,.int .u64 0,.int .u64 0,.int .u64 0,.int .u64 0,.int .u64 0,.int .u64 0] 400)) from mQ);have O6:=dH PK;have BC:=dH nG;have eH:=dH fq;have tZ:=dH uH;have Wt:=dH hzs;clear mQ PK nG fq uH hzs;go_enter func317,ntmps317;go_wp2_with fail;rw [<-rG.o];refine (CT _).mono ?_;rintro e w2 ⟨gK,rfl,hK,hgK,dS⟩;have HK:=dH hK;have HGK:=dH hgK;have eG:=dH dS;clear hK hgK dS;go_wp2_with fail;refine (Q8 l hl _).mono ?_;rintro e w3 ⟨rfl,di⟩;have dw:=dH di;clear di;have Yv:zs.size=(cellsN 80 (dy l 80)).size:=by rw [Wt.o,gY,gY]
 have hN:Blk (w3.alloc (.cells zs 446)) w3.heap.size 446 zs:=Blk.new _ _ _;have s2:=eG.o.size;have s3:=dw.o.size;have s1:=tZ.o;have sK:=HGK.o;have lK:=HK.o.lt;have hA4:Blk ((w3.alloc (.cells zs 446)).setRow w3.heap.size (cellsN 80 (dy l 80))) w.heap.size 400 (av v):=
  Blk.setRow_far (((O6.o.below eG.o (by omega)).below dw.o (by omega)).alloc _) (by omega) _
 have RS:Blk (((w3.alloc (.cells zs 446)).setRow w3.heap.size (cellsN 80 (dy l 80))).alloc (.cells (av ⟨0,0,0,0,0,0,0,0⟩) 400)) (w3.heap.size+1) 400 (av ⟨0,0,0,0,0,0,0,0⟩):=by
  have:=Blk.new ((w3.alloc (.cells zs 446)).setRow w3.heap.size (cellsN 80 (dy l 80))) 400 (av ⟨0,0,0,0,0,0,0,0⟩);simpa using this
 go_wp2_with (first|(refine wpList_store_row rfl 446 _ _ rfl w3.heap.size (cellsN 80 (dy l 80)) rfl rfl 446 zs hN (hsz _) Yv (hone _) ?_)|(refine wpList_load_row rfl 400 _ rfl w.heap.size rfl 400 (av v) (0,0) _ hA4 underlying400 rfl (K8 _) ?_)|(refine wpList_store_row rfl 400 _ _ rfl (w3.heap.size+1) (av v) rfl rfl 400 (av ⟨0,0,0,0,0,0,0,0⟩) RS (K8 _) rfl (Hs _) ?_))
 obtain ⟨W5,TL⟩:=dB (((((w3.alloc (.cells zs 446)).setRow w3.heap.size (cellsN 80 (dy l 80))).alloc (.cells (av ⟨0,0,0,0,0,0,0,0⟩) 400)).setRow (w3.heap.size+1) (av v)));have hA5:Blk W5 w.heap.size 400 (av v):=by rw [TL];exact (hA4.alloc _).setRow_far (by omega) _
 have hR5:Blk W5 (w.heap.size+1) 400 (av ⟨0,0,0,0,0,0,0,0⟩):=by
  rw [TL];exact ((((((BC.o.below eG.o (by omega)).below dw.o (by omega)).alloc _).setRow_far (by omega) _).alloc _).setRow_far (by omega) _)
 have hK5:Blk W5 gK 446 (cellsN 80 pK):=by
  rw [TL];exact ((((HK.o.below dw.o (by omega)).alloc _).setRow_far (by omega) _).alloc _).setRow_far (by omega) _
 have gL:Blk W5 w3.heap.size 446 (cellsN 80 (dy l 80)):=by
  rw [TL];exact ((hN.setRow _).alloc _).setRow_far (by omega) _
 have hV5:Blk W5 (w3.heap.size+1) 400 (av v):=by rw [TL];exact RS.setRow _
 have eu:Below w.heap.size w W5:=by
  rw [TL];have b3:Below w.heap.size w w3:=(eH.o.trans (eG.o.mono (by omega))).trans (dw.o.mono (by omega));exact ir ((ir (b3.alloc (by omega) _) (by omega) _).alloc (by simp;omega) _) (by omega) _
 have ug:=dH (show W5=((((w3.alloc (.cells zs 446)).setRow w3.heap.size (cellsN 80 (dy l 80))).alloc (.cells #[.int .u64 0,.int .u64 0,.int .u64 0,.int .u64 0,.int .u64 0,.int .u64 0,.int .u64 0,.int .u64 0] 400)).setRow (w3.heap.size+1) (av v)) from TL);rw [<-ug.o];obtain ⟨gW,hgW⟩:=dB w3.heap.size;rw [<-hgW] at gL hV5 s3 ⊢;have Ut:=dH hR5;have HA5:=dH hA5;have Dl:=dH hK5;have HWd:=dH gL;have HV5:=dH hV5;have fk:=dH eu;have hd:w.heap.size+2<=gK/\gK < gW:=by omega
 have HD:=dH hd;clear TL ug hA5 hR5 hK5 gL hV5 eu hA4 RS hN Yv s1 s2 s3 sK lK dw hgW HK HGK eG O6 BC eH tZ Wt hz rG hd;go_loopw [18] (fun i wr=>∃k:Nat,k<=80/\i=.int .i64 k/\Blk wr (gW+1) 400 (av (rounds (dy l 80) v k))/\W5.grownBy wr (some (gW+1))) (fun i _=>80 - (intOf i).toNat)
 case atStart=>exact ⟨0,by omega,rfl,HV5.o,dx _ _⟩
 case round=>
  obtain ⟨k,hk,rfl,hV,hg⟩:=hrel;rcases aG k 80 with hlt|hge
  ·have hok:=yZ (dy l 80) hv k
   have Jz:rnd (rounds (dy l 80) v k) (pK.getD k 0) ((dy l 80).getD k 0)=rounds (dy l 80) v (k+1):=rfl;have hwl:=yo l 80 k;have hkk:wr.cell? ⟨gK,k,none⟩=some (.int .u64 ((pK.getD k 0:Nat):Int)):=(Blk.grown Dl.o hg (by simp;have:=HD.o;omega)).at_ k (gw _ _ _ hlt);have hww:wr.cell? ⟨gW,k,none⟩=some (.int .u64 (((dy l 80).getD k 0:Nat):Int)):=(Blk.grown HWd.o hg (by simp)).at_ k (gw _ _ _ hlt);generalize E7:rounds (dy l 80) v (k+1)=V2 at*;have tV:=dH E7;clear E7;generalize rounds (dy l 80) v k=V at*;generalize (dy l 80).getD k 0=X at*;generalize pK.getD k 0=Y at*;have c0:wr.cell? ⟨gW+1,0,none⟩=some (.int .u64 (V.a:Int)):=hV.at_ 0 rfl;have c1:wr.cell? ⟨gW+1,1,none⟩=some (.int .u64 (V.b:Int)):=hV.at_ 1 rfl;have c2:wr.cell? ⟨gW+1,2,none⟩=some (.int .u64 (V.c:Int)):=hV.at_ 2 rfl;have c3:wr.cell? ⟨gW+1,3,none⟩=some (.int .u64 (V.d:Int)):=hV.at_ 3 rfl;have c4:wr.cell? ⟨gW+1,4,none⟩=some (.int .u64 (V.e:Int)):=hV.at_ 4 rfl;have c5:wr.cell? ⟨gW+1,5,none⟩=some (.int .u64 (V.f:Int)):=hV.at_ 5 rfl;have c6:wr.cell? ⟨gW+1,6,none⟩=some (.int .u64 (V.g:Int)):=hV.at_ 6 rfl;have c7:wr.cell? ⟨gW+1,7,none⟩=some (.int .u64 (V.h:Int)):=hV.at_ 7 rfl;have hSg:IntKind.u64.signed=false:=rfl;have hM:IntKind.u64.max=18446744073709551615:=rfl;have HV:=dH hV;have HG:=dH hg;have HX:=dH Jz;have HO:=dH hok;clear hV hg Jz hok;go_wp2_with fail;go_quiet (fail)
   rename Nat=>n1
   go_wp2_with fail;go_quiet (first|(go_at_call 363;refine (Er _ _ HO.o.2.2.2.2.1 (by decide) (by decide) _).mono ?_;rintro e w'' ⟨rfl,rfl⟩;exact ⟨rfl,_,rfl⟩))
   rename Nat=>n2
   go_wp2_with fail;go_quiet (first|(go_at_call 363;refine (Er _ _ HO.o.1 (by decide) (by decide) _).mono ?_;rintro e w'' ⟨rfl,rfl⟩;exact ⟨rfl,_,rfl⟩))
   rw [QB V Y X HO.o,QC V HO.o]
   rename Nat=>n3
   obtain ⟨wq,hq⟩:∃wq,((wr.drewN n1).drewN n2).drewN n3=wq:=⟨_,rfl⟩;have uI:Blk wq (gW+1) 400 (av V):=((HV.o.drewN _).drewN _).dr hq;have hGq:W5.grownBy wq (some (gW+1)):=Iu (lu (lu HG.o _) _) hq;rw [hq];have gR:∀A,A=av V2->Blk (wq.setRow (gW+1) A) (gW+1) 400 (av V2):=fun A h=>h ▸ uI.setRow A
   have HS:=dH gR;have HGQ:=dH hGq
   replace c0:wq.cell? ⟨gW+1,0,none⟩=some (.int .u64 (V.a:Int)):=uI.at_ 0 rfl
   replace c1:wq.cell? ⟨gW+1,1,none⟩=some (.int .u64 (V.b:Int)):=uI.at_ 1 rfl
   replace c2:wq.cell? ⟨gW+1,2,none⟩=some (.int .u64 (V.c:Int)):=uI.at_ 2 rfl
   replace c3:wq.cell? ⟨gW+1,3,none⟩=some (.int .u64 (V.d:Int)):=uI.at_ 3 rfl
   replace c4:wq.cell? ⟨gW+1,4,none⟩=some (.int .u64 (V.e:Int)):=uI.at_ 4 rfl
   replace c5:wq.cell? ⟨gW+1,5,none⟩=some (.int .u64 (V.f:Int)):=uI.at_ 5 rfl
   replace c6:wq.cell? ⟨gW+1,6,none⟩=some (.int .u64 (V.g:Int)):=uI.at_ 6 rfl
   clear hq gR hGq hww hkk hwl hM hSg c7;have Yw:(prog.info? 400).map (·.size)=some 8:=by kernel_rfl
   go_wp2_with (refine Ll rfl 400 _ _ rfl (gW+1) _ _ _ _ _ _ _ _ rfl rfl 400 (av V) uI Yw rfl ?_)
   refine ⟨⟨k+1,by omega,by go_num,?_,?_⟩,by simp [intOf];omega⟩
   ·rw [tV.o];exact HS.o _ ((Is V Y X).trans (congrArg av HX.o))
   ·exact ru HGQ.o (Or.inl rfl) _
  ·obtain rfl:k=80:=by omega
   have hA6:Blk wr w.heap.size 400 (av v):=HA5.o.grown hg (by simp;have:=HD.o;omega);have hR6:Blk wr (w.heap.size+1) 400 (av ⟨0,0,0,0,0,0,0,0⟩):=Ut.o.grown hg (by simp;have:=HD.o;omega);have iW:Below w.heap.size w wr:=ef fk.o hg (by have:=HD.o;omega) fk.o.size;have eC:=H9.o;clear H9;have hdd:gW+1≠w.heap.size:=by have:=HD.o;omega
   have hls:w.heap.size+1 < wr.heap.size:=hR6.lt;obtain ⟨w6,qQ⟩:=dB wr;rw [<-qQ] at hV hA6 hR6 iW hls ⊢;clear qQ;rw [show ((80:Nat):Int)=(80:Int) from rfl];generalize rounds (dy l 80) v 80=V at*;have HF:=dH eC;have HV:=dH hV;have HA6:=dH hA6;have HR6:=dH hR6;have jc:=dH iW;clear hV hg hA6 hR6 iW eC;go_wp2_with fail;go_loopw [102] (fun i ws=>∃k:Nat,k<=8/\i=.int .i64 k/\Blk ws w.heap.size 400 (AJ v V k)/\w6.grownBy ws (some w.heap.size)) (fun i _=>8 - (intOf i).toNat)
   case atStart=>exact ⟨0,by omega,rfl,by rw [Iv];exact HA6.o,dx _ _⟩
   case round=>
    obtain ⟨k,hk,rfl,hM,hg⟩:=hrel;rcases aG k 8 with hlt|hge
    ·have c0:=hM.at_ k (uX v V k k hlt)
     rw [if_neg (Nat.lt_irrefl k)] at c0;have c1:wr.cell? ⟨gW+1,k,none⟩=some (.int .u64 ((V.list.getD k 0:Nat):Int)):=(HV.o.grown hg (by simp;omega)).at_ k (by rw [Q9];exact gw 8 _ _ hlt);have hfr:=hM.frozen k;have hST:=hM.set_ k (.int .u64 ((fO (v.list.getD k 0) (V.list.getD k 0):Nat):Int));rw [Lk v V k hlt] at hST;have hGS:w6.grownBy (wr.setCell ⟨w.heap.size,k,none⟩ (.int .u64 ((fO (v.list.getD k 0) (V.list.getD k 0):Nat):Int))) (some w.heap.size):=dh hg (Or.inl rfl) _;have hac:=gZ (v.list.getD k 0) (V.list.getD k 0);generalize v.list.getD k 0=A at*;generalize V.list.getD k 0=B at*;have qL:=dH hST;have HGS:=dH hGS;have HAC:=dH hac;have PC:(k:Int) < 8:=by omega
     clear hST hGS hac hM hg;go_wp2_with fail;refine oB 8 (by kernel_rfl) (by kernel_rfl) ?_;simp only [cU,List.take_zero,List.drop_succ_cons,bk];repeat still_step
     refine wpStill_nil ?_;rw [HAC.o];go_wp2_with fail;refine ⟨⟨k+1,by omega,by go_num,?_,?_⟩,by simp [intOf];omega⟩
     ·exact qL.o.drew
     ·exact jv HGS.o
    ·obtain rfl:k=8:=by omega
     rw [Es,HF.o] at hM;have hR7:Blk wr (w.heap.size+1) 400 (av ⟨0,0,0,0,0,0,0,0⟩):=HR6.o.grown hg (by simp);have Sj:Below w.heap.size w wr:=ef jc.o hg (aB _) (by omega);have gR:=hR7.setRow (av V9);go_wp2_with (first|(refine wpList_load_row rfl 400 _ rfl w.heap.size rfl 400 (av V9) (0,0) _ hM underlying400 rfl (K8 _) ?_)|(refine wpList_store_row rfl 400 _ _ rfl (w.heap.size+1) (av V9) rfl rfl 400 (av ⟨0,0,0,0,0,0,0,0⟩) hR7 (K8 _) rfl (Hs _) ?_))
     refine bodyPost_ret (v:=.agg _) (results_cell_row rfl _ _ (w.heap.size+1) 400 _ (0,0) _ (by simp [Act.put]) gR underlying400 rfl (K8 _)) rfl ⟨rfl,?_⟩;exact ir Sj (by omega) _
theorem QD (v:V8) (hv:v.ok) (l:List UInt8) (hl:l.length=128) (w:World):
  Calls prog 317 #[.agg (av v),.string (bs l)] w (dJ w (.agg (av (Ei v l)))):=Iw v hv l hl _ (dH rfl) w
end Pt
end Go.Proofs.YtgdaahffmcfhpaaGreatDoor
