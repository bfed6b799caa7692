/- Lemmas on the way: PShE PShF. -/
import Derived.Great.BuildSlice
import Derived.Test.YtgdaahffmcfhpaaGreatDoorO18
set_option maxRecDepth 100000
set_option maxHeartbeats 8000000
namespace Go.Proofs.YtgdaahffmcfhpaaGreatDoor
open aA
open Tryz
namespace Pt
open Go.RowKit
def Nf:List Int:=qO.map Int.ofNat
theorem Db:(Nf.map (Value.int .u64)).toArray=cellsN 80 qO:=by kernel_rfl
theorem Dc (w:World):
  Calls prog 361 #[] w λe w'=>∃g,e=.returned (.pointer (some ⟨g,0,none⟩))/\Blk w' g 446 (cellsN 80 qO)/\w.heap.size<=g/\Below w w w':=by
 have hb:∀A,A=cellsN 80 qO->Blk (w.alloc (.cells A 446)) w 446 (cellsN 80 qO):=λA h=>h ▸ Blk.new w 446 _
 go_enter func361,ntmps361;go_wp2_with (refine wpList_buildFlatArrTo rfl 446 332 80 _ rfl .u64 Nf (some 1) rfl underlying446 (by kernel_rfl) (by kernel_rfl) (by kernel_rfl) ?_)
 go_ret;exact ⟨_,rfl,hb _ Db,aB _,(aC _ w).alloc (aB _) _⟩
end Pt
namespace Pt
open Go.RowKit
attribute [local go_sem] dR dO dS dP
def av (v:V8):Array Value:=#[.int .u64 (v.a:Int),.int .u64 (v.b:Int),.int .u64 (v.c:Int),.int .u64 (v.d:Int),.int .u64 (v.e:Int),.int .u64 (v.f:Int),.int .u64 (v.g:Int),.int .u64 (v.h:Int)]
theorem SB (v:V8):av v=cellsN 8 v.list:=rfl
theorem rq (v:V8):(av v).size=8:=rfl
variable {w a wq:World} {g p n:Nat}
theorem tH (h:a.grownBy w (some g)) (hp:p=g\/a.heap.size<=p) (cs:Array Value):a.grownBy (w.setRow p cs) (some g):=
 ⟨h.os,h.tape,h.output,by simpa using h.size,λi hi hne=>(setRow_other w p i cs (by
  rintro rfl;rcases hp with hp|hp
  ·exact hne (by rw [hp])
  ·omega)).trans (h.block i hi hne)⟩
variable {t:TypeId} {cs old:Array Value}
theorem _root_.Go.Proofs.YtgdaahffmcfhpaaGreatDoor.Blk.setRow (h:Blk w g t old) (cs:Array Value):Blk (w.setRow g cs) g t cs:=setRow_heap w g old cs t (0,0) h
theorem _root_.Go.Proofs.YtgdaahffmcfhpaaGreatDoor.Blk.setRow_far (h:Blk w g t cs) (hp:g≠p) (xs:Array Value):Blk (w.setRow p xs) g t cs:=(setRow_other w p g xs hp).trans h
theorem _root_.Go.Proofs.YtgdaahffmcfhpaaGreatDoor.Blk.at_ (h:Blk w g t cs) (i:Nat) {v:Value} (hv:cs[i]? =some v):w.cell? (Qc g i)=some v:=(Blk.cell h i).trans hv
theorem SD (a:Nat) (h:qN a):bits .xor .u64 18446744073709551615 (a:Int)=((NV a:Nat):Int):=u64_xor_nat 18446744073709551615 a (by decide) h
theorem Dd {a:Nat} (h:qN a):qN (NV a):=mg (show qN 18446744073709551615 by unfold qN;decide) h
theorem SE (v:V8) (k w:Nat) (h:v.ok):
  IntKind.u64.wrap (IntKind.u64.wrap (IntKind.u64.wrap (IntKind.u64.wrap ((v.h:Int)+bits .xor .u64 (bits .xor .u64 (tr v.e 14:Nat) (tr v.e 18:Nat)) (tr v.e 41:Nat))+bits .xor .u64 (bits .and .u64 (v.e:Int) (v.f:Int)) (bits .and .u64 (bits .xor .u64 18446744073709551615 (v.e:Int)) (v.g:Int)))+(k:Int))+(w:Int))
   =((xx v k w:Nat):Int):=by
 obtain ⟨ha,hb,hc,hd,he,hf,hg,hh⟩:=h;rw [SD _ he,u64_and_nat _ _ he hf,u64_and_nat _ _ (Dd he) hg,u64_xor_nat _ _ (lF he) (lF (Dd he)),u64_xor_nat _ _ (jc he) (jc he),u64_xor_nat _ _ (mg (jc he) (jc he)) (jc he)];rw [iI,iI,iI,iI];rfl
theorem SF (v:V8) (h:v.ok):
  IntKind.u64.wrap (bits .xor .u64 (bits .xor .u64 (tr v.a 28:Nat) (tr v.a 34:Nat)) (tr v.a 39:Nat)+bits .xor .u64 (bits .xor .u64 (bits .and .u64 (v.a:Int) (v.b:Int)) (bits .and .u64 (v.a:Int) (v.c:Int))) (bits .and .u64 (v.b:Int) (v.c:Int)))
   =((yy v:Nat):Int):=by
 obtain ⟨ha,hb,hc,hd,he,hf,hg,hh⟩:=h;rw [u64_and_nat _ _ ha hb,u64_and_nat _ _ ha hc,u64_and_nat _ _ hb hc,u64_xor_nat _ _ (lF ha) (lF ha),u64_xor_nat _ _ (mg (lF ha) (lF ha)) (lF hb),u64_xor_nat _ _ (jc ha) (jc ha),u64_xor_nat _ _ (mg (jc ha) (jc ha)) (jc ha)];rw [iI];rfl
theorem KJ (v:V8) (k w:Nat):#[Value.int .u64 (IntKind.u64.wrap ((xx v k w:Nat)+(yy v:Nat))),.int .u64 (v.a:Int),.int .u64 (v.b:Int),.int .u64 (v.c:Int),.int .u64 (IntKind.u64.wrap ((v.d:Int)+(xx v k w:Nat))),.int .u64 (v.e:Int),.int .u64 (v.f:Int),.int .u64 (v.g:Int)]=av (rnd v k w):=by
 rw [iI,iI];rfl
theorem KK {r:Option Nat} (h:a.grownBy w r) (hq:w.drewN n=wq):a.grownBy wq r:=by subst hq;exact mT h n
theorem _root_.Go.Proofs.YtgdaahffmcfhpaaGreatDoor.Blk.dr (h:Blk w g t cs) (hq:w.drewN n=wq):Blk wq g t cs:=by subst hq;exact h.drewN n
def Bd (v V:V8) (k:Nat):Array Value:=Array.ofFn (n:=8) λi=>Value.int .u64 (((if (i:Nat) < k then fW (v.list.getD i 0) (V.list.getD i 0) else v.list.getD i 0:Nat)):Int)
theorem vk (v V:V8) (k i:Nat) (h:i < 8):(Bd v V k)[i]? =some (.int .u64 (((if i < k then fW (v.list.getD i 0) (V.list.getD i 0) else v.list.getD i 0:Nat)):Int)):=by simp [Bd,h]
theorem tI (v V:V8) (k:Nat):(Bd v V k).size=8:=by simp [Bd]
theorem KL (v V:V8):Bd v V 0=av v:=by kernel_rfl
theorem GA (v V:V8):Bd v V 8=av (S6 v V):=by kernel_rfl
theorem Ng (v V:V8) (k:Nat) (h:k < 8):(Bd v V k).setIfInBounds k (.int .u64 ((fW (v.list.getD k 0) (V.list.getD k 0):Nat):Int))=Bd v V (k+1):=by
 apply cQ;intro j;rw [dD];by_cases e:k=j
 ·subst e
  rw [if_pos rfl,if_pos (by rw [tI];exact h),vk _ _ _ _ h,if_pos (by omega)]
 ·rw [if_neg e]
  rcases aD j 8 with hj|hj
  ·rw [vk _ _ _ _ hj,vk _ _ _ _ hj]
   simp only [show (j < k)↔(j < k+1) from by omega]
  ·rw [ax (by rw [tI];exact hj),ax (by rw [tI];exact hj)]
theorem Nh{P:Program} {ops:Array Oper} {rest:List Oper} {o:Oper} {a:Act} {Q:Exit->Act->World->Prop} (hgd:o.guard=none) (ty:TypeId) (x y:Operand) (ho:o.op=.store ty x y)
  (g:Nat) (x0 x1 x2 x3 x4 x5 x6 x7:Int) (hx:a.eval x=.pointer (some g)) (hy:a.eval y=.agg #[.int .u64 x0,.int .u64 x1,.int .u64 x2,.int .u64 x3,.int .u64 x4,.int .u64 x5,.int .u64 x6,.int .u64 x7])
  (t:TypeId) (old:Array Value) (hg:w.heap[g]? =some (.cells old t (0,0))) (hi:(P.info? ty).map (·.size)=some 8) (hold:old.size=8)
  (h:wpList P ops Q rest (a.put o.dst undef) (w.setRow g #[.int .u64 x0,.int .u64 x1,.int .u64 x2,.int .u64 x3,.int .u64 x4,.int .u64 x5,.int .u64 x6,.int .u64 x7])):wpList P ops Q (o :: rest) a w:=
 wpList_store_row hgd ty x y ho g _ hx hy t old hg hi hold (by simp [Value.oneCell']) h
theorem KM (v:V8) (hv:v.ok) (l:List UInt8) (hl:l.length=128) (V9:V8) (H9:dK (S6 v (rounds (eD l 80) v 80)=V9)) (w:World):
  Calls prog 317 #[.agg (av v),.string (bs l)] w (dM w (.agg (av V9))):=by
 have hsz:∀l,(prog.info? 446).map (·.size)=some (cellsN 80 l).size:=λl=>by rw [iH];kernel_rfl
 have hone:∀l,(cellsN 80 l).all (·.oneCell')=true:=λl=>by
  rw [Array.all_eq_true];intro i hi;simp [cellsN,Value.oneCell']
 have Lv:∀v,(prog.info? 400).map (·.size)=some (av v).size:=λv=>by rw [rq];kernel_rfl
 have JY:∀v,(av v).all (·.oneCell')=true:=λv=>by simp [av,Value.oneCell']
 obtain ⟨zs,hzs,hz⟩:∃zs,zs=cellsN 80 []/\∀w,(zeroValue 446).run prog w=.ok (.agg zs) w:=⟨_,rfl,λw=>by kernel_rfl⟩;obtain ⟨W1,je⟩:=dG (((w.alloc (.cells (av v) 400)).alloc (.cells (av ⟨0,0,0,0,0,0,0,0⟩) 400)));have Th:Blk W1 w.heap.size 400 (av v):=by rw [je];exact (Blk.new w 400 _).alloc _
 have oB:Blk W1 (w.heap.size+1) 400 (av ⟨0,0,0,0,0,0,0,0⟩):=by
  rw [je];have:=Blk.new (w.alloc (.cells (av v) 400)) 400 (av ⟨0,0,0,0,0,0,0,0⟩);simpa using this
 have gH:Below w.heap.size w W1:=by rw [je];exact ((aC _ w).alloc (aB _) _).alloc (by simp) _
 have vR:W1.heap.size=w.heap.size+2:=by rw [je];simp
 have yT:=dL (show W1=((w.alloc (.cells (av v) 400)).alloc (.cells #[.int .u64 0,.int .u64 0,.int .u64 0,.int .u64 0,.int .u64 0,.int .u64 0,.int .u64 0,.int .u64 0] 400)) from je);have QL:=dL Th;have CV:=dL oB;have eR:=dL gH;have rJ:=dL vR;have Z7:=dL hzs;clear je Th oB gH vR hzs;go_enter func317,ntmps317;go_wp2_with fail;rw [<-yT.o];refine (Dc _).mono ?_;rintro e w2 ⟨gK,rfl,hK,hgK,dY⟩;have HK:=dL hK;have HGK:=dL hgK;have eA:=dL dY;clear hK hgK dY;go_wp2_with fail;refine (SA l hl _).mono ?_;rintro e w3 ⟨rfl,dn⟩;have eC:=dL dn;clear dn;have abB:zs.size=(cellsN 80 (eD l 80)).size:=by rw [Z7.o,iH,iH]
 have hN:Blk (w3.alloc (.cells zs 446)) w3 446 zs:=Blk.new _ _ _;have s2:=eA.o.size;have s3:=eC.o.size;have s1:=rJ.o;have sK:=HGK.o;have lK:=HK.o.lt;have hA4:Blk ((w3.alloc (.cells zs 446)).setRow w3 (cellsN 80 (eD l 80))) w.heap.size 400 (av v):=
  Blk.setRow_far (((QL.o.below eA.o (by omega)).below eC.o (by omega)).alloc _) (by omega) _
 have ZE:Blk (((w3.alloc (.cells zs 446)).setRow w3 (cellsN 80 (eD l 80))).alloc (.cells (av ⟨0,0,0,0,0,0,0,0⟩) 400)) (w3.heap.size+1) 400 (av ⟨0,0,0,0,0,0,0,0⟩):=by
  have:=Blk.new ((w3.alloc (.cells zs 446)).setRow w3 (cellsN 80 (eD l 80))) 400 (av ⟨0,0,0,0,0,0,0,0⟩);simpa using this
 go_wp2_with (first|(refine wpList_store_row rfl 446 _ _ rfl w3.heap.size (cellsN 80 (eD l 80)) rfl rfl 446 zs hN (hsz _) abB (hone _) ?_)|(refine wpList_load_row rfl 400 _ rfl w.heap.size rfl 400 (av v) (0,0) _ hA4 underlying400 rfl (Lv _) ?_)|(refine wpList_store_row rfl 400 _ _ rfl (w3.heap.size+1) (av v) rfl rfl 400 (av ⟨0,0,0,0,0,0,0,0⟩) ZE (Lv _) rfl (JY _) ?_))
 obtain ⟨W5,Vn⟩:=dG (((((w3.alloc (.cells zs 446)).setRow w3 (cellsN 80 (eD l 80))).alloc (.cells (av ⟨0,0,0,0,0,0,0,0⟩) 400)).setRow (w3.heap.size+1) (av v)));have hA5:Blk W5 w.heap.size 400 (av v):=by rw [Vn];exact (hA4.alloc _).setRow_far (by omega) _
 have hR5:Blk W5 (w.heap.size+1) 400 (av ⟨0,0,0,0,0,0,0,0⟩):=by
  rw [Vn];exact ((((((CV.o.below eA.o (by omega)).below eC.o (by omega)).alloc _).setRow_far (by omega) _).alloc _).setRow_far (by omega) _)
 have hK5:Blk W5 gK 446 (cellsN 80 qO):=by
  rw [Vn];exact ((((HK.o.below eC.o (by omega)).alloc _).setRow_far (by omega) _).alloc _).setRow_far (by omega) _
 have iB:Blk W5 w3 446 (cellsN 80 (eD l 80)):=by
  rw [Vn];exact ((hN.setRow _).alloc _).setRow_far (by omega) _
 have hV5:Blk W5 (w3.heap.size+1) 400 (av v):=by rw [Vn];exact ZE.setRow _
 have ef:Below w.heap.size w W5:=by
  rw [Vn];have b3:Below w.heap.size w w3:=(eR.o.trans (eA.o.mono (by omega))).trans (eC.o.mono (by omega));exact jP ((jP (b3.alloc (by omega) _) (by omega) _).alloc (by simp;omega) _) (by omega) _
 have zX:=dL (show W5=((((w3.alloc (.cells zs 446)).setRow w3 (cellsN 80 (eD l 80))).alloc (.cells #[.int .u64 0,.int .u64 0,.int .u64 0,.int .u64 0,.int .u64 0,.int .u64 0,.int .u64 0,.int .u64 0] 400)).setRow (w3.heap.size+1) (av v)) from Vn);rw [<-zX.o];obtain ⟨gW,hgW⟩:=dG w3.heap.size;rw [<-hgW] at iB hV5 s3 ⊢;have XR:=dL hR5;have HA5:=dL hA5;have JZ:=dL hK5;have HWd:=dL iB;have HV5:=dL hV5;have fk:=dL ef;have hd:w.heap.size+2<=gK/\gK < gW:=by omega
 have HD:=dL hd;clear Vn zX hA5 hR5 hK5 iB hV5 ef hA4 ZE hN abB s1 s2 s3 sK lK eC hgW HK HGK eA QL CV eR rJ Z7 hz yT hd;go_loopw [18] (λi wr=>∃k:Nat,k<=80/\i=.int .i64 k/\Blk wr (gW+1) 400 (av (rounds (eD l 80) v k))/\W5.grownBy wr (some (gW+1))) (λi _=>80 - (intOf i).toNat)
 case atStart=>exact ⟨0,by omega,rfl,HV5.o,dz _ _⟩
 case round=>
  obtain ⟨k,hk,rfl,hV,hg⟩:=hrel;rcases aD k 80 with hlt|hge
  ·have hok:=AD (eD l 80) hv k
   have FU:rnd (rounds (eD l 80) v k) (qO.getD k 0) ((eD l 80).getD k 0)=rounds (eD l 80) v (k+1):=rfl;have hwl:=AO l 80 k;have hkk:wr.cell? (Qc gK k)=some (.int .u64 ((qO.getD k 0:Nat):Int)):=(Blk.grown JZ.o hg (by simp;have:=HD.o;omega)).at_ k (iQ _ _ _ hlt);have hww:wr.cell? (Qc gW k)=some (.int .u64 (((eD l 80).getD k 0:Nat):Int)):=(Blk.grown HWd.o hg (by simp)).at_ k (iQ _ _ _ hlt);generalize FH:rounds (eD l 80) v (k+1)=V2 at*;have nB:=dL FH;clear FH;generalize rounds (eD l 80) v k=V at*;generalize (eD l 80).getD k 0=X at*;generalize qO.getD k 0=Y at*;have c0:wr.cell? ⟨gW+1,0,none⟩=some (.int .u64 (V.a:Int)):=hV.at_ 0 rfl;have c1:wr.cell? ⟨gW+1,1,none⟩=some (.int .u64 (V.b:Int)):=hV.at_ 1 rfl;have c2:wr.cell? ⟨gW+1,2,none⟩=some (.int .u64 (V.c:Int)):=hV.at_ 2 rfl;have c3:wr.cell? ⟨gW+1,3,none⟩=some (.int .u64 (V.d:Int)):=hV.at_ 3 rfl;have c4:wr.cell? ⟨gW+1,4,none⟩=some (.int .u64 (V.e:Int)):=hV.at_ 4 rfl;have c5:wr.cell? ⟨gW+1,5,none⟩=some (.int .u64 (V.f:Int)):=hV.at_ 5 rfl;have c6:wr.cell? ⟨gW+1,6,none⟩=some (.int .u64 (V.g:Int)):=hV.at_ 6 rfl;have c7:wr.cell? ⟨gW+1,7,none⟩=some (.int .u64 (V.h:Int)):=hV.at_ 7 rfl;have hSg:IntKind.u64.signed=false:=rfl;have hM:IntKind.u64.max=18446744073709551615:=rfl;have HV:=dL hV;have HG:=dL hg;have HX:=dL FU;have HO:=dL hok;clear hV hg FU hok;go_wp2_with fail;go_quiet (fail)
   rename Nat=>n1
   go_wp2_with fail;go_quiet (first|(go_at_call 363;refine (G9 _ _ HO.o.2.2.2.2.1 (by decide) (by decide) _).mono ?_;rintro e w'' ⟨rfl,rfl⟩;exact ⟨rfl,_,rfl⟩))
   rename Nat=>n2
   go_wp2_with fail;go_quiet (first|(go_at_call 363;refine (G9 _ _ HO.o.1 (by decide) (by decide) _).mono ?_;rintro e w'' ⟨rfl,rfl⟩;exact ⟨rfl,_,rfl⟩))
   rw [SE V Y X HO.o,SF V HO.o]
   rename Nat=>n3
   obtain ⟨wq,hq⟩:∃wq,((wr.drewN n1).drewN n2).drewN n3=wq:=⟨_,rfl⟩;have vS:Blk wq (gW+1) 400 (av V):=((HV.o.drewN _).drewN _).dr hq;have hGq:W5.grownBy wq (some (gW+1)):=KK (mT (mT HG.o _) _) hq;rw [hq];have gw:∀A,A=av V2->Blk (wq.setRow (gW+1) A) (gW+1) 400 (av V2):=λA h=>h ▸ vS.setRow A
   have HS:=dL gw;have HGQ:=dL hGq
   replace c0:wq.cell? ⟨gW+1,0,none⟩=some (.int .u64 (V.a:Int)):=vS.at_ 0 rfl
   replace c1:wq.cell? ⟨gW+1,1,none⟩=some (.int .u64 (V.b:Int)):=vS.at_ 1 rfl
   replace c2:wq.cell? ⟨gW+1,2,none⟩=some (.int .u64 (V.c:Int)):=vS.at_ 2 rfl
   replace c3:wq.cell? ⟨gW+1,3,none⟩=some (.int .u64 (V.d:Int)):=vS.at_ 3 rfl
   replace c4:wq.cell? ⟨gW+1,4,none⟩=some (.int .u64 (V.e:Int)):=vS.at_ 4 rfl
   replace c5:wq.cell? ⟨gW+1,5,none⟩=some (.int .u64 (V.f:Int)):=vS.at_ 5 rfl
   replace c6:wq.cell? ⟨gW+1,6,none⟩=some (.int .u64 (V.g:Int)):=vS.at_ 6 rfl
   clear hq gw hGq hww hkk hwl hM hSg c7;have h26:(prog.info? 400).map (·.size)=some 8:=by kernel_rfl
   go_wp2_with (refine Nh rfl 400 _ _ rfl (gW+1) _ _ _ _ _ _ _ _ rfl rfl 400 (av V) vS h26 rfl ?_)
   refine ⟨⟨k+1,by omega,by go_num,?_,?_⟩,by simp [intOf];omega⟩
   ·rw [nB.o];exact HS.o _ ((KJ V Y X).trans (congrArg av HX.o))
   ·exact tH HGQ.o (Or.inl rfl) _
  ·obtain rfl:k=80:=by omega
   have hA6:Blk wr w.heap.size 400 (av v):=HA5.o.grown hg (by simp;have:=HD.o;omega);have hR6:Blk wr (w.heap.size+1) 400 (av ⟨0,0,0,0,0,0,0,0⟩):=XR.o.grown hg (by simp;have:=HD.o;omega);have jr:Below w.heap.size w wr:=eY fk.o hg (by have:=HD.o;omega) fk.o.size;have dy:=H9.o;clear H9;have hdd:gW+1≠w.heap.size:=by have:=HD.o;omega
   have hls:w.heap.size+1 < wr.heap.size:=hR6.lt;obtain ⟨w6,uF⟩:=dG wr;rw [<-uF] at hV hA6 hR6 jr hls ⊢;clear uF;rw [show ((80:Nat):Int)=(80:Int) from rfl];generalize rounds (eD l 80) v 80=V at*;have HF:=dL dy;have HV:=dL hV;have HA6:=dL hA6;have RH:=dL hR6;have jt:=dL jr;clear hV hg hA6 hR6 jr dy;go_wp2_with fail;go_loopw [102] (λi ws=>∃k:Nat,k<=8/\i=.int .i64 k/\Blk ws w.heap.size 400 (Bd v V k)/\w6.grownBy ws (some w.heap.size)) (λi _=>8 - (intOf i).toNat)
   case atStart=>exact ⟨0,by omega,rfl,by rw [KL];exact HA6.o,dz _ _⟩
   case round=>
    obtain ⟨k,hk,rfl,hM,hg⟩:=hrel;rcases aD k 8 with hlt|hge
    ·have c0:=hM.at_ k (vk v V k k hlt)
     rw [if_neg (Nat.lt_irrefl k)] at c0;have c1:wr.cell? ⟨gW+1,k,none⟩=some (.int .u64 ((V.list.getD k 0:Nat):Int)):=(HV.o.grown hg (by simp;omega)).at_ k (by rw [SB];exact iQ 8 _ _ hlt);have hfr:=hM.frozen k;have hST:=hM.set_ k (.int .u64 ((fW (v.list.getD k 0) (V.list.getD k 0):Nat):Int));rw [Ng v V k hlt] at hST;have hGS:w6.grownBy (wr.setCell ⟨w.heap.size,k,none⟩ (.int .u64 ((fW (v.list.getD k 0) (V.list.getD k 0):Nat):Int))) (some w.heap.size):=dh hg (Or.inl rfl) _;have hac:=iI (v.list.getD k 0) (V.list.getD k 0);generalize v.list.getD k 0=A at*;generalize V.list.getD k 0=B at*;have r8:=dL hST;have HGS:=dL hGS;have HAC:=dL hac;have VC:(k:Int) < 8:=by omega
     clear hST hGS hac hM hg;go_wp2_with fail;refine oq 8 (by kernel_rfl) (by kernel_rfl) ?_;simp only [dA,List.take_zero,List.drop_succ_cons,bz];repeat still_step
     refine wpStill_nil ?_;rw [HAC.o];go_wp2_with fail;refine ⟨⟨k+1,by omega,by go_num,?_,?_⟩,by simp [intOf];omega⟩
     ·exact r8.o.drew
     ·exact kQ HGS.o
    ·obtain rfl:k=8:=by omega
     rw [GA,HF.o] at hM;have hR7:Blk wr (w.heap.size+1) 400 (av ⟨0,0,0,0,0,0,0,0⟩):=RH.o.grown hg (by simp);have VM:Below w.heap.size w wr:=eY jt.o hg (aB _) (by omega);have gw:=hR7.setRow (av V9);go_wp2_with (first|(refine wpList_load_row rfl 400 _ rfl w.heap.size rfl 400 (av V9) (0,0) _ hM underlying400 rfl (Lv _) ?_)|(refine wpList_store_row rfl 400 _ _ rfl (w.heap.size+1) (av V9) rfl rfl 400 (av ⟨0,0,0,0,0,0,0,0⟩) hR7 (Lv _) rfl (JY _) ?_))
     refine bodyPost_ret (v:=.agg _) (results_cell_row rfl _ _ (w.heap.size+1) 400 _ (0,0) _ (by simp [Act.put]) gw underlying400 rfl (Lv _)) rfl ⟨rfl,?_⟩;exact jP VM (by omega) _
theorem SG (v:V8) (hv:v.ok) (l:List UInt8) (hl:l.length=128) (w:World):
  Calls prog 317 #[.agg (av v),l] w (dM w (.agg (av (Fy v l)))):=KM v hv l hl _ (dL rfl) w
end Pt
end Go.Proofs.YtgdaahffmcfhpaaGreatDoor
