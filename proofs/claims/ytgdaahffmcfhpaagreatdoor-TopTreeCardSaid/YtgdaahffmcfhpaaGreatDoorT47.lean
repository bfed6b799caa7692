/- Lemmas on the way: ZB ZC ZC2 ZC3 ZK ZL ZL2 ZM. -/
import Derived.Test.YtgdaahffmcfhpaaGreatDoorT14
import Derived.Test.YtgdaahffmcfhpaaGreatDoorT00
set_option linter.unusedVariables false
set_option maxRecDepth 100000
set_option maxHeartbeats 8000000
namespace Go.Proofs.YtgdaahffmcfhpaaGreatDoor
open Tryz
namespace Nt
open Go.RowKit
attribute [local go_sem] dO dL dQ dM
theorem zy:(prog.info? 146).map (fun i=>(i.zero,i.size,i.bytes))=some (some (.agg #[.int .i64 0,.int .i64 0,.string ⟨#[]⟩]),3,32):=by kernel_rfl
theorem new_ok (d:Int) (h1:1<=d) (h2:d<=15) (w:World):
  Calls prog 65 #[.int .i64 d] w fun e w'=>∃gN,e=.returned (.tuple #[.pointer (some ⟨gN,0,none⟩),.int .i64 0])/\NetI w' gN d 0 (.slice none 0 0) []/\Below w.heap.size w w'/\w.heap.size<=gN:=by
 have tX:decide (d < 1)=false:=decide_eq_false (by omega);have hd2:decide (d > 15)=false:=decide_eq_false (by omega);go_enter func65,ntmps65;go_wp2_with fail;refine bodyPost_ret (v:=.tuple #[.pointer (some ⟨w.heap.size,0,none⟩),.int .i64 0]) (by simp [results,results65,go_sem]) rfl ?_;refine ⟨_,rfl,⟨Blk.new _ _ _,⟨by simp [pcs],.inl ⟨rfl,rfl⟩⟩,by simp [Value.ownBlock]⟩,(aC _ w).alloc (aB _) _,aB _⟩
theorem kL (gN:Nat) (d k:Int) (w:World) (hc:w.cell? ⟨gN,0,none⟩=some (.int .i64 d)) (r:Bool) (hr:decide (0<=k/\k < d)=r):
  Calls prog 121 #[.pointer (some ⟨gN,0,none⟩),.int .i64 k] w fun e w'=>e=.returned (.bool r)/\w=w':=by
 subst hr;by_cases h:0<=k
 ·have h1:decide (k≥0)=true:=decide_eq_true h
  have h2:decide (0<=k/\k < d)=decide (k < d):=by simp [h]
  rw [h2];clear h2;go_enter func121,ntmps121;go_wp2_with fail;go_ret;exact ⟨rfl,rfl⟩
 ·have h1:decide (k≥0)=false:=decide_eq_false h
  have h2:decide (0<=k/\k < d)=false:=by simp [h]
  rw [h2];clear h2;go_enter func121,ntmps121;go_wp2_with fail;go_ret;exact ⟨rfl,rfl⟩
theorem UU (gN:Nat) (s:Int) (h0:0<=s) (h1:s<=1000000) (w:World) (hc:w.cell? ⟨gN,2,none⟩=some (.int .i64 s)) (hz:w.frozen? ⟨gN,2,none⟩=false):
  Calls prog 123 #[.pointer (some ⟨gN,2,none⟩),.int .i64 1] w fun e w'=>e=.returned (.int .i64 (s+1))/\w'=w.setCell ⟨gN,2,none⟩ (.int .i64 (s+1)):=by
 have aad:(Op.intArith .add .i64 s 1).run prog w=.ok (.int .i64 (s+1)) w:=by
  have e:IntKind.i64.wrap (s+1)=s+1:=by simp [IntKind.wrap,show IntKind.i64.bits=64 from rfl,show IntKind.i64.signed=true from rfl];omega
  simp [go_sem,e]
 have lF:=run_call_add (P:=prog) func189 (by kernel_rfl) (by kernel_rfl) (by kernel_rfl) .i64 (by kernel_rfl) (y:=1) (s:=s+1) hc hz aad;go_enter func123,ntmps123;go_wp2_with fail;go_ret;exact ⟨rfl,rfl⟩
theorem len_is (gN:Nat) (d s:Int) (v:Value) (ps:List Pk) (w:World) (hN:NetI w gN d s v ps):
  Calls prog 136 #[.pointer (some ⟨gN,0,none⟩)] w fun e w'=>e=.returned (.int .i64 ps.length)/\w=w':=by
 have hc:=hN.c1;obtain ⟨A,c,rfl⟩:=hN.slice;go_enter func136,ntmps136;go_wp2_with fail;go_ret;exact ⟨rfl,rfl⟩
theorem NW (gN:Nat) (d s:Int) (v:Value) (ps:List Pk) (x:Pk) (w:World) (hN:NetI w gN d s v ps) (hf:500<=ps.length) (hm:ps.length<=1000000):
  Calls prog 122 #[.pointer (some ⟨gN,0,none⟩),pv x] w (dJ w (.int .i64 41)):=by
 have hc:=hN.c1;have hl:=hN.lt;obtain ⟨A,c,rfl⟩:=hN.slice;have hd:decide ((ps.length:Int)≥500)=true:=decide_eq_true (by omega);unfold pv;go_enter func122,ntmps122;go_wp2_with fail;go_ret;exact ⟨rfl,(aC _ w).alloc (aB _) _⟩
theorem cell?_alloc_old {w:World} {g i:Nat} {u:Value} (h:w.cell? ⟨g,i,none⟩=some u) (o:Obj):(w.alloc o).cell? ⟨g,i,none⟩=some u:=by
 rw [World.cell?_alloc_past _ _ _ (dn h)];exact h
theorem Js {w:World} {g i:Nat} (h:w.frozen? ⟨g,i,none⟩=false) (hg:g < w.heap.size) (o:Obj):(w.alloc o).frozen? ⟨g,i,none⟩=false:=by
 rw [World.frozen?_alloc_past _ _ _ hg];exact h
theorem AA (gN:Nat) (d s:Int) (v:Value) (ps:List Pk) (x:Pk) (w:World) (hN:NetI w gN d s v ps) (hf:ps.length < 500):
  Calls prog 122 #[.pointer (some ⟨gN,0,none⟩),pv x] w fun e w'=>∃v',e=.returned (.int .i64 0)/\NetI w' gN d s v' (ps++[x])/\dY (NS gN v) w w'/\(v'.ownBlock=v.ownBlock\/∃g,v'.ownBlock=some g/\w.heap.size<=g):=by
 obtain ⟨i0,jd,hz0,hz1,hz2⟩:=info_parts zy;have hc:=hN.c1;have hl:=hN.lt;have Rq:=hN.far;have W8:=hN.blk.frozen 1;obtain ⟨A,c,hv⟩:=hN.slice;have hd:decide ((ps.length:Int)≥500)=false:=decide_eq_false (by omega);obtain ⟨w1,hw1⟩:=dB (w.alloc (.cells #[.int .i64 x.f,.int .i64 x.t,.string (bs x.d)] 146));have hB:Blk w1 w.heap.size 146 #[.int .i64 x.f,.int .i64 x.t,.string (bs x.d)]:=by rw [hw1];exact Blk.new _ _ _
 have hN1:NetI w1 gN d s v ps:=by rw [hw1];exact hN.below ((aC _ w).alloc (aB _) _)
 have dR:Below w.heap.size w w1:=by rw [hw1];exact (aC _ w).alloc (aB _) _
 have hs1:w1.heap.size<=w.heap.size+1:=by rw [hw1];simp
 have hs2:w.heap.size+1<=w1.heap.size:=by rw [hw1];simp
 have hc1:=hN1.c1;have hown:=hN1.own;have zX:=hN1.blk.frozen 1;have e0:=hB.cell 0;have e1:=hB.cell 1;have e2:=hB.cell 2;simp only [aP,aS,aW] at e0 e1 e2;have hvB:v.ownBlock≠some w.heap.size:=fun h=>by have:=own_lt hN.own h;omega
 have hgB:gN≠w.heap.size:=by omega
 have eC:∀w2 g cap,w2.ownsRow 0 146 3 (.slice (some ⟨g,0,none⟩) (ps.length+1) cap) (ps.length+1) (pcs ps++[.int .i64 x.f,.int .i64 x.t,.string (bs x.d)])->(w1.alloc (.cells #[.int .i64 x.f,.int .i64 x.t,.string (bs x.d)] 146)).drew.grownBy w2 v.ownBlock->(v.ownBlock=some g\/g=w1.heap.size+1)->
   ∃v',Ending.returned (.int .i64 0)=.returned (.int .i64 0)/\NetI (w2.setCell ⟨gN,1,none⟩ (.slice (some ⟨g,0,none⟩) (ps.length+1) cap)) gN d s v' (ps++[x])/\dY (NS gN v) w (w2.setCell ⟨gN,1,none⟩ (.slice (some ⟨g,0,none⟩) (ps.length+1) cap))/\(v'.ownBlock=v.ownBlock\/∃g,v'.ownBlock=some g/\w.heap.size<=g):=by
  intro w2 g cap ho hg gE;have hk1:dY (NS gN v) w w2:=eB (eR ((dR.alloc (by omega) _).drew)) (ep (S:=NS gN v) hg (fun i h=>Or.inr h)) (fun _ _ h=>h);have hk2:=de hk1 ⟨gN,1,none⟩ (.slice (some ⟨g,0,none⟩) (ps.length+1) cap) (fun _=>Or.inl rfl);have hgg:g≠gN:=by
   rcases gE with h|h
   ·rintro rfl;exact Rq h
   ·omega
  have hblk:Blk w2 gN 190 #[.int .i64 d,v,.int .i64 s]:=Blk.grown (Blk.drew (Blk.alloc hN1.blk _)) hg (fun h=>Rq h.symm);have gR:=Blk.set_ hblk 1 (.slice (some ⟨g,0,none⟩) (ps.length+1) cap);refine ⟨_,rfl,⟨gR,?_,by simpa [Value.ownBlock] using hgg⟩,hk2,?_⟩
  ·have:=rq (w':=w2.setCell ⟨gN,1,none⟩ (.slice (some ⟨g,0,none⟩) (ps.length+1) cap)) ho (de (eX (fun i=>i=gN) w2) _ _ (fun _=>rfl)) (fun g' h=>by simp [Value.ownBlock] at h;omega)
   rw [mo,show pcs [x]=[.int .i64 x.f,.int .i64 x.t,.string (bs x.d)] from by simp [pcs,pc]];simpa using this
  ·rcases gE with h|h
   ·left;rw [h];rfl
   ·right;exact ⟨g,rfl,by omega⟩
 have HF:=dH eC;have HW:=dH hw1;have HV:=dH hv;rw [hv] at hc hc1;clear hN hN1 eC hv dR hB hw1;unfold pv;go_enter func122,ntmps122;go_wp2_with fail;rw [<-HW.o];have ha1:=cell?_alloc_old hc1 (.cells #[.int .i64 x.f,.int .i64 x.t,.string (bs x.d)] 146);go_region_law (refine step_append_lies _ (by rfl) _ _ _ (by rfl) 0 146 i0 _ 3 32 underlying183 jd hz0 hz1 hz2 rfl (by omega) v ps.length (pcs ps) (by first|rfl|exact HV.o.symm) ((hown.alloc _).drew) ⟨w1.heap.size,0,none⟩ 1 1 [.int .i64 x.f,.int .i64 x.t,.string (bs x.d)] (by rfl) (by rfl) (World.news_of_block (cs:=#[.int .i64 x.f,.int .i64 x.t,.string (bs x.d)]) (t:=146) (fr:=(0,0)) (heap_alloc_new w1 _)) (by simp [Value.oneCell']) (by omega) (by simp [maxLen];omega) (by omega) (by omega) (w1.heap.size+1) (by simp) ?_;intro gg cap w2 aaA hgrow gE hlt;have hc2:w2.cell? ⟨gN,1,none⟩=some (.slice A ps.length c):=(by rw [hgrow.cell_far _ (by simp;omega) (Ne.symm Rq)];exact cell?_alloc_old hc1 _);have hz2:w2.frozen? ⟨gN,1,none⟩=false:=(by rw [hgrow.frozen_far _ (by simp;omega) (Ne.symm Rq)];exact Js zX (by omega) _))
 all_goals (go_wp2_with fail;go_ret;obtain ⟨v',_,h⟩:=HF.o _ _ _ aaA hgrow gE;exact ⟨v',rfl,h⟩)
theorem send_rest (gN:Nat) (d s:Int) (v:Value) (ps:List Pk) (x:Pk) (w:World) (hN:NetI w gN d s v ps) (hf:0<=x.f/\x.f < d) (ht:0<=x.t/\x.t < d) (hne:x.f≠x.t)
  (hs0:0<=s) (hs1:s<=1000000) (hm:ps.length<=1000000) (hx:x.d.length<=9223372036854775807):
  Calls prog 76 #[.pointer (some ⟨gN,0,none⟩),pv x] w fun e w'=>∃v',e=.returned (.int .i64 (if x.d.length > 60000 then 40 else if 500<=ps.length then 41 else 0))/\
   NetI w' gN d (if x.d.length > 60000\/500<=ps.length then s else s+1) v' (if x.d.length > 60000\/500<=ps.length then ps else ps++[x])/\dY (NS gN v) w w'/\(v'.ownBlock=v.ownBlock\/∃g,v'.ownBlock=some g/\w.heap.size<=g):=by
 have hnot:∀(x:Bool) (w:World),(Op.unary .not (.bool x)).run prog w=.ok (.bool (!x)) w:=fun _ _=>rfl
 obtain ⟨w1,hw1⟩:=dB (w.alloc (.cells #[.int .i64 x.f,.int .i64 x.t,.string (bs x.d)] 146));have hB:Blk w1 w.heap.size 146 #[.int .i64 x.f,.int .i64 x.t,.string (bs x.d)]:=by rw [hw1];exact Blk.new _ _ _
 have dR:Below w.heap.size w w1:=by rw [hw1];exact (aC _ w).alloc (aB _) _
 have hN1:NetI w1 gN d s v ps:=hN.below dR;have hc:=hN1.c0;have e0:=hB.cell 0;have e1:=hB.cell 1;have e2:=hB.cell 2;simp only [aP,aS,aW] at e0 e1 e2;have HW:=dH hw1;have Dm:=dH hN1;have eH:=dH dR;have hq:(x.f ==x.t)=false:=by simp [hne]
 have pS:=hN.lt;clear hw1 hB hN hN1 dR hne;by_cases hl:x.d.length > 60000
 ·have hd:decide ((x.d.length:Int) > 60000)=true:=decide_eq_true (by omega)
  simp only [hl,if_true,true_or];unfold pv;go_enter func76,ntmps76;go_wp2_with fail;rw [<-HW.o];refine (kL gN d x.f _ hc true (decide_eq_true hf)).mono ?_;rintro e w' ⟨rfl,rfl⟩;go_wp2_with fail;refine (kL gN d x.t _ hc true (decide_eq_true ht)).mono ?_;rintro e w' ⟨rfl,rfl⟩;go_wp2_with fail;go_ret;exact ⟨v,rfl,Dm.o,eR eH.o,Or.inl rfl⟩
 ·have hd:decide ((x.d.length:Int) > 60000)=false:=decide_eq_false (by omega)
  simp only [hl,if_false,false_or];by_cases hfull:500<=ps.length
  ·simp only [hfull,if_true]
   unfold pv;go_enter func76,ntmps76;go_wp2_with fail;rw [<-HW.o];refine (kL gN d x.f _ hc true (decide_eq_true hf)).mono ?_;rintro e w' ⟨rfl,rfl⟩;go_wp2_with fail;refine (kL gN d x.t _ hc true (decide_eq_true ht)).mono ?_;rintro e w' ⟨rfl,rfl⟩;go_wp2_with fail;refine (NW gN d s v ps x _ Dm.o hfull hm).mono ?_;rintro e w2 ⟨rfl,dS⟩;have Dr:=Dm.o.below dS;have hb:=eH.o.trans (dS.mono eH.o.size);go_wp2_with fail;go_ret;exact ⟨v,rfl,Dr,eR hb,Or.inl rfl⟩
  ·simp only [hfull,if_false]
   unfold pv;go_enter func76,ntmps76;go_wp2_with fail;rw [<-HW.o];refine (kL gN d x.f _ hc true (decide_eq_true hf)).mono ?_;rintro e w' ⟨rfl,rfl⟩;go_wp2_with fail;refine (kL gN d x.t _ hc true (decide_eq_true ht)).mono ?_;rintro e w' ⟨rfl,rfl⟩;go_wp2_with fail;refine (AA gN d s v ps x _ Dm.o (by omega)).mono ?_;rintro e w2 ⟨v',rfl,Dr,hk2,WL⟩;have hk:=eB (eR (S:=NS gN v) eH.o) hk2 (fun _ _ h=>h);have hs':=eH.o.size;have lF:=UU gN s hs0 hs1 _ Dr.c2 (Dr.blk.frozen 2);have zY:NetI (w2.setCell ⟨gN,2,none⟩ (.int .i64 (s+1))) gN d (s+1) v' (ps++[x]):=⟨Blk.set_ Dr.blk 2 _,rq Dr.own (de (eX (fun i=>i=gN) w2) _ _ (fun _=>rfl)) (fun g hg h=>Dr.far (by rw [hg,h])),Dr.far⟩;have lM:=de hk ⟨gN,2,none⟩ (.int .i64 (s+1)) (fun _=>Or.inl rfl);have Vh:=dH zY;clear Dr zY;go_wp2_with fail;refine lF.mono ?_;rintro e w3 ⟨rfl,rfl⟩;go_wp2_with fail;go_ret;refine ⟨v',rfl,Vh.o,lM,?_⟩;rcases WL with h| ⟨g,h,hg⟩
   ·exact Or.inl h
   ·exact Or.inr ⟨g,h,by omega⟩
end Nt
namespace Nt
open Go.RowKit
attribute [local go_sem] dO dL dQ dM
theorem at_ok (gN:Nat) (d s:Int) (v:Value) (ps:List Pk) (k:Nat) (w:World) (hN:NetI w gN d s v ps) (hk:k < ps.length) (hm:ps.length<=1000000):
  Calls prog 200 #[.pointer (some ⟨gN,0,none⟩),.int .i64 k] w (dJ w (.tuple #[pv ps[k],.int .i64 0])):=by
 have hl:=hN.lt;have hc:=hN.c1;obtain ⟨g,cap,rfl,hgN,pS,e0,e1,e2⟩:=hN.at hk;have h1:decide ((k:Int) < 0)=false:=decide_eq_false (by omega);have h2:decide ((k:Int)≥ps.length)=false:=decide_eq_false (by omega);generalize ps[k]=x at*;clear hN;unfold pv;go_enter func200,ntmps200;go_wp2_with fail;refine bodyPost_ret (v:=.tuple #[.agg #[.int .i64 x.f,.int .i64 x.t,.string (bs x.d)],.int .i64 0]) (by simp [results,results200,go_sem]) rfl ?_;exact ⟨rfl,(aC _ w).alloc (aB _) _⟩
theorem j6 {g:Nat} {t:TypeId}:∀(vs:List Value) (o:Nat) (w:World) (cur:Array Value),Blk w g t cur->o+vs.length<=cur.size->
  ∃cur',Blk (w.setCells g o vs) g t cur'/\cur'.size=cur.size/\∀i,cur'[i]? =if o<=i/\i < o+vs.length then vs[i - o]? else cur[i]?
 | [],o,w,cur,h,_=> ⟨cur,h,rfl,fun i=>by rw [if_neg (by simp)]⟩
 |v :: r,o,w,cur,h,hl=>by
  have h1:=Blk.set_ h o v;obtain ⟨cur',h2,hs,hc⟩:=j6 r (o+1) _ _ h1 (by simp at hl ⊢;omega);refine ⟨cur',h2,by simpa using hs,fun i=>?_⟩;rw [hc i];simp only [aQ] at hl ⊢;by_cases e:i=o
  ·subst e
   rw [if_neg (by omega),if_pos (by omega),cw];simp;omega
  ·rw [cw,if_neg (fun h:o=i=>e h.symm)]
   by_cases hr:o+1<=i/\i < o+1+r.length
   ·rw [if_pos hr,if_pos (by omega),show i - o=(i - (o+1))+1 from by omega,aW]
   ·rw [if_neg hr,if_neg (by omega)]
theorem jX {g:Nat} {a:World}:∀(vs:List Value) (o:Nat) (w:World),a.grownBy w (some g)->a.grownBy (w.setCells g o vs) (some g)
 | [],_,_,h=>h
 |v :: r,o,w,h=>jX r (o+1) _ (dh h (p:=⟨g,o,none⟩) (Or.inl rfl) v)
theorem lD {P:Program} (w:World) (t e ty:TypeId) (z:Value) (size:Nat) (ht:P.underlying t=some (.slice e)) (hv:∀w,(zeroValue e).run P w=.ok z w) (hzs:z.cells.size=size) (h1:∀n,∀u∈(Builtin.zeroCells z.cells n).toList,u.oneCell'=true) (b o n c:Nat) (hn:0 < n)
  (hc:∀j,j < n*size->(w.cell? ⟨b,o+j,none⟩).isSome=true) (hf:∀j,j < n*size->w.frozen? ⟨b,o+j,none⟩=false):
  (Builtin.clear_ #[t] ty #[.slice (some ⟨b,o,none⟩) n c]).run P w=.ok (.tuple #[]) (w.setCells b o (Builtin.zeroCells z.cells n).toList):=by
 have hlen:(Builtin.zeroCells z.cells n).toList.length=n*size:=by rw [bp,size_zeroCells,hzs]
 have hst:=run_storeCells_cells (P:=P) b o (Builtin.zeroCells z.cells n).toList 0 w (by rw [hlen];simpa using hc) (by rw [hlen];simpa using hf) (h1 n);simp only [bQ] at hst;obtain ⟨m,rfl⟩:∃m,n=m+1:=⟨n - 1,by omega⟩;simp [Builtin.clear_,run_underlying ht,hv,hst]
def Ke:Value:=.agg #[.int .i64 0,.int .i64 0,.string ⟨#[]⟩]
theorem Fi (w:World):(zeroValue 146).run prog w=.ok Ke w:=by kernel_rfl
theorem NX:∀n,∀u∈(Builtin.zeroCells Ke.cells n).toList,u.oneCell'=true:=by
 intro n u hu;simp only [Builtin.zeroCells,Ke,Value.cells,Array.toList_map,aV] at hu;obtain ⟨i,_,rfl⟩:=hu;have:i % 3=0\/i % 3=1\/i % 3=2:=by omega
 rcases this with h|h|h <;> simp [h,Value.oneCell']
end Nt
namespace Nt
open Go.RowKit
attribute [local go_sem] dO dL dQ dM
theorem zT (cur GN yO:Array Value) (ps:List Pk) (k m:Nat) (news zs:List Value) (hnn:pcs (ps.drop (k+1))=news) (htk:cur.toList.take (ps.length*3)=pcs ps)
  (hc1:∀i,GN[i]? =if k*3<=i/\i < k*3+news.length then news[i - k*3]? else cur[i]?)
  (hc2:∀i,yO[i]? =if m*3<=i/\i < m*3+zs.length then zs[i - m*3]? else GN[i]?) (hm:m+1=ps.length) (hk:k < ps.length):
  yO.toList.take ((ps.length - 1)*3)=pcs (ps.eraseIdx k):=by
 have hnl:news.length=(ps.length - (k+1))*3:=by rw [<-hnn,jw];simp
 have htl:(pcs (ps.take k)).length=k*3:=by rw [jw,aX];congr 1;omega
 rw [List.eraseIdx_eq_take_drop_succ,mo,hnn];apply List.ext_getElem?;intro i;rcases aG i ((ps.length - 1)*3) with hi|hi
 ·rw [bW hi,cC,hc2,if_neg (by omega),hc1]
  by_cases h:k*3<=i
  ·rw [if_pos (by omega),bu (by omega),htl]
  ·rw [if_neg (by omega),bt (by omega),<-CQ,bW (by omega),<-htk,bW (by omega),cC]
 ·rw [bI (by simp;omega),bI (by simp;omega)]
theorem Fj (g cap:Nat) (cur:Array Value) (ps:List Pk) (k:Nat) (w:World) (hB:Blk w g 146 cur) (hsz:cur.size=cap*3) (hle:ps.length<=cap) (qJ:cap<=9223372036854775807) (htk:cur.toList.take (ps.length*3)=pcs ps) (hk:k < ps.length) (hm:ps.length<=1000000):
  Calls prog 201 #[.slice (some ⟨g,0,none⟩) ps.length cap,.int .i64 k,.int .i64 ((k:Int)+1)] w fun e w'=>e=.returned (.slice (some ⟨g,0,none⟩) (ps.length - 1) cap)/\w'.ownsRow 0 146 3 (.slice (some ⟨g,0,none⟩) (ps.length - 1) cap) (ps.length - 1) (pcs (ps.eraseIdx k))/\w.grownBy w' (some g):=by
 have hg:=hB.lt;obtain ⟨i0,jd,hz0,hz1,hz2⟩:=info_parts zy;have hcell:∀i,w.drew.cell? ⟨g,i,none⟩=cur[i]?:=fun i=>hB.cell i
 have W8:∀i,w.drew.frozen? ⟨g,i,none⟩=false:=fun i=>hB.frozen i
 have hk1:k<=cap:=by omega
 have hk2:k+1<=ps.length:=by omega
 have lM:k+1<=cap:=by omega
 have hkq:((k:Int) ==(k:Int)+1)=false:=beq_eq_false_iff_ne.2 (by omega);have lF:∀o j,(Addr.mk g o none).add j= ⟨g,o+j,none⟩:=fun o j=>by unfold Addr.add;split <;> simp_all
 have hnews:(pcs (ps.drop (k+1))).length=(ps.length - (k+1))*3:=by rw [jw];simp
 have gE:∀j u,(pcs (ps.drop (k+1)))[j]? =some u->w.drew.cell? ((Addr.mk g ((k+1)*3) none).add j)=some u:=fun j u hu=>by
  rw [lF,hcell,<-hu];have hj:j < (ps.length - (k+1))*3:=by
   rcases aG j ((ps.length - (k+1))*3) with h|h
   ·exact h
   ·rw [bI (by rw [hnews];exact h)] at hu;cases hu
  have h1:pcs ps=pcs (ps.take (k+1))++pcs (ps.drop (k+1)):=by rw [<-mo,cO]
  have h2:(pcs (ps.take (k+1))).length=(k+1)*3:=by rw [jw,aX];congr 1;omega
  rw [<-cC,<-bW (j:=ps.length*3) (by omega),htk,h1,bu (by omega),h2];congr 1;omega
 have hone:∀u∈pcs (ps.drop (k+1)),u.oneCell'=true:=fun u hu=>by
  simp only [pcs,List.mem_flatMap] at hu;obtain ⟨x,_,hu⟩:=hu;simp only [pc,aR,bJ,or_false] at hu;rcases hu with rfl|rfl|rfl <;> rfl
 have hspare:∀j,j < (pcs (ps.drop (k+1))).length->(w.drew.cell? ⟨g,0+k*3+j,none⟩).isSome=true/\w.drew.frozen? ⟨g,0+k*3+j,none⟩=false:=fun j hj=>by
  rw [hnews] at hj;rw [hcell];refine ⟨?_,W8 _⟩;rw [cK (by omega)];rfl
 have hnil:cap=k+1->∀j u,(pcs (ps.drop (k+1)))[j]? =some u->w.drew.cell? ((Addr.mk g 0 none).add j)=some u:=fun h j u hu=>by
  rw [List.drop_eq_nil_of_le (by omega)] at hu;simp [pcs] at hu
 obtain ⟨GN,fq,hs1,hc1⟩:=j6 (pcs (ps.drop (k+1))) (k*3) w.drew cur hB (by rw [hnews];omega);have hg1:w.grownBy (w.drew.setCells g (k*3) (pcs (ps.drop (k+1)))) (some g):=jX _ _ _ (jv (dx w _));have O4:=dH hnews;have OI:=dH gE;have aae:=dH hone;have HSp:=dH hspare;have aaf:=dH hnil;have Bc:=dH hc1;have sS:=dH hg1;have tc:=dH htk;have eH:=dH fq;have tZ:=dH hs1;clear hcell W8 gE lF hone hspare hnil hnews hc1 hg1 htk fq hs1 hB;generalize hnn:pcs (ps.drop (k+1))=news at*;have HNn:=dH hnn;clear hnn;have hi1:(0:Int)<=(k:Int)+1:=by omega
 have hi2:(k:Int)+1<=(ps.length:Int):=by omega
 have TA:(k:Int)<=(k:Int)+1:=by omega
 by_cases hcap:cap=k+1
 ·have HNl:=dH (aaf.o hcap)
  clear aaf;go_enter func201,ntmps201;go_wp2_with fail;go_region_law (refine step_append_room (by rfl) _ _ _ (by rfl) 146 i0 3 underlying183 jd hz1 g 0 k (k+1) (by rfl) ⟨g,0,none⟩ (ps.length - (k+1)) 0 news (by rfl) O4.o HNl.o aae.o (by omega) HSp.o ?_)
  obtain ⟨m,hmm⟩:∃m,k+(ps.length - (k+1))=m:=⟨_,rfl⟩;rw [hmm];have xN:m < ps.length:=by omega
  have hm2:ps.length<=m+1:=by omega
  have aag:=lD (P:=prog) (w.drew.setCells g (k*3) news) 183 146 0 Ke 3 underlying183 Fi rfl NX g (m*3) (ps.length - m) (k+1 - m) (by omega)
   (fun j hj=>by rw [eH.o.cell,cK (by rw [tZ.o];omega)];rfl) (fun j _=>eH.o.frozen _)
  have hzl:(Builtin.zeroCells Ke.cells (ps.length - m)).toList.length=(ps.length - m)*3:=by rw [bp,size_zeroCells];rfl
  generalize (Builtin.zeroCells Ke.cells (ps.length - m)).toList=zs at*;have HZl:=dH hzl;clear hzl hmm;generalize w.drew.setCells g (k*3) news=w2 at*;go_wp2_with fail;obtain ⟨yO,eY,hs2,hc2⟩:=j6 zs (m*3) w2 GN eH.o (by rw [HZl.o,tZ.o];omega);rw [hcap];refine bodyPost_ret (v:=.slice (some ⟨g,0,none⟩) m (k+1)) (by simp [results,results201,go_sem]) rfl ⟨by rw [show m=ps.length - 1 from by omega],⟨by rw [jw,List.length_eraseIdx_of_lt hk],.inr ⟨g,k+1,yO,rfl,aT _,eY,by omega,by unfold maxLen;omega,by rw [hs2,tZ.o];omega,?_⟩⟩,jX _ _ _ sS.o⟩;exact zT cur GN yO ps k m news zs HNn.o tc.o Bc.o hc2 (by omega) hk
 ·go_enter func201,ntmps201
  go_wp2_with fail;go_region_law (refine step_append_room (by rfl) _ _ _ (by rfl) 146 i0 3 underlying183 jd hz1 g 0 k cap (by rfl) ⟨g,(k+1)*3,none⟩ (ps.length - (k+1)) (cap - (k+1)) news (by rfl) O4.o OI.o aae.o (by omega) HSp.o ?_)
  obtain ⟨m,hmm⟩:∃m,k+(ps.length - (k+1))=m:=⟨_,rfl⟩;rw [hmm];have xN:m < ps.length:=by omega
  have hm2:ps.length<=m+1:=by omega
  have aag:=lD (P:=prog) (w.drew.setCells g (k*3) news) 183 146 0 Ke 3 underlying183 Fi rfl NX g (m*3) (ps.length - m) (cap - m) (by omega)
   (fun j hj=>by rw [eH.o.cell,cK (by rw [tZ.o];omega)];rfl) (fun j _=>eH.o.frozen _)
  have hzl:(Builtin.zeroCells Ke.cells (ps.length - m)).toList.length=(ps.length - m)*3:=by rw [bp,size_zeroCells];rfl
  generalize (Builtin.zeroCells Ke.cells (ps.length - m)).toList=zs at*;have HZl:=dH hzl;clear hzl hmm;generalize w.drew.setCells g (k*3) news=w2 at*;go_wp2_with fail;obtain ⟨yO,eY,hs2,hc2⟩:=j6 zs (m*3) w2 GN eH.o (by rw [HZl.o,tZ.o];omega);refine bodyPost_ret (v:=.slice (some ⟨g,0,none⟩) m (cap)) (by simp [results,results201,go_sem]) rfl ⟨by rw [show m=ps.length - 1 from by omega],⟨by rw [jw,List.length_eraseIdx_of_lt hk],.inr ⟨g,cap,yO,rfl,aT _,eY,by omega,by unfold maxLen;omega,by rw [hs2,tZ.o];omega,?_⟩⟩,jX _ _ _ sS.o⟩;exact zT cur GN yO ps k m news zs HNn.o tc.o Bc.o hc2 (by omega) hk
end Nt
namespace Nt
open Go.RowKit
attribute [local go_sem] dO dL dQ dM
theorem three {w:World} {B:Nat} {z0 z1 z2:Value} (a b c:Value) (h:Blk w B 146 #[z0,z1,z2]):Blk (((w.setCell ⟨B,0,none⟩ a).setCell ⟨B,1,none⟩ b).setCell ⟨B,2,none⟩ c) B 146 #[a,b,c]:=by
 have:=Blk.set_ (Blk.set_ (Blk.set_ h 0 a) 1 b) 2 c;simpa using this
theorem NY {S:Nat->Prop} {w w1:World} (k:dY S w w1) (B:Nat) (a b c:Value) (hB:w.heap.size<=B):dY S w (((w1.setCell ⟨B,0,none⟩ a).setCell ⟨B,1,none⟩ b).setCell ⟨B,2,none⟩ c):=
 de (de (de k _ _ (fun h=>absurd h (by simp;omega))) _ _ (fun h=>absurd h (by simp;omega))) _ _ (fun h=>absurd h (by simp;omega))
theorem Jt {S:Nat->Prop} {w w1:World} (k:dY S w w1) (B:Nat) (a b c:Value) (hB:S B):dY S w (((w1.setCell ⟨B,0,none⟩ a).setCell ⟨B,1,none⟩ b).setCell ⟨B,2,none⟩ c):=
 de (de (de k _ _ (fun _=>hB)) _ _ (fun _=>hB)) _ _ (fun _=>hB)
theorem Fk {w:World} {B:Nat} {a b c:Value} (h:Blk w B 146 #[a,b,c]):w.cell? ⟨B,0,none⟩=some a/\w.cell? ⟨B,1,none⟩=some b/\w.cell? ⟨B,2,none⟩=some c:=
 ⟨h.cell 0,h.cell 1,h.cell 2⟩
theorem take_ok (gN:Nat) (d s:Int) (v:Value) (ps:List Pk) (k:Nat) (w:World) (hN:NetI w gN d s v ps) (hk:k < ps.length) (hm:ps.length<=1000000):
  Calls prog 130 #[.pointer (some ⟨gN,0,none⟩),.int .i64 k] w fun e w'=>∃v',e=.returned (.tuple #[pv ps[k],.int .i64 0])/\NetI w' gN d s v' (ps.eraseIdx k)/\dY (NS gN v) w w'/\v'.ownBlock=v.ownBlock:=by
 have pS:=hN.lt;have dR:=dD w (.cells #[.int .i64 0,.int .i64 0,.string ⟨#[]⟩] 146);have hN1:=hN.below dR;have fq:=Blk.new w 146 #[.int .i64 0,.int .i64 0,.string ⟨#[]⟩];have hvl:∀g,v.ownBlock=some g->g < w.heap.size:=fun g hg=>own_lt hN.own hg
 generalize hw1:w.alloc (.cells #[.int .i64 0,.int .i64 0,.string ⟨#[]⟩] 146)=w1 at*;have rG:=dH hw1;have eH:=dH dR;have Dm:=dH hN1;have qM:=dH fq;have HV:=dH hvl;obtain ⟨x,hx⟩:∃x,ps[k]=x:=⟨_,rfl⟩;have gE:=at_ok gN d s v ps k _ hN1 hk hm;rw [hx] at gE ⊢;have OI:=dH gE;clear hN hN1 dR fq hw1 hvl gE hx;unfold pv;go_enter func130,ntmps130;go_wp2_with fail;rw [rG.o];refine OI.o.mono ?_;rintro e w2 ⟨rfl,dS⟩;have Dr:=Dm.o.below dS;have eY:=Blk.below qM.o dS (Blk.lt qM.o);have hk2:dY (fun _=>False) w w2:=eB (eR eH.o) (eR (S:=fun _=>False) dS) (fun _ _ h=>h);clear dS;unfold pv;have di:=dD w2 (.cells #[.int .i64 x.f,.int .i64 x.t,.string (bs x.d)] 146);have zY:=Dr.below di;have uF:=Blk.alloc eY (.cells #[.int .i64 x.f,.int .i64 x.t,.string (bs x.d)] 146);have hP3:=Blk.new w2 146 #[.int .i64 x.f,.int .i64 x.t,.string (bs x.d)];have lM:=ql hk2 (.cells #[.int .i64 x.f,.int .i64 x.t,.string (bs x.d)] 146);have hBP:w.heap.size < w2.heap.size:=eY.lt;have hc1:=zY.c1;have ace:=zY;obtain ⟨IF,TH,TP⟩:=ace;rcases TH.2 with ⟨_,h0⟩| ⟨g,cap,cur,rfl,_,hh,hle,qJ,hsz,htk⟩
 ·omega
 have Fy:g < w.heap.size:=HV.o g rfl;have hgg:g≠gN:=fun e=>TP (by rw [e];rfl)
 have HD:=dH (Fj g cap cur ps k _ hh hsz hle (by unfold maxLen at qJ;omega) htk hk hm);have Vh:=dH zY;have dw:=dH uF;have qU:=dH hP3;have lJ:=dH lM;clear IF TH TP hh htk zY uF hP3 lM di Dr eY hk2;go_wp2_with fail;refine HD.o.mono ?_;rintro e w4 ⟨rfl,RO,hg4⟩;have Rc:=eB (mh (S:=NS gN (.slice (some ⟨g,0,none⟩) ps.length cap)) lJ.o (fun _ _ h=>h.elim)) (ep (S:=fun i=>i=g) hg4 (fun i h=>by cases h;rfl)) (fun i _ h=>Or.inr (by rw [h];rfl));have jA:=Blk.grown dw.o hg4 (by intro h;cases h;omega);have uM:=Blk.grown qU.o hg4 (by intro h;cases h;omega);have ID:=Blk.grown Vh.o.blk hg4 (by intro h;cases h;exact hgg rfl);have YY:w4.cell? ⟨gN,1,none⟩=some _:=ID.cell 1;have YZ:=ID.frozen 1;obtain ⟨n1,oz⟩:=dB (ps.length - 1);have hVb:(Value.slice (some ⟨g,0,none⟩) n1 cap).ownBlock=some g:=rfl;rw [<-oz] at RO ⊢;have TC:=Blk.set_ ID 1 (.slice (some ⟨g,0,none⟩) n1 cap);have ho5:=rq (w':=w4.setCell ⟨gN,1,none⟩ (.slice (some ⟨g,0,none⟩) n1 cap)) RO (de (eX (fun i=>i=gN) w4) _ _ (fun _=>rfl)) (fun g' h=>by rw [hVb] at h;cases h;exact hgg);have RS:NetI (w4.setCell ⟨gN,1,none⟩ (.slice (some ⟨g,0,none⟩) n1 cap)) gN d s (.slice (some ⟨g,0,none⟩) n1 cap) (ps.eraseIdx k):=⟨TC,by rw [List.length_eraseIdx_of_lt hk,<-oz];exact ho5,by rw [hVb];simpa using hgg⟩;have uK:=Blk.far jA (p:=⟨gN,1,none⟩) (by simp;omega) (.slice (some ⟨g,0,none⟩) n1 cap);have hP5:=Blk.far uM (p:=⟨gN,1,none⟩) (by simp;omega) (.slice (some ⟨g,0,none⟩) n1 cap);have hk5:=de Rc ⟨gN,1,none⟩ (.slice (some ⟨g,0,none⟩) n1 cap) (fun _=>Or.inl rfl);obtain ⟨p0,p1,p2⟩:=Fk hP5;obtain ⟨p3,p4,p5⟩:=Fk uM;obtain ⟨q3,q4,q5⟩:=Fk jA;have f3:=jA.frozen 0;have f4:=jA.frozen 1;have f5:=jA.frozen 2;obtain ⟨q0,q1,q2⟩:=Fk uK;have f0:=uK.frozen 0;have f1:=uK.frozen 1;have f2:=uK.frozen 2;obtain ⟨r0,r1,r2⟩:=Fk (three (.int .i64 x.f) (.int .i64 x.t) (.string (bs x.d)) uK);have hN6:=RS.kp (Jt (S:=fun i=>i=w.heap.size) (eX _ _) w.heap.size (.int .i64 x.f) (.int .i64 x.t) (.string (bs x.d)) rfl) (fun i hi h=>by
  rcases h with h|h
  ·omega
  ·rw [hVb] at h;cases h;omega)
 have yL:=NY hk5 w.heap.size (.int .i64 x.f) (.int .i64 x.t) (.string (bs x.d)) (aB _);have HN6:=dH hN6;have OP:=dH yL;have HVb:=dH hVb;have adi:=dH oz;clear oz hN6 yL hVb hk5 hP5 uK RS ho5 TC ID uM jA Rc hg4 RO;go_wp2_with fail;exact bodyPost_ret (v:=.tuple #[.agg #[.int .i64 x.f,.int .i64 x.t,.string (bs x.d)],.int .i64 0]) (by simp [results,results130,go_sem,r0,r1,r2]) rfl ⟨_,rfl,HN6.o,OP.o,rfl⟩
end Nt
namespace Nt
open Go.RowKit
attribute [local go_sem] dO dL dQ dM
def cutB (who:Int) (x:Pk):Bool:=decide (x.f=who\/x.t=who)
theorem Hl (q:Nat) (who:Int) (x:Pk) (w:World) (hq:w.cell? ⟨q,0,none⟩=some (.int .i64 who)):
  Calls prog 213 #[pv x,.pointer (some ⟨q,0,none⟩)] w (dJ w (.bool (cutB who x))):=by
 have hl:=dn hq;have h1:cutB who x=((x.f ==who) || (x.t ==who)):=by unfold cutB;rw [Bool.eq_iff_iff];simp
 rw [h1];clear h1;obtain ⟨w1,hw1⟩:=dB (w.alloc (.cells #[.int .i64 x.f,.int .i64 x.t,.string (bs x.d)] 146));have hB:=Blk.new w 146 #[.int .i64 x.f,.int .i64 x.t,.string (bs x.d)];have hb:=dD w (.cells #[.int .i64 x.f,.int .i64 x.t,.string (bs x.d)] 146);have hc:=cell?_alloc_old hq (.cells #[.int .i64 x.f,.int .i64 x.t,.string (bs x.d)] 146);rw [<-hw1] at hB hb hc;obtain ⟨e0,e1,e2⟩:=Fk hB;have HW:=dH hw1;have HB:=dH hb;clear hw1 hb hB;unfold pv;cases hA:(x.f ==who) with
 |true=>
  go_enter func213,ntmps213;go_wp2_with fail;rw [<-HW.o];exact bodyPost_ret (v:=.bool true) (by simp [results,results213,go_sem]) rfl ⟨by simp,HB.o⟩
 |false=>
  go_enter func213,ntmps213;go_wp2_with fail;rw [<-HW.o];go_ret;exact ⟨by simp,HB.o⟩
theorem Fo {w:World} {u:Value} {ys:List Pk} (h:w.ownsRow 0 146 3 u ys.length (pcs ys)) {k:Nat} (hk:k < ys.length):∃g cap,u=.slice (some ⟨g,0,none⟩) ys.length cap/\g < w.heap.size/\ys.length<=cap/\cap<=9223372036854775807/\
  w.cell? ⟨g,k*3,none⟩=some (.int .i64 ys[k].f)/\w.cell? ⟨g,k*3+1,none⟩=some (.int .i64 ys[k].t)/\w.cell? ⟨g,k*3+2,none⟩=some (.string (bs ys[k].d)):=by
 rcases h.2 with ⟨_,e2⟩| ⟨g,cap,cur,rfl,_,hh,hle,qJ,hsz,htk⟩
 ·omega
 ·have hB:Blk w g 146 cur:=hh
  have key:∀j,j < 3->w.cell? ⟨g,k*3+j,none⟩=(pc ys[k])[j]?:=fun j hj=>by
   rw [hB.cell,<-Eo ys k j hk hj,<-htk,bW (by omega),cC]
  exact ⟨g,cap,rfl,hB.lt,hle,qJ,key 0 (by omega),key 1 (by omega),key 2 (by omega)⟩
theorem mE {w w':World} {u:Value} {n:Nat} {xs:List Value} (h:w.ownsRow 0 146 3 u n xs) (hb:Below w.heap.size w w'):w'.ownsRow 0 146 3 u n xs:=rq h (eR (S:=fun _=>False) hb) (fun _ _ h=>h)
theorem kJ {w:World} {u:Value} {ys:List Pk} (h:w.ownsRow 0 146 3 u ys.length (pcs ys)):∃A c,u=.slice A ys.length c:=by
 rcases h.2 with ⟨e,e2⟩| ⟨g,cap,cur,e,_⟩
 ·exact ⟨none,0,by rw [e,e2]⟩
 ·exact ⟨_,cap,e⟩
def jO (who:Int) (ps:List Pk):Int:=match ps.findIdx? (cutB who) with
 |some i=>i
 |none=>-1
theorem zU (q:Nat) (who:Int) (v:Value) (ps:List Pk) (w:World) (hrow:w.ownsRow 0 146 3 v ps.length (pcs ps)) (hq:w.cell? ⟨q,0,none⟩=some (.int .i64 who)) (hm:ps.length<=1000000):
  Calls prog 284 #[v,.func (.func 213) #[] #[.pointer (some ⟨q,0,none⟩)]] w (dJ w (.int .i64 (jO who ps))):=by
 have De:=dn hq;obtain ⟨A,c,rfl⟩:=kJ hrow;have acf:=dH hrow;have HQ:=dH hq;clear hrow hq;go_enter func284,ntmps284;go_wp2_with fail;go_loopw [8] (fun i wr=>∃k:Nat,k<=ps.length/\i=.int .i64 k/\Below w.heap.size w wr/\∀j (hj:j < ps.length),j < k->cutB who ps[j]=false) (fun i _=>ps.length - (intOf i).toNat)
 case atStart=>exact ⟨0,by omega,rfl,aC _ _,fun j _ h=>by omega⟩
 case round=>
  obtain ⟨k,hk,rfl,hb,hall⟩:=hrel;rcases aG k ps.length with hlt|hge
  ·obtain ⟨g,cap,hv,pS,hcl,hcm,c0,c1,c2⟩:=Fo (mE acf.o hb) hlt
   cases hv;have Ny:=dP hb De HQ.o;have HA:=dH hall;have BA:=dH (Hl q who ps[k] wr Ny);obtain ⟨x,hx⟩:∃x,ps[k]=x:=⟨_,rfl⟩;rw [hx] at c0 c1 c2 BA;have HX:=dH hx;have HB:=dH hb;clear hall hx hb Ny;go_wp2_with fail;refine BA.o.mono ?_;rintro e w2 ⟨rfl,dS⟩;have di:=HB.o.trans (dS.mono HB.o.size);cases hc:cutB who x with
   |true=>
    go_wp2_with fail;have eC:jO who ps=k:=by
     have h1:ps.findIdx? (cutB who)=some k:=by
      rw [bB];exact ⟨hlt,by rw [HX.o];exact hc,fun j hj=>by rw [HA.o j (by omega) hj];simp⟩
     unfold jO;rw [h1]
    go_ret;exact ⟨by rw [eC];rfl,di⟩
   |false=>
    go_wp2_with fail;exact ⟨⟨k+1,by omega,by go_num,di,fun j hj hjk=>by
     by_cases e:j=k
     ·subst e;rw [HX.o];exact hc
     ·exact HA.o j hj (by omega)⟩,by simp [intOf];omega⟩
  ·obtain rfl:k=ps.length:=by omega
   have eC:jO who ps= -1:=by
    have h1:ps.findIdx? (cutB who)=none:=by
     rw [bP];intro x hx;obtain ⟨j,hj,rfl⟩:=bY.1 hx;exact hall j hj hj
    unfold jO;rw [h1]
   go_wp2_with fail;go_ret;exact ⟨by rw [eC];rfl,hb⟩
end Nt
namespace Nt
open Go.RowKit
attribute [local go_sem] dO dL dQ dM
def fo (who:Int) (ps:List Pk):List Pk:=ps.filter fun x=>!cutB who x
theorem zV (who:Int) (ps:List Pk) (j:Nat) (h:j < ps.length):fo who (ps.take (j+1))=fo who (ps.take j)++(if cutB who ps[j] then [] else [ps[j]]):=by
 unfold fo;rw [bF h,List.filter_append];congr 1;cases hc:cutB who ps[j] <;> simp [hc]
theorem Fp {who:Int} {ps:List Pk} (h:jO who ps= -1):fo who ps=ps:=by
 unfold jO at h;cases hf:ps.findIdx? (cutB who) with
 |some i=>rw [hf] at h;simp at h
 |none=>
  rw [bP] at hf;unfold fo;rw [List.filter_eq_self];intro x hx;simp [hf x hx]
theorem wS {who:Int} {ps:List Pk} (h:jO who ps≠-1):∃(i:Nat) (hi:i < ps.length),jO who ps=i/\cutB who ps[i]=true/\fo who (ps.take (i+1))=ps.take i:=by
 unfold jO at h ⊢;cases hf:ps.findIdx? (cutB who) with
 |none=>rw [hf] at h;exact absurd rfl h
 |some i=>
  obtain ⟨hi,hc,hall⟩:=bB.1 hf;refine ⟨i,hi,rfl,hc,?_⟩;rw [zV who ps i hi,hc,if_pos rfl,bD];unfold fo;rw [List.filter_eq_self];intro x hx;obtain ⟨j,hj,rfl⟩:=bY.1 hx;have hj':j < i:=by rw [aX] at hj;omega
  rw [List.getElem_take];have:=hall j hj';simp at this;simp [this]
structure B5 (w wr:World) (g cap:Nat) (ps ks:List Pk) (j:Nat):Prop where
 ex:∃cur,Blk wr g 146 cur/\cur.size=cap*3/\(∀t,t < ks.length*3->cur[t]? =(pcs ks)[t]?)/\(∀t,j*3<=t->t < ps.length*3->cur[t]? =(pcs ps)[t]?)
 grown:w.grownBy wr (some g)
section
variable {w wr wr':World} {g cap j:Nat} {ps ks:List Pk}
theorem B5.below (h:B5 w wr g cap ps ks j) (hb:Below wr.heap.size wr wr'):B5 w wr' g cap ps ks j:=by
 obtain ⟨cur,h1,h2⟩:=h.ex;exact ⟨⟨cur,h1.below hb h1.lt,h2⟩,qW h.grown hb⟩
theorem B5.next (h:B5 w wr g cap ps ks j):B5 w wr g cap ps ks (j+1):=by
 obtain ⟨cur,h1,h2,h3,h4⟩:=h.ex;exact ⟨⟨cur,h1,h2,h3,fun t ht=>h4 t (by omega)⟩,h.grown⟩
theorem B5.cells (h:B5 w wr g cap ps ks j) (hj:j < ps.length):wr.cell? ⟨g,j*3,none⟩=some (.int .i64 ps[j].f)/\wr.cell? ⟨g,j*3+1,none⟩=some (.int .i64 ps[j].t)/\wr.cell? ⟨g,j*3+2,none⟩=some (.string (bs ps[j].d)):=by
 obtain ⟨cur,h1,h2,h3,h4⟩:=h.ex;have key:∀i,i < 3->wr.cell? ⟨g,j*3+i,none⟩=(pc ps[j])[i]?:=fun i hi=>by rw [h1.cell,h4 _ (by omega) (by omega),Eo ps j i hj hi]
 exact ⟨key 0 (by omega),key 1 (by omega),key 2 (by omega)⟩
theorem B5.lt (h:B5 w wr g cap ps ks j):g < wr.heap.size:=by obtain ⟨cur,h1,_⟩:=h.ex;exact h1.lt
theorem B5.some_ (h:B5 w wr g cap ps ks j) {i:Nat} (hi:i < cap*3):∃v,wr.cell? ⟨g,i,none⟩=some v:=by
 obtain ⟨cur,h1,h2,_⟩:=h.ex;exact ⟨cur[i]'(by omega),by rw [h1.cell,cK (by omega)]⟩
theorem B5.frozen (h:B5 w wr g cap ps ks j) (i:Nat):wr.frozen? ⟨g,i,none⟩=false:=by obtain ⟨cur,h1,_⟩:=h.ex;exact h1.frozen i
theorem B5.put (h:B5 w wr g cap ps ks j) (x:Pk) (hk:ks.length < j) (hj:j<=cap):
  B5 w (((wr.setCell ⟨g,ks.length*3,none⟩ (.int .i64 x.f)).setCell ⟨g,ks.length*3+1,none⟩ (.int .i64 x.t)).setCell ⟨g,ks.length*3+2,none⟩ (.string (bs x.d))) g cap ps (ks++[x]) j:=by
 obtain ⟨cur,h1,h2,h3,h4⟩:=h.ex;refine ⟨⟨_,((h1.set_ (ks.length*3) (.int .i64 x.f)).set_ (ks.length*3+1) (.int .i64 x.t)).set_ (ks.length*3+2) (.string (bs x.d)),by simp [h2],fun t ht=>?_,fun t ht1 ht2=>?_⟩,dh (dh (dh h.grown (Or.inl rfl) _) (Or.inl rfl) _) (Or.inl rfl) _⟩
 ·simp only [cw,Array.size_setIfInBounds]
  rw [mo];have hl:=jw ks;have hx:pcs [x]=[.int .i64 x.f,.int .i64 x.t,.string (bs x.d)]:=by simp [pcs,pc]
  rcases aG t (ks.length*3) with h|h
  ·rw [if_neg (by omega),if_neg (by omega),if_neg (by omega),h3 t h,bt (by omega)]
  ·rw [bu (by omega),hl,hx]
   have:t=ks.length*3\/t=ks.length*3+1\/t=ks.length*3+2:=by simp at ht;omega
   rcases this with rfl|rfl|rfl
   ·rw [if_neg (by omega),if_neg (by omega),if_pos rfl,if_pos (by omega)];simp
   ·rw [if_neg (by omega),if_pos rfl,if_pos (by omega)];simp
   ·rw [if_pos rfl,if_pos (by omega)];simp
 ·simp only [cw]
  rw [if_neg (by omega),if_neg (by omega),if_neg (by omega)];exact h4 t ht1 ht2
end
end Nt
namespace Nt
open Go.RowKit
attribute [local go_sem] dO dL dQ dM
theorem B6 (q:Nat) (who:Int) (v:Value) (ps:List Pk) (w:World) (hrow:w.ownsRow 0 146 3 v ps.length (pcs ps)) (hq:w.cell? ⟨q,0,none⟩=some (.int .i64 who)) (hm:ps.length<=1000000) (hf:jO who ps= -1):
  Calls prog 212 #[v,.func (.func 213) #[] #[.pointer (some ⟨q,0,none⟩)]] w (dJ w v):=by
 have h1:=zU q who v ps w hrow hq hm;rw [hf] at h1;obtain ⟨A,c,rfl⟩:=kJ hrow;have H1:=dH h1;clear h1 hf hrow hq;go_enter func212,ntmps212;go_wp2_with fail;refine H1.o.mono ?_;rintro e w2 ⟨rfl,dS⟩;go_wp2_with fail;go_ret;exact ⟨rfl,dS⟩
theorem B7 (q:Nat) (who:Int) (g cap:Nat) (ps:List Pk) (w:World) (hrow:w.ownsRow 0 146 3 (.slice (some ⟨g,0,none⟩) ps.length cap) ps.length (pcs ps)) (Vi:q≠g) (hq:w.cell? ⟨q,0,none⟩=some (.int .i64 who)) (hm:ps.length<=1000000) (hf:jO who ps≠-1):
  Calls prog 212 #[.slice (some ⟨g,0,none⟩) ps.length cap,.func (.func 213) #[] #[.pointer (some ⟨q,0,none⟩)]] w fun e w'=>
   e=.returned (.slice (some ⟨g,0,none⟩) (fo who ps).length cap)/\w'.ownsRow 0 146 3 (.slice (some ⟨g,0,none⟩) (fo who ps).length cap) (fo who ps).length (pcs (fo who ps))/\w.grownBy w' (some g):=by
 have De:=dn hq;have h1:=zU q who _ ps w hrow hq hm;obtain ⟨i,hi,nY,pT,hki⟩:=wS hf;rw [nY] at h1;have hne:((i:Int) ==(-1:Int))=false:=beq_eq_false_iff_ne.2 (by omega);obtain ⟨hcap,hcm⟩:ps.length<=cap/\cap<=9223372036854775807:=by
  obtain ⟨_,_,e,_,h3,h4,_⟩:=Fo hrow hi;cases e;exact ⟨h3,h4⟩
 have hmid:B5 w w g cap ps (ps.take i) (i+1):=by
  rcases hrow.2 with ⟨e,_⟩| ⟨g',cap',cur,e,_,hh,hle,qJ,hsz,htk⟩
  ·cases e
  ·cases e
   refine ⟨⟨cur,hh,hsz,fun t ht=>?_,fun t _ ht=>?_⟩,dx _ _⟩
   ·rw [aX] at ht
    rw [<-CQ,bW (by omega),<-htk,bW (by omega),cC]
   ·rw [<-htk,bW (by omega),cC]
 rw [<-hki] at hmid;have H1:=dH h1;have HM:=dH hmid;have HQ:=dH hq;have HKI:=dH hki;have hkl:(fo who (ps.take (i+1))).length=i:=by rw [hki,aX];omega
 have Kk:=dH hkl;clear h1 hf hrow hq hmid hki nY pT hkl;have hnot:∀(x:Bool) (w:World),(Op.unary .not (.bool x)).run prog w=.ok (.bool (!x)) w:=fun _ _=>rfl
 go_enter func212,ntmps212;go_wp2_with fail;refine H1.o.mono ?_;rintro e w2 ⟨rfl,dS⟩;have Kl:=dH (HM.o.below dS);clear dS;go_wp2_with fail;go_loopw [5,6] (fun u j wr=>∃jj:Nat,jj<=ps.length/\j=.int .i64 jj/\u=.int .i64 ((fo who (ps.take jj)).length:Nat)/\(fo who (ps.take jj)).length < jj/\B5 w wr g cap ps (fo who (ps.take jj)) jj) (fun _ j _=>ps.length - (intOf j).toNat)
 case atStart=>exact ⟨i+1,by omega,by go_num,by rw [Kk.o],by rw [Kk.o];omega,Kl.o⟩
 case round=>
  obtain ⟨j,hj,rfl,rfl,hlt,hmid⟩:=hrel;rcases aG j ps.length with hjl|hjg
  ·obtain ⟨c0,c1,c2⟩:=hmid.cells hjl
   have Ny:wr.cell? ⟨q,0,none⟩=some (.int .i64 who):=hmid.grown.cell HQ.o (by simpa using Vi);have hks:=zV who ps j hjl;obtain ⟨x,hx⟩:∃x,ps[j]=x:=⟨_,rfl⟩;rw [hx] at c0 c1 c2 hks;generalize fo who (ps.take j)=ks at*;have di:=dD wr (.cells #[.int .i64 x.f,.int .i64 x.t,.string (bs x.d)] 146);have HC:=dH (Hl q who x _ (cell?_alloc_old Ny (.cells #[.int .i64 x.f,.int .i64 x.t,.string (bs x.d)] 146)));have hP:=Blk.new wr 146 #[.int .i64 x.f,.int .i64 x.t,.string (bs x.d)];have HP:=dH hP;have PN:=dH (hmid.below di);have Sk:=dH hks;have pS:=hmid.lt;clear Ny hks hx di hP hmid;go_wp2_with fail;refine HC.o.mono ?_;rintro e w4 ⟨rfl,hb4⟩;have Bj:=PN.o.below hb4;have uM:=Blk.below HP.o hb4 (Blk.lt HP.o);obtain ⟨a0,a1,a2⟩:=Fk uM;cases hcx:cutB who x with
   |true=>
    have EL:=dH Bj;clear Bj uM hb4;go_wp2_with fail;have e1:fo who (ps.take (j+1))=ks:=by rw [Sk.o,hcx];simp
    exact ⟨⟨j+1,by omega,by go_num,by rw [e1],by rw [e1];omega,by rw [e1];exact EL.o.next⟩,by simp [intOf];omega⟩
   |false=>
    obtain ⟨v0,s0⟩:=Bj.some_ (i:=ks.length*3) (by omega);obtain ⟨v1,s1⟩:=Bj.some_ (i:=ks.length*3+1) (by omega);obtain ⟨v2,s2⟩:=Bj.some_ (i:=ks.length*3+2) (by omega);have f0:=Bj.frozen (ks.length*3);have f1:=Bj.frozen (ks.length*3+1);have f2:=Bj.frozen (ks.length*3+2);have EL:=dH (Bj.put x hlt (by omega));have e1:fo who (ps.take (j+1))=ks++[x]:=by rw [Sk.o,hcx];simp
    have HE:=dH e1;have hil:ks.length < ps.length:=by omega
    clear Bj uM hb4 e1;go_wp2_with fail;exact ⟨⟨j+1,by omega,by go_num,by rw [HE.o,aO];go_num,by rw [HE.o,aO];simp;omega,by rw [HE.o];exact EL.o.next⟩,by simp [intOf];omega⟩
  ·obtain rfl:j=ps.length:=by omega
   rw [bz] at hlt hmid ⊢;obtain ⟨ks,hks⟩:=dB (fo who ps);rw [<-hks] at hlt hmid ⊢;have Hv:=dH hks;clear hks;obtain ⟨m,hm'⟩:=dB ks.length;rw [<-hm'] at hlt ⊢;have aag:=lD (P:=prog) wr 183 146 0 Ke 3 underlying183 Fi rfl NX g (m*3) (ps.length - m) (cap - m) (by omega)
    (fun t ht=>by obtain ⟨u,hu⟩:=hmid.some_ (i:=m*3+t) (by omega);rw [hu];rfl) (fun t _=>hmid.frozen _)
   have hzl:(Builtin.zeroCells Ke.cells (ps.length - m)).toList.length=(ps.length - m)*3:=by rw [bp,size_zeroCells];rfl
   generalize (Builtin.zeroCells Ke.cells (ps.length - m)).toList=zs at*;have HZl:=dH hzl;have yG:=dH hmid;have HM':=dH hm';clear hzl hmid hm';have hmc:m<=cap:=by omega
   have hml:m<=ps.length:=by omega
   have Zh:¬ cap=m:=by omega
   go_wp2_with fail;obtain ⟨cur,h1,h2,h3,h4⟩:=yG.o.ex;obtain ⟨yO,eY,hs2,hc2⟩:=j6 zs (m*3) wr cur h1 (by rw [HZl.o,h2];omega);refine bodyPost_ret (v:=.slice (some ⟨g,0,none⟩) m cap) (by simp [results,results212,go_sem]) rfl ?_;rw [<-Hv.o,<-HM'.o];refine ⟨rfl,⟨by rw [jw,HM'.o],.inr ⟨g,cap,yO,rfl,aT _,eY,hmc,by unfold maxLen;omega,by rw [hs2,h2],?_⟩⟩,jX _ _ _ yG.o.grown⟩;apply List.ext_getElem?;intro t;rcases aG t (m*3) with ht|ht
   ·rw [bW ht,cC,hc2,if_neg (by omega),h3 t (by rw [<-HM'.o];exact ht)]
   ·rw [bI (by simp;omega),bI (by rw [jw,<-HM'.o];exact ht)]
end Nt
namespace Nt
open Go.RowKit
attribute [local go_sem] dO dL dQ dM
theorem DX (q:Nat) (who:Int) (v:Value) (ps:List Pk) (w:World) (hrow:w.ownsRow 0 146 3 v ps.length (pcs ps)) (hqv:v.ownBlock≠some q) (hq:w.cell? ⟨q,0,none⟩=some (.int .i64 who)) (hm:ps.length<=1000000):
  Calls prog 212 #[v,.func (.func 213) #[] #[.pointer (some ⟨q,0,none⟩)]] w fun e w'=>
   ∃A' c',e=.returned (.slice A' (fo who ps).length c')/\w'.ownsRow 0 146 3 (.slice A' (fo who ps).length c') (fo who ps).length (pcs (fo who ps))/\w.grownBy w' v.ownBlock/\(Value.slice A' (fo who ps).length c').ownBlock=v.ownBlock:=by
 by_cases hf:jO who ps= -1
 ·refine (B6 q who v ps w hrow hq hm hf).mono ?_
  rintro e w' ⟨rfl,hb⟩;rw [Fp hf];have h2:=mE hrow hb;obtain ⟨A,c,rfl⟩:=kJ hrow;exact ⟨A,c,rfl,h2,eo hb _,rfl⟩
 ·obtain ⟨i,hi,_⟩:=wS hf
  obtain ⟨g,cap,rfl,_⟩:=Fo hrow hi;refine (B7 q who g cap ps w hrow (fun e=>hqv (by rw [e];rfl)) hq hm hf).mono ?_;rintro e w' ⟨rfl,ho,hg⟩;exact ⟨_,cap,rfl,ho,hg,rfl⟩
theorem cut_any (gN:Nat) (d s:Int) (v:Value) (ps:List Pk) (who:Int) (w:World) (hN:NetI w gN d s v ps) (hm:ps.length<=1000000):
  Calls prog 135 #[.pointer (some ⟨gN,0,none⟩),.int .i64 who] w fun e w'=>∃v',e=.returned (.int .i64 ((ps.length:Int) - ((fo who ps).length:Nat)))/\NetI w' gN d s v' (fo who ps)/\dY (NS gN v) w w'/\v'.ownBlock=v.ownBlock:=by
 have pS:=hN.lt;have dR:=dD w (.cells #[.int .i64 who] 3);have hN1:=hN.below dR;have hq:(w.alloc (.cells #[.int .i64 who] 3)).cell? ⟨w.heap.size,0,none⟩=some (.int .i64 who):=(Blk.new w 3 #[.int .i64 who]).cell 0;have hvq:v.ownBlock≠some w.heap.size:=fun h=>by have:=own_lt hN.own h;omega
 have hD:=DX w.heap.size who v ps _ hN1.own hvq hq hm;have hc1:=hN1.c1;obtain ⟨A,c,hv⟩:=hN.slice;have hkl:(fo who ps).length<=ps.length:=List.length_filter_le _ _;have HD:=dH hD;have Dm:=dH hN1;have eH:=dH dR;have HV:=dH hv;rw [hv] at hc1;have Ug:∀(fn:Fn) (first cap:Array Value) (w:World),(Instr.makeFunc fn first cap).run prog w=.ok (.func fn first cap) w:=fun _ _ _ _=>rfl
 clear hD hN hN1 dR hv hq hvq;go_enter func135,ntmps135;go_wp2_with fail;rw [<-HV.o];refine HD.o.mono ?_;rintro e w2 ⟨A',c',rfl,Bi,hg2,Bf⟩;have IE:=Blk.grown Dm.o.blk hg2 (fun h=>Dm.o.far h.symm);have hc2:w2.cell? ⟨gN,1,none⟩=some v:=IE.cell 1;have G6:=IE.frozen 1;generalize hkk:(fo who ps).length=m at*;have IF:=Blk.set_ IE 1 (.slice A' m c');have zf:=rq (w':=w2.setCell ⟨gN,1,none⟩ (.slice A' m c')) Bi (de (eX (fun i=>i=gN) w2) _ _ (fun _=>rfl)) (fun g' h hh=>by rw [Bf] at h;exact Dm.o.far (by rw [h,hh]));have zY:NetI (w2.setCell ⟨gN,1,none⟩ (.slice A' m c')) gN d s (.slice A' m c') (fo who ps):=⟨IF,by rw [hkk];exact zf,by rw [Bf];exact Dm.o.far⟩;have hc3:=zY.c1;have lM:=de (eB (eR (S:=NS gN v) eH.o) (ep (S:=NS gN v) hg2 (fun i h=>Or.inr h)) (fun _ _ h=>h)) ⟨gN,1,none⟩ (.slice A' m c') (fun _=>Or.inl rfl);have Vh:=dH zY;have lJ:=dH lM;have HO:=dH Bf;clear zY lM Bf zf IF IE Bi hg2;go_wp2_with fail;go_ret;exact ⟨_,by rw [hkk];rfl,Vh.o,lJ.o,HO.o⟩
end Nt
end Go.Proofs.YtgdaahffmcfhpaaGreatDoor
