/- Lemmas on the way: Vs Vf. -/
import Derived.Sort.Walk0
import Derived.Test.YtgdaahffmcfhpaaGreatDoorO22
import Derived.Test.YtgdaahffmcfhpaaGreatDoorO23
set_option maxRecDepth 100000
set_option maxHeartbeats 8000000
namespace Go.Proofs.YtgdaahffmcfhpaaGreatDoor
open aA
open Tryz
section
open Go.RowKit Go.Sort
attribute [local go_sem] dR dO dS dP
theorem Ny (xs:List Nd) (A:Option Addr) (n c:Nat) (w0:World) (hx0:lu w0 A n c xs) (hl:xs.length<=80) (hr:∀x∈xs,rightN x.nm=true) (bn bm bo bd M B1:Nat):
  ∀(k dp:Nat),dp+k=16->∀(s:St) (ahead:By) (u:Value) (v:Vw) (w:World),ahead.length<=25*dp->VI w0 w bn bm bo bd M B1 (.slice A n c) u v->NP xs v->
  Calls prog 44 #[.agg #[s.1,s.2],ahead,dp,Qp bn,Qp bm,Qp bo,Qp bd] w (Nw xs w0 w bn bm bo bd M B1 (.slice A n c) u (jL xs k s ahead v)):=by
 intro k;induction k with
 |zero=>intro dp hk s ahead u v w ha hV hB;exact AT xs A n c w0 hx0 hl hr bn bm bo bd M B1 0 dp hk (λh=>absurd h (Nat.lt_irrefl 0)) s ahead u v w ha hV hB
 |succ k ih=>
  intro dp hk s ahead u v w ha hV hB;refine AT xs A n c w0 hx0 hl hr bn bm bo bd M B1 (k+1) dp hk (λ_ s ahead u v w ha hV hB=>?_) s ahead u v w ha hV hB;have:=ih (dp+1) (by omega) s ahead u v w ha hV hB;rw [show ((dp+1:Nat):Int)=(dp:Int)+1 by omega] at this;exact this
def zJ (a b:By):Int:=if a < b then -1 else if b < a then 1 else 0
def xI (x y:It):Int:=zJ x.path y.path
theorem xJ:ltOf xI=ql:=by
 funext x y;unfold ltOf xI zJ ql;by_cases h:x.path < y.path
 ·simp [h]
 ·by_cases h2:y.path < x.path <;> simp [h,h2]
theorem Ke:SWO (ltOf xI):=by rw [xJ];exact Fu
theorem Dp (s:By) (w:World):Calls prog 97 #[s] w λe w'=>e=.returned false/\w'=w:=by
 go_enter func97,ntmps97;go_wp2_with fail;go_ret;exact ⟨rfl,rfl⟩
theorem Dq (a b:By) (w:World):Calls prog 49 #[a,b] w λe w'=>e=.returned (.int .i64 (zJ a b))/\w'=w:=by
 have HA:=λw=>dL (Dp a w)
 have HB:=λw=>dL (Dp b w)
 have hA:∀w,dK (Calls prog 97 #[a] w λe w'=>e=.returned false/\w'=w):=HA;have hB:∀w,dK (Calls prog 97 #[b] w λe w'=>e=.returned false/\w'=w):=HB;clear HA HB;have e1:=bytesLess_eq a b;by_cases h:a < b
 ·have hc:dK (zJ a b= -1):=by show _=_;unfold zJ;rw [if_pos h]
  rw [decide_eq_true h] at e1;clear h;go_enter func49,ntmps49;go_wp2_with fail;refine (hA w).o.mono ?_;rintro e w1 ⟨rfl,rfl⟩;go_wp2_with fail;refine (hB w1).o.mono ?_;rintro e w2 ⟨rfl,rfl⟩;go_wp2_with fail;go_ret;exact ⟨by rw [hc.o];rfl,rfl⟩
 ·rw [decide_eq_false h] at e1
  by_cases h2:b < a
  ·have hc:dK (zJ a b=1):=by show _=_;unfold zJ;rw [if_neg h,if_pos h2]
   have he:(a ==b)=false:=by rw [beq_eq_false_iff_ne];rintro rfl;exact h h2
   clear h h2;go_enter func49,ntmps49;go_wp2_with fail;refine (hA w).o.mono ?_;rintro e w1 ⟨rfl,rfl⟩;go_wp2_with fail;refine (hB w1).o.mono ?_;rintro e w2 ⟨rfl,rfl⟩;go_wp2_with fail;go_ret;exact ⟨by rw [hc.o];rfl,rfl⟩
  ·have hc:dK (zJ a b=0):=by show _=_;unfold zJ;rw [if_neg h,if_neg h2]
   have he:(a ==b)=true:=by rw [beq_iff_eq];exact List.le_antisymm (List.not_lt.1 h2) (List.not_lt.1 h)
   clear h h2;go_enter func49,ntmps49;go_wp2_with fail;refine (hA w).o.mono ?_;rintro e w1 ⟨rfl,rfl⟩;go_wp2_with fail;refine (hB w1).o.mono ?_;rintro e w2 ⟨rfl,rfl⟩;go_wp2_with fail;go_ret;exact ⟨by rw [hc.o];rfl,rfl⟩
theorem Nz (x y:It) (w:World):Calls prog 48 #[.agg (ic x).toArray,.agg (ic y).toArray] w λe w'=>e=.returned (.int .i64 (xI x y))/\∃q os,w'=grow (w.drewN q) os:=by
 have HC:=dL (Dq x.path y.path ((w.alloc (.cells (ic x).toArray 44)).alloc (.cells (ic y).toArray 44)));have HE:dK (xI x y=zJ x.path y.path):=rfl;obtain ⟨w1,hw1⟩:=dG ((w.alloc (.cells (ic x).toArray 44)).alloc (.cells (ic y).toArray 44));have b1:(w.alloc (.cells (ic x).toArray 44)).heap.size=w.heap.size+1:=ai _;have c1:=(Blk.alloc (Blk.new w 44 (ic x).toArray) (.cells (ic y).toArray 44)).cell 0;have c2:=(Blk.new (w.alloc (.cells (ic x).toArray 44)) 44 (ic y).toArray).cell 0;rw [b1] at c2;have hg:dK (∃q os,w1=grow (w.drewN q) os):=⟨0,_,by rw [hw1,alloc_eq_grow,alloc_eq_grow,grow_grow];rfl⟩;unfold ic at c1 c2 HC hw1 ⊢;simp only [aO,aT] at c1 c2;rw [<-hw1] at HC;have HW:=dL hw1;clear hw1 b1;go_enter func48,ntmps48;go_wp2_with fail;rw [<-HW.o];refine HC.o.mono ?_;rintro e w2 ⟨rfl,rfl⟩;go_wp2_with fail;go_ret;exact ⟨by rw [HE.o];rfl,hg.o⟩
theorem O0 (g size:Nat) (w:World):CmpLays prog 48 #[] ic 6 xI g 0 size w:=λ_ _ _ _ x y=>Nz x y _
theorem WI (l:List It) (k j:Nat) (hk:k < l.length) (hj:j < 6):(FP l)[k*6+j]? =(ic l[k])[j]?:=by
 induction l generalizing k with
 |nil=>simp at hk
 |cons x l ih=>
  cases k with
  |zero=>
   simp only [FP,aj];rw [bY (by simp [ic];omega)];simp
  |succ k=>
   have:=ih k (by simpa using hk);simp only [FP,aj] at this ⊢;rw [bt (by simp [ic];omega)];rw [show (k+1)*6+j - (ic x).length=k*6+j from by simp [ic];omega,this];simp
theorem SM (d:Array It) (t:Nat) (h:t < d.size*6):(flatK ic 6 d)[t]! =(FP d.toList)[t]!:=by
 rw [get_flatK _ _ _ _ h];have hd:t / 6 < d.toList.length:=by simp;omega
 have e:=WI d.toList (t / 6) (t % 6) hd (by omega);rw [show t / 6*6+t % 6=t by omega] at e;rw [List.getElem!_eq_getElem?_getD (l:=FP d.toList),e,List.getElem!_eq_getElem?_getD,getElem!_pos d (t / 6) (by omega)];simp
theorem AX {w:World} {B g cap:Nat} {xs:List It} (h:dQ w B 6 (.slice (some g) xs.length cap) xs.length (FP xs)):HoldsK ic 6 w g 0 xs.toArray:=by
 intro j hj;rw [size_flatK] at hj;rw [SM _ _ hj];have hl:j < (FP xs).length:=by rw [Rw];simpa using hj
 rcases h.2 with ⟨e,_⟩| ⟨g',cap',e,_,_,hnc,_,_,hf,hx⟩
 ·cases e
 ·cases e
  rw [aV];refine ⟨?_,hf j (by simp at hj;omega)⟩;rw [hx j _ (bh hl)];simp [hl]
theorem Kf {w W:World} {g:Nat} {d:Array It} (h:SWK ic 6 w g 0 d W):w.grownBy W (some g):=by
 obtain ⟨n,os,rfl⟩:=h;unfold sortWorldK putRowK;refine ⟨rfl,rfl,rfl,by simp [size_grow,putRow,mapBlock],λk hk hne=>?_⟩;unfold grow putRow mapBlock Go.Sort.ahead;rw [Array.getElem?_append_left (by simpa using hk)];simp only [cK];rw [if_neg (λe=>hne (by rw [e]))]
theorem O1:∀args w,(callFunc 48 args).run prog w=.ok (.enter 48 args) w:=enters_of func48 (by decide) rfl
theorem Kg (B g cap:Nat) (out:List It) (w:World) (ho:dQ w B 6 (.slice (some g) out.length cap) out.length (FP out)) (hl:out.length<=1000):
  Calls prog 47 #[Qs g out.length cap,.func (.func 48) #[] #[]] w λe w'=>e=.returned (.tuple #[])/\SWK ic 6 w g 0 (qI ql out.toArray) w':=by
 have hH:=AX ho;have hg:g < w.heap.size:=(ho.ge g (by simp [Value.ownBlock])).2;have hc:=Dn Ka insR ic xI 48 #[] g 0 cap out.length out.toArray w (O0 g _ w) O1 ⟨λx=>by simp [ic],λx=>NO x,hH,hg⟩ (by simp) (SWK.start hH) Ke (by omega);rw [xJ] at hc;have HC:=dL hc;clear hc hH ho hl hg;go_enter func47,ntmps47;go_wp2_with fail;refine HC.o.mono ?_;rintro e w2 ⟨rfl,hs⟩;go_wp2_with fail;go_end0;exact ⟨rfl,hs⟩
theorem Kh (w:World):Calls prog 47 #[(),.func (.func 48) #[] #[]] w λe w'=>e=.returned (.tuple #[])/\w'=w:=by
 have HI:=dL (AnyF.insertionSortCmpFunc_none insR none 0 (.func (.func 48) #[] #[]) w);have h96:Calls prog 96 #[(),qn,.func (.func 48) #[] #[]] w λe w'=>e=.returned (.tuple #[])/\w'=w:=by
  go_enter func96,ntmps96;go_wp2_with fail;go_loopw [7,8] (λa b wr=>a=.int .i64 0/\b=.int .i64 20/\wr=w) (λ_ _ _=>0)
  case atStart=>exact ⟨rfl,rfl,rfl⟩
  case round=>
   obtain ⟨rfl,rfl,rfl⟩:=hrel;go_wp2_with fail;refine HI.o.mono ?_;rintro e w2 ⟨rfl,rfl⟩;go_wp2_with fail;go_loopw [6,7,8,9] (λa _ _ _ wr=>a=.int .i64 20/\wr=w2) (λ_ _ _ _ _=>0)
   case atStart=>exact ⟨rfl,rfl⟩
   case round=>
    obtain ⟨rfl,rfl⟩:=hrel;go_wp2_with fail;go_end0;exact ⟨rfl,rfl⟩
 have H9:=dL h96;clear h96 HI;go_enter func47,ntmps47;go_wp2_with fail;refine H9.o.mono ?_;rintro e w2 ⟨rfl,rfl⟩;go_wp2_with fail;go_end0;exact ⟨rfl,rfl⟩
end
end Go.Proofs.YtgdaahffmcfhpaaGreatDoor
