/- Lemmas on the way: Names Na Nb Nc. -/
import Derived.Test.YtgdaahffmcfhpaaGreatDoorT04
import Derived.Test.YtgdaahffmcfhpaaGreatDoorT00
set_option maxRecDepth 100000
set_option maxHeartbeats 8000000
namespace Go.Proofs.YtgdaahffmcfhpaaGreatDoor
open Tryz
section
abbrev By:=List UInt8
def zz (c:UInt8):Bool:=decide (32<=c.toNat) && decide (c.toNat<=126) && !decide (c.toNat=47)
def rightN (s:By):Bool:=decide (0 < s.length) && decide (s.length<=24) && !decide (s=[46]) && !decide (s=[46,46]) && !decide (s.head? =some 32) && !decide (s.getLast? =some 32) && s.all zz
def ig (s:By):Option Nat:=(s.reverse.findIdx? (fun c=>decide (c=46))).map fun k=>s.length - 1 - k
def gr (s:By):By:=match ig s with
 |some (k+1)=>s.drop (k+2)
 |_=>[]
def fm (n:Nat):By:=if n < 10 then [UInt8.ofNat (48+n)] else [UInt8.ofNat (48+n / 10),UInt8.ofNat (48+n % 10)]
def jD (s:By):Bool:=decide (0 < (gr s).length) && decide ((gr s).length<=7)
def lQ (s:By):By:=if jD s then s.take (s.length - ((gr s).length+1)) else s
def jm (s:By) (n:Nat):By:=126 :: fm n++(if jD s then 46 :: gr s else [])
def ez (s:By) (n:Nat):By:=(lQ s).take (24 - (jm s n).length)++jm s n
theorem ia (n:Nat):1<=(fm n).length/\(fm n).length<=2:=by
 unfold fm;split <;> simp
theorem LN {n m:Nat} (hn:n < 100) (hm:m < 100) (h:fm n=fm m):n=m:=by
 unfold fm at h;have h1:∀k,k < 10->(UInt8.ofNat (48+k)).toNat=48+k:=fun k hk=>by simp [UInt8.toNat_ofNat'];omega
 split at h <;> split at h
 ·simp only [List.cons.injEq,and_true] at h
  have:=congrArg UInt8.toNat h;rw [h1 n (by omega),h1 m (by omega)] at this;omega
 ·simp at h
 ·simp at h
 ·simp only [List.cons.injEq,and_true] at h
  have e1:=congrArg UInt8.toNat h.1;have e2:=congrArg UInt8.toNat h.2;rw [h1 (n / 10) (by omega),h1 (m / 10) (by omega)] at e1;rw [h1 (n % 10) (by omega),h1 (m % 10) (by omega)] at e2;omega
theorem uS (n:Nat) (hn:n < 100):∀c∈fm n,c≠126/\zz c=true/\c≠32:=by
 have:∀k,k < 100->∀c∈fm k,c≠126/\zz c=true/\c≠32:=by decide
 exact this n hn
theorem Ic {a b c d:By} (hc:∀x∈c,x≠126) (hd:∀x∈d,x≠126) (h:a++126 :: c=b++126 :: d):c=d:=by
 have h1:=congrArg List.reverse h;simp only [List.reverse_append,List.reverse_cons,bK] at h1;have key:∀(c d:By) (u v:By),(∀x∈c,x≠126)->(∀x∈d,x≠126)->c++([126]++u)=d++([126]++v)->c=d:=by
  intro c;induction c with
  |nil=>
   intro d u v _ hd h;cases d with
   |nil=>rfl
   |cons y d=>simp at h;exact absurd h.1.symm (hd y (by simp))
  |cons x c ih=>
   intro d u v hc hd h;cases d with
   |nil=>simp at h;exact absurd h.1 (hc x (by simp))
   |cons y d=>
    simp only [aq,List.cons.injEq] at h;rw [h.1,ih d u v (fun z hz=>hc z (by simp [hz])) (fun z hz=>hd z (by simp [hz])) h.2]
 have:=key c.reverse d.reverse _ _ (fun x hx=>hc x (by simpa using hx)) (fun x hx=>hd x (by simpa using hx)) h1;exact List.reverse_inj.1 this
theorem copy_inj {s:By} {n m:Nat} (hn:n < 100) (hm:m < 100) (h:ez s n=ez s m):n=m:=by
 unfold ez jm at h;have h2:(lQ s).take (24 - (126 :: fm n++if jD s then 46 :: gr s else []).length)++126 :: fm n=(lQ s).take (24 - (126 :: fm m++if jD s then 46 :: gr s else []).length)++126 :: fm m:=by
  have h3:∀a b e:By,a++e=b++e->a=b:=fun a b e=>List.append_cancel_right
  refine h3 _ _ (if jD s then 46 :: gr s else []) ?_;simpa [bK] using h
 exact LN hn hm (Ic (fun x hx=>(uS n hn x hx).1) (fun x hx=>(uS m hm x hx).1) h2)
theorem qa {s:By} {k:Nat} (h:ig s=some k):∃hk:k < s.length,s[k]=46:=by
 unfold ig at h;cases hf:s.reverse.findIdx? (fun c=>decide (c=46)) with
 |none=>rw [hf] at h;cases h
 |some j=>
  rw [hf] at h;simp only [bU,Option.some.injEq] at h;obtain ⟨hj,h1,_⟩:=bB.1 hf;simp only [List.length_reverse] at hj;refine ⟨by omega,?_⟩;have:=of_decide_eq_true h1;rw [List.getElem_reverse] at this;rw [<-this];congr 1;omega
theorem vK {s:By} (h:jD s=true):∃k,k+1 < s.length/\gr s=s.drop (k+2)/\(gr s).length=s.length - (k+2)/\k+2 < s.length:=by
 unfold jD at h;simp only [bL,decide_eq_true_eq] at h;unfold gr at h ⊢;cases hl:ig s with
 |none=>rw [hl] at h;simp at h
 |some k=>
  rw [hl] at h;cases k with
  |zero=>simp at h
  |succ k=>
   simp only [ax] at h ⊢;obtain ⟨hk,_⟩:=qa hl;exact ⟨k,hk,rfl,rfl,by omega⟩
theorem C7 {s:By} {n:Nat}:2<=(jm s n).length/\(jm s n).length<=11:=by
 unfold jm;have:=ia n;cases h:jD s with
 |false=>simp;omega
 |true=>
  have h2:=h;unfold jD at h2;simp only [bL,decide_eq_true_eq] at h2;simp;omega
theorem Ie {s:By} (hs:0 < s.length):0 < (lQ s).length/\(lQ s).head? =s.head?/\∀x∈lQ s,x∈s:=by
 unfold lQ;cases h:jD s with
 |false=>exact ⟨hs,rfl,fun x hx=>hx⟩
 |true=>
  obtain ⟨k,h1,h2,h3,h4⟩:=vK h;simp only [if_true];refine ⟨by rw [aX,h3];omega,?_,fun x hx=>cW hx⟩;rw [List.head?_take,if_neg (by rw [h3];omega)]
theorem fR {s:By}:rightN s=true↔0 < s.length/\s.length<=24/\s≠[46]/\s≠[46,46]/\s.head?≠some 32/\s.getLast?≠some 32/\∀c∈s,zz c=true:=by
 unfold rightN;simp only [bL,decide_eq_true_eq,Bool.not_eq_true',decide_eq_false_iff_not,List.all_eq_true];constructor
 ·rintro ⟨⟨⟨⟨⟨⟨a,b⟩,c⟩,d⟩,e⟩,f⟩,g⟩
  exact ⟨a,b,c,d,e,f,g⟩
 ·rintro ⟨a,b,c,d,e,f,g⟩
  exact ⟨⟨⟨⟨⟨⟨a,b⟩,c⟩,d⟩,e⟩,f⟩,g⟩
theorem Ec {s:By} (h:rightN s=true) {n:Nat} (hn:n < 100):rightN (ez s n)=true:=by
 obtain ⟨a,b,c,d,e,f,g⟩:=fR.1 h;obtain ⟨t1,t2⟩:=C7 (s:=s) (n:=n);obtain ⟨s1,s2,s3⟩:=Ie a;have hm:(126:UInt8)∈ez s n:=by unfold ez jm;simp
 have Yg:(ez s n).getLast? =(jm s n).getLast?:=by
  unfold ez;rw [List.getLast?_append];cases ht:(jm s n).getLast? with
  |none=>rw [List.getLast?_eq_none_iff] at ht;rw [ht] at t1;simp at t1
  |some x=>rfl
 refine fR.2 ⟨?_,?_,?_,?_,?_,?_,?_⟩
 ·unfold ez;rw [aO];omega
 ·unfold ez;rw [aO,aX];omega
 ·intro e;rw [e] at hm;simp at hm
 ·intro e;rw [e] at hm;simp at hm
 ·unfold ez
  have h1:((lQ s).take (24 - (jm s n).length)).head? =s.head?:=by rw [List.head?_take,if_neg (by omega),s2]
  rw [List.head?_append,h1];cases hh:s.head? with
  |none=>rw [List.head?_eq_none_iff] at hh;rw [hh] at a;simp at a
  |some x=>rw [hh] at e;simpa using e
 ·rw [Yg]
  unfold jm;cases hl:jD s with
  |false=>
   simp only [bR,if_false,bD];intro he;have h2:=ia n;cases hd:fm n with
   |nil=>rw [hd] at h2;simp at h2
   |cons y r=>
    rw [hd,List.getLast?_cons_cons] at he;have:=List.mem_of_getLast? he;rw [<-hd] at this;exact (uS n hn _ this).2.2 rfl
  |true=>
   obtain ⟨k,h1,h2,h3,h4⟩:=vK hl;simp only [if_true];rw [List.getLast?_append,h2];have:(46 :: s.drop (k+2)).getLast? =s.getLast?:=by
    rw [List.getLast?_cons,List.getLast?_drop,if_neg (by omega)];cases hq:s.getLast? with
    |none=>rw [List.getLast?_eq_none_iff] at hq;rw [hq] at a;simp at a
    |some x=>rfl
   rw [this];cases hq:s.getLast? with
   |none=>rw [List.getLast?_eq_none_iff] at hq;rw [hq] at a;simp at a
   |some x=>rw [hq] at f;simpa using f
 ·intro x hx
  unfold ez jm at hx;simp only [aj,aR] at hx;rcases hx with hx|hx|hx
  ·exact g _ (s3 _ (cW hx))
  ·rcases hx with rfl|hx
   ·decide
   ·exact (uS n hn _ hx).2.1
  ·cases hl:jD s with
   |false=>rw [hl] at hx;simp at hx
   |true=>
    obtain ⟨k,h1,h2,h3,h4⟩:=vK hl;rw [hl,h2] at hx;simp only [if_true,aR] at hx;rcases hx with rfl|hx
    ·decide
    ·exact g _ (cL hx)
def gV (there:List By) (s:By):Nat->Nat->Nat
 |0,n=>n
 |f+1,n=>if ez s n∈there then gV there s f (n+1) else n
structure Uq where
 there:List By
 first:List By
 o:List By
def pZ (u:Uq) (s:By):Uq:=
 if s∈u.first then ⟨ez s (gV u.there s 90 1) :: u.there,u.first,u.o++[ez s (gV u.there s 90 1)]⟩
 else ⟨u.there,s :: u.first,u.o++[s]⟩
def SI (l:List By):Uq:=l.foldl pZ ⟨l,[],[]⟩
def qb (l:List By):List By:=(SI l).o
theorem jJ {β:Type} [DecidableEq β]:∀{xs W:List β},xs.Nodup->(∀x∈xs,x∈W)->xs.length<=W.length
 | [],_,_,_=>aT _
 |x :: xs,W,hn,hs=>by
  have h1:=List.nodup_cons.1 hn;have hx:=hs x (by simp);have:=jJ (xs:=xs) (W:=W.erase x) h1.2 (fun y hy=>(List.mem_erase_of_ne (fun e=>h1.1 (by rw [<-e];exact hy))).2 (hs y (by simp [hy])));rw [List.length_erase_of_mem hx] at this;have:=List.length_pos_of_mem hx;simp only [aQ];omega
theorem vL (there:List By) (s:By):∀(f n k:Nat),k < f->ez s (n+k)∉there->ez s (gV there s f n)∉there/\n<=gV there s f n/\gV there s f n<=n+k/\∀j,n<=j->j < gV there s f n->ez s j∈there
 |0,n,k,h,_=>by omega
 |f+1,n,k,h,hk=>by
  unfold gV;by_cases c:ez s n∈there
  ·rw [if_pos c]
   cases k with
   |zero=>exact absurd c hk
   |succ k=>
    obtain ⟨h1,h2,h3,h4⟩:=vL there s f (n+1) k (by omega) (by rw [show n+1+k=n+(k+1) by omega];exact hk);refine ⟨h1,by omega,by omega,fun j hj hlt=>?_⟩;rcases aG n j with hg|hg
    ·exact h4 j hg hlt
    ·obtain rfl:j=n:=by omega
     exact c
  ·rw [if_neg c]
   exact ⟨c,aB _,by omega,fun j h1 h2=>by omega⟩
theorem Pu {there W:List By} (s:By) (hW:∀x∈there,x∈W) (hl:W.length<=80):ez s (gV there s 90 1)∉there/\1<=gV there s 90 1/\gV there s 90 1<=81/\∀j,1<=j->j < gV there s 90 1->ez s j∈there:=by
 have hex:∃k,k < 81/\ez s (1+k)∉there:=by
  refine Classical.byContradiction fun hno=>?_
  have hall:∀k,k < 81->ez s (1+k)∈there:=fun k hk=>Classical.byContradiction fun hc=>hno ⟨k,hk,hc⟩
  have hn:((List.range 81).map fun k=>ez s (1+k)).Nodup:=by
   rw [List.Nodup,cN];refine List.Pairwise.imp_of_mem (fun {a b} ha hb hab e=>?_) (List.nodup_range (n:=81));have:=copy_inj (by have:=List.mem_range.1 ha;omega) (by have:=List.mem_range.1 hb;omega) e;omega
  have:=jJ (W:=W) hn (fun x hx=>by
   obtain ⟨k,hk,rfl⟩:=aV.1 hx;exact hW _ (hall k (List.mem_range.1 hk)))
  simp at this;omega
 obtain ⟨k,hk,hc⟩:=hex;obtain ⟨h1,h2,h3,h4⟩:=vL there s 90 1 k (by omega) hc;exact ⟨h1,h2,by omega,h4⟩
structure lR (l done rest:List By) (u:Uq) (cs:List By):Prop where
 split:l=done++rest
 count:cs.length+u.first.length=done.length
 firsts:∀x,x∈u.first↔x∈done
 theres:∀x,x∈u.there↔x∈l\/x∈cs
 outs:∀x,x∈u.o↔x∈done\/x∈cs
 nodup:u.o.Nodup
 len:u.o.length=done.length
 right:(∀x∈l,rightN x=true)->∀x∈cs,rightN x=true
 apart:∀x∈cs,x∉l
theorem lR.wide {l done rest:List By} {u:Uq} {cs:List By} (h:lR l done rest u cs):∀x∈u.there,x∈cs++u.first++rest:=fun x hx=>by
 rcases (h.theres x).1 hx with h1|h1
 ·rw [h.split] at h1
  rcases aj.1 h1 with h2|h2
  ·exact cZ _ (List.mem_append_right _ ((h.firsts x).2 h2))
  ·exact List.mem_append_right _ h2
 ·exact cZ _ (cZ _ h1)
theorem lR.free {l done rest:List By} {u:Uq} {cs:List By} (h:lR l done rest u cs) (hl:l.length<=80) (s:By):ez s (gV u.there s 90 1)∉u.there/\1<=gV u.there s 90 1/\gV u.there s 90 1<=81/\∀j,1<=j->j < gV u.there s 90 1->ez s j∈u.there:=
 Pu s h.wide (by
  have h1:=h.count;have h2:=congrArg List.length h.split;simp only [aO] at h2 ⊢;omega)
theorem lR.step {l done rest:List By} {u:Uq} {cs:List By} {s:By} (h:lR l done (s :: rest) u cs) (hl:l.length<=80):∃cs',lR l (done++[s]) rest (pZ u s) cs':=by
 have Dh:s∈l:=by rw [h.split];simp
 unfold pZ;by_cases c:s∈u.first
 ·rw [if_pos c]
  obtain ⟨f1,f2,f3,_⟩:=h.free hl s;generalize hg:ez s (gV u.there s 90 1)=g at*;have hnl:g∉l:=fun hx=>f1 ((h.theres g).2 (.inl hx))
  have hnc:g∉cs:=fun hx=>f1 ((h.theres g).2 (.inr hx))
  refine ⟨g :: cs,⟨by rw [h.split];simp,by have:=h.count;simp;omega,fun x=>?_,fun x=>?_,fun x=>?_,?_,by have:=h.len;simp;omega,fun hr x hx=>?_,fun x hx=>?_⟩⟩
  ·rw [h.firsts x]
   have hd:=(h.firsts s).1 c;simp only [aj,aU];exact ⟨.inl,fun k=>k.elim _root_.id (fun e=>e ▸ hd)⟩
  ·simp only [aR]
   rw [h.theres x];constructor
   ·rintro (k|k|k)
    ·exact .inr (.inl k)
    ·exact .inl k
    ·exact .inr (.inr k)
   ·rintro (k|k|k)
    ·exact .inr (.inl k)
    ·exact .inl k
    ·exact .inr (.inr k)
  ·have hd:=(h.firsts s).1 c
   simp only [aj,aR,bJ,or_false];rw [h.outs x];constructor
   ·rintro ((k|k)|k)
    ·exact .inl (.inl k)
    ·exact .inr (.inr k)
    ·exact .inr (.inl k)
   ·rintro ((k|k)|(k|k))
    ·exact .inl (.inl k)
    ·exact .inl (.inl (k ▸ hd))
    ·exact .inr k
    ·exact .inl (.inr k)
  ·rw [cS]
   refine ⟨h.nodup,by simp,fun a ha b hb e=>?_⟩;rw [aU.1 hb] at e;subst e;rcases (h.outs a).1 ha with k|k
   ·exact hnl (by rw [h.split];exact cZ _ k)
   ·exact hnc k
  ·rcases aR.1 hx with rfl|hx
   ·rw [<-hg];exact Ec (hr s Dh) (by omega)
   ·exact h.right hr x hx
  ·rcases aR.1 hx with rfl|hx
   ·exact hnl
   ·exact h.apart x hx
 ·rw [if_neg c]
  refine ⟨cs,⟨by rw [h.split];simp,by have:=h.count;simp;omega,fun x=>?_,h.theres,fun x=>?_,?_,by have:=h.len;simp;omega,h.right,h.apart⟩⟩
  ·simp only [aR,aj,bJ,or_false]
   rw [h.firsts x];exact Or.comm
  ·simp only [aj,aU]
   rw [h.outs x];constructor
   ·rintro ((k|k)|k)
    ·exact .inl (.inl k)
    ·exact .inr k
    ·exact .inl (.inr k)
   ·rintro ((k|k)|k)
    ·exact .inl (.inl k)
    ·exact .inr k
    ·exact .inl (.inr k)
  ·rw [cS]
   refine ⟨h.nodup,by simp,fun a ha b hb e=>?_⟩;rw [aU.1 hb] at e;subst e;rcases (h.outs a).1 ha with k|k
   ·exact c ((h.firsts a).2 k)
   ·exact h.apart a k Dh
theorem lR.start (l:List By):lR l [] l ⟨l,[],[]⟩ []:=⟨rfl,rfl,fun x=>Iff.rfl,fun x=>by simp,fun x=>by simp,List.Pairwise.nil,rfl,fun _ x hx=>(by cases hx),fun x hx=>(by cases hx)⟩
theorem LO {l:List By} (hl:l.length<=80):∀(rest done:List By) (u:Uq) (cs:List By),lR l done rest u cs->∃cs',lR l l [] (rest.foldl pZ u) cs'
 | [],done,u,cs,h=>by
  have:=h.split;rw [bD] at this;subst this;exact ⟨cs,h⟩
 |s :: rest,done,u,cs,h=>by
  obtain ⟨cs',h'⟩:=h.step hl;exact LO hl rest _ _ cs' h'
theorem rY {l:List By} (hl:l.length<=80):(qb l).length=l.length/\(qb l).Nodup/\((∀x∈l,rightN x=true)->∀x∈qb l,rightN x=true):=by
 obtain ⟨cs,h⟩:=LO hl l [] _ [] (lR.start l);refine ⟨h.len,h.nodup,fun hr x hx=>?_⟩;rcases (h.outs x).1 hx with k|k
 ·exact hr x k
 ·exact h.right hr x k
end
section
open Go.RowKit
attribute [local go_sem] dO dL dQ dM
theorem oR (p:UInt8->Bool):∀l:By,(l.dropWhile p).length<=l.length
 | []=>aB _
 |x :: l=>by
  rw [List.dropWhile_cons];split
  ·have:=oR p l;simp only [aQ];omega
  ·exact aB _
theorem vM (c:UInt8) (l:By):l.dropWhile (· ==c)=l↔l.head?≠some c:=by
 cases l with
 |nil=>simp
 |cons x l=>
  rw [List.dropWhile_cons];by_cases h:x=c
  ·subst h
   have:=oR (· ==x) l;simp only [beq_self_eq_true,if_true,List.head?_cons,ne_eq,not_true,iff_false];intro e;have:=congrArg List.length e;simp only [aQ] at this;omega
  ·simp [h]
theorem GY (c:UInt8) (s:By):Lib.trimB s c=s↔s.head?≠some c/\s.getLast?≠some c:=by
 unfold Lib.trimB Lib.trimLeftB Lib.trimRightB;have h2:(s.reverse.dropWhile (· ==c)).reverse=s↔s.getLast?≠some c:=by
  rw [<-List.head?_reverse,<-vM c s.reverse];constructor
  ·intro e;have:=congrArg List.reverse e;rwa [List.reverse_reverse] at this
  ·intro e;rw [e];simp
 constructor
 ·intro e
  have l1:=oR (· ==c) (s.reverse.dropWhile (· ==c)).reverse;have l2:=oR (· ==c) s.reverse;rw [e] at l1;simp only [List.length_reverse] at l1 l2;have e2:s.reverse.dropWhile (· ==c)=s.reverse:=(List.dropWhile_suffix _).eq_of_length (by simp;omega);rw [e2,List.reverse_reverse] at e;exact ⟨(vM c s).1 e,h2.1 (by rw [e2];simp)⟩
 ·rintro ⟨a,b⟩
  rw [h2.2 b,(vM c s).2 a]
theorem LP (c:UInt8):zz c= !(decide (c.toNat < 32) || (decide (c.toNat > 126) || decide (c.toNat=47))):=by
 unfold zz;by_cases h1:32<=c.toNat <;> by_cases h2:c.toNat<=126 <;> by_cases h3:c.toNat=47 <;> simp [h1,h2,h3] <;> omega
def lV (s:By):Int:=if rightN s then 0 else 23
theorem ni {s:By} (h:rightN s=false):lV s=23:=by unfold lV;rw [h];rfl
theorem mA {s:By} (h:rightN s=true):lV s=0:=by unfold lV;rw [h];rfl
theorem oS (s:By) (hs:s.length<=9223372036854775807) (w:World):Calls prog 32 #[.string (bs s)] w (dJ w (.int .i64 (lV s))):=by
 by_cases h1:s=[]
 ·subst h1
  go_enter func32,ntmps32;go_wp2_with fail;go_ret;exact ⟨rfl,aC _ _⟩
 have e1:s.isEmpty=false:=by cases s <;> simp_all
 by_cases h2:s.length > 24
 ·have d2:decide ((s.length:Int) > 24)=true:=decide_eq_true (by omega)
  have hr:dG (lV s=23):=ni (by unfold rightN;simp;omega);clear h1;go_enter func32,ntmps32;go_wp2_with fail;go_ret;exact ⟨by rw [hr.o];rfl,aC _ _⟩
 by_cases h3:s=[46]
 ·subst h3
  go_enter func32,ntmps32;go_wp2_with fail;go_ret;exact ⟨rfl,aC _ _⟩
 by_cases h4:s=[46,46]
 ·subst h4
  go_enter func32,ntmps32;go_wp2_with fail;go_ret;exact ⟨rfl,aC _ _⟩
 have d2:decide ((s.length:Int) > 24)=false:=decide_eq_false (by omega);have e3:(s ==[46])=false:=by rw [beq_eq_false_iff_ne];exact h3
 have e4:(s ==[46,46])=false:=by rw [beq_eq_false_iff_ne];exact h4
 obtain ⟨t,ht⟩:=dB (Lib.trimB s 32);have hT:Calls prog 86 #[.string (bs s),.string ⟨#[32]⟩] w (dJ w (.string (bs t))):=by
  refine (strings_Trim_one (bs s) 32 (by decide) w (by rw [dO];exact hs)).mono ?_;rintro e w' ⟨rfl,hw⟩;refine ⟨by rw [iQ,<-ht];rfl,?_⟩;rcases hw with rfl|rfl
  ·exact aC _ _
  ·exact Below.drew (aC _ _)
 have H3:=dH h3;have H4:=dH h4;have H1:=dH h1;have HT:=dH hT;have H2:dG (s.length<=24):=by show _<=_;omega
 clear h1 h2 h3 h4 hT;by_cases h5:t=s
 ·have hh:dG (s.head?≠some 32/\s.getLast?≠some 32):=(GY 32 s).1 (by rw [<-ht];exact h5)
  have d5:(t ==s)=true:=by rw [h5];exact beq_self_eq_true s
  have HTs:=dH h5;clear h5 ht;go_enter func32,ntmps32;go_wp2_with fail;refine HT.o.mono ?_;rintro e w1 ⟨rfl,hb⟩;have HB:=dH hb;clear hb;go_wp2_with fail;go_loop [28] (fun i=>∃k:Nat,i=.int .i64 k/\k<=s.length/\dG ((s.take k).all zz=true)) (fun i=>s.length - (intOf i).toNat)
  case atStart=>exact ⟨0,rfl,aT _,rfl⟩
  case round=>
   obtain ⟨k,rfl,hk,HE⟩:=hrel;by_cases hlt:k < s.length
   ·have hz:(k:Int) < (s.length:Int):=by omega
    have hno:dG (zz (s[k]'hlt)=false->lV s=23):=fun ho=>ni (Bool.eq_false_iff.2 fun h=>by
     have:=(fR.1 h).2.2.2.2.2.2 _ (ag hlt);rw [ho] at this;cases this)
    have HO:=dH (LP (s[k]'hlt));by_cases a1:(s[k]'hlt).toNat < 32
    ·have hr:=dH (hno.o (by rw [HO.o];simp [a1]))
     clear hno HO;go_wp2_with fail;go_ret;exact ⟨by rw [hr.o];rfl,HB.o⟩
    by_cases a2:(s[k]'hlt).toNat > 126
    ·have hr:=dH (hno.o (by rw [HO.o];simp [a2]))
     clear hno HO;go_wp2_with fail;go_ret;exact ⟨by rw [hr.o];rfl,HB.o⟩
    by_cases a3:(s[k]'hlt).toNat=47
    ·have hr:=dH (hno.o (by rw [HO.o];simp [a3]))
     clear hno HO;go_wp2_with fail;go_ret;exact ⟨by rw [hr.o];rfl,HB.o⟩
    have hyes:dG (zz (s[k]'hlt)=true):=by show _=_;rw [HO.o];simp [a1,a2,a3]
    have RM:dG (s.take (k+1)=s.take k++[s[k]'hlt]):=bF hlt;have b3:(((s[k]'hlt).toNat:Int) ==47)=false:=by rw [beq_eq_false_iff_ne];omega
    clear hno HO;go_wp2_with fail;refine ⟨⟨k+1,by go_num,by omega,?_⟩,by simp [intOf];omega⟩;show _=_;rw [RM.o,List.all_append,HE.o];simp [hyes.o]
   ·obtain rfl:k=s.length:=by omega
    rw [bz] at HE;have hr:dG (lV s=0):=mA (fR.2 ⟨List.length_pos_iff.2 H1.o,H2.o,H3.o,H4.o,hh.o.1,hh.o.2,fun c hc=>List.all_eq_true.1 HE.o c hc⟩);go_wp2_with fail;go_ret;exact ⟨by rw [hr.o];rfl,HB.o⟩
 ·have d5:(t ==s)=false:=by rw [beq_eq_false_iff_ne];exact h5
  have hr:dG (lV s=23):=by
   refine ni (Bool.eq_false_iff.2 fun h=>?_);obtain ⟨_,_,_,_,a,b,_⟩:=fR.1 h;exact h5 (by rw [ht];exact (GY 32 s).2 ⟨a,b⟩)
  clear h5 ht;go_enter func32,ntmps32;go_wp2_with fail;refine HT.o.mono ?_;rintro e w1 ⟨rfl,hb⟩;have HB:=dH hb;clear hb;go_wp2_with fail;go_ret;exact ⟨by rw [hr.o];rfl,HB.o⟩
theorem A0 {s:By} (h:∀j (hj:j < s.length),s[j]≠46):ig s=none:=by
 unfold ig;rw [Option.map_eq_none_iff,bP];intro x hx;obtain ⟨j,hj,rfl⟩:=bY.1 (List.mem_reverse.1 hx);exact decide_eq_false (h j hj)
theorem Ed {s:By} {i:Nat} (hi:i < s.length) (h:s[i]=46) (ho:∀j,i < j->∀hj:j < s.length,s[j]≠46):ig s=some i:=by
 unfold ig;have:s.reverse.findIdx? (fun c=>decide (c=46))=some (s.length - 1 - i):=by
  rw [bB];refine ⟨by simp;omega,?_,fun j hj=>?_⟩
  ·rw [List.getElem_reverse]
   have e:s.length - 1 - (s.length - 1 - i)=i:=by omega
   simp only [e,h,decide_true]
  ·rw [List.getElem_reverse]
   have:=ho (s.length - 1 - j) (by omega) (by omega);simp [this]
 rw [this,bU];congr 1;omega
theorem C8 (s:By):(Lib.lastIndexByte (bs s) 46= -1/\ig s=none)\/∃i:Nat,Lib.lastIndexByte (bs s) 46=i/\ig s=some i/\i < s.length:=by
 have key:∀j (hj:j < s.length),((bs s).data[j]!)=s[j]:=fun j hj=>by
  have:j < (bs s).data.size:=by simpa [bs] using hj
  rw [getElem!_pos _ j this];rfl
 have hz:(bs s).size=s.length:=dO s;rcases Lib.lastIndexByte_spec (bs s) 46 with ⟨h1,h2⟩| ⟨i,h1,h2,h3,h4⟩
 ·refine .inl ⟨h1,A0 fun j hj e=>?_⟩
  have:=h2 j (by omega);rw [key j hj,e] at this;exact this rfl
 ·refine .inr ⟨i,h2,Ed (by omega) ?_ (fun j hj hlt e=>?_),by omega⟩
  ·rw [key i (by omega)] at h3
   exact UInt8.toNat.inj (by show _=46;omega)
  ·have:=h4 j hj (by omega)
   rw [key j hlt,e] at this;exact this rfl
theorem Pv (s:By) (hs:s.length < 4611686018427387904) (w:World):Calls prog 169 #[.string (bs s)] w fun e w'=>e=.returned (.string (bs (gr s)))/\w'=w:=by
 have hL:=strings_LastIndexByte (bs s) 46 (by rw [dO];exact hs) w;rcases C8 s with ⟨h1,h2⟩| ⟨i,h1,h2,h3⟩
 ·have he:dG (gr s=[]):=by show _=_;unfold gr;rw [h2]
  rw [h1] at hL;have HL:=dH hL;clear hL h1 h2;go_enter func169,ntmps169;go_wp2_with fail;refine HL.o.mono ?_;rintro e w1 ⟨rfl,rfl⟩;go_wp2_with fail;go_ret;exact ⟨by rw [he.o];rfl,rfl⟩
 ·rw [h1] at hL
  have HL:=dH hL;clear hL h1;by_cases h0:i=0
  ·subst h0
   have he:dG (gr s=[]):=by show _=_;unfold gr;rw [h2]
   clear h2;go_enter func169,ntmps169;go_wp2_with fail;refine HL.o.mono ?_;rintro e w1 ⟨rfl,rfl⟩;go_wp2_with fail;go_ret;exact ⟨by rw [he.o];rfl,rfl⟩
  ·have he:dG (gr s=s.drop (i+1)):=by
    show _=_;obtain ⟨k,rfl⟩:∃k,i=k+1:=⟨i - 1,by omega⟩;unfold gr;rw [h2]
   have hx:dG ((bs s).extract (i+1) s.length=bs (s.drop (i+1))):=by
    show _=_;rw [fV,az (by simp)]
   have hz:(i:Int) > 0:=by omega
   clear h2;go_enter func169,ntmps169;go_wp2_with fail;refine HL.o.mono ?_;rintro e w1 ⟨rfl,rfl⟩;go_wp2_with fail;go_ret;exact ⟨by rw [he.o,<-hx.o];rfl,rfl⟩
theorem LQ (n:Nat) (h:n < 100):Lib.decDigits n=fm n:=by
 unfold fm;rw [Lib.decDigits];by_cases c:n < 10
 ·rw [dif_pos c,if_pos c]
 ·rw [dif_neg c,if_neg c,Lib.decDigits,dif_pos (by omega)];rfl
theorem LR {s:By} (h:jD s=true):Lib.trimSuffix s (46 :: gr s)=lQ s:=by
 have h0:=h;obtain ⟨k,h1,h2,h3,h4⟩:=vK h;have hd:s[k+1]'h1=46:=by
  unfold jD gr at h;cases hl:ig s with
  |none=>rw [hl] at h;simp at h
  |some j=>
   rw [hl] at h;cases j with
   |zero=>simp at h
   |succ j=>
    obtain ⟨hj,hj2⟩:=qa hl;have:gr s=s.drop (j+2):=by unfold gr;rw [hl]
    have e:=congrArg List.length (h2.symm.trans this);simp only [ax] at e;have:j=k:=by omega
    subst this;exact hj2
 have hs:(46 :: gr s)=s.drop (k+1):=by rw [h2,List.drop_eq_getElem_cons h1,hd]
 have hp:Lib.hasSuffix s (46 :: gr s)=true:=by
  unfold Lib.hasSuffix;rw [List.isSuffixOf_iff_suffix,hs];exact List.drop_suffix _ _
 unfold Lib.trimSuffix lQ;rw [if_pos hp,if_pos h0,aQ]
theorem LU (s:By) (h:rightN s=true) (n:Nat) (h1:1<=n) (h2:n < 100) (w:World):Calls prog 154 #[.string (bs s),.int .i64 n] w (dJ w (.tuple #[.string (bs (ez s n)),.int .i64 0])):=by
 have hlen:s.length<=24:=(fR.1 h).2.1;have HR:=dH (oS s (by omega) w);rw [mA h] at HR;have HX:=fun w=>dH (Pv s (by omega) w)
 have HI:=fun w=>dH (strconv_Itoa_small n h2 w)
 rw [LQ n h2] at HI;obtain ⟨t1,t2⟩:=C7 (s:=s) (n:=n);obtain ⟨dl1,dl2⟩:=ia n;have hz1:decide ((n:Int) < 1)=false:=decide_eq_false (by omega);have hz2:decide ((n:Int) > 9999)=false:=decide_eq_false (by omega);obtain ⟨dg,XT⟩:=dB (fm n);rw [<-XT] at HI dl1 dl2;have HDG:dG (dg=fm n):=XT;have RN:∀w,dG (Calls prog 232 #[.int .i64 n] w fun e w'=>e=.returned (.string (bs dg))/\w'=w):=HI;clear HI;cases hle:jD s with
 |false=>
  have hst:lQ s=s:=by unfold lQ;rw [hle];rfl
  have htl:jm s n=126 :: fm n:=by unfold jm;rw [hle];simp
  obtain ⟨m,hm⟩:=dB (min s.length (24 - (dg.length+1)));have hmm:min (s.length:Int) (24 - ((dg.length:Int)+1))=(m:Int):=by omega
  have hm0:m<=s.length:=by omega
  have hc:dG (ez s n=s.take m++126 :: dg):=by
   show _=_;unfold ez;rw [hst,htl,<-XT,aQ,hm];congr 1;rcases Nat.le_total s.length (24 - (dg.length+1)) with k|k
   ·rw [Nat.min_eq_left k,az k,bz]
   ·rw [cT k]
  have eC:dG ((bs s).extract 0 (min (s.length:Int) (24 - (1+(dg.length:Int)))).toNat++((⟨#[126]⟩:ByteArray)++bs dg)=bs (ez s n)):=by
   show _=_;have e1:(min (s.length:Int) (24 - (1+(dg.length:Int)))).toNat=m:=by omega
   have e2:(⟨#[126]⟩:ByteArray)=bs [126]:=rfl;rw [hc.o,e1,e2,fV,dM,dM];rfl
  have HE:dG ((gr s).isEmpty=true\/(gr s).isEmpty=false/\decide (((gr s).length:Int)<=7)=false):=by
   show _\/_;cases hx:(gr s).isEmpty with
   |true=>exact .inl rfl
   |false=>
    refine .inr ⟨rfl,decide_eq_false fun hc=>?_⟩;have:0 < (gr s).length:=by cases hq:gr s with
     |nil=>rw [hq] at hx;cases hx
     |cons=>simp
    unfold jD at hle;simp only [Bool.and_eq_false_iff,decide_eq_false_iff_not] at hle;omega
  obtain ⟨x,hx⟩:=dB (gr s);rw [<-hx] at HE;simp only [<-hx] at HX;clear hle hst htl XT t1 t2 hx hm hc;have HXw:∀w,dG (Calls prog 169 #[.string (bs s)] w fun e w'=>e=.returned (.string (bs x))/\w'=w):=HX;clear HX;rcases HE.o with hE| ⟨hE1,hE2⟩
  all_goals
   clear HE;go_enter func154,ntmps154;go_wp2_with fail;refine HR.o.mono ?_;rintro e w1 ⟨rfl,hb⟩;have HB:=dH hb;clear hb;go_wp2_with fail;refine (RN _).o.mono ?_;rintro e w2 ⟨rfl,rfl⟩;go_wp2_with fail;refine (HXw _).o.mono ?_;rintro e w3 ⟨rfl,rfl⟩;go_wp2_with fail;go_ret2;exact ⟨by rw [<-eC.o];rfl,HB.o⟩
 |true=>
  obtain ⟨k,q1,q2,q3,q4⟩:=vK hle;have htr:=LR hle;have htl:jm s n=126 :: fm n++46 :: gr s:=by unfold jm;rw [hle];rfl
  have hx7:(gr s).length<=7:=by unfold jD at hle;simp at hle;omega
  have hx1:0 < (gr s).length:=by unfold jD at hle;simp at hle;omega
  obtain ⟨st,hst⟩:=dB (lQ s);have Dh:st.length<=s.length:=by rw [hst];unfold lQ;rw [hle];simp
  obtain ⟨x,hx⟩:=dB (gr s);rw [<-hx] at htr htl hx7 hx1;simp only [<-hx] at HX;rw [<-hst] at htr;have hxe:x.isEmpty=false:=by cases x with
   |nil=>simp at hx1
   |cons=>rfl
  obtain ⟨m,hm⟩:=dB (min st.length (24 - (dg.length+x.length+2)));have hmm:min (st.length:Int) (24 - (1+(dg.length:Int)+(1+(x.length:Int))))=(m:Int):=by omega
  have hm0:m<=st.length:=by omega
  have hc:dG (ez s n=st.take m++(126 :: dg++46 :: x)):=by
   show _=_;unfold ez;rw [htl,<-hst,<-XT,hm];congr 1;have e:(126 :: dg++46 :: x).length=dg.length+x.length+2:=by simp;omega
   rw [e];rcases Nat.le_total st.length (24 - (dg.length+x.length+2)) with k|k
   ·rw [Nat.min_eq_left k,az k,bz]
   ·rw [cT k]
  have eC:dG ((bs st).extract 0 m++(((⟨#[126]⟩:ByteArray)++bs dg)++((⟨#[46]⟩:ByteArray)++bs x))=bs (ez s n)):=by
   show _=_;have e2:(⟨#[126]⟩:ByteArray)=bs [126]:=rfl;have e3:(⟨#[46]⟩:ByteArray)=bs [46]:=rfl;rw [hc.o,e2,e3,fV,dM,dM,dM,dM];rfl
  have Jy:∀w,dG (Calls prog 233 #[.string (bs s),.string ((⟨#[46]⟩:ByteArray)++bs x)] w fun e w'=>e=.returned (.string (bs st))/\w'=w):=fun w=>by
   have e3:(⟨#[46]⟩:ByteArray)=bs [46]:=rfl;rw [e3,dM];have:=strings_TrimSuffix (bs s) (bs ([46]++x)) w (by rw [dO];omega);rw [iQ,iQ] at this;rw [show Lib.trimSuffix s ([46]++x)=st from htr] at this;exact this
  have acM:decide ((x.length:Int)<=7)=true:=decide_eq_true (by omega);clear hle htl hst XT t1 t2 hx hm hc q1 q2 q3 q4 htr;have HXw:∀w,dG (Calls prog 169 #[.string (bs s)] w fun e w'=>e=.returned (.string (bs x))/\w'=w):=HX;clear HX;go_enter func154,ntmps154;go_wp2_with fail;refine HR.o.mono ?_;rintro e w1 ⟨rfl,hb⟩;have HB:=dH hb;clear hb;go_wp2_with fail;refine (RN _).o.mono ?_;rintro e w2 ⟨rfl,rfl⟩;go_wp2_with fail;refine (HXw _).o.mono ?_;rintro e w3 ⟨rfl,rfl⟩;go_wp2_with fail;refine (Jy _).o.mono ?_;rintro e w4 ⟨rfl,rfl⟩;go_wp2_with fail;go_ret2;exact ⟨by rw [<-eC.o];rfl,HB.o⟩
end
end Go.Proofs.YtgdaahffmcfhpaaGreatDoor
