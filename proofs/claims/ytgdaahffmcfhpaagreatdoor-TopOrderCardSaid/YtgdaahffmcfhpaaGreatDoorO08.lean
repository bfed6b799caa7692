/- Lemmas on the way: Names Na Nb Nc. -/
import Derived.Test.YtgdaahffmcfhpaaGreatDoorO04
set_option maxRecDepth 100000
set_option maxHeartbeats 8000000
namespace Go.Proofs.YtgdaahffmcfhpaaGreatDoor
open aA
open Tryz
section
abbrev By:=List UInt8
def BN (c:UInt8):Bool:=decide (32<=c.toNat) && decide (c.toNat<=126) && !decide (c.toNat=47)
def rightN (s:By):Bool:=decide (0 < s.length) && decide (s.length<=24) && !decide (s=[46]) && !decide (s=[46,46]) && !decide (s.head? =some 32) && !decide (s.getLast? =some 32) && s.all BN
def jK (s:By):Option Nat:=(s.reverse.findIdx? (λc=>decide (c=46))).map λk=>s.length - 1 - k
def gu (s:By):By:=match jK s with
 |some (k+1)=>s.drop (k+2)
 |_=>[]
def gB (n:Nat):By:=if n < 10 then [UInt8.ofNat (48+n)] else [UInt8.ofNat (48+n / 10),UInt8.ofNat (48+n % 10)]
def jY (s:By):Bool:=decide (0 < (gu s).length) && decide ((gu s).length<=7)
def mC (s:By):By:=if jY s then s.take (s.length - ((gu s).length+1)) else s
def kM (s:By) (n:Nat):By:=126 :: gB n++(if jY s then 46 :: gu s else [])
def fF (s:By) (n:Nat):By:=(mC s).take (24 - (kM s n).length)++kM s n
theorem jI (n:Nat):1<=(gB n).length/\(gB n).length<=2:=by
 unfold gB;split <;> simp
variable {n m k:Nat}
theorem NG (hn:n < 100) (hm:m < 100) (h:gB n=gB m):n=m:=by
 unfold gB at h;have h1:∀k,k < 10->(UInt8.ofNat (48+k)).toNat=48+k:=λk hk=>by simp [UInt8.toNat_ofNat'];omega
 split at h <;> split at h
 ·simp only [List.cons.injEq,and_true] at h
  have:=congrArg UInt8.toNat h;rw [h1 n (by omega),h1 m (by omega)] at this;omega
 ·simp at h
 ·simp at h
 ·simp only [List.cons.injEq,and_true] at h
  have e1:=congrArg UInt8.toNat h.1;have e2:=congrArg UInt8.toNat h.2;rw [h1 (n / 10) (by omega),h1 (m / 10) (by omega)] at e1;rw [h1 (n % 10) (by omega),h1 (m % 10) (by omega)] at e2;omega
theorem va (n:Nat) (hn:n < 100):∀c∈gB n,c≠126/\BN c=true/\c≠32:=by
 have:∀k,k < 100->∀c∈gB k,c≠126/\BN c=true/\c≠32:=by decide
 exact this n hn
theorem K7 {a b c d:By} (hc:∀x∈c,x≠126) (hd:∀x∈d,x≠126) (h:a++126 :: c=b++126 :: d):c=d:=by
 have h1:=congrArg List.reverse h;simp only [List.reverse_append,List.reverse_cons,bx] at h1;have key:∀(c d:By) (u v:By),(∀x∈c,x≠126)->(∀x∈d,x≠126)->c++([126]++u)=d++([126]++v)->c=d:=by
  intro c;induction c with
  |nil=>
   intro d u v _ hd h;cases d with
   |nil=>rfl
   |cons y d=>simp at h;exact absurd h.1.symm (hd y (by simp))
  |cons x c ih=>
   intro d u v hc hd h;cases d with
   |nil=>simp at h;exact absurd h.1 (hc x (by simp))
   |cons y d=>
    simp only [bC,List.cons.injEq] at h;rw [h.1,ih d u v (λz hz=>hc z (by simp [hz])) (λz hz=>hd z (by simp [hz])) h.2]
 have:=key c.reverse d.reverse _ _ (λx hx=>hc x (by simpa using hx)) (λx hx=>hd x (by simpa using hx)) h1;exact List.reverse_inj.1 this
variable {s:By}
theorem copy_inj (hn:n < 100) (hm:m < 100) (h:fF s n=fF s m):n=m:=by
 unfold fF kM at h;have h2:(mC s).take (24 - (126 :: gB n++if jY s then 46 :: gu s else []).length)++126 :: gB n=(mC s).take (24 - (126 :: gB m++if jY s then 46 :: gu s else []).length)++126 :: gB m:=by
  have h3:∀a b e:By,a++e=b++e->a=b:=λa b e=>List.append_cancel_right
  refine h3 _ _ (if jY s then 46 :: gu s else []) ?_;simpa [bx] using h
 exact NG hn hm (K7 (λx hx=>(va n hn x hx).1) (λx hx=>(va m hm x hx).1) h2)
theorem rP (h:jK s=some k):∃hk:k < s.length,s[k]=46:=by
 unfold jK at h;cases hf:s.reverse.findIdx? (λc=>decide (c=46)) with
 |none=>rw [hf] at h;cases h
 |some j=>
  rw [hf] at h;simp only [bI,Option.some.injEq] at h;obtain ⟨hj,h1,_⟩:=au.1 hf;simp only [List.length_reverse] at hj;refine ⟨by omega,?_⟩;have:=of_decide_eq_true h1;rw [List.getElem_reverse] at this;rw [<-this];congr 1;omega
theorem wS (h:jY s=true):∃k,k+1 < s.length/\gu s=s.drop (k+2)/\(gu s).length=s.length - (k+2)/\k+2 < s.length:=by
 unfold jY at h;simp only [cO,decide_eq_true_eq] at h;unfold gu at h ⊢;cases hl:jK s with
 |none=>rw [hl] at h;simp at h
 |some k=>
  rw [hl] at h;cases k with
  |zero=>simp at h
  |succ k=>
   simp only [ah] at h ⊢;obtain ⟨hk,_⟩:=rP hl;exact ⟨k,hk,rfl,rfl,by omega⟩
theorem DH:2<=(kM s n).length/\(kM s n).length<=11:=by
 unfold kM;have:=jI n;cases h:jY s with
 |false=>simp;omega
 |true=>
  have h2:=h;unfold jY at h2;simp only [cO,decide_eq_true_eq] at h2;simp;omega
theorem K8 (hs:0 < s.length):0 < (mC s).length/\(mC s).head? =s.head?/\∀x∈mC s,x∈s:=by
 unfold mC;cases h:jY s with
 |false=>exact ⟨hs,rfl,λx hx=>hx⟩
 |true=>
  obtain ⟨k,h1,h2,h3,h4⟩:=wS h;simp only [if_true];refine ⟨by rw [aR,h3];omega,?_,λx hx=>cS hx⟩;rw [List.head?_take,if_neg (by rw [h3];omega)]
theorem fe:rightN s=true↔0 < s.length/\s.length<=24/\s≠[46]/\s≠[46,46]/\s.head?≠some 32/\s.getLast?≠some 32/\∀c∈s,BN c=true:=by
 unfold rightN;simp only [cO,decide_eq_true_eq,Bool.not_eq_true',decide_eq_false_iff_not,List.all_eq_true];constructor
 ·rintro ⟨⟨⟨⟨⟨⟨a,b⟩,c⟩,d⟩,e⟩,f⟩,g⟩
  exact ⟨a,b,c,d,e,f,g⟩
 ·rintro ⟨a,b,c,d,e,f,g⟩
  exact ⟨⟨⟨⟨⟨⟨a,b⟩,c⟩,d⟩,e⟩,f⟩,g⟩
theorem Fo (h:rightN s=true) (hn:n < 100):rightN (fF s n)=true:=by
 obtain ⟨a,b,c,d,e,f,g⟩:=fe.1 h;obtain ⟨t1,t2⟩:=DH (s:=s) (n:=n);obtain ⟨s1,s2,s3⟩:=K8 a;have hm:(126:UInt8)∈fF s n:=by unfold fF kM;simp
 have abp:(fF s n).getLast? =(kM s n).getLast?:=by
  unfold fF;rw [List.getLast?_append];cases ht:(kM s n).getLast? with
  |none=>rw [List.getLast?_eq_none_iff] at ht;rw [ht] at t1;simp at t1
  |some x=>rfl
 refine fe.2 ⟨?_,?_,?_,?_,?_,?_,?_⟩
 ·unfold fF;rw [aP];omega
 ·unfold fF;rw [aP,aR];omega
 ·intro e;rw [e] at hm;simp at hm
 ·intro e;rw [e] at hm;simp at hm
 ·unfold fF
  have h1:((mC s).take (24 - (kM s n).length)).head? =s.head?:=by rw [List.head?_take,if_neg (by omega),s2]
  rw [List.head?_append,h1];cases hh:s.head? with
  |none=>rw [List.head?_eq_none_iff] at hh;rw [hh] at a;simp at a
  |some x=>rw [hh] at e;simpa using e
 ·rw [abp]
  unfold kM;cases hl:jY s with
  |false=>
   simp only [bp,if_false,bG];intro he;have h2:=jI n;cases hd:gB n with
   |nil=>rw [hd] at h2;simp at h2
   |cons y r=>
    rw [hd,List.getLast?_cons_cons] at he;have:=List.mem_of_getLast? he;rw [<-hd] at this;exact (va n hn _ this).2.2 rfl
  |true=>
   obtain ⟨k,h1,h2,h3,h4⟩:=wS hl;simp only [if_true];rw [List.getLast?_append,h2];have:(46 :: s.drop (k+2)).getLast? =s.getLast?:=by
    rw [List.getLast?_cons,List.getLast?_drop,if_neg (by omega)];cases hq:s.getLast? with
    |none=>rw [List.getLast?_eq_none_iff] at hq;rw [hq] at a;simp at a
    |some x=>rfl
   rw [this];cases hq:s.getLast? with
   |none=>rw [List.getLast?_eq_none_iff] at hq;rw [hq] at a;simp at a
   |some x=>rw [hq] at f;simpa using f
 ·intro x hx
  unfold fF kM at hx;simp only [aq,aQ] at hx;rcases hx with hx|hx|hx
  ·exact g _ (s3 _ (cS hx))
  ·rcases hx with rfl|hx
   ·decide
   ·exact (va n hn _ hx).2.1
  ·cases hl:jY s with
   |false=>rw [hl] at hx;simp at hx
   |true=>
    obtain ⟨k,h1,h2,h3,h4⟩:=wS hl;rw [hl,h2] at hx;simp only [if_true,aQ] at hx;rcases hx with rfl|hx
    ·decide
    ·exact g _ (cH hx)
def iF (there:List By) (s:By):Nat->Nat->Nat
 |0,n=>n
 |f+1,n=>if fF s n∈there then iF there s f (n+1) else n
structure Uq where
 there:List By
 first:List By
 o:List By
def qh (u:Uq) (s:By):Uq:=
 if s∈u.first then ⟨fF s (iF u.there s 90 1) :: u.there,u.first,u.o++[fF s (iF u.there s 90 1)]⟩
 else ⟨u.there,s :: u.first,u.o++[s]⟩
def Un (l:List By):Uq:=l.foldl qh ⟨l,[],[]⟩
def rQ (l:List By):List By:=(Un l).o
theorem iN {β:Type} [DecidableEq β]:∀{xs W:List β},xs.Nodup->(∀x∈xs,x∈W)->xs.length<=W.length
 | [],_,_,_=>aS _
 |x :: xs,W,hn,hs=>by
  have h1:=List.nodup_cons.1 hn;have hx:=hs x (by simp);have:=iN (xs:=xs) (W:=W.erase x) h1.2 (λy hy=>(List.mem_erase_of_ne (λe=>h1.1 (by rw [<-e];exact hy))).2 (hs y (by simp [hy])));rw [List.length_erase_of_mem hx] at this;have:=List.length_pos_of_mem hx;simp only [aY];omega
theorem wT (there:List By) (s:By):∀(f n k:Nat),k < f->fF s (n+k)∉there->fF s (iF there s f n)∉there/\n<=iF there s f n/\iF there s f n<=n+k/\∀j,n<=j->j < iF there s f n->fF s j∈there
 |0,n,k,h,_=>by omega
 |f+1,n,k,h,hk=>by
  unfold iF;by_cases c:fF s n∈there
  ·rw [if_pos c]
   cases k with
   |zero=>exact absurd c hk
   |succ k=>
    obtain ⟨h1,h2,h3,h4⟩:=wT there s f (n+1) k (by omega) (by rw [show n+1+k=n+(k+1) by omega];exact hk);refine ⟨h1,by omega,by omega,λj hj hlt=>?_⟩;rcases aD n j with hg|hg
    ·exact h4 j hg hlt
    ·obtain rfl:j=n:=by omega
     exact c
  ·rw [if_neg c]
   exact ⟨c,aB _,by omega,λj h1 h2=>by omega⟩
theorem Rp {there W:List By} (s:By) (hW:∀x∈there,x∈W) (hl:W.length<=80):fF s (iF there s 90 1)∉there/\1<=iF there s 90 1/\iF there s 90 1<=81/\∀j,1<=j->j < iF there s 90 1->fF s j∈there:=by
 have hex:∃k,k < 81/\fF s (1+k)∉there:=by
  refine Classical.byContradiction λhno=>?_
  have hall:∀k,k < 81->fF s (1+k)∈there:=λk hk=>Classical.byContradiction λhc=>hno ⟨k,hk,hc⟩
  have hn:((List.range 81).map λk=>fF s (1+k)).Nodup:=by
   rw [List.Nodup,cV];refine List.Pairwise.imp_of_mem (fun {a b} ha hb hab e=>?_) (List.nodup_range (n:=81));have:=copy_inj (by have:=List.mem_range.1 ha;omega) (by have:=List.mem_range.1 hb;omega) e;omega
  have:=iN (W:=W) hn (λx hx=>by
   obtain ⟨k,hk,rfl⟩:=aU.1 hx;exact hW _ (hall k (List.mem_range.1 hk)))
  simp at this;omega
 obtain ⟨k,hk,hc⟩:=hex;obtain ⟨h1,h2,h3,h4⟩:=wT there s 90 1 k (by omega) hc;exact ⟨h1,h2,by omega,h4⟩
structure mD (l done rest:List By) (u:Uq) (cs:List By):Prop where
 split:l=done++rest
 count:cs.length+u.first.length=done.length
 firsts:∀x,x∈u.first↔x∈done
 theres:∀x,x∈u.there↔x∈l\/x∈cs
 outs:∀x,x∈u.o↔x∈done\/x∈cs
 nodup:u.o.Nodup
 len:u.o.length=done.length
 right:(∀x∈l,rightN x=true)->∀x∈cs,rightN x=true
 apart:∀x∈cs,x∉l
variable {u:Uq} {cs l done rest:List By}
theorem mD.wide (h:mD l done rest u cs):∀x∈u.there,x∈cs++u.first++rest:=λx hx=>by
 rcases (h.theres x).1 hx with h1|h1
 ·rw [h.split] at h1
  rcases aq.1 h1 with h2|h2
  ·exact cW _ (List.mem_append_right _ ((h.firsts x).2 h2))
  ·exact List.mem_append_right _ h2
 ·exact cW _ (cW _ h1)
theorem mD.free (h:mD l done rest u cs) (hl:l.length<=80) (s:By):fF s (iF u.there s 90 1)∉u.there/\1<=iF u.there s 90 1/\iF u.there s 90 1<=81/\∀j,1<=j->j < iF u.there s 90 1->fF s j∈u.there:=
 Rp s h.wide (by
  have h1:=h.count;have h2:=congrArg List.length h.split;simp only [aP] at h2 ⊢;omega)
theorem mD.step (h:mD l done (s :: rest) u cs) (hl:l.length<=80):∃cs',mD l (done++[s]) rest (qh u s) cs':=by
 have CP:s∈l:=by rw [h.split];simp
 unfold qh;by_cases c:s∈u.first
 ·rw [if_pos c]
  obtain ⟨f1,f2,f3,_⟩:=h.free hl s;generalize hg:fF s (iF u.there s 90 1)=g at*;have hnl:g∉l:=λhx=>f1 ((h.theres g).2 (.inl hx))
  have hnc:g∉cs:=λhx=>f1 ((h.theres g).2 (.inr hx))
  refine ⟨g :: cs,⟨by rw [h.split];simp,by have:=h.count;simp;omega,λx=>?_,λx=>?_,λx=>?_,?_,by have:=h.len;simp;omega,λhr x hx=>?_,λx hx=>?_⟩⟩
  ·rw [h.firsts x]
   have hd:=(h.firsts s).1 c;simp only [aq,aW];exact ⟨.inl,λk=>k.elim _root_.id (λe=>e ▸ hd)⟩
  ·simp only [aQ]
   rw [h.theres x];constructor
   ·rintro (k|k|k)
    ·exact .inr (.inl k)
    ·exact .inl k
    ·exact .inr (.inr k)
   ·rintro (k|k|k)
    ·exact .inr (.inl k)
    ·exact .inl k
    ·exact .inr (.inr k)
  ·have hd:=(h.firsts s).1 c
   simp only [aq,aQ,bH,or_false];rw [h.outs x];constructor
   ·rintro ((k|k)|k)
    ·exact .inl (.inl k)
    ·exact .inr (.inr k)
    ·exact .inr (.inl k)
   ·rintro ((k|k)|(k|k))
    ·exact .inl (.inl k)
    ·exact .inl (.inl (k ▸ hd))
    ·exact .inr k
    ·exact .inl (.inr k)
  ·rw [cE]
   refine ⟨h.nodup,by simp,λa ha b hb e=>?_⟩;rw [aW.1 hb] at e;subst e;rcases (h.outs a).1 ha with k|k
   ·exact hnl (by rw [h.split];exact cW _ k)
   ·exact hnc k
  ·rcases aQ.1 hx with rfl|hx
   ·rw [<-hg];exact Fo (hr s CP) (by omega)
   ·exact h.right hr x hx
  ·rcases aQ.1 hx with rfl|hx
   ·exact hnl
   ·exact h.apart x hx
 ·rw [if_neg c]
  refine ⟨cs,⟨by rw [h.split];simp,by have:=h.count;simp;omega,λx=>?_,h.theres,λx=>?_,?_,by have:=h.len;simp;omega,h.right,h.apart⟩⟩
  ·simp only [aQ,aq,bH,or_false]
   rw [h.firsts x];exact Or.comm
  ·simp only [aq,aW]
   rw [h.outs x];constructor
   ·rintro ((k|k)|k)
    ·exact .inl (.inl k)
    ·exact .inr k
    ·exact .inl (.inr k)
   ·rintro ((k|k)|k)
    ·exact .inl (.inl k)
    ·exact .inr k
    ·exact .inl (.inr k)
  ·rw [cE]
   refine ⟨h.nodup,by simp,λa ha b hb e=>?_⟩;rw [aW.1 hb] at e;subst e;rcases (h.outs a).1 ha with k|k
   ·exact c ((h.firsts a).2 k)
   ·exact h.apart a k CP
theorem mD.start (l:List By):mD l [] l ⟨l,[],[]⟩ []:=⟨rfl,rfl,λx=>Iff.rfl,λx=>by simp,λx=>by simp,List.Pairwise.nil,rfl,λ_ x hx=>(by cases hx),λx hx=>(by cases hx)⟩
theorem NH {l:List By} (hl:l.length<=80):∀(rest done:List By) (u:Uq) (cs:List By),mD l done rest u cs->∃cs',mD l l [] (rest.foldl qh u) cs'
 | [],done,u,cs,h=>by
  have:=h.split;rw [bG] at this;subst this;exact ⟨cs,h⟩
 |s :: rest,done,u,cs,h=>by
  obtain ⟨cs',h'⟩:=h.step hl;exact NH hl rest _ _ cs' h'
theorem sy (hl:l.length<=80):(rQ l).length=l.length/\(rQ l).Nodup/\((∀x∈l,rightN x=true)->∀x∈rQ l,rightN x=true):=by
 obtain ⟨cs,h⟩:=NH hl l [] _ [] (mD.start l);refine ⟨h.len,h.nodup,λhr x hx=>?_⟩;rcases (h.outs x).1 hx with k|k
 ·exact hr x k
 ·exact h.right hr x k
end
section
open Go.RowKit
attribute [local go_sem] dR dO dS dP
theorem pP (p:UInt8->Bool):∀l:By,(l.dropWhile p).length<=l.length
 | []=>aB _
 |x :: l=>by
  rw [List.dropWhile_cons];split
  ·have:=pP p l;simp only [aY];omega
  ·exact aB _
theorem wU (c:UInt8) (l:By):l.dropWhile (· ==c)=l↔l.head?≠some c:=by
 cases l with
 |nil=>simp
 |cons x l=>
  rw [List.dropWhile_cons];by_cases h:x=c
  ·subst h
   have:=pP (· ==x) l;simp only [beq_self_eq_true,if_true,List.head?_cons,ne_eq,not_true,iff_false];intro e;have:=congrArg List.length e;simp only [aY] at this;omega
  ·simp [h]
theorem Ig (c:UInt8) (s:By):Lib.trimB s c=s↔s.head?≠some c/\s.getLast?≠some c:=by
 unfold Lib.trimB Lib.trimLeftB Lib.trimRightB;have h2:(s.reverse.dropWhile (· ==c)).reverse=s↔s.getLast?≠some c:=by
  rw [<-List.head?_reverse,<-wU c s.reverse];constructor
  ·intro e;have:=congrArg List.reverse e;rwa [List.reverse_reverse] at this
  ·intro e;rw [e];simp
 constructor
 ·intro e
  have l1:=pP (· ==c) (s.reverse.dropWhile (· ==c)).reverse;have l2:=pP (· ==c) s.reverse;rw [e] at l1;simp only [List.length_reverse] at l1 l2;have e2:s.reverse.dropWhile (· ==c)=s.reverse:=(List.dropWhile_suffix _).eq_of_length (by simp;omega);rw [e2,List.reverse_reverse] at e;exact ⟨(wU c s).1 e,h2.1 (by rw [e2];simp)⟩
 ·rintro ⟨a,b⟩
  rw [h2.2 b,(wU c s).2 a]
theorem NI (c:UInt8):BN c= !(decide (c.toNat < 32) || (decide (c.toNat > 126) || decide (c.toNat=47))):=by
 unfold BN;by_cases h1:32<=c.toNat <;> by_cases h2:c.toNat<=126 <;> by_cases h3:c.toNat=47 <;> simp [h1,h2,h3] <;> omega
def mM (s:By):Int:=if rightN s then 0 else 23
variable {s:By}
theorem oZ (h:rightN s=false):mM s=23:=by unfold mM;rw [h];rfl
theorem mW (h:rightN s=true):mM s=0:=by unfold mM;rw [h];rfl
theorem mY (s:By) (hs:s.length<=9223372036854775807) (w:World):Calls prog 32 #[s] w (dM w (.int .i64 (mM s))):=by
 by_cases h1:s=[]
 ·subst h1
  go_enter func32,ntmps32;go_wp2_with fail;go_ret;exact ⟨rfl,aC _ _⟩
 have e1:s.isEmpty=false:=by cases s <;> simp_all
 by_cases h2:s.length > 24
 ·have d2:decide ((s.length:Int) > 24)=true:=decide_eq_true (by omega)
  have hr:dK (mM s=23):=oZ (by unfold rightN;simp;omega);clear h1;go_enter func32,ntmps32;go_wp2_with fail;go_ret;exact ⟨by rw [hr.o];rfl,aC _ _⟩
 by_cases h3:s=[46]
 ·subst h3
  go_enter func32,ntmps32;go_wp2_with fail;go_ret;exact ⟨rfl,aC _ _⟩
 by_cases h4:s=[46,46]
 ·subst h4
  go_enter func32,ntmps32;go_wp2_with fail;go_ret;exact ⟨rfl,aC _ _⟩
 have d2:decide ((s.length:Int) > 24)=false:=decide_eq_false (by omega);have e3:(s ==[46])=false:=by rw [beq_eq_false_iff_ne];exact h3
 have e4:(s ==[46,46])=false:=by rw [beq_eq_false_iff_ne];exact h4
 obtain ⟨t,ht⟩:=dG (Lib.trimB s 32);have hT:Calls prog 86 #[s,.string ⟨#[32]⟩] w (dM w (.string (bs t))):=by
  refine (strings_Trim_one (bs s) 32 (by decide) w (by rw [dR];exact hs)).mono ?_;rintro e w' ⟨rfl,hw⟩;refine ⟨by rw [j6,<-ht];rfl,?_⟩;rcases hw with rfl|rfl
  ·exact aC _ _
  ·exact Below.drew (aC _ _)
 have H3:=dL h3;have H4:=dL h4;have H1:=dL h1;have HT:=dL hT;have H2:dK (s.length<=24):=by show _<=_;omega
 clear h1 h2 h3 h4 hT;by_cases h5:t=s
 ·have hh:dK (s.head?≠some 32/\s.getLast?≠some 32):=(Ig 32 s).1 (by rw [<-ht];exact h5)
  have d5:(t ==s)=true:=by rw [h5];exact beq_self_eq_true s
  have HTs:=dL h5;clear h5 ht;go_enter func32,ntmps32;go_wp2_with fail;refine HT.o.mono ?_;rintro e w1 ⟨rfl,hb⟩;have HB:=dL hb;clear hb;go_wp2_with fail;go_loop [28] (λi=>∃k:Nat,i=.int .i64 k/\k<=s.length/\dK ((s.take k).all BN=true)) (λi=>s.length - (intOf i).toNat)
  case atStart=>exact ⟨0,rfl,aS _,rfl⟩
  case round=>
   obtain ⟨k,rfl,hk,HE⟩:=hrel;by_cases hlt:k < s.length
   ·have hz:(k:Int) < (s.length:Int):=by omega
    have hno:dK (BN (s[k]'hlt)=false->mM s=23):=λho=>oZ (Bool.eq_false_iff.2 λh=>by
     have:=(fe.1 h).2.2.2.2.2.2 _ (aa hlt);rw [ho] at this;cases this)
    have HO:=dL (NI (s[k]'hlt));by_cases a1:(s[k]'hlt).toNat < 32
    ·have hr:=dL (hno.o (by rw [HO.o];simp [a1]))
     clear hno HO;go_wp2_with fail;go_ret;exact ⟨by rw [hr.o];rfl,HB.o⟩
    by_cases a2:(s[k]'hlt).toNat > 126
    ·have hr:=dL (hno.o (by rw [HO.o];simp [a2]))
     clear hno HO;go_wp2_with fail;go_ret;exact ⟨by rw [hr.o];rfl,HB.o⟩
    by_cases a3:(s[k]'hlt).toNat=47
    ·have hr:=dL (hno.o (by rw [HO.o];simp [a3]))
     clear hno HO;go_wp2_with fail;go_ret;exact ⟨by rw [hr.o];rfl,HB.o⟩
    have hyes:dK (BN (s[k]'hlt)=true):=by show _=_;rw [HO.o];simp [a1,a2,a3]
    have TZ:dK (s.take (k+1)=s.take k++[s[k]'hlt]):=ay hlt;have b3:(((s[k]'hlt).toNat:Int) ==47)=false:=by rw [beq_eq_false_iff_ne];omega
    clear hno HO;go_wp2_with fail;refine ⟨⟨k+1,by go_num,by omega,?_⟩,by simp [intOf];omega⟩;show _=_;rw [TZ.o,List.all_append,HE.o];simp [hyes.o]
   ·obtain rfl:k=s.length:=by omega
    rw [cD] at HE;have hr:dK (mM s=0):=mW (fe.2 ⟨List.length_pos_iff.2 H1.o,H2.o,H3.o,H4.o,hh.o.1,hh.o.2,λc hc=>List.all_eq_true.1 HE.o c hc⟩);go_wp2_with fail;go_ret;exact ⟨by rw [hr.o];rfl,HB.o⟩
 ·have d5:(t ==s)=false:=by rw [beq_eq_false_iff_ne];exact h5
  have hr:dK (mM s=23):=by
   refine oZ (Bool.eq_false_iff.2 λh=>?_);obtain ⟨_,_,_,_,a,b,_⟩:=fe.1 h;exact h5 (by rw [ht];exact (Ig 32 s).2 ⟨a,b⟩)
  clear h5 ht;go_enter func32,ntmps32;go_wp2_with fail;refine HT.o.mono ?_;rintro e w1 ⟨rfl,hb⟩;have HB:=dL hb;clear hb;go_wp2_with fail;go_ret;exact ⟨by rw [hr.o];rfl,HB.o⟩
#print axioms mY
theorem BO (h:∀j (hj:j < s.length),s[j]≠46):jK s=none:=by
 unfold jK;rw [Option.map_eq_none_iff,bK];intro x hx;obtain ⟨j,hj,rfl⟩:=bR.1 (List.mem_reverse.1 hx);exact decide_eq_false (h j hj)
theorem Fp {i:Nat} (hi:i < s.length) (h:s[i]=46) (ho:∀j,i < j->∀hj:j < s.length,s[j]≠46):jK s=some i:=by
 unfold jK;have:s.reverse.findIdx? (λc=>decide (c=46))=some (s.length - 1 - i):=by
  rw [au];refine ⟨by simp;omega,?_,λj hj=>?_⟩
  ·rw [List.getElem_reverse]
   have e:s.length - 1 - (s.length - 1 - i)=i:=by omega
   simp only [e,h,decide_true]
  ·rw [List.getElem_reverse]
   have:=ho (s.length - 1 - j) (by omega) (by omega);simp [this]
 rw [this,bI];congr 1;omega
theorem DI (s:By):(Lib.lastIndexByte (bs s) 46= -1/\jK s=none)\/∃i:Nat,Lib.lastIndexByte (bs s) 46=i/\jK s=some i/\i < s.length:=by
 have key:∀j (hj:j < s.length),((bs s).data[j]!)=s[j]:=λj hj=>by
  have:j < (bs s).data.size:=by simpa [bs] using hj
  rw [getElem!_pos _ j this];rfl
 have hz:(bs s).size=s.length:=dR s;rcases Lib.lastIndexByte_spec (bs s) 46 with ⟨h1,h2⟩| ⟨i,h1,h2,h3,h4⟩
 ·refine .inl ⟨h1,BO λj hj e=>?_⟩
  have:=h2 j (by omega);rw [key j hj,e] at this;exact this rfl
 ·refine .inr ⟨i,h2,Fp (by omega) ?_ (λj hj hlt e=>?_),by omega⟩
  ·rw [key i (by omega)] at h3
   exact UInt8.toNat.inj (by show _=46;omega)
  ·have:=h4 j hj (by omega)
   rw [key j hlt,e] at this;exact this rfl
theorem BP (s:By) (hs:s.length < 4611686018427387904) (w:World):Calls prog 169 #[s] w λe w'=>e=.returned (gu s)/\w'=w:=by
 have hL:=strings_LastIndexByte (bs s) 46 (by rw [dR];exact hs) w;rcases DI s with ⟨h1,h2⟩| ⟨i,h1,h2,h3⟩
 ·have he:dK (gu s=[]):=by show _=_;unfold gu;rw [h2]
  rw [h1] at hL;have HL:=dL hL;clear hL h1 h2;go_enter func169,ntmps169;go_wp2_with fail;refine HL.o.mono ?_;rintro e w1 ⟨rfl,rfl⟩;go_wp2_with fail;go_ret;exact ⟨by rw [he.o];rfl,rfl⟩
 ·rw [h1] at hL
  have HL:=dL hL;clear hL h1;by_cases h0:i=0
  ·subst h0
   have he:dK (gu s=[]):=by show _=_;unfold gu;rw [h2]
   clear h2;go_enter func169,ntmps169;go_wp2_with fail;refine HL.o.mono ?_;rintro e w1 ⟨rfl,rfl⟩;go_wp2_with fail;go_ret;exact ⟨by rw [he.o];rfl,rfl⟩
  ·have he:dK (gu s=s.drop (i+1)):=by
    show _=_;obtain ⟨k,rfl⟩:∃k,i=k+1:=⟨i - 1,by omega⟩;unfold gu;rw [h2]
   have hx:dK ((bs s).extract (i+1) s.length=bs (s.drop (i+1))):=by
    show _=_;rw [fM,af (by simp)]
   have hz:(i:Int) > 0:=by omega
   clear h2;go_enter func169,ntmps169;go_wp2_with fail;refine HL.o.mono ?_;rintro e w1 ⟨rfl,rfl⟩;go_wp2_with fail;go_ret;exact ⟨by rw [he.o,<-hx.o];rfl,rfl⟩
#print axioms BP
theorem NJ (n:Nat) (h:n < 100):Lib.decDigits n=gB n:=by
 unfold gB;rw [Lib.decDigits];by_cases c:n < 10
 ·rw [dif_pos c,if_pos c]
 ·rw [dif_neg c,if_neg c,Lib.decDigits,dif_pos (by omega)];rfl
theorem NK (h:jY s=true):Lib.trimSuffix s (46 :: gu s)=mC s:=by
 have h0:=h;obtain ⟨k,h1,h2,h3,h4⟩:=wS h;have hd:s[k+1]'h1=46:=by
  unfold jY gu at h;cases hl:jK s with
  |none=>rw [hl] at h;simp at h
  |some j=>
   rw [hl] at h;cases j with
   |zero=>simp at h
   |succ j=>
    obtain ⟨hj,hj2⟩:=rP hl;have:gu s=s.drop (j+2):=by unfold gu;rw [hl]
    have e:=congrArg List.length (h2.symm.trans this);simp only [ah] at e;have:j=k:=by omega
    subst this;exact hj2
 have hs:(46 :: gu s)=s.drop (k+1):=by rw [h2,List.drop_eq_getElem_cons h1,hd]
 have hp:Lib.hasSuffix s (46 :: gu s)=true:=by
  unfold Lib.hasSuffix;rw [List.isSuffixOf_iff_suffix,hs];exact List.drop_suffix _ _
 unfold Lib.trimSuffix mC;rw [if_pos hp,if_pos h0,aY]
theorem DJ (s:By) (h:rightN s=true) (n:Nat) (h1:1<=n) (h2:n < 100) (w:World):Calls prog 154 #[s,n] w (dM w (.tuple #[(fF s n),qn])):=by
 have hlen:s.length<=24:=(fe.1 h).2.1;have HR:=dL (mY s (by omega) w);rw [mW h] at HR;have HX:=λw=>dL (BP s (by omega) w)
 have HI:=λw=>dL (strconv_Itoa_small n h2 w)
 rw [NJ n h2] at HI;obtain ⟨t1,t2⟩:=DH (s:=s) (n:=n);obtain ⟨dl1,dl2⟩:=jI n;have hz1:decide ((n:Int) < 1)=false:=decide_eq_false (by omega);have hz2:decide ((n:Int) > 9999)=false:=decide_eq_false (by omega);obtain ⟨dg,Zl⟩:=dG (gB n);rw [<-Zl] at HI dl1 dl2;have HDG:dK (dg=gB n):=Zl;have Ta:∀w,dK (Calls prog 232 #[n] w λe w'=>e=.returned dg/\w'=w):=HI;clear HI;cases hle:jY s with
 |false=>
  have hst:mC s=s:=by unfold mC;rw [hle];rfl
  have htl:kM s n=126 :: gB n:=by unfold kM;rw [hle];simp
  obtain ⟨m,hm⟩:=dG (min s.length (24 - (dg.length+1)));have hmm:min (s.length:Int) (24 - ((dg.length:Int)+1))=(m:Int):=by omega
  have hm0:m<=s.length:=by omega
  have hc:dK (fF s n=s.take m++126 :: dg):=by
   show _=_;unfold fF;rw [hst,htl,<-Zl,aY,hm];congr 1;rcases Nat.le_total s.length (24 - (dg.length+1)) with k|k
   ·rw [Nat.min_eq_left k,af k,cD]
   ·rw [cZ k]
  have dy:dK ((bs s).extract 0 (min (s.length:Int) (24 - (1+(dg.length:Int)))).toNat++((⟨#[126]⟩:ByteArray)++bs dg)=bs (fF s n)):=by
   show _=_;have e1:(min (s.length:Int) (24 - (1+(dg.length:Int)))).toNat=m:=by omega
   have e2:(⟨#[126]⟩:ByteArray)=bs [126]:=rfl;rw [hc.o,e1,e2,fM,dP,dP];rfl
  have HE:dK ((gu s).isEmpty=true\/(gu s).isEmpty=false/\decide (((gu s).length:Int)<=7)=false):=by
   show _\/_;cases hx:(gu s).isEmpty with
   |true=>exact .inl rfl
   |false=>
    refine .inr ⟨rfl,decide_eq_false λhc=>?_⟩;have:0 < (gu s).length:=by cases hq:gu s with
     |nil=>rw [hq] at hx;cases hx
     |cons=>simp
    unfold jY at hle;simp only [Bool.and_eq_false_iff,decide_eq_false_iff_not] at hle;omega
  obtain ⟨x,hx⟩:=dG (gu s);rw [<-hx] at HE;simp only [<-hx] at HX;clear hle hst htl Zl t1 t2 hx hm hc;have HXw:∀w,dK (Calls prog 169 #[s] w λe w'=>e=.returned x/\w'=w):=HX;clear HX;rcases HE.o with hE| ⟨ZA,ZB⟩
  all_goals
   clear HE;go_enter func154,ntmps154;go_wp2_with fail;refine HR.o.mono ?_;rintro e w1 ⟨rfl,hb⟩;have HB:=dL hb;clear hb;go_wp2_with fail;refine (Ta _).o.mono ?_;rintro e w2 ⟨rfl,rfl⟩;go_wp2_with fail;refine (HXw _).o.mono ?_;rintro e w3 ⟨rfl,rfl⟩;go_wp2_with fail;go_ret2;exact ⟨by rw [<-dy.o];rfl,HB.o⟩
 |true=>
  obtain ⟨k,q1,q2,q3,q4⟩:=wS hle;have htr:=NK hle;have htl:kM s n=126 :: gB n++46 :: gu s:=by unfold kM;rw [hle];rfl
  have hx7:(gu s).length<=7:=by unfold jY at hle;simp at hle;omega
  have hx1:0 < (gu s).length:=by unfold jY at hle;simp at hle;omega
  obtain ⟨st,hst⟩:=dG (mC s);have CP:st.length<=s.length:=by rw [hst];unfold mC;rw [hle];simp
  obtain ⟨x,hx⟩:=dG (gu s);rw [<-hx] at htr htl hx7 hx1;simp only [<-hx] at HX;rw [<-hst] at htr;have hxe:x.isEmpty=false:=by cases x with
   |nil=>simp at hx1
   |cons=>rfl
  obtain ⟨m,hm⟩:=dG (min st.length (24 - (dg.length+x.length+2)));have hmm:min (st.length:Int) (24 - (1+(dg.length:Int)+(1+(x.length:Int))))=(m:Int):=by omega
  have hm0:m<=st.length:=by omega
  have hc:dK (fF s n=st.take m++(126 :: dg++46 :: x)):=by
   show _=_;unfold fF;rw [htl,<-hst,<-Zl,hm];congr 1;have e:(126 :: dg++46 :: x).length=dg.length+x.length+2:=by simp;omega
   rw [e];rcases Nat.le_total st.length (24 - (dg.length+x.length+2)) with k|k
   ·rw [Nat.min_eq_left k,af k,cD]
   ·rw [cZ k]
  have dy:dK ((bs st).extract 0 m++(((⟨#[126]⟩:ByteArray)++bs dg)++((⟨#[46]⟩:ByteArray)++bs x))=bs (fF s n)):=by
   show _=_;have e2:(⟨#[126]⟩:ByteArray)=bs [126]:=rfl;have e3:(⟨#[46]⟩:ByteArray)=bs [46]:=rfl;rw [hc.o,e2,e3,fM,dP,dP,dP,dP];rfl
  have Ls:∀w,dK (Calls prog 233 #[s,.string ((⟨#[46]⟩:ByteArray)++bs x)] w λe w'=>e=.returned st/\w'=w):=λw=>by
   have e3:(⟨#[46]⟩:ByteArray)=bs [46]:=rfl;rw [e3,dP];have:=strings_TrimSuffix (bs s) (bs ([46]++x)) w (by rw [dR];omega);rw [j6,j6] at this;rw [show Lib.trimSuffix s ([46]++x)=st from htr] at this;exact this
  have ago:decide ((x.length:Int)<=7)=true:=decide_eq_true (by omega);clear hle htl hst Zl t1 t2 hx hm hc q1 q2 q3 q4 htr;have HXw:∀w,dK (Calls prog 169 #[s] w λe w'=>e=.returned x/\w'=w):=HX;clear HX;go_enter func154,ntmps154;go_wp2_with fail;refine HR.o.mono ?_;rintro e w1 ⟨rfl,hb⟩;have HB:=dL hb;clear hb;go_wp2_with fail;refine (Ta _).o.mono ?_;rintro e w2 ⟨rfl,rfl⟩;go_wp2_with fail;refine (HXw _).o.mono ?_;rintro e w3 ⟨rfl,rfl⟩;go_wp2_with fail;refine (Ls _).o.mono ?_;rintro e w4 ⟨rfl,rfl⟩;go_wp2_with fail;go_ret2;exact ⟨by rw [<-dy.o];rfl,HB.o⟩
#print axioms DJ
end
end Go.Proofs.YtgdaahffmcfhpaaGreatDoor
